/-
  Contracts of the functions that the law reaches.
-/
import Derived.Test.YthpmlibcogifjaaGreatL110M
import Derived.Test.YthpmlibcogifjaaGreatAbsT
set_option maxHeartbeats 2000000
namespace Go.Proofs.YthpmlibcogifjaaGreat
open Go Go.Proofs Go.AL
set_option linter.unusedSimpArgs false
set_option linter.unusedVariables false
theorem readsB_rat {bk : {H : Type} → DataW H → Nat} {P : Program} {w : World} {t : TypeId} (h : ReadsB bk P w (fun c : (RI × (List Nat × Unit)) => prow c.1 ++ ([.sl (lims c.2.1)] ++ [])) (fun N c => Sz N c.1 ∧ ((c.2.1.length ≤ N ∧ Lim c.2.1) ∧ True)) t) : ReadsB bk P w qrow (fun N => SzQ N) t := fun enc sp held fuel cs x N hx hN => by
  obtain ⟨a, f, e⟩ := h enc sp held fuel cs x N hx hN
  exact ⟨(a.1, a.2.1), ⟨f.1, f.2.1⟩, e⟩
end Go.Proofs.YthpmlibcogifjaaGreat

namespace Go.Proofs.YthpmlibcogifjaaGreat
open Go Go.Proofs Go.AL
set_option linter.unusedSimpArgs false
set_option linter.unusedVariables false
theorem take_min40 {α : Type} (l : List α) : l.take (min (l.length : Int) 40).toNat = l.take 40 := by
  rcases Nat.le_total l.length 40 with h | h
  · rw [List.take_of_length_le (i := 40) h, List.take_of_length_le (by omega)]
  · congr 1; omega
theorem few10_ok (p : List RQ) (hl : p.length ≤ 9223372036854775807) : AC Tryz.prog 5 [cqw p] none [cqw (p.take 40)] := by
  have e := take_min40 p
  refine AC.by_walk (rs := [.tmp 2]) ords Tryz.func5 (by rfl) (by rfl) (by rfl) (by rfl) (by rfl) ?_
  simp (disch := omega) only [wk, tis, seval, reduceCtorEq, Nat.reduceEqDiff, rqs, ilims_len, ilims_at, e]
  try rfl
theorem BQ.few {n k : Nat} {p : List RQ} (h : BQ n k p) : BQ 40 k (p.take 40) := ⟨by rw [List.length_take]; omega, fun r hr => h.2 r (List.mem_of_mem_take hr)⟩
end Go.Proofs.YthpmlibcogifjaaGreat

namespace Go.Proofs.YthpmlibcogifjaaGreat
open Go Go.Proofs Go.AL
set_option linter.unusedSimpArgs false
set_option linter.unusedVariables false
def fma (c : Rat) (a b : Rat) : Rat := a + c * b
theorem fma_zero (c : Rat) : fma c 0 0 = 0 := by unfold fma; grind
theorem tplus_ok (p r : List RQ) (c : RQ) (K : Nat) (hp : GQ (2 ^ 30) K p) (hr : GQ (2 ^ 30) K r) (hc : SzQ K c) (h0 : nv c.2 ≠ 0) (hK : K ≤ 2 ^ 33) (hK1 : 1 ≤ K) : AC Tryz.prog 15 [cqw p, cqq c, cqw r] none [cqp (zipq (fma (qv c)) (qvs p) (qvs r))] := by
  have m := tform_ok p (hp.mono (by omega) (by omega))
  have n := tform_ok r (hr.mono (by omega) (by omega))
  have hA := hp.qb.trimq
  have hB := hr.qb.trimq
  have zc := qz_raw hc h0
  have e : cqp (zipq (fma (qv c)) (qvs p) (qvs r)) = cqp (zipq (fma (qv c)) (trimq (qvs p)) (trimq (qvs r))) := congrArg cqw (cqs_ext fun k => by rw [cfq_zipq (fma_zero _), cfq_zipq (fma_zero _), cfq_trimq, cfq_trimq])
  rw [e]
  refine AC.by_walk (rs := [.tmp 6]) ords Tryz.func15 (by rfl) (by rfl) (by rfl) (by rfl) (by rfl) ?_
  simp (disch := omega) only [wk, tis, seval, reduceCtorEq, Nat.reduceEqDiff, rqs]
  refine call_by (m) (by rfl) (by simp) ?_
  simp (disch := omega) only [wk, tis, seval, reduceCtorEq, Nat.reduceEqDiff, rqs]
  refine call_by (n) (by rfl) (by simp) ?_
  simp (disch := omega) only [wk, tis, seval, reduceCtorEq, Nat.reduceEqDiff, rqs]
  unfold cqs
  generalize trimq (qvs p) = A at *
  generalize trimq (qvs r) = B at *
  have hAl := hA.1
  have hBl := hB.1
  have hqa : (A.map crat).length = A.length := List.length_map _
  have hqb : (B.map crat).length = B.length := List.length_map _
  have hRl := zipq_len (fma (qv c)) A B
  have hsz : ∀ i, qz (cfq (zipq (fma (qv c)) A B) i) ≤ 2 ^ 38 := fun i => by
    rw [cfq_zipq (fma_zero _)]
    have h1 := hA.cz hK1 i
    have h2 := hB.cz hK1 i
    have h3 := qz_mul (qv c) (cfq B i)
    have h4 := qz_add (cfq A i) (qv c * cfq B i)
    unfold fma
    omega
  have hR : QB (2 ^ 40) (2 ^ 38) (zipq (fma (qv c)) A B) := .of (by omega) hsz
  have t := tform_ok ((zipq (fma (qv c)) A B).map crat) hR.gq
  rw [qvs_map] at t
  refine aloop_nil 7 7 32 3 (by simp (disch := omega) only [wk, tis, seval, reduceCtorEq, Nat.reduceEqDiff, rqs]) (fun f H => ∃ (i st st4 : Nat), i ≤ max A.length B.length ∧ f 8 = .iv (.int .i64 i) ∧ f 0 = .iv (.sl (rats (A.map crat))) ∧ f 2 = .iv (.sl (rats (B.map crat))) ∧ f 4 = .hp 4 st4 0 0 ∧ H 4 = .blk false st4 32 3 [qrow c] ∧ f 7 = .hs 7 st ∧ H 7 = .blk false st 32 3 (rats (((zipq (fma (qv c)) A B).take i).map crat))) (fun f H => (max A.length B.length - intAt f 8).toNat) ?_ ?_
  · refine ⟨0, 1, 1, by omega, ?_⟩
    simp (disch := omega) only [wk, tis, seval, reduceCtorEq, Nat.reduceEqDiff, rqs, ghostF, ghostH, List.take_zero, List.map_nil]
  rintro f H ⟨i, st, st4, hi, hF⟩
  rw [intAt_of hF.1]
  simp (disch := omega) only [wk, tis, seval, reduceCtorEq, Nat.reduceEqDiff, rqs, hF]
  by_cases ha : i < A.length
  · have ha' : (i : Int) < ((A.map crat).length : Int) := by omega
    simp (disch := omega) only [wk, tis, seval, reduceCtorEq, Nat.reduceEqDiff, rqs, hF, ha']
    have hrq : (((zipq (fma (qv c)) A B).take i).map crat).length = i := by rw [List.length_map, List.length_take]; omega
    have h1 := hA.cz hK1 i
    have h2 := hB.cz hK1 i
    have h3 := qz_mul (qv c) (cfq B i)
    have c1 := tat_nat A i (by omega)
    have c2 := tat_nat B i (by omega)
    have x := htimes_ok c (crat (cfq B i)) (hc.mono (by omega)) (szq_crat (by omega)) h0 (nv_crat0 _)
    rw [qv_crat] at x
    have y := hplus_ok (crat (cfq A i)) (crat (qv c * cfq B i)) (szq_crat (by omega)) (szq_crat (by omega)) (nv_crat0 _) (nv_crat0 _)
    rw [qv_crat, qv_crat, show cfq A i + qv c * cfq B i = cfq (zipq (fma (qv c)) A B) i by rw [cfq_zipq (fma_zero _)]; rfl] at y
    refine ⟨tmps_by (by kernel_rfl), ?_⟩
    refine call_by (c1) (by first | rfl | (simp only [tocvs, tocv, hF, hrq]; rfl) | (simp only [tocvs, tocv, toboxes, tobox, updH_at, Nat.reduceEqDiff, ↓reduceIte, hF, hrq]; rfl)) (by simp) ?_
    simp (disch := omega) only [wk, tis, seval, reduceCtorEq, Nat.reduceEqDiff, rqs, hF, hrq]
    refine call_by (c2) (by first | rfl | (simp only [tocvs, tocv, hF, hrq]; rfl) | (simp only [tocvs, tocv, toboxes, tobox, updH_at, Nat.reduceEqDiff, ↓reduceIte, hF, hrq]; rfl)) (by simp) ?_
    simp (disch := omega) only [wk, tis, seval, reduceCtorEq, Nat.reduceEqDiff, rqs, hF, hrq]
    refine call_by (x) (by first | rfl | (simp only [tocvs, tocv, hF, hrq]; rfl) | (simp only [tocvs, tocv, toboxes, tobox, updH_at, Nat.reduceEqDiff, ↓reduceIte, hF, hrq]; rfl)) (by simp) ?_
    simp (disch := omega) only [wk, tis, seval, reduceCtorEq, Nat.reduceEqDiff, rqs, hF, hrq]
    refine call_by (y) (by first | rfl | (simp only [tocvs, tocv, hF, hrq]; rfl) | (simp only [tocvs, tocv, toboxes, tobox, updH_at, Nat.reduceEqDiff, ↓reduceIte, hF, hrq]; rfl)) (by simp) ?_
    simp (disch := omega) only [wk, tis, seval, reduceCtorEq, Nat.reduceEqDiff, rqs, hF, hrq]
    first | exact log_by (by kernel_rfl) | refine ⟨log_by (by kernel_rfl), ?_⟩
    have et := takeq_snoc (q := zipq (fma (qv c)) A B) (i := i) (by omega)
    refine ⟨⟨i + 1, st + 1, st4, by omega, ?_⟩, by omega⟩
    rw [et, List.map_append]
    (repeat' apply And.intro) <;> first | rfl | omega
  · have ha' : ¬ (i : Int) < ((A.map crat).length : Int) := by omega
    by_cases hb : i < B.length
    · have hb' : (i : Int) < ((B.map crat).length : Int) := by omega
      simp (disch := omega) only [wk, tis, seval, reduceCtorEq, Nat.reduceEqDiff, rqs, hF, ha', hb']
      have hrq : (((zipq (fma (qv c)) A B).take i).map crat).length = i := by rw [List.length_map, List.length_take]; omega
      have h1 := hA.cz hK1 i
      have h2 := hB.cz hK1 i
      have h3 := qz_mul (qv c) (cfq B i)
      have c1 := tat_nat A i (by omega)
      have c2 := tat_nat B i (by omega)
      have x := htimes_ok c (crat (cfq B i)) (hc.mono (by omega)) (szq_crat (by omega)) h0 (nv_crat0 _)
      rw [qv_crat] at x
      have y := hplus_ok (crat (cfq A i)) (crat (qv c * cfq B i)) (szq_crat (by omega)) (szq_crat (by omega)) (nv_crat0 _) (nv_crat0 _)
      rw [qv_crat, qv_crat, show cfq A i + qv c * cfq B i = cfq (zipq (fma (qv c)) A B) i by rw [cfq_zipq (fma_zero _)]; rfl] at y
      refine ⟨tmps_by (by kernel_rfl), ?_⟩
      refine call_by (c1) (by first | rfl | (simp only [tocvs, tocv, hF, hrq]; rfl) | (simp only [tocvs, tocv, toboxes, tobox, updH_at, Nat.reduceEqDiff, ↓reduceIte, hF, hrq]; rfl)) (by simp) ?_
      simp (disch := omega) only [wk, tis, seval, reduceCtorEq, Nat.reduceEqDiff, rqs, hF, hrq]
      refine call_by (c2) (by first | rfl | (simp only [tocvs, tocv, hF, hrq]; rfl) | (simp only [tocvs, tocv, toboxes, tobox, updH_at, Nat.reduceEqDiff, ↓reduceIte, hF, hrq]; rfl)) (by simp) ?_
      simp (disch := omega) only [wk, tis, seval, reduceCtorEq, Nat.reduceEqDiff, rqs, hF, hrq]
      refine call_by (x) (by first | rfl | (simp only [tocvs, tocv, hF, hrq]; rfl) | (simp only [tocvs, tocv, toboxes, tobox, updH_at, Nat.reduceEqDiff, ↓reduceIte, hF, hrq]; rfl)) (by simp) ?_
      simp (disch := omega) only [wk, tis, seval, reduceCtorEq, Nat.reduceEqDiff, rqs, hF, hrq]
      refine call_by (y) (by first | rfl | (simp only [tocvs, tocv, hF, hrq]; rfl) | (simp only [tocvs, tocv, toboxes, tobox, updH_at, Nat.reduceEqDiff, ↓reduceIte, hF, hrq]; rfl)) (by simp) ?_
      simp (disch := omega) only [wk, tis, seval, reduceCtorEq, Nat.reduceEqDiff, rqs, hF, hrq]
      first | exact log_by (by kernel_rfl) | refine ⟨log_by (by kernel_rfl), ?_⟩
      have et := takeq_snoc (q := zipq (fma (qv c)) A B) (i := i) (by omega)
      refine ⟨⟨i + 1, st + 1, st4, by omega, ?_⟩, by omega⟩
      rw [et, List.map_append]
      (repeat' apply And.intro) <;> first | rfl | omega
    · have hb' : ¬ (i : Int) < ((B.map crat).length : Int) := by omega
      simp (disch := omega) only [wk, tis, seval, reduceCtorEq, Nat.reduceEqDiff, rqs, hF, ha', hb']
      rw [List.take_of_length_le (by omega)] at hF
      refine call_by (t) (by first | rfl | (simp only [tocvs, tocv, hF]; rfl) | (simp only [tocvs, tocv, toboxes, tobox, updH_at, Nat.reduceEqDiff, ↓reduceIte, hF]; rfl)) (by simp) ?_
      simp (disch := omega) only [wk, tis, seval, reduceCtorEq, Nat.reduceEqDiff, rqs, hF]
end Go.Proofs.YthpmlibcogifjaaGreat

namespace Go.Proofs.YthpmlibcogifjaaGreat
open Go Go.Proofs Go.AL
set_option linter.unusedSimpArgs false
set_option linter.unusedVariables false
end Go.Proofs.YthpmlibcogifjaaGreat

namespace Go.Proofs.YthpmlibcogifjaaGreat
open Go Go.Proofs Go.AL
set_option linter.unusedSimpArgs false
set_option linter.unusedVariables false
def upq (c : Rat) (n : Nat) : List Rat := List.replicate n 0 ++ [c]
def dc (A B : List Rat) : Rat := cfq A (A.length - 1) / cfq B (B.length - 1)
def dn1 (A B : List Rat) : List Rat := trimq (zipq (fma (-1)) A (mulq (upq (dc A B) (A.length - B.length)) B))
def dit (A B : List Rat) : Nat → List Rat
  | 0 => A
  | k + 1 => dn1 (dit A B k) B
theorem CD.cf {D n M : Nat} {q : List Rat} (h : CB D n M q) (k : Nat) : CD D M (cfq q k) := by
  by_cases hk : k < q.length
  · rw [cfq_lt hk]; exact h.c _ (List.getElem_mem hk)
  · rw [cfq_ge (by omega)]; exact CD.zero _ _
end Go.Proofs.YthpmlibcogifjaaGreat

namespace Go.Proofs.YthpmlibcogifjaaGreat
open Go Go.Proofs Go.AL
set_option linter.unusedSimpArgs false
set_option linter.unusedVariables false
theorem CD.den_dvd {D M : Nat} {q : Rat} (hD : D ≠ 0) (h : CD D M q) : q.den ∣ D := by
  obtain ⟨z, e, hz⟩ := h
  have h1 := natr_ne hD
  have h2 := natr_ne q.den_nz
  have h3 : (q.num : Rat) / (q.den : Rat) = (z : Rat) / (D : Rat) := by
    rw [← e, ← Rat.mkRat_eq_div]; exact Rat.mkRat_self q
  have h4 : (q.num : Rat) * (D : Rat) = (z : Rat) * (q.den : Rat) := by grind
  have h5 : q.num * (D : Int) = z * (q.den : Int) := by
    rw [← Rat.intCast_natCast, ← Rat.intCast_natCast, ← Rat.intCast_mul, ← Rat.intCast_mul] at h4
    exact Rat.intCast_inj.mp h4
  have h6 : q.den ∣ q.num.natAbs * D := ⟨z.natAbs, by
    have := congrArg Int.natAbs h5
    rw [Int.natAbs_mul, Int.natAbs_mul, Int.natAbs_natCast, Int.natAbs_natCast] at this
    rw [this, Nat.mul_comm]⟩
  exact (q.reduced.symm).dvd_of_dvd_mul_left h6
theorem qsum_cd {D M n : Nat} {f : Nat → Rat} (h : ∀ i, i < n → CD D M (f i)) : CD D (M + n) (qsum n f) := by
  induction n with
  | zero => exact CD.zero _ _
  | succ n ih =>
    have h1 := ih fun i hi => h i (by omega)
    have h2 := h n (by omega)
    exact (h1.add h2).mono (by omega)
theorem lcmL_dvd {D : Nat} : ∀ (l : List Nat) (i : Nat), (∀ x ∈ l, x ∣ D) → lcmL (l.take i) ∣ D
  | l, 0, _ => by rw [List.take_zero]; exact Nat.one_dvd _
  | l, i + 1, h => by
    by_cases hi : i < l.length
    · rw [lcmL_take hi]
      refine Nat.lcm_dvd (lcmL_dvd l i h) (h _ ?_)
      rw [List.getD, List.getElem?_eq_getElem hi, Option.getD_some]
      exact List.getElem_mem hi
    · rw [List.take_of_length_le (by omega), ← List.take_of_length_le (l := l) (i := i) (by omega)]
      exact lcmL_dvd l i h
theorem CB.dens_dvd {D n M : Nat} {A : List Rat} (h : CB D n M A) : ∀ x ∈ dens A, x ∣ D := fun x hx => by
  obtain ⟨c, hc, rfl⟩ := List.mem_map.1 hx
  exact (h.c c hc).den_dvd h.d
theorem CB.lcm_len {D n M : Nat} {A : List Rat} (h : CB D n M A) (i : Nat) : (wd (lcmL ((dens A).take i))).length ≤ M :=
  Nat.le_trans (wd_len_mono (Nat.le_of_dvd (Nat.pos_of_ne_zero h.d) (lcmL_dvd _ i h.dens_dvd))) h.w
theorem CB.cden_dvd {D n M : Nat} {A : List Rat} (h : CB D n M A) : cden A ∣ D := by
  have := lcmL_dvd (dens A) (dens A).length h.dens_dvd
  rwa [List.take_length] at this
theorem CB.cden_len {D n M : Nat} {A : List Rat} (h : CB D n M A) : (wd (cden A)).length ≤ M :=
  Nat.le_trans (wd_len_mono (Nat.le_of_dvd (Nat.pos_of_ne_zero h.d) h.cden_dvd)) h.w
theorem CB.clr_pb {D n M : Nat} {A : List Rat} (h : CB D n M A) : PB n M (clr A) := .of (by rw [clr_len]; exact h.l) fun k => by
  obtain ⟨z, e, hz⟩ := CD.cf h k
  obtain ⟨t, ht⟩ := h.cden_dvd
  have ht0 : t ≠ 0 := fun e => h.d (by rw [ht, e, Nat.mul_zero])
  have h1 := natr_ne (cden_ne A)
  have h2 := natr_ne ht0
  have h3 := cf_clr A k
  rw [e, ht, Rat.natCast_mul] at h3
  have h4 : (cf (clr A) k : Rat) * (t : Rat) = (z : Rat) := by rw [h3]; grind
  have h5 : cf (clr A) k * (t : Int) = z := by
    rw [← Rat.intCast_natCast, ← Rat.intCast_mul] at h4
    exact Rat.intCast_inj.mp h4
  refine Nat.le_trans (wd_len_mono ?_) hz
  rw [← h5, Int.natAbs_mul, Int.natAbs_natCast]
  exact Nat.le_mul_of_pos_right _ (Nat.pos_of_ne_zero ht0)
theorem CB.mulq {D E n m M N : Nat} {A B : List Rat} (hA : CB D n M A) (hB : CB E m N B) : CB (D * E) (n + m) (M + N + (n + m)) (mulq A B) where
  d := Nat.mul_ne_zero hA.d hB.d
  w := by
    have h1 := AL.wd_mul_len D E
    have h2 := hA.w
    have h3 := hB.w
    omega
  l := by
    simp only [mulq_def, List.length_map, List.length_range]
    have := hA.l
    have := hB.l
    omega
  c := fun c hc => by
    obtain ⟨k, hk, rfl⟩ := List.getElem_of_mem hc
    have hl : k < n + m := by
      simp only [mulq_def, List.length_map, List.length_range] at hk
      have := hA.l
      have := hB.l
      omega
    rw [← cfq_lt hk, cfq_mulq, PQ.cvq_conv]
    exact (qsum_cd (n := k + 1) (f := fun i => cfq A i * cfq B (k - i)) fun i _ => CD.mul hA.d hB.d (CD.cf hA _) (CD.cf hB _)).mono (by omega)
end Go.Proofs.YthpmlibcogifjaaGreat

namespace Go.Proofs.YthpmlibcogifjaaGreat
open Go Go.Proofs Go.AL
set_option linter.unusedSimpArgs false
set_option linter.unusedVariables false
end Go.Proofs.YthpmlibcogifjaaGreat

namespace Go.Proofs.YthpmlibcogifjaaGreat
open Go Go.Proofs Go.AL
set_option linter.unusedSimpArgs false
set_option linter.unusedVariables false
structure DV (A B : List Rat) (n K : Nat) : Prop where
  la : A.length ≤ 2 ^ 28
  lb : B.length ≤ 2 ^ 28
  h0 : B.length ≠ 0
  hb : cfq B (B.length - 1) ≠ 0
  ta : trimq A = A
  tb : trimq B = B
  en : (dit A B n).length < B.length
  hj : ∀ j, j < n → B.length ≤ (dit A B j).length
  za : ∀ k, k ≤ n → ∀ i, qz (cfq (dit A B k) i) ≤ K
  zb : ∀ i, qz (cfq B i) ≤ K
  k1 : 1 ≤ K
  k2 : K ≤ 2 ^ 32
def hrows : HC → Nat
  | .blk _ _ _ _ rows => rows.length
  | _ => 0
end Go.Proofs.YthpmlibcogifjaaGreat

namespace Go.Proofs.YthpmlibcogifjaaGreat
open Go Go.Proofs Go.AL
set_option linter.unusedSimpArgs false
set_option linter.unusedVariables false
theorem cvq_take_all {g : Nat → Rat} (A : List Rat) (k : Nat) : cvq (A.take (k + 1)) g k = cvq A g k := by
  have h : ∀ m, cvq (A.take (k + 1 + m)) g k = cvq (A.take (k + 1)) g k := fun m => by
    induction m with
    | zero => rfl
    | succ m ih => rw [← Nat.add_assoc, cvq_take_succ, ih, if_neg (by omega), Rat.add_zero]
  rw [← h A.length, List.take_of_length_le (by omega)]
theorem mulq_len (A B : List Rat) : (mulq A B).length = A.length + B.length := by simp [mulq]
set_option maxHeartbeats 1000000 in
theorem ttimes_ok (p r : List RQ) (K : Nat) (hp : GQ (2 ^ 30) K p) (hr : GQ (2 ^ 30) K r) (hK : K ≤ 2 ^ 33) (hK1 : 1 ≤ K) (hz : ∀ i k, qz (cvq ((trimq (qvs p)).take i) (cfq (trimq (qvs r))) k) ≤ 2 ^ 34) : AC Tryz.prog 16 [cqw p, cqw r] none [cqp (mulq (qvs p) (qvs r))] := by
  have m := tform_ok p (hp.mono (by omega) (by omega))
  have n := tform_ok r (hr.mono (by omega) (by omega))
  have hA := hp.qb.trimq
  have hB := hr.qb.trimq
  have z0 := hP_ok 0 1 (by omega) (by omega) (by omega) (by omega)
  rw [show ((0 : Int) : Rat) / ((1 : Nat) : Rat) = 0 by decide +kernel] at z0
  have e : cqp (mulq (qvs p) (qvs r)) = cqp (mulq (trimq (qvs p)) (trimq (qvs r))) := congrArg cqw (cqs_ext fun k => (mulq_trim _ _ k).symm)
  rw [e]
  refine AC.by_walk (rs := [.tmp 4]) ords Tryz.func16 (by rfl) (by rfl) (by rfl) (by rfl) (by rfl) ?_
  simp (disch := omega) only [wk, tis, seval, reduceCtorEq, Nat.reduceEqDiff, rqs]
  refine call_by (m) (by rfl) (by simp) ?_
  simp (disch := omega) only [wk, tis, seval, reduceCtorEq, Nat.reduceEqDiff, rqs]
  refine call_by (n) (by rfl) (by simp) ?_
  simp (disch := omega) only [wk, tis, seval, reduceCtorEq, Nat.reduceEqDiff, rqs]
  unfold cqs
  generalize trimq (qvs p) = A at *
  generalize trimq (qvs r) = B at *
  have hAl := hA.1
  have hBl := hB.1
  have hqa : (A.map crat).length = A.length := List.length_map _
  have hqb : (B.map crat).length = B.length := List.length_map _
  have hml := mulq_len A B
  have hR : QB (2 ^ 40) (2 ^ 38) ((mulq A B).take (A.length + B.length - 1)) := ⟨by rw [List.length_take]; omega, fun c hc => by
    obtain ⟨i, hi, rfl⟩ := List.getElem_of_mem (List.mem_of_mem_take hc)
    rw [← cfq_lt hi, cfq_mulq, ← cvq_take_all]
    have := hz (i + 1) i
    omega⟩
  have t := tform_ok (((mulq A B).take (A.length + B.length - 1)).map crat) hR.gq
  rw [qvs_map, show cqp ((mulq A B).take (A.length + B.length - 1)) = cqp (mulq A B) from congrArg cqw (cqs_ext fun k => by
    by_cases hk : k < A.length + B.length - 1
    · rw [cfq_lt (by rw [List.length_take]; omega), cfq_lt (by omega), List.getElem_take]
    · rw [cfq_ge (by rw [List.length_take]; omega), cfq_mulq, cvq_zero (n := B.length) A (fun j hj => cfq_ge hj) (by omega)])] at t
  refine aloop_nil 5 5 32 3 (by simp (disch := omega) only [wk, tis, seval, reduceCtorEq, Nat.reduceEqDiff, rqs]) (fun f H => ∃ (k st : Nat), k ≤ A.length + B.length - 1 ∧ f 6 = .iv (.int .i64 k) ∧ f 0 = .iv (.sl (rats (A.map crat))) ∧ f 1 = .iv (.sl (rats (B.map crat))) ∧ f 5 = .hs 5 st ∧ H 5 = .blk false st 32 3 (rats (((mulq A B).take k).map crat))) (fun f H => (A.length + B.length - intAt f 6).toNat) ?_ ?_
  · refine ⟨0, 1, by omega, ?_⟩
    simp (disch := omega) only [wk, tis, seval, reduceCtorEq, Nat.reduceEqDiff, rqs, ghostF, ghostH, List.take_zero, List.map_nil]
  rintro f H ⟨k, st, hk, hF⟩
  rw [intAt_of hF.1]
  simp (disch := omega) only [wk, tis, seval, reduceCtorEq, Nat.reduceEqDiff, rqs, hF]
  by_cases hlt : k < A.length + B.length - 1
  · have hlt' : (k : Int) < (A.length : Int) + (B.length : Int) - 1 := by omega
    simp (disch := omega) only [wk, tis, seval, reduceCtorEq, Nat.reduceEqDiff, rqs, hF, hqa, hqb, hlt']
    refine call_by (z0) (by first | rfl | (simp only [tocvs, tocv, hF, hqa, hqb]; rfl) | (simp only [tocvs, tocv, toboxes, tobox, updH_at, Nat.reduceEqDiff, ↓reduceIte, hF, hqa, hqb]; rfl)) (by simp) ?_
    simp (disch := omega) only [wk, tis, seval, reduceCtorEq, Nat.reduceEqDiff, rqs, hF, hqa, hqb]
    refine aloop_by (fun f H => ∃ (i s7 : Nat), i ≤ k + 1 ∧ f 8 = .iv (.int .i64 i) ∧ f 6 = .iv (.int .i64 k) ∧ f 0 = .iv (.sl (rats (A.map crat))) ∧ f 1 = .iv (.sl (rats (B.map crat))) ∧ f 5 = .hs 5 st ∧ H 5 = .blk false st 32 3 (rats (((mulq A B).take k).map crat)) ∧ f 7 = .hp 7 s7 0 0 ∧ H 7 = .blk false s7 32 3 [qrow (crat (cvq (A.take i) (cfq B) k))]) (fun f H => (k + 1 - intAt f 8).toNat) ?_ ?_
    · refine ⟨0, (H 7).stamp + 1, by omega, ?_⟩
      simp (disch := omega) only [wk, tis, seval, reduceCtorEq, Nat.reduceEqDiff, rqs, hF, show crat (cvq (A.take 0) (cfq B) k) = crat 0 from rfl]
    rintro f H ⟨i, s7, hi, hF⟩
    rw [intAt_of hF.1]
    simp (disch := omega) only [wk, tis, seval, reduceCtorEq, Nat.reduceEqDiff, rqs, hF]
    by_cases hik : i ≤ k
    · have hik' : (i : Int) ≤ (k : Int) := by omega
      have es := cvq_take_succ (g := cfq B) A i k
      rw [if_pos hik] at es
      by_cases h1 : i < A.length
      · have h1' : (i : Int) < (A.length : Int) := by omega
        have e1 : (k : Int) - (i : Int) = ((k - i : Nat) : Int) := by omega
        by_cases h2 : k - i < B.length
        · have h2' : ((k - i : Nat) : Int) < (B.length : Int) := by omega
          have g1 := cratq_get h1
          have g2 := cratq_get h2
          have y1 := hA.cz hK1 i
          have y2 := hB.cz hK1 (k - i)
          have y3 := hz i k
          have y4 := qz_mul (cfq A i) (cfq B (k - i))
          have x := htimes_ok (crat (cfq A i)) (crat (cfq B (k - i))) (szq_crat (by omega)) (szq_crat (by omega)) (nv_crat0 _) (nv_crat0 _)
          have y := hplus_ok (crat (cvq (A.take i) (cfq B) k)) (crat (cfq A i * cfq B (k - i))) (szq_crat (by omega)) (szq_crat (by omega)) (nv_crat0 _) (nv_crat0 _)
          rw [qv_crat, qv_crat] at x y
          rw [← es] at y
          simp (disch := omega) only [wk, tis, seval, reduceCtorEq, Nat.reduceEqDiff, rqs, hF, hqa, hqb, hik', h1', e1, h2', g1, g2]
          refine ⟨tmps_by (by kernel_rfl), ?_⟩
          refine call_by (x) (by first | rfl | (simp only [tocvs, tocv, hF, hqa, hqb, g1, g2]; rfl) | (simp only [tocvs, tocv, toboxes, tobox, updH_at, Nat.reduceEqDiff, ↓reduceIte, hF, hqa, hqb, g1, g2]; rfl)) (by simp) ?_
          simp (disch := omega) only [wk, tis, seval, reduceCtorEq, Nat.reduceEqDiff, rqs, hF, hqa, hqb, g1, g2]
          refine call_by (y) (by first | rfl | (simp only [tocvs, tocv, hF, hqa, hqb, g1, g2]; rfl) | (simp only [tocvs, tocv, toboxes, tobox, updH_at, Nat.reduceEqDiff, ↓reduceIte, hF, hqa, hqb, g1, g2]; rfl)) (by simp) ?_
          simp (disch := omega) only [wk, tis, seval, reduceCtorEq, Nat.reduceEqDiff, rqs, hF, hqa, hqb, g1, g2]
          first | exact log_by (by kernel_rfl) | refine ⟨log_by (by kernel_rfl), ?_⟩
          refine ⟨⟨i + 1, s7, by omega, ?_⟩, by omega⟩
          (repeat' apply And.intro) <;> first | rfl | omega
        · have h2' : ¬ ((k - i : Nat) : Int) < (B.length : Int) := by omega
          rw [cfq_ge (q := B) (by omega), Rat.mul_zero, Rat.add_zero] at es
          simp (disch := omega) only [wk, tis, seval, reduceCtorEq, Nat.reduceEqDiff, rqs, hF, hqa, hqb, hik', h1', e1, h2']
          refine ⟨⟨i + 1, s7, by omega, ?_⟩, by omega⟩
          rw [es]
          (repeat' apply And.intro) <;> first | rfl | omega
      · have h1' : ¬ (i : Int) < (A.length : Int) := by omega
        rw [cfq_ge (q := A) (by omega), Rat.zero_mul, Rat.add_zero] at es
        simp (disch := omega) only [wk, tis, seval, reduceCtorEq, Nat.reduceEqDiff, rqs, hF, hqa, hqb, hik', h1']
        refine ⟨⟨i + 1, s7, by omega, ?_⟩, by omega⟩
        rw [es]
        (repeat' apply And.intro) <;> first | rfl | omega
    · have hik' : ¬ (i : Int) ≤ (k : Int) := by omega
      obtain rfl : i = k + 1 := by omega
      rw [cvq_take_all, ← cfq_mulq] at hF
      have hrq : (((mulq A B).take k).map crat).length = k := by rw [List.length_map, List.length_take]; omega
      have et := takeq_snoc (q := mulq A B) (i := k) (by omega)
      simp (disch := omega) only [wk, tis, seval, reduceCtorEq, Nat.reduceEqDiff, rqs, hF, hik', hrq]
      refine ⟨⟨k + 1, st + 1, by omega, ?_⟩, by omega⟩
      rw [et, List.map_append]
      (repeat' apply And.intro) <;> first | rfl | omega
  · have hlt' : ¬ (k : Int) < (A.length : Int) + (B.length : Int) - 1 := by omega
    obtain rfl : k = A.length + B.length - 1 := by omega
    simp (disch := omega) only [wk, tis, seval, reduceCtorEq, Nat.reduceEqDiff, rqs, hF, hqa, hqb, hlt']
    refine call_by (t) (by first | rfl | (simp only [tocvs, tocv, hF]; rfl) | (simp only [tocvs, tocv, toboxes, tobox, updH_at, Nat.reduceEqDiff, ↓reduceIte, hF]; rfl)) (by simp) ?_
    simp (disch := omega) only [wk, tis, seval, reduceCtorEq, Nat.reduceEqDiff, rqs, hF]
end Go.Proofs.YthpmlibcogifjaaGreat

namespace Go.Proofs.YthpmlibcogifjaaGreat
open Go Go.Proofs Go.AL
set_option linter.unusedSimpArgs false
set_option linter.unusedVariables false
theorem tis_ok {l : List RQ} (h : BQ (2 ^ 40) (2 ^ 40) l) : AC Tryz.prog 17 [cqw l, ci 0, cb true, cqw l] none [cb true] := by
  have s := tsame_self h
  refine AC.by_walk (rs := [.tmp 8]) ords Tryz.func17 (by rfl) (by rfl) (by rfl) (by rfl) (by rfl) ?_
  simp (disch := omega) only [wk, tis, seval, reduceCtorEq, Nat.reduceEqDiff, rqs]
  refine call_by (s) (by rfl) (by simp) ?_
  simp (disch := omega) only [wk, tis, seval, reduceCtorEq, Nat.reduceEqDiff, rqs]
  try rfl
end Go.Proofs.YthpmlibcogifjaaGreat

namespace Go.Proofs.YthpmlibcogifjaaGreat
open Go Go.Proofs Go.AL
set_option linter.unusedSimpArgs false
set_option linter.unusedVariables false
theorem CB.one_list : CB 1 1 1 [1] where
  d := by omega
  w := by decide +kernel
  l := Nat.le_refl _
  c := fun c hc => by
    rcases List.mem_singleton.1 hc with rfl
    exact ⟨1, by decide +kernel, by decide +kernel⟩
theorem powq_cb {D n M c : Nat} {A : List Rat} (h : CB D n M A) : ∀ k, 1 + k * n ≤ c → ∃ E, CB E (1 + k * n) (1 + k * (M + n + c)) (powq A k)
  | 0, _ => ⟨1, by rw [Nat.zero_mul, Nat.zero_mul]; exact CB.one_list⟩
  | k + 1, hk => by
    have e1 : (k + 1) * n = k * n + n := Nat.succ_mul k n
    obtain ⟨E, hE⟩ := powq_cb (c := c) h k (by omega)
    refine ⟨D * E, ?_⟩
    rw [powq]
    have e2 : (k + 1) * (M + n + c) = k * (M + n + c) + (M + n + c) := Nat.succ_mul k _
    exact (h.mulq hE).mono (by omega) (by omega)
def PWH (A : List Rat) (m N K : Nat) : Prop := ∀ k, k ≤ m → ∃ D, CB D N K (powq A k)
theorem pwh_five {D M : Nat} {A : List Rat} (h : CB D 40 M A) {m : Nat} (hm : m ≤ 5) : PWH A m 201 (1 + 5 * (M + 241)) := fun k hk => by
  have h1 : k * 40 ≤ 5 * 40 := Nat.mul_le_mul_right _ (by omega)
  obtain ⟨E, hE⟩ := powq_cb (c := 201) h k (by omega)
  have h2 : k * (M + 40 + 201) ≤ 5 * (M + 40 + 201) := Nat.mul_le_mul_right _ (by omega)
  exact ⟨E, hE.mono (by omega) (by omega)⟩
theorem powq_succ' (A : List Rat) (k : Nat) : pq (powq A (k + 1)) = pq (powq A k) * pq A := by rw [powq, pq_mulq, PQ.mul_comm]
def unit3 (c : Rat) : Prop := c = 0 ∨ c = 1 ∨ c = -1
theorem unit3_mul {a b : Rat} (ha : unit3 a) (hb : unit3 b) : unit3 (a * b) := by
  rcases ha with rfl | rfl | rfl <;> rcases hb with rfl | rfl | rfl
  · exact .inl (by decide +kernel)
  · exact .inl (by decide +kernel)
  · exact .inl (by decide +kernel)
  · exact .inl (by decide +kernel)
  · exact .inr (.inl (by decide +kernel))
  · exact .inr (.inr (by decide +kernel))
  · exact .inl (by decide +kernel)
  · exact .inr (.inr (by decide +kernel))
  · exact .inr (.inl (by decide +kernel))
theorem unit3_cb {c : Rat} (h : unit3 c) : CB 1 1 1 [c] where
  d := by omega
  w := by decide +kernel
  l := Nat.le_refl _
  c := fun x hx => by
    rcases List.mem_singleton.1 hx with rfl
    rcases h with rfl | rfl | rfl
    · exact ⟨0, by decide +kernel, by decide +kernel⟩
    · exact ⟨1, by decide +kernel, by decide +kernel⟩
    · exact ⟨-1, by decide +kernel, by decide +kernel⟩
theorem powq_const {A : List Rat} {c : Rat} (h : pq A = PQ.C c) (hc : unit3 c) (k : Nat) : ∃ x, unit3 x ∧ pq (powq A k) = pq [x] := by
  induction k with
  | zero => exact ⟨1, .inr (.inl rfl), by rw [pq_powq]; exact pq_one.symm⟩
  | succ k ih =>
    obtain ⟨x, hx, e⟩ := ih
    refine ⟨x * c, unit3_mul hx hc, ?_⟩
    rw [powq_succ', e, h, pq_const, pq_const, PQ.C_mul]
structure PWK (A : List Rat) (m N K : Nat) : Prop where
  h : ∀ k, k ≤ m → ∃ D, CB D N K (trimq (powq A k))
theorem PWH.k {A : List Rat} {m N K : Nat} (h : PWH A m N K) : PWK A m N K := ⟨fun k hk => by
  obtain ⟨D, hD⟩ := h k hk
  exact ⟨D, hD.trim⟩⟩
theorem pwk_const {A : List Rat} {c : Rat} (h : pq A = PQ.C c) (hc : unit3 c) (m : Nat) : PWK A m 1 1 := ⟨fun k _ => by
  obtain ⟨x, hx, e⟩ := powq_const h hc k
  rw [trimq_ext (pq_eq e)]
  exact ⟨1, (unit3_cb hx).trim⟩⟩
theorem PWK.mono {A : List Rat} {m N K N' K' : Nat} (h : PWK A m N K) (hN : N ≤ N') (hK : K ≤ K') : PWK A m N' K' := ⟨fun k hk => by
  obtain ⟨D, hD⟩ := h.h k hk
  exact ⟨D, hD.mono hN hK⟩⟩
theorem CB.part {D E n m M N : Nat} {A B : List Rat} (hA : CB D n M A) (hB : CB E m N B) (h1 : 1 ≤ M + N + (n + m)) (i k : Nat) : qz (cvq (A.take i) (cfq B) k) ≤ M + N + (n + m) := by
  have h := ((hA.sub (r := A.take i) (by rw [List.length_take]; have := hA.l; omega) fun c hc => List.mem_of_mem_take hc).mulq hB).qb.cz h1 k
  rwa [cfq_mulq] at h
end Go.Proofs.YthpmlibcogifjaaGreat

namespace Go.Proofs.YthpmlibcogifjaaGreat
open Go Go.Proofs Go.AL
set_option linter.unusedSimpArgs false
set_option linter.unusedVariables false
set_option maxRecDepth 100000 in
theorem galllcm_cb (l : List Nat) (K : Nat) (hM : ∀ i, (wd (lcmL (l.take i))).length ≤ K) (hl : l.length ≤ 2 ^ 30) (h0 : ∀ x ∈ l, x ≠ 0) (hK : ∀ x ∈ l, (wd x).length ≤ K) (hB : K ≤ 2 ^ 34) : AC Tryz.prog 57 [.iv (.sl (natsr (l.map wd)))] none [cl (wd (lcmL l))] := by
  have o := nof_ok 1 (by decide)
  have hml : (l.map wd).length = l.length := List.length_map _
  have e0 : wd (lcmL (l.take 0)) = wd 1 := by rw [List.take_zero]; rfl
  refine AC.by_walk (rs := [.tmp 2]) ords Tryz.func57 (by rfl) (by rfl) (by rfl) (by rfl) (by rfl) ?_
  simp (disch := omega) only [wk, tis, seval, reduceCtorEq, Nat.reduceEqDiff, rqs, natsr_len, natsr_at, natsr_snoc, natsr_app, natsr_rows, natsr_nil]
  refine call_by (o) (by rfl) (by simp) ?_
  simp (disch := omega) only [wk, tis, seval, reduceCtorEq, Nat.reduceEqDiff, rqs, natsr_len, natsr_at, natsr_snoc, natsr_app, natsr_rows, natsr_nil]
  refine aloop_by (fun f H => ∃ (i : Nat), i ≤ l.length ∧ f 9 = .iv (.int .i64 i) ∧ f 7 = .iv (.sl (natsr (l.map wd))) ∧ f 8 = .iv (.int .i64 l.length) ∧ f 3 = .iv (.sl (lims (wd (lcmL (l.take i)))))) (fun f H => (l.length - intAt f 9).toNat) ?_ ?_
  · refine ⟨0, by omega, ?_⟩
    simp (disch := omega) only [wk, tis, seval, reduceCtorEq, Nat.reduceEqDiff, rqs, natsr_len, natsr_at, natsr_snoc, natsr_app, natsr_rows, natsr_nil, e0, hml]
  rintro f H ⟨i, hi, hF⟩
  rw [intAt_of hF.1]
  simp (disch := omega) only [wk, tis, seval, reduceCtorEq, Nat.reduceEqDiff, rqs, natsr_len, natsr_at, natsr_snoc, natsr_app, natsr_rows, natsr_nil, hF]
  refine if_by (fun hlt => ?_) (fun hlt => ?_)
  · have hlt' : i < l.length := by omega
    obtain ⟨a1, a2, a3⟩ := lcmL_facts l K h0 hK i hi
    have hm : l.getD i 0 ∈ l := by rw [List.getD, List.getElem?_eq_getElem hlt', Option.getD_some]; exact List.getElem_mem _
    have hg : (l.map wd).getD i [] = wd (l.getD i 0) := by simp [List.getD, hlt']
    have hk := hK _ hm
    have h2 := hM i
    have m := glcm_ok (wd (lcmL (l.take i))) (wd (l.getD i 0)) ⟨by omega, lim_wd _⟩ ⟨by omega, lim_wd _⟩ (by rw [nv_wd]; exact a1) (by rw [nv_wd]; exact h0 _ hm)
    rw [nv_wd, nv_wd, ← lcmL_take hlt'] at m
    simp (disch := omega) only [wk, tis, seval, reduceCtorEq, Nat.reduceEqDiff, rqs, natsr_len, natsr_at, natsr_snoc, natsr_app, natsr_rows, natsr_nil, hF, hml, hg]
    refine call_by (m) (by first | rfl | (simp only [tocvs, tocv, hF, hml, hg]; rfl) | (simp only [tocvs, tocv, toboxes, tobox, updH_at, Nat.reduceEqDiff, ↓reduceIte, hF, hml, hg]; rfl)) (by simp) ?_
    simp (disch := omega) only [wk, tis, seval, reduceCtorEq, Nat.reduceEqDiff, rqs, natsr_len, natsr_at, natsr_snoc, natsr_app, natsr_rows, natsr_nil, hF, hml, hg]
    refine ⟨⟨i + 1, by omega, ?_⟩, by omega⟩
    (repeat' apply And.intro) <;> first | rfl | omega
  · simp (disch := omega) only [wk, tis, seval, reduceCtorEq, Nat.reduceEqDiff, rqs, natsr_len, natsr_at, natsr_snoc, natsr_app, natsr_rows, natsr_nil, hF]
    rw [List.take_of_length_le (by omega)]
theorem qclear_cb (p : List RQ) (D n k : Nat) (hp : GQ (2 ^ 30) (2 ^ 36) p) (hC : CB D n k (trimq (qvs p))) (hn : n ≤ 2 ^ 28) (hM : k ≤ 2 ^ 33) : AC Tryz.prog 29 [cqw p] none [cl (wd (cden (trimq (qvs p)))), cw ((clr (trimq (qvs p))).map canon), ci 0] := by
  have nm := qpnorm_ok p (hp.mono (by omega) (by omega))
  have hA := hC.qb
  refine AC.by_walk (rs := [.tmp 2, .tmp 3, .tmp 4]) ords Tryz.func29 (by rfl) (by rfl) (by rfl) (by rfl) (by rfl) ?_
  simp (disch := omega) only [wk, tis, seval, reduceCtorEq, Nat.reduceEqDiff, rqs, natsr_len, natsr_at, natsr_snoc, natsr_app, natsr_rows, natsr_nil]
  refine call_by (nm) (by rfl) (by simp) ?_
  simp (disch := omega) only [wk, tis, seval, reduceCtorEq, Nat.reduceEqDiff, rqs, natsr_len, natsr_at, natsr_snoc, natsr_app, natsr_rows, natsr_nil]
  unfold cqs
  generalize trimq (qvs p) = A at *
  have hAl := hA.1
  have hq : (A.map crat).length = A.length := List.length_map _
  have hdl := dens_len A
  have hcl := clr_len A
  simp (disch := omega) only [wk, tis, seval, reduceCtorEq, Nat.reduceEqDiff, rqs, natsr_len, natsr_at, natsr_snoc, natsr_app, natsr_rows, natsr_nil, hq]
  refine aloop_by (fun f H => ∃ (i st26 : Nat), i ≤ A.length ∧ f 29 = .iv (.int .i64 i) ∧ f 27 = .iv (.sl (rats (A.map crat))) ∧ f 28 = .iv (.int .i64 A.length) ∧ f 5 = .iv (.sl (rats (A.map crat))) ∧ f 7 = .hs 26 st26 ∧ H 26 = .blk false st26 28 1 (natsr (((dens A).take i).map wd))) (fun f H => (A.length - intAt f 29).toNat) ?_ ?_
  · refine ⟨0, 1, by omega, ?_⟩
    simp (disch := omega) only [wk, tis, seval, reduceCtorEq, Nat.reduceEqDiff, rqs, natsr_len, natsr_at, natsr_snoc, natsr_app, natsr_rows, natsr_nil, hq, List.take_zero, List.map_nil, Int.toNat_natCast, List.replicate_zero]
  rintro f H ⟨i, st26, hi, hF⟩
  rw [intAt_of hF.1]
  simp (disch := omega) only [wk, tis, seval, reduceCtorEq, Nat.reduceEqDiff, rqs, natsr_len, natsr_at, natsr_snoc, natsr_app, natsr_rows, natsr_nil, hF]
  refine if_by (fun hlt => ?_) (fun hlt => ?_)
  · have hlt' : i < A.length := by omega
    have hdq : (((dens A).take i).map wd).length = i := by rw [List.length_map, List.length_take]; omega
    have e := cratq_get hlt'
    have e2 : lims (crat (cfq A i)).2 = lims (wd (cfq A i).den) := rfl
    simp (disch := omega) only [wk, tis, seval, reduceCtorEq, Nat.reduceEqDiff, rqs, natsr_len, natsr_at, natsr_snoc, natsr_app, natsr_rows, natsr_nil, hF, hq, hdq, e, e2]
    refine ⟨⟨i + 1, st26 + 1, by omega, ?_⟩, by omega⟩
    rw [natsr_dens A hlt']
    (repeat' apply And.intro) <;> first | rfl | omega
  · have hie : i = A.length := by omega
    subst hie
    rw [List.take_of_length_le (by omega)] at hF
    have m := galllcm_cb (dens A) k (fun i => hC.lcm_len i) (by omega) dens_ne hA.dens (by omega)
    have hcd := hC.cden_len
    have hcn := cden_ne A
    simp (disch := omega) only [wk, tis, seval, reduceCtorEq, Nat.reduceEqDiff, rqs, natsr_len, natsr_at, natsr_snoc, natsr_app, natsr_rows, natsr_nil, hF, hq]
    refine call_by (m) (by first | rfl | (simp only [tocvs, tocv, hF, hq]; rfl) | (simp only [tocvs, tocv, toboxes, tobox, updH_at, Nat.reduceEqDiff, ↓reduceIte, hF, hq]; rfl)) (by simp) ?_
    simp (disch := omega) only [wk, tis, seval, reduceCtorEq, Nat.reduceEqDiff, rqs, natsr_len, natsr_at, natsr_snoc, natsr_app, natsr_rows, natsr_nil, hF, hq]
    rw [show lcmL (dens A) = cden A from rfl]
    refine aloop_nil 11 11 30 2 (by simp (disch := omega) only [wk, tis, seval, reduceCtorEq, Nat.reduceEqDiff, rqs, natsr_len, natsr_at, natsr_snoc, natsr_app, natsr_rows, natsr_nil]) (fun f H => ∃ (i st : Nat), i ≤ A.length ∧ f 43 = .iv (.int .i64 i) ∧ f 41 = .iv (.sl (rats (A.map crat))) ∧ f 42 = .iv (.int .i64 A.length) ∧ f 10 = .iv (.sl (lims (wd (cden A)))) ∧ f 11 = .hs 11 st ∧ H 11 = .blk false st 30 2 (raws (((clr A).take i).map canon))) (fun f H => (A.length - intAt f 43).toNat) ?_ ?_
    · refine ⟨0, (H 11).stamp + 1, by omega, ?_⟩
      simp (disch := omega) only [wk, tis, seval, reduceCtorEq, Nat.reduceEqDiff, rqs, natsr_len, natsr_at, natsr_snoc, natsr_app, natsr_rows, natsr_nil, ghostF, ghostH, hF, hq, List.take_zero, List.map_nil]
    rintro f H ⟨i, st, hi, hF⟩
    rw [intAt_of hF.1]
    simp (disch := omega) only [wk, tis, seval, reduceCtorEq, Nat.reduceEqDiff, rqs, natsr_len, natsr_at, natsr_snoc, natsr_app, natsr_rows, natsr_nil, hF]
    refine if_by (fun hlt => ?_) (fun hlt => ?_)
    · have hlt' : i < A.length := by omega
      have hcq : (((clr A).take i).map canon).length = i := by rw [List.length_map, List.length_take]; omega
      have e := cratq_get hlt'
      have e2 : lims (crat (cfq A i)).2 = lims (wd (cfq A i).den) := rfl
      have e3 : prow (crat (cfq A i)).1 = prow (canon (cfq A i).num) := rfl
      have hc : qz (cfq A i) ≤ k := by rw [cfq_lt hlt']; exact hA.2 _ (List.getElem_mem hlt')
      have hc2 := qz_parts (cfq A i)
      have n1 := znat_ok false (cden A) (by omega)
      have n2 := znat_ok false (cfq A i).den (by omega)
      rw [sgf] at n1 n2
      have hdv : ((cfq A i).den : Int) ∣ (cden A : Int) := Int.natCast_dvd_natCast.mpr (cden_dvd hlt')
      have x := zexact_ok (canon (cden A : Int)) (canon ((cfq A i).den : Int)) ((sz_canon _).mono (by rw [zl_nat]; omega)) ((sz_canon _).mono (by rw [zl_nat]; omega)) (by rw [iv_canon]; have := (cfq A i).den_nz; omega) (by rw [iv_canon, iv_canon]; exact hdv)
      rw [iv_canon, iv_canon] at x
      have zd := zl_div hdv
      rw [zl_nat] at zd
      have w := zmul_ok (canon (cfq A i).num) (canon ((cden A : Int) / ((cfq A i).den : Int))) ((sz_canon _).mono (by omega)) ((sz_canon _).mono (by omega))
      rw [iv_canon, iv_canon, ← clr_get hlt'] at w
      simp (disch := omega) only [wk, tis, seval, reduceCtorEq, Nat.reduceEqDiff, rqs, natsr_len, natsr_at, natsr_snoc, natsr_app, natsr_rows, natsr_nil, hF, hq, hcq, e, e2, e3]
      refine ⟨tmps_by (by kernel_rfl), ?_⟩
      refine call_by (n1) (by first | rfl | (simp only [tocvs, tocv, hF, hq, hcq, e, e2, e3]; rfl) | (simp only [tocvs, tocv, toboxes, tobox, updH_at, Nat.reduceEqDiff, ↓reduceIte, hF, hq, hcq, e, e2, e3]; rfl)) (by simp) ?_
      simp (disch := omega) only [wk, tis, seval, reduceCtorEq, Nat.reduceEqDiff, rqs, natsr_len, natsr_at, natsr_snoc, natsr_app, natsr_rows, natsr_nil, hF, hq, hcq, e, e2, e3]
      refine call_by (n2) (by first | rfl | (simp only [tocvs, tocv, hF, hq, hcq, e, e2, e3]; rfl) | (simp only [tocvs, tocv, toboxes, tobox, updH_at, Nat.reduceEqDiff, ↓reduceIte, hF, hq, hcq, e, e2, e3]; rfl)) (by simp) ?_
      simp (disch := omega) only [wk, tis, seval, reduceCtorEq, Nat.reduceEqDiff, rqs, natsr_len, natsr_at, natsr_snoc, natsr_app, natsr_rows, natsr_nil, hF, hq, hcq, e, e2, e3]
      refine call_by (x) (by first | rfl | (simp only [tocvs, tocv, hF, hq, hcq, e, e2, e3]; rfl) | (simp only [tocvs, tocv, toboxes, tobox, updH_at, Nat.reduceEqDiff, ↓reduceIte, hF, hq, hcq, e, e2, e3]; rfl)) (by simp) ?_
      simp (disch := omega) only [wk, tis, seval, reduceCtorEq, Nat.reduceEqDiff, rqs, natsr_len, natsr_at, natsr_snoc, natsr_app, natsr_rows, natsr_nil, hF, hq, hcq, e, e2, e3]
      first | exact log_by (by kernel_rfl) | refine ⟨log_by (by kernel_rfl), ?_⟩
      refine call_by (w) (by first | rfl | (simp only [tocvs, tocv, hF, hq, hcq, e, e2, e3]; rfl) | (simp only [tocvs, tocv, toboxes, tobox, updH_at, Nat.reduceEqDiff, ↓reduceIte, hF, hq, hcq, e, e2, e3]; rfl)) (by simp) ?_
      simp (disch := omega) only [wk, tis, seval, reduceCtorEq, Nat.reduceEqDiff, rqs, natsr_len, natsr_at, natsr_snoc, natsr_app, natsr_rows, natsr_nil, hF, hq, hcq, e, e2, e3]
      have et := takez_snoc (q := clr A) (i := i) (by omega)
      refine ⟨⟨i + 1, st + 1, by omega, ?_⟩, by omega⟩
      rw [et, List.map_append]
      (repeat' apply And.intro) <;> first | rfl | omega
    · have hie : i = A.length := by omega
      subst hie
      rw [List.take_of_length_le (by omega)] at hF
      simp (disch := omega) only [wk, tis, seval, reduceCtorEq, Nat.reduceEqDiff, rqs, natsr_len, natsr_at, natsr_snoc, natsr_app, natsr_rows, natsr_nil, hF]
      try rfl
theorem qpmul_cb (p q : List RQ) (D E n k : Nat) (hp : GQ (2 ^ 30) (2 ^ 36) p) (hq : GQ (2 ^ 30) (2 ^ 36) q) (hCA : CB D n k (trimq (qvs p))) (hCB : CB E n k (trimq (qvs q))) (hn : n ≤ 2 ^ 28) (hM : k ≤ 2 ^ 33) (hk : 1 ≤ k) : AC Tryz.prog 12 [cqw p, cqw q] none [cqp (mulq (qvs p) (qvs q)), ci 0] := by
  have m := qboth_ok p q (hp.mono (by omega) (by omega)) (hq.mono (by omega) (by omega))
  have hA := hCA.qb
  have hB := hCB.qb
  have e : cqp (mulq (qvs p) (qvs q)) = cqp (mulq (trimq (qvs p)) (trimq (qvs q))) := congrArg cqw (cqs_ext fun k => (mulq_trim _ _ k).symm)
  have tA := trimq_trimq (qvs p)
  have tB := trimq_trimq (qvs q)
  rw [e]
  refine AC.by_walk (rs := [.tmp 4, .tmp 5]) ords Tryz.func12 (by rfl) (by rfl) (by rfl) (by rfl) (by rfl) ?_
  simp (disch := omega) only [wk, tis, seval, reduceCtorEq, Nat.reduceEqDiff, rqs, natsr_len, natsr_at, natsr_snoc, natsr_app, natsr_rows, natsr_nil]
  refine call_by (m) (by rfl) (by simp) ?_
  simp (disch := omega) only [wk, tis, seval, reduceCtorEq, Nat.reduceEqDiff, rqs, natsr_len, natsr_at, natsr_snoc, natsr_app, natsr_rows, natsr_nil]
  unfold cqs
  generalize trimq (qvs p) = A at *
  generalize trimq (qvs q) = B at *
  have hqa : (A.map crat).length = A.length := List.length_map _
  have hqb : (B.map crat).length = B.length := List.length_map _
  by_cases ha : A.length = 0
  · have ha' : ((A.map crat).length : Int) = 0 := by omega
    have hn := mulq_nil (A := A) (B := B) (.inl (by rw [tA]; exact List.length_eq_zero_iff.mp ha))
    rw [show cqp (mulq A B) = cqw [] from congrArg cqw hn]
    simp (disch := omega) only [wk, tis, seval, reduceCtorEq, Nat.reduceEqDiff, rqs, natsr_len, natsr_at, natsr_snoc, natsr_app, natsr_rows, natsr_nil, ha']
    try rfl
  have ha' : ¬ ((A.map crat).length : Int) = 0 := by omega
  by_cases hb : B.length = 0
  · have hb' : ((B.map crat).length : Int) = 0 := by omega
    have hn := mulq_nil (A := A) (B := B) (.inr (by rw [tB]; exact List.length_eq_zero_iff.mp hb))
    rw [show cqp (mulq A B) = cqw [] from congrArg cqw hn]
    simp (disch := omega) only [wk, tis, seval, reduceCtorEq, Nat.reduceEqDiff, rqs, natsr_len, natsr_at, natsr_snoc, natsr_app, natsr_rows, natsr_nil, ha', hb']
    try rfl
  have hb' : ¬ ((B.map crat).length : Int) = 0 := by omega
  have c1 := qclear_cb (A.map crat) D n k ((hA.mono (by omega) (by omega)).gq) (by rw [qvs_map, tA]; exact hCA) hn hM
  have c2 := qclear_cb (B.map crat) E n k ((hB.mono (by omega) (by omega)).gq) (by rw [qvs_map, tB]; exact hCB) hn hM
  rw [qvs_map, tA] at c1
  rw [qvs_map, tB] at c2
  have pA := hCA.clr_pb.mono (n' := 2 ^ 30) (k' := 2 ^ 35) (by omega) (by omega)
  have pB := hCB.clr_pb.mono (n' := 2 ^ 30) (k' := 2 ^ 35) (by omega) (by omega)
  have z := pmul_ok ((clr A).map canon) ((clr B).map canon) (RP.canon pA) (RP.canon pB)
  rw [pv_canon, pv_canon] at z
  have l1 := hCA.cden_len
  have l2 := hCB.cden_len
  have pm := (pA.pmul pB (by decide)).trimz
  have o := qover_ok (trimz (pmul (clr A) (clr B))) (cden A) (cden B) (pm.mono (by omega) (by omega)) (by omega) (by omega) (cden_ne A) (cden_ne B)
  have ee : cqs (divl (trimz (pmul (clr A) (clr B))) ((cden A * cden B : Nat) : Int)) = cqs (mulq A B) := cqs_ext (cfq_clear_mul A B)
  rw [show cqp (divl (trimz (pmul (clr A) (clr B))) ((cden A * cden B : Nat) : Int)) = cqw (cqs (mulq A B)) from congrArg cqw ee] at o
  simp (disch := omega) only [wk, tis, seval, reduceCtorEq, Nat.reduceEqDiff, rqs, natsr_len, natsr_at, natsr_snoc, natsr_app, natsr_rows, natsr_nil, ha', hb']
  refine call_by (c1) (by rfl) (by simp) ?_
  simp (disch := omega) only [wk, tis, seval, reduceCtorEq, Nat.reduceEqDiff, rqs, natsr_len, natsr_at, natsr_snoc, natsr_app, natsr_rows, natsr_nil]
  refine call_by (c2) (by rfl) (by simp) ?_
  simp (disch := omega) only [wk, tis, seval, reduceCtorEq, Nat.reduceEqDiff, rqs, natsr_len, natsr_at, natsr_snoc, natsr_app, natsr_rows, natsr_nil]
  refine call_by (z) (by rfl) (by simp) ?_
  simp (disch := omega) only [wk, tis, seval, reduceCtorEq, Nat.reduceEqDiff, rqs, natsr_len, natsr_at, natsr_snoc, natsr_app, natsr_rows, natsr_nil]
  refine call_by (o) (by rfl) (by simp) ?_
  simp (disch := omega) only [wk, tis, seval, reduceCtorEq, Nat.reduceEqDiff, rqs, natsr_len, natsr_at, natsr_snoc, natsr_app, natsr_rows, natsr_nil]
  try rfl
end Go.Proofs.YthpmlibcogifjaaGreat

namespace Go.Proofs.YthpmlibcogifjaaGreat
open Go Go.Proofs Go.AL
set_option linter.unusedSimpArgs false
set_option linter.unusedVariables false
theorem and_one64 (r : Nat) (h : r < 9223372036854775808) : IntKind.i64.wrap ((BitVec.ofInt IntKind.i64.bits (r : Int) &&& BitVec.ofInt IntKind.i64.bits 1).toNat : Int) = ((r % 2 : Nat) : Int) := by
  have h1 : (BitVec.ofInt 64 (r : Int) &&& BitVec.ofInt 64 1).toNat = r % 2 := by
    have e1 : BitVec.ofInt 64 (r : Int) = BitVec.ofNat 64 r := by simp
    have e2 : (BitVec.ofInt 64 1 : BitVec 64) = BitVec.ofNat 64 (2 ^ 1 - 1) := by rfl
    rw [e1, e2, BitVec.toNat_and, BitVec.toNat_ofNat, BitVec.toNat_ofNat]
    rw [Nat.mod_eq_of_lt (show r < 2 ^ 64 by omega), Nat.mod_eq_of_lt (by decide : 2 ^ 1 - 1 < 2 ^ 64), Nat.and_two_pow_sub_one_eq_mod]
  show IntKind.i64.wrap ((BitVec.ofInt 64 (r : Int) &&& BitVec.ofInt 64 1).toNat : Int) = _
  rw [h1]
  rcases Nat.mod_two_eq_zero_or_one r with h | h <;> rw [h] <;> rfl
theorem dig_bit {d : List Nat} (h : Dig d) (i : Nat) : d.getD (i / 16) 0 / 2 ^ (i % 16) % 2 = vl D16 d / 2 ^ i % 2 := by
  rw [dig_at h]
  have e : D16 ^ (i / 16) = 2 ^ (16 * (i / 16)) := by rw [Nat.pow_mul]
  have ei : 2 ^ i = 2 ^ (16 * (i / 16)) * 2 ^ (i % 16) := by rw [← Nat.pow_add]; congr 1; omega
  have e16 : D16 = 2 ^ (i % 16) * (2 * 2 ^ (15 - i % 16)) := by
    rw [← Nat.mul_assoc, Nat.mul_right_comm, ← Nat.pow_add, show i % 16 + (15 - i % 16) = 15 by omega]
  rw [e, ei, ← Nat.div_div_eq_div_mul]
  generalize vl D16 d / 2 ^ (16 * (i / 16)) = x
  rw [e16, Nat.mod_mul_right_div_self, Nat.mod_mul_right_mod]
theorem bl_step (N i : Nat) : bl (N % 2 ^ (i + 1)) = if N / 2 ^ i % 2 = 1 then i + 1 else bl (N % 2 ^ i) := by
  have h1 : N % 2 ^ (i + 1) = N % 2 ^ i + 2 ^ i * (N / 2 ^ i % 2) := by rw [Nat.pow_succ, Nat.mod_mul]
  have h2 : N % 2 ^ i < 2 ^ i := Nat.mod_lt _ (Nat.pow_pos (by decide))
  rcases Nat.mod_two_eq_zero_or_one (N / 2 ^ i) with h | h
  · rw [h1, h, if_neg (by decide), Nat.mul_zero, Nat.add_zero]
  · rw [h1, h, if_pos rfl, Nat.mul_one]
    have a : bl (N % 2 ^ i + 2 ^ i) ≤ i + 1 := bl_le.mpr (by rw [Nat.pow_succ]; omega)
    have b : ¬ bl (N % 2 ^ i + 2 ^ i) ≤ i := fun h3 => by have := bl_le.mp h3; omega
    omega
theorem half_nat (y : Nat) : (y : Int).tdiv 2 = ((y / 2 : Nat) : Int) := by
  rw [Int.tdiv_eq_ediv_of_nonneg (by omega)]; rfl
theorem half_succ (x k : Nat) : x / 2 ^ (k + 1) = x / 2 ^ k / 2 := by rw [Nat.pow_succ, ← Nat.div_div_eq_div_mul]
theorem rbit_ok (d : List Nat) (i : Nat) (h : Dig d) (hl : d.length ≤ 2 ^ 43) (hi : i ≤ 2 ^ 50) : AC Tryz.prog 80 [cd d, ci i] none [ci ((vl D16 d / 2 ^ i % 2 : Nat) : Int)] := by
  have e1 : (i : Int).tdiv 16 = ((i / 16 : Nat) : Int) := by rw [Int.tdiv_eq_ediv_of_nonneg (by omega)]; rfl
  have e2 : (i : Int).tmod 16 = ((i % 16 : Nat) : Int) := by rw [Int.tmod_eq_emod_of_nonneg (by omega)]; rfl
  have m := rdigit_ok d (i / 16) hl
  have hg : d.getD (i / 16) 0 < 65536 := h.get (i / 16)
  have hb := dig_bit h i
  have h16 : i % 16 < 16 := Nat.mod_lt _ (by decide)
  generalize d.getD (i / 16) 0 = x at *
  generalize i % 16 = j at *
  refine AC.by_walk (rs := [.tmp 4]) ords Tryz.func80 (by rfl) (by rfl) (by rfl) (by rfl) (by rfl) ?_
  simp (disch := omega) only [wk, tis, seval, reduceCtorEq, Nat.reduceEqDiff, rqs, e1]
  refine call_by (m) (by first | rfl | (simp only [tocvs, tocv, e1]; rfl) | (simp only [tocvs, tocv, toboxes, tobox, updH_at, Nat.reduceEqDiff, ↓reduceIte, e1]; rfl)) (by simp) ?_
  simp (disch := omega) only [wk, tis, seval, reduceCtorEq, Nat.reduceEqDiff, rqs, e1]
  refine aloop_by (fun f H => ∃ (k y : Nat), k ≤ j ∧ y = x / 2 ^ k ∧ y ≤ 65535 ∧ f 6 = .iv (.int .i64 k) ∧ f 5 = .iv (.int .i64 y) ∧ f 1 = .iv (.int .i64 i)) (fun f H => (j - intAt f 6).toNat) ?_ ?_
  · refine ⟨0, x, by omega, by rw [Nat.pow_zero, Nat.div_one], by omega, ?_⟩
    simp (disch := omega) only [wk, tis, seval, reduceCtorEq, Nat.reduceEqDiff, rqs]
  rintro f H ⟨k, y, hk, hy, hx, hF⟩
  rw [intAt_of hF.1]
  simp (disch := omega) only [wk, tis, seval, reduceCtorEq, Nat.reduceEqDiff, rqs, hF]
  have hp := half_nat y
  refine if_by (fun hlt => ?_) (fun hlt => ?_)
  · simp (disch := omega) only [wk, tis, seval, reduceCtorEq, Nat.reduceEqDiff, rqs, hF, e2, hp]
    refine ⟨⟨k + 1, y / 2, by omega, by rw [half_succ, hy], by omega, ?_⟩, by omega⟩
    (repeat' apply And.intro) <;> first | rfl | omega
  · obtain rfl : k = j := by omega
    have e3 : (y : Int).tmod 2 = ((y % 2 : Nat) : Int) := by rw [Int.tmod_eq_emod_of_nonneg (by omega)]; rfl
    simp (disch := omega) only [wk, tis, seval, reduceCtorEq, Nat.reduceEqDiff, rqs, hF, e2, e3]
    rw [← hb, hy]
theorem rbits_ok (l : List Nat) (h : Lim l) (hl : l.length ≤ 2 ^ 40) : AC Tryz.prog 48 [cl l] none [ci (bl (nv l))] := by
  have m := rdigits_ok l h hl
  have hd := dd_dig l
  have hdl := dd_len l
  have hv := vl_dd h
  have hlt := vlD_lt hd
  rw [hv] at hlt
  refine AC.by_walk (rs := [.tmp 2]) ords Tryz.func48 (by rfl) (by rfl) (by rfl) (by rfl) (by rfl) ?_
  simp (disch := omega) only [wk, tis, seval, reduceCtorEq, Nat.reduceEqDiff, rqs]
  refine call_by (m) (by rfl) (by simp) ?_
  simp (disch := omega) only [wk, tis, seval, reduceCtorEq, Nat.reduceEqDiff, rqs]
  generalize dd l = d at *
  have hN : nv l < 2 ^ (16 * d.length) := by rw [Nat.pow_mul]; exact hlt
  generalize nv l = N at *
  refine aloop_by (fun f H => ∃ (i : Nat), i ≤ 16 * d.length ∧ f 5 = .iv (.int .i64 i) ∧ f 4 = .iv (.int .i64 ((bl (N % 2 ^ i) : Nat) : Int)) ∧ f 3 = .iv (.sl (nums d))) (fun f H => (16 * d.length - intAt f 5).toNat) ?_ ?_
  · refine ⟨0, by omega, ?_⟩
    simp (disch := omega) only [wk, tis, seval, reduceCtorEq, Nat.reduceEqDiff, rqs, Nat.pow_zero, Nat.mod_one, show bl 0 = 0 from rfl]
  rintro f H ⟨i, hi, hF⟩
  rw [intAt_of hF.1]
  simp (disch := omega) only [wk, tis, seval, reduceCtorEq, Nat.reduceEqDiff, rqs, hF]
  refine if_by (fun hlt => ?_) (fun hlt => ?_)
  · have b := rbit_ok d i hd (by omega) (by omega)
    rw [hv] at b
    have st := bl_step N i
    simp (disch := omega) only [wk, tis, seval, reduceCtorEq, Nat.reduceEqDiff, rqs, hF]
    refine call_by (b) (by first | rfl | (simp only [tocvs, tocv, hF]; rfl) | (simp only [tocvs, tocv, toboxes, tobox, updH_at, Nat.reduceEqDiff, ↓reduceIte, hF]; rfl)) (by simp) ?_
    simp (disch := omega) only [wk, tis, seval, reduceCtorEq, Nat.reduceEqDiff, rqs, hF]
    refine if_by (fun h1 => ?_) (fun h1 => ?_)
    · rw [if_pos (by omega)] at st
      simp (disch := omega) only [wk, tis, seval, reduceCtorEq, Nat.reduceEqDiff, rqs, hF]
      refine ⟨⟨i + 1, by omega, ?_⟩, by omega⟩
      (repeat' apply And.intro) <;> first | rfl | omega
    · rw [if_neg (by omega)] at st
      simp (disch := omega) only [wk, tis, seval, reduceCtorEq, Nat.reduceEqDiff, rqs, hF]
      refine ⟨⟨i + 1, by omega, ?_⟩, by omega⟩
      (repeat' apply And.intro) <;> first | rfl | omega
  · obtain rfl : i = 16 * d.length := by omega
    simp (disch := omega) only [wk, tis, seval, reduceCtorEq, Nat.reduceEqDiff, rqs, hF]
    rw [Nat.mod_eq_of_lt hN]
theorem hbits_ok (l : List Nat) (h : Lim l) (hl : l.length ≤ 2 ^ 40) : AC Tryz.prog 24 [cl l] none [ci (bl (nv l))] := by
  refine AC.by_walk (rs := [.tmp 2]) ords Tryz.func24 (by rfl) (by rfl) (by rfl) (by rfl) (by rfl) ?_
  simp (disch := omega) only [wk, tis, seval, reduceCtorEq, Nat.reduceEqDiff, rqs]
  refine call_by ((rbits_ok l h hl)) (by rfl) (by simp) ?_
  simp (disch := omega) only [wk, tis, seval, reduceCtorEq, Nat.reduceEqDiff, rqs]
def unitq (p : List RQ) : Bool := decide (p.length = 0 ∨ p.length = 1 ∧ nv (p.getD 0 q0).1.2 ≤ 1 ∧ nv (p.getD 0 q0).2 ≤ 1)
theorem unit_ok (p : List RQ) (h : BQ (2 ^ 40) (2 ^ 38) p) : AC Tryz.prog 9 [cqw p] none [cb (unitq p)] := by
  have hl := h.1
  refine AC.by_walk (rs := [.tmp 2]) ords Tryz.func9 (by rfl) (by rfl) (by rfl) (by rfl) (by rfl) ?_
  by_cases h0 : p.length = 0
  · have h0' : (p.length : Int) = 0 := by omega
    have e : unitq p = true := decide_eq_true (.inl h0)
    rw [e]
    simp (disch := omega) only [wk, tis, seval, reduceCtorEq, Nat.reduceEqDiff, rqs, h0']
    try rfl
  have h0' : ¬ (p.length : Int) = 0 := by omega
  by_cases h1 : p.length = 1
  · have h1' : (p.length : Int) = 1 := by omega
    have hz := h.get (i := 0) (by omega)
    have m1 := hbits_ok (p.getD 0 q0).1.2 hz.1.2 (Nat.le_trans hz.1.1 (by omega))
    have m2 := hbits_ok (p.getD 0 q0).2 hz.2.2 (Nat.le_trans hz.2.1 (by omega))
    have q1 : bl (nv (p.getD 0 q0).1.2) ≤ 1 ↔ nv (p.getD 0 q0).1.2 ≤ 1 := by rw [bl_le]; omega
    have q2 : bl (nv (p.getD 0 q0).2) ≤ 1 ↔ nv (p.getD 0 q0).2 ≤ 1 := by rw [bl_le]; omega
    simp (disch := omega) only [wk, tis, seval, reduceCtorEq, Nat.reduceEqDiff, rqs, h0', h1']
    refine call_by (m1) (by first | rfl | (simp only [tocvs, tocv, h0', h1']; rfl) | (simp only [tocvs, tocv, toboxes, tobox, updH_at, Nat.reduceEqDiff, ↓reduceIte, h0', h1']; rfl)) (by simp) ?_
    simp (disch := omega) only [wk, tis, seval, reduceCtorEq, Nat.reduceEqDiff, rqs, h0', h1']
    by_cases h2 : bl (nv (p.getD 0 q0).1.2) ≤ 1
    · have h2' : (bl (nv (p.getD 0 q0).1.2) : Int) ≤ 1 := by omega
      simp (disch := omega) only [wk, tis, seval, reduceCtorEq, Nat.reduceEqDiff, rqs, h0', h1', h2']
      refine call_by (m2) (by first | rfl | (simp only [tocvs, tocv, h0', h1', h2']; rfl) | (simp only [tocvs, tocv, toboxes, tobox, updH_at, Nat.reduceEqDiff, ↓reduceIte, h0', h1', h2']; rfl)) (by simp) ?_
      simp (disch := omega) only [wk, tis, seval, reduceCtorEq, Nat.reduceEqDiff, rqs, h0', h1', h2']
      rw [unitq]
      simp only [h1, q1.mp h2, true_and, Nat.one_ne_zero, false_or]
      refine Bool.eq_iff_iff.mpr ?_
      rw [decide_eq_true_iff, decide_eq_true_iff, ← q2]
      omega
    · have h2' : ¬ (bl (nv (p.getD 0 q0).1.2) : Int) ≤ 1 := by omega
      have e : unitq p = false := decide_eq_false fun h => h.elim h0 fun h => h2 (q1.mpr h.2.1)
      rw [e]
      simp (disch := omega) only [wk, tis, seval, reduceCtorEq, Nat.reduceEqDiff, rqs, h0', h1', h2']
      try rfl
  · have h1' : ¬ (p.length : Int) = 1 := by omega
    have e : unitq p = false := decide_eq_false fun h => h.elim h0 fun h => h1 h.1
    rw [e]
    simp (disch := omega) only [wk, tis, seval, reduceCtorEq, Nat.reduceEqDiff, rqs, h0', h1']
    try rfl
end Go.Proofs.YthpmlibcogifjaaGreat

namespace Go.Proofs.YthpmlibcogifjaaGreat
open Go Go.Proofs Go.AL
set_option linter.unusedSimpArgs false
set_option linter.unusedVariables false
theorem PWK.cb {A : List Rat} {m N K k : Nat} (h : PWK A m N K) (hk : k ≤ m) : ∃ D, CB D N K (trimq (powq A k)) := h.h k hk
theorem powq_one (A : List Rat) : cqs (powq A 1) = cqs A := cqs_ext fun k => pq_eq (by rw [pq_powq, PQ.pw_one]) k
theorem qpmul_pow {A : List Rat} {m N K a b : Nat} (w : PWK A m N K) (hN : N ≤ 2 ^ 28) (hK : K ≤ 2 ^ 33) (hK1 : 1 ≤ K) (ha : a ≤ m) (hb : b ≤ m) : AC Tryz.prog 12 [cqp (powq A a), cqp (powq A b)] none [cqp (powq A (a + b)), ci 0] := by
  obtain ⟨D, hD⟩ := w.h a ha
  obtain ⟨E, hE⟩ := w.h b hb
  have m := qpmul_cb (cqs (powq A a)) (cqs (powq A b)) D E N K (hD.qb.gq.mono (by omega) (by omega)) (hE.qb.gq.mono (by omega) (by omega)) (by rw [qvs_cqs, trimq_trimq]; exact hD) (by rw [qvs_cqs, trimq_trimq]; exact hE) hN hK hK1
  rw [qvs_cqs, qvs_cqs, show cqp (mulq (trimq (powq A a)) (trimq (powq A b))) = cqp (powq A (a + b)) from congrArg cqw (cqs_ext fun k => by
    rw [mulq_trim]
    exact pq_eq (by rw [pq_mulq, pq_powq, pq_powq, pq_powq, PQ.pw_add]) k)] at m
  exact m
theorem zof_one : AC Tryz.prog 36 [ci 1] none [cz 1] := zOf_ok 1 (by omega) (by omega)
set_option maxHeartbeats 1000000 in
theorem qppow_ok (p : List RQ) (m N K : Nat) (hp : GQ (2 ^ 30) (2 ^ 36) p) (w : PWK (qvs p) m N K) (hm : m ≤ 1024) (hN : N ≤ 2 ^ 28) (hK : K ≤ 2 ^ 33) (hK1 : 1 ≤ K) : AC Tryz.prog 14 [cqw p, ci m] none [cqp (powq (qvs p) m), ci 0] := by
  have nm := qpnorm_ok p (hp.mono (by omega) (by omega))
  have o1 := nof_ok 1 (by decide)
  rw [show wd 1 = [1] by decide +kernel] at o1
  have zo := zof_one
  have h1 : ¬ (m : Int) < 0 := by omega
  have h2 : ¬ 1024 < (m : Int) := by omega
  have e0 : rats (cqs (powq (qvs p) 0)) = [qrow (crat 1)] := rfl
  have e1 := powq_one (qvs p)
  have ec : qrow (crat 1) = [IV.bool false, IV.sl (lims [1]), IV.sl (lims [1])] := by rw [show crat 1 = ((false, [1]), [1]) by decide +kernel]
  have hw1 : wd 1 = [1] := by decide +kernel
  have ez : canon 1 = (false, [1]) := canon_one
  generalize qvs p = A at *
  refine AC.by_walk (rs := [.tmp 4, .tmp 5]) ords Tryz.func14 (by rfl) (by rfl) (by rfl) (by rfl) (by rfl) ?_
  simp (disch := omega) only [wk, tis, seval, reduceCtorEq, Nat.reduceEqDiff, rqs]
  refine call_by (nm) (by rfl) (by simp) ?_
  simp (disch := omega) only [wk, tis, seval, reduceCtorEq, Nat.reduceEqDiff, rqs]
  simp (disch := omega) only [wk, tis, seval, reduceCtorEq, Nat.reduceEqDiff, rqs, h1, h2]
  refine call_by (zo) (by first | rfl | (simp only [tocvs, tocv, h1, h2]; rfl) | (simp only [tocvs, tocv, toboxes, tobox, updH_at, Nat.reduceEqDiff, ↓reduceIte, h1, h2]; rfl)) (by simp) ?_
  simp (disch := omega) only [wk, tis, seval, reduceCtorEq, Nat.reduceEqDiff, rqs, h1, h2]
  refine call_by (o1) (by first | rfl | (simp only [tocvs, tocv, h1, h2]; rfl) | (simp only [tocvs, tocv, toboxes, tobox, updH_at, Nat.reduceEqDiff, ↓reduceIte, h1, h2]; rfl)) (by simp) ?_
  simp (disch := omega) only [wk, tis, seval, reduceCtorEq, Nat.reduceEqDiff, rqs, h1, h2]
  refine aloop_w (.iv 8 28 1 false 32 3 [qrow (crat 1)] (by simp (disch := omega) only [wk, tis, seval, reduceCtorEq, Nat.reduceEqDiff, rqs]) (by simp (disch := omega) only [wk, tis, seval, reduceCtorEq, Nat.reduceEqDiff, rqs, ec, ez, hw1]) (.refl _ _)) (fun f H => ∃ (x y r : Nat), x + y * r = m ∧ (0 < r → y ≤ m) ∧ 0 < y ∧ f 1 = .iv (.int .i64 r) ∧ f 8 = .iv (.sl (rats (cqs (powq A x)))) ∧ f 6 = .iv (.sl (rats (cqs (powq A y))))) (fun f H => (intAt f 1).toNat) ?_ ?_
  · refine ⟨0, 1, m, by omega, fun _ => by omega, by omega, ?_⟩
    simp (disch := omega) only [wk, tis, seval, reduceCtorEq, Nat.reduceEqDiff, rqs, e1, e0]
  rintro f H ⟨x, y, r, hx, hy, hy0, hF⟩
  rw [intAt_of hF.1]
  simp (disch := omega) only [wk, tis, seval, reduceCtorEq, Nat.reduceEqDiff, rqs, hF]
  refine if_by (fun hr => ?_) (fun hr => ?_)
  · have hy := hy (by omega)
    have hr1 : r ≤ m := by
      have : 1 * r ≤ y * r := Nat.mul_le_mul_right _ hy0
      omega
    have hxm : x + y ≤ m := by
      have : y * 1 ≤ y * r := Nat.mul_le_mul_left _ (by omega)
      omega
    have eand : IntKind.i64.wrap ↑(BitVec.ofInt IntKind.i64.bits (r : Int) &&& BitVec.ofInt IntKind.i64.bits 1).toNat = ((r % 2 : Nat) : Int) := and_one64 r (by omega)
    have ed : Int.fdiv (r : Int) (2 ^ min 1 IntKind.i64.bits) = ((r / 2 : Nat) : Int) := by
      rw [show (2 : Int) ^ min 1 IntKind.i64.bits = 2 by decide]
      rw [Int.fdiv_eq_ediv_of_nonneg _ (by omega)]
      rfl
    simp (disch := omega) only [wk, tis, seval, reduceCtorEq, Nat.reduceEqDiff, rqs, hF, eand, ed]
    have next : ∀ (x' y' : Nat), x' = (if r % 2 = 1 then x + y else x) → (y' = y + y ∨ r ≤ 1 ∧ y' = y) → x' + y' * (r / 2) = m ∧ (0 < r / 2 → y' ≤ m) ∧ 0 < y' := by
      intro x' y' ex ey
      have hd := Nat.div_add_mod r 2
      have e2 : y * r = (y + y) * (r / 2) + y * (r % 2) := by
        rw [← Nat.two_mul, Nat.mul_comm 2 y, Nat.mul_assoc, ← Nat.mul_add, hd]
      rcases ey with rfl | ⟨h1, rfl⟩
      · refine ⟨?_, fun h0 => ?_, by omega⟩
        · rcases Nat.mod_two_eq_zero_or_one r with h | h <;> simp [h] at ex e2 <;> omega
        · have : (y + y) * 1 ≤ (y + y) * (r / 2) := Nat.mul_le_mul_left _ h0
          omega
      · have : r = 1 := by omega
        subst this
        simp at ex ⊢
        omega
    have m1 := qpmul_pow w hN hK hK1 (a := x) (b := y) (by omega) hy
    have m2 := qpmul_pow w hN hK hK1 (a := y) (b := y) hy hy
    refine if_by (fun hodd => ?_) (fun hodd => ?_)
    · have hodd : r % 2 = 1 := by omega
      simp (disch := omega) only [wk, tis, seval, reduceCtorEq, Nat.reduceEqDiff, rqs, hF]
      refine call_by (m1) (by first | rfl | (simp only [tocvs, tocv, hF]; rfl) | (simp only [tocvs, tocv, toboxes, tobox, updH_at, Nat.reduceEqDiff, ↓reduceIte, hF]; rfl)) (by simp) ?_
      simp (disch := omega) only [wk, tis, seval, reduceCtorEq, Nat.reduceEqDiff, rqs, hF]
      refine if_by (fun h1 => ?_) (fun h1 => ?_)
      · simp (disch := omega) only [wk, tis, seval, reduceCtorEq, Nat.reduceEqDiff, rqs, hF]
        refine call_by (m2) (by first | rfl | (simp only [tocvs, tocv, hF, ed]; rfl) | (simp only [tocvs, tocv, toboxes, tobox, updH_at, Nat.reduceEqDiff, ↓reduceIte, hF, ed]; rfl)) (by simp) ?_
        simp (disch := omega) only [wk, tis, seval, reduceCtorEq, Nat.reduceEqDiff, rqs, hF, ed]
        obtain ⟨a1, a2, a3⟩ := next (x + y) (y + y) (by rw [if_pos hodd]) (.inl rfl)
        exact ⟨⟨x + y, y + y, r / 2, a1, a2, a3, rfl, rfl, rfl⟩, by omega⟩
      · simp (disch := omega) only [wk, tis, seval, reduceCtorEq, Nat.reduceEqDiff, rqs, hF, ed]
        obtain ⟨a1, a2, a3⟩ := next (x + y) y (by rw [if_pos hodd]) (.inr ⟨by omega, rfl⟩)
        exact ⟨⟨x + y, y, r / 2, a1, a2, a3, rfl, rfl, rfl⟩, by omega⟩
    · have hodd : ¬ r % 2 = 1 := by omega
      simp (disch := omega) only [wk, tis, seval, reduceCtorEq, Nat.reduceEqDiff, rqs, hF]
      refine if_by (fun h1 => ?_) (fun h1 => ?_)
      · simp (disch := omega) only [wk, tis, seval, reduceCtorEq, Nat.reduceEqDiff, rqs, hF]
        refine call_by (m2) (by first | rfl | (simp only [tocvs, tocv, hF, ed]; rfl) | (simp only [tocvs, tocv, toboxes, tobox, updH_at, Nat.reduceEqDiff, ↓reduceIte, hF, ed]; rfl)) (by simp) ?_
        simp (disch := omega) only [wk, tis, seval, reduceCtorEq, Nat.reduceEqDiff, rqs, hF, ed]
        obtain ⟨a1, a2, a3⟩ := next x (y + y) (by rw [if_neg hodd]) (.inl rfl)
        exact ⟨⟨x, y + y, r / 2, a1, a2, a3, rfl, rfl, rfl⟩, by omega⟩
      · simp (disch := omega) only [wk, tis, seval, reduceCtorEq, Nat.reduceEqDiff, rqs, hF, ed]
        obtain ⟨a1, a2, a3⟩ := next x y (by rw [if_neg hodd]) (.inr ⟨by omega, rfl⟩)
        exact ⟨⟨x, y, r / 2, a1, a2, a3, rfl, rfl, rfl⟩, by omega⟩
  · simp (disch := omega) only [wk, tis, seval, reduceCtorEq, Nat.reduceEqDiff, rqs, hF]
    obtain rfl : r = 0 := by omega
    obtain rfl : x = m := by omega
    rfl
theorem qppow_bad (p : List RQ) (n : Int) (h : BQ (2 ^ 40) (2 ^ 38) p) (hg : gd p = false) : AC Tryz.prog 14 [cqw p, ci n] none [cqw [], ci 1] := by
  have m := qpnorm_bad p h hg
  refine AC.by_walk (rs := [.tmp 4, .tmp 5]) ords Tryz.func14 (by rfl) (by rfl) (by rfl) (by rfl) (by rfl) ?_
  simp (disch := omega) only [wk, tis, seval, reduceCtorEq, Nat.reduceEqDiff, rqs]
  refine call_by (m) (by rfl) (by simp) ?_
  simp (disch := omega) only [wk, tis, seval, reduceCtorEq, Nat.reduceEqDiff, rqs]
  try rfl
theorem qppow_arg (p : List RQ) (n : Int) (h : GQ (2 ^ 40) (2 ^ 38) p) (hn : n < 0 ∨ 1024 < n) : AC Tryz.prog 14 [cqw p, ci n] none [cqw [], ci 3] := by
  have m := qpnorm_ok p h
  refine AC.by_walk (rs := [.tmp 4, .tmp 5]) ords Tryz.func14 (by rfl) (by rfl) (by rfl) (by rfl) (by rfl) ?_
  simp (disch := omega) only [wk, tis, seval, reduceCtorEq, Nat.reduceEqDiff, rqs]
  refine call_by (m) (by rfl) (by simp) ?_
  simp (disch := omega) only [wk, tis, seval, reduceCtorEq, Nat.reduceEqDiff, rqs]
  by_cases h1 : n < 0
  · simp (disch := omega) only [wk, tis, seval, reduceCtorEq, Nat.reduceEqDiff, rqs, h1]
    try rfl
  · have h2 : 1024 < n := hn.resolve_left h1
    simp (disch := omega) only [wk, tis, seval, reduceCtorEq, Nat.reduceEqDiff, rqs, h1, h2]
    try rfl
theorem trpow_ok (p : List RQ) (m N K : Nat) (hp : GQ (2 ^ 30) K p) (w : PWK (qvs p) m N K) (hm : m ≤ 1024) (hN : N ≤ 2 ^ 28) (hK1 : 1 ≤ K) (hK : 2 * K + 2 * N ≤ 2 ^ 33) (hb : ∀ k, k < m → ∀ i j, qz (cvq ((trimq (powq (qvs p) k)).take i) (cfq (trimq (qvs p))) j) ≤ 2 ^ 34) : AC Tryz.prog 18 [cqw p, ci m] none [cqp (powq (qvs p) m)] := by
  have one := hone_ok
  have e0 : rats (cqs (powq (qvs p) 0)) = [qrow (crat 1)] := rfl
  refine AC.by_walk (rs := [.tmp 4]) ords Tryz.func18 (by rfl) (by rfl) (by rfl) (by rfl) (by rfl) ?_
  simp (disch := omega) only [wk, tis, seval, reduceCtorEq, Nat.reduceEqDiff, rqs]
  refine call_by (one) (by rfl) (by simp) ?_
  simp (disch := omega) only [wk, tis, seval, reduceCtorEq, Nat.reduceEqDiff, rqs]
  refine aloop_w (.iv 5 8 1 false 32 3 [qrow (crat 1)] (by simp (disch := omega) only [wk, tis, seval, reduceCtorEq, Nat.reduceEqDiff, rqs]) (by simp (disch := omega) only [wk, tis, seval, reduceCtorEq, Nat.reduceEqDiff, rqs]) (.refl _ _)) (fun f H => ∃ (j : Nat), j ≤ m ∧ f 6 = .iv (.int .i64 j) ∧ f 1 = .iv (.int .i64 m) ∧ f 0 = .iv (.sl (rats p)) ∧ f 5 = .iv (.sl (rats (cqs (powq (qvs p) j))))) (fun f H => (m - intAt f 6).toNat) ?_ ?_
  · refine ⟨0, by omega, ?_⟩
    simp (disch := omega) only [wk, tis, seval, reduceCtorEq, Nat.reduceEqDiff, rqs, e0]
  rintro f H ⟨j, hj, hF⟩
  rw [intAt_of hF.1]
  simp (disch := omega) only [wk, tis, seval, reduceCtorEq, Nat.reduceEqDiff, rqs, hF]
  refine if_by (fun hlt => ?_) (fun hlt => ?_)
  · have hlt' : j < m := by omega
    obtain ⟨E, hE⟩ := w.h j (by omega)
    have tt := ttimes_ok (cqs (powq (qvs p) j)) p K (hE.qb.gq.mono (by omega) (by omega)) hp (by omega) hK1 (by
      intro a k
      rw [qvs_cqs, trimq_trimq]
      exact hb j hlt' a k)
    rw [qvs_cqs, show cqp (mulq (trimq (powq (qvs p) j)) (qvs p)) = cqp (powq (qvs p) (j + 1)) from congrArg cqw (cqs_ext fun k => by rw [powq, mulq_comm (qvs p)]; exact mulq_congr (cfq_trimq _) (fun _ => rfl) k)] at tt
    simp (disch := omega) only [wk, tis, seval, reduceCtorEq, Nat.reduceEqDiff, rqs, hF]
    refine call_by (tt) (by first | rfl | (simp only [tocvs, tocv, hF]; rfl) | (simp only [tocvs, tocv, toboxes, tobox, updH_at, Nat.reduceEqDiff, ↓reduceIte, hF]; rfl)) (by simp) ?_
    simp (disch := omega) only [wk, tis, seval, reduceCtorEq, Nat.reduceEqDiff, rqs, hF]
    refine ⟨⟨j + 1, by omega, ?_⟩, by omega⟩
    (repeat' apply And.intro) <;> first | rfl | omega
  · obtain rfl : j = m := by omega
    simp (disch := omega) only [wk, tis, seval, reduceCtorEq, Nat.reduceEqDiff, rqs, hF]
    try rfl
end Go.Proofs.YthpmlibcogifjaaGreat

namespace Go.Proofs.YthpmlibcogifjaaGreat
open Go Go.Proofs Go.AL
set_option linter.unusedSimpArgs false
set_option linter.unusedVariables false
end Go.Proofs.YthpmlibcogifjaaGreat

namespace Go.Proofs.YthpmlibcogifjaaGreat
open Go Go.Proofs Go.AL
set_option linter.unusedSimpArgs false
set_option linter.unusedVariables false
theorem qsc1_ok (a b : Rat) (c : RQ) (K : Nat) (ha : qz a ≤ K) (hc : SzQ K c) (h0 : nv c.2 ≠ 0) (hK : K ≤ 2 ^ 35) : AC Tryz.prog 33 [cqz a, cqz b, .box (qrow c)] none [cqz (a * qv c), ci 0] := by
  have m := qmul_ok (crat a) c (szq_crat (by omega)) (hc.mono hK) (nv_crat0 _) h0
  rw [qv_crat] at m
  refine AC.by_walk (rs := [.cell 5 32, .tmp 6]) ords Tryz.func33 (by rfl) (by rfl) (by rfl) (by rfl) (by rfl) ?_
  simp (disch := omega) only [wk, tis, seval, reduceCtorEq, Nat.reduceEqDiff, rqs, List.map_cons, List.map_nil]
  refine call_by (m) (by first | rfl | (simp only [tocvs, tocv, List.map_cons, List.map_nil]; rfl) | (simp only [tocvs, tocv, toboxes, tobox, updH_at, Nat.reduceEqDiff, ↓reduceIte, List.map_cons, List.map_nil]; rfl)) (by simp) ?_
  simp (disch := omega) only [wk, tis, seval, reduceCtorEq, Nat.reduceEqDiff, rqs, List.map_cons, List.map_nil]
  try rfl
theorem qeach1_ok (p q : List RQ) (g : Nat) (row : List IV) (F : Rat → Rat → Rat) (K : Nat) (hp : GQ (2 ^ 30) K p) (hq : GQ (2 ^ 30) K q) (hK : K ≤ 2 ^ 35) (hK1 : 1 ≤ K) (hF0 : F 0 0 = 0) (hs : ∀ a b, qz a ≤ K → qz b ≤ K → qz (F a b) ≤ 2 ^ 38)
    (hop : ∀ a b, qz a ≤ K → qz b ≤ K → AC Tryz.prog g [cqz a, cqz b, .box row] none [cqz (F a b), ci 0]) : AC Tryz.prog 25 [cqw p, cqw q, .fn g [row]] none [cqp (zipq F (qvs p) (qvs q)), ci 0] := by
  have m := qboth_ok p q (hp.mono (by omega) (by omega)) (hq.mono (by omega) (by omega))
  have hA := hp.qb.trimq
  have hB := hq.qb.trimq
  have e : cqp (zipq F (qvs p) (qvs q)) = cqp (zipq F (trimq (qvs p)) (trimq (qvs q))) := congrArg cqw (cqs_ext fun k => by rw [cfq_zipq hF0, cfq_zipq hF0, cfq_trimq, cfq_trimq])
  rw [e]
  refine AC.by_walk (rs := [.tmp 6, .tmp 7]) ords Tryz.func25 (by rfl) (by rfl) (by rfl) (by rfl) (by rfl) ?_
  simp (disch := omega) only [wk, tis, seval, reduceCtorEq, Nat.reduceEqDiff, rqs, List.map_cons, List.map_nil]
  refine call_by (m) (by first | rfl | (simp only [tocvs, tocv, List.map_cons, List.map_nil]; rfl) | (simp only [tocvs, tocv, toboxes, tobox, updH_at, Nat.reduceEqDiff, ↓reduceIte, List.map_cons, List.map_nil]; rfl)) (by simp) ?_
  simp (disch := omega) only [wk, tis, seval, reduceCtorEq, Nat.reduceEqDiff, rqs, List.map_cons, List.map_nil]
  unfold cqs
  generalize trimq (qvs p) = A at *
  generalize trimq (qvs q) = B at *
  have hAl := hA.1
  have hBl := hB.1
  have hqa : (A.map crat).length = A.length := List.length_map _
  have hqb : (B.map crat).length = B.length := List.length_map _
  have hRl := zipq_len F A B
  have hR : QB (2 ^ 40) (2 ^ 38) (zipq F A B) := .of (by omega) fun i => by rw [cfq_zipq hF0]; exact hs _ _ (hA.cz hK1 i) (hB.cz hK1 i)
  obtain ⟨n, hn⟩ : ∃ n, n = max A.length B.length := ⟨_, rfl⟩
  have hnI : max (A.length : Int) (B.length : Int) = (n : Int) := by omega
  rw [← hn] at hRl
  simp (disch := omega) only [wk, tis, seval, reduceCtorEq, Nat.reduceEqDiff, rqs, hqa, hqb, hnI]
  refine aloop_nil 11 11 32 3 (by simp (disch := omega) only [wk, tis, seval, reduceCtorEq, Nat.reduceEqDiff, rqs]) (fun f H => ∃ (i st : Nat), i ≤ n ∧ f 30 = .iv (.int .i64 i) ∧ f 29 = .iv (.int .i64 n) ∧ f 8 = .iv (.sl (rats (A.map crat))) ∧ f 9 = .iv (.sl (rats (B.map crat))) ∧ f 2 = .fn g [.ip row] ∧ f 11 = .hs 11 st ∧ H 11 = .blk false st 32 3 (rats (((zipq F A B).take i).map crat))) (fun f H => (n - intAt f 30).toNat) ?_ ?_
  · refine ⟨0, 1, by omega, ?_⟩
    simp (disch := omega) only [wk, tis, seval, reduceCtorEq, Nat.reduceEqDiff, rqs, ghostF, ghostH, List.take_zero, List.map_nil, List.map_cons, hqa, hqb, hnI]
  rintro f H ⟨i, st, hi, hF⟩
  rw [intAt_of hF.1]
  simp (disch := omega) only [wk, tis, seval, reduceCtorEq, Nat.reduceEqDiff, rqs, hF]
  refine if_by (fun hlt => ?_) (fun hlt => ?_)
  · have hq : (((zipq F A B).take i).map crat).length = i := by rw [List.length_map, List.length_take]; omega
    have c1 := qcoef_nat A i (hA.mono (by omega) (by omega))
    have c2 := qcoef_nat B i (hB.mono (by omega) (by omega))
    have o := hop (cfq A i) (cfq B i) (hA.cz hK1 i) (hB.cz hK1 i)
    simp (disch := omega) only [wk, tis, seval, reduceCtorEq, Nat.reduceEqDiff, rqs, hF, hq]
    refine call_by (c1) (by first | rfl | (simp only [tocvs, tocv, hF, hq]; rfl) | (simp only [tocvs, tocv, toboxes, tobox, updH_at, Nat.reduceEqDiff, ↓reduceIte, hF, hq]; rfl)) (by simp) ?_
    simp (disch := omega) only [wk, tis, seval, reduceCtorEq, Nat.reduceEqDiff, rqs, hF, hq]
    refine call_by (c2) (by first | rfl | (simp only [tocvs, tocv, hF, hq]; rfl) | (simp only [tocvs, tocv, toboxes, tobox, updH_at, Nat.reduceEqDiff, ↓reduceIte, hF, hq]; rfl)) (by simp) ?_
    simp (disch := omega) only [wk, tis, seval, reduceCtorEq, Nat.reduceEqDiff, rqs, hF, hq]
    refine call_by (o) (by first | rfl | (simp only [tocvs, tocv, hF, hq]; rfl) | (simp only [tocvs, tocv, toboxes, tobox, updH_at, Nat.reduceEqDiff, ↓reduceIte, hF, hq]; rfl)) (by simp) ?_
    simp (disch := omega) only [wk, tis, seval, reduceCtorEq, Nat.reduceEqDiff, rqs, hF, hq]
    have e := takeq_snoc (q := zipq F A B) (i := i) (by omega)
    rw [cfq_zipq hF0] at e
    refine ⟨⟨i + 1, st + 1, by omega, ?_⟩, by omega⟩
    rw [e, List.map_append]
    (repeat' apply And.intro) <;> first | rfl | omega
  · simp (disch := omega) only [wk, tis, seval, reduceCtorEq, Nat.reduceEqDiff, rqs, hF]
    rw [List.take_of_length_le (by omega)] at hF
    have m := qtrim_own (zipq F A B) hR
    refine call_by (m) (by first | rfl | (simp only [tocvs, tocv, hF]; rfl) | (simp only [tocvs, tocv, toboxes, tobox, updH_at, Nat.reduceEqDiff, ↓reduceIte, hF]; rfl)) (by simp) ?_
    simp (disch := omega) only [wk, tis, seval, reduceCtorEq, Nat.reduceEqDiff, rqs, hF]
theorem qscale_ok (p : List RQ) (c : RQ) (K : Nat) (hp : GQ (2 ^ 30) K p) (hc : SzQ K c) (h0 : nv c.2 ≠ 0) (hK : K ≤ 2 ^ 35) (hK1 : 1 ≤ K) : AC Tryz.prog 13 [cqw p, cqq c] none [cqp (sclq (qv c) (qvs p)), ci 0] := by
  have k := qcheck_good c ⟨Nat.le_trans hc.2.1 (by omega), hc.2.2⟩ h0
  have zc := qz_raw hc h0
  have m := qeach1_ok p [] 33 (qrow c) (fun a _ => a * qv c) K hp ⟨Nat.zero_le _, fun r hr => nomatch hr⟩ hK hK1 (Rat.zero_mul _) (fun a b ha hb => by have := qz_mul a (qv c); omega) (fun a b ha hb => qsc1_ok a b c K ha hc h0 hK)
  rw [show cqp (zipq (fun a _ => a * qv c) (qvs p) (qvs [])) = cqp (sclq (qv c) (qvs p)) from congrArg cqw (cqs_ext fun j => by rw [cfq_zipq (F := fun a _ => a * qv c) (Rat.zero_mul _), cfq_sclq])] at m
  refine AC.by_walk (rs := [.tmp 4, .tmp 5]) ords Tryz.func13 (by rfl) (by rfl) (by rfl) (by rfl) (by rfl) ?_
  simp (disch := omega) only [wk, tis, seval, reduceCtorEq, Nat.reduceEqDiff, rqs]
  refine call_by (k) (by rfl) (by simp) ?_
  simp (disch := omega) only [wk, tis, seval, reduceCtorEq, Nat.reduceEqDiff, rqs]
  refine call_by (m) (by first | rfl | (simp only [tocvs, tocv, List.map_nil]; rfl) | (simp only [tocvs, tocv, toboxes, tobox, updH_at, Nat.reduceEqDiff, ↓reduceIte, List.map_nil]; rfl)) (by simp) ?_
  simp (disch := omega) only [wk, tis, seval, reduceCtorEq, Nat.reduceEqDiff, rqs, List.map_nil]
  try rfl
end Go.Proofs.YthpmlibcogifjaaGreat

namespace Go.Proofs.YthpmlibcogifjaaGreat
open Go Go.Proofs Go.AL
set_option linter.unusedSimpArgs false
set_option linter.unusedVariables false
end Go.Proofs.YthpmlibcogifjaaGreat

namespace Go.Proofs.YthpmlibcogifjaaGreat
open Go Go.Proofs Go.AL
set_option linter.unusedSimpArgs false
set_option linter.unusedVariables false
end Go.Proofs.YthpmlibcogifjaaGreat

namespace Go.Proofs.YthpmlibcogifjaaGreat
open Go Go.Proofs Go.AL
set_option linter.unusedSimpArgs false
set_option linter.unusedVariables false
end Go.Proofs.YthpmlibcogifjaaGreat

namespace Go.Proofs.YthpmlibcogifjaaGreat
open Go Go.Proofs Go.AL
set_option linter.unusedSimpArgs false
set_option linter.unusedVariables false
end Go.Proofs.YthpmlibcogifjaaGreat

namespace Go.Proofs.YthpmlibcogifjaaGreat
open Go Go.Proofs Go.AL
set_option linter.unusedSimpArgs false
set_option linter.unusedVariables false
theorem tis_bad : AC Tryz.prog 17 [cqw [], ci 1, cb false, cqw []] none [cb true] := by
  refine AC.by_walk (rs := [.tmp 8]) ords Tryz.func17 (by rfl) (by rfl) (by rfl) (by rfl) (by rfl) ?_
  simp (disch := omega) only [wk, tis, seval, reduceCtorEq, Nat.reduceEqDiff, rqs]
  try rfl
theorem hm1_ok : AC Tryz.prog 7 [ci (-1), ci 1] none [cqz (-1)] := by
  have p := hP_ok (-1) 1 (by omega) (by omega) (by omega) (by omega)
  rwa [show ((-1 : Int) : Rat) / ((1 : Nat) : Rat) = -1 by decide +kernel] at p
set_option maxHeartbeats 4000000 in
theorem ring_core (a b p r : List RQ) (n m : Int) (x : RQ) (one gb ox u : Bool) (la lb lc ld lf sa sb sc sd : List RQ) (ea eb ec ed ef : Int)
    (fa : AC Tryz.prog 5 [cqw p] none [cqw a]) (fb : AC Tryz.prog 5 [cqw r] none [cqw b])
    (g1 : AC Tryz.prog 6 [cqw a] none [cb one]) (g2 : AC Tryz.prog 6 [cqw b] none [cb gb])
    (hx : b.length = 0 ∧ x = crat 0 ∨ 0 < b.length ∧ x = b.getD 0 q0) (hl : b.length ≤ 40)
    (ok : AC Tryz.prog 8 [cqq x] none [cb ox]) (un : AC Tryz.prog 9 [cqw a] none [cb u])
    (hme : n ≤ 5 ∨ 1024 < n → m = n) (hmu : 5 < n → n ≤ 1024 → u = true → m = n) (hmv : 5 < n → n ≤ 1024 → u = false → Int.tmod n 6 = m)
    (ca : AC Tryz.prog 10 [cqw a, cqw b] none [cqw la, ci ea]) (cbb : AC Tryz.prog 11 [cqw a, cqw b] none [cqw lb, ci eb]) (cc : AC Tryz.prog 12 [cqw a, cqw b] none [cqw lc, ci ec])
    (cdd : AC Tryz.prog 13 [cqw a, cqq x] none [cqw ld, ci ed]) (cf : AC Tryz.prog 14 [cqw a, ci m] none [cqw lf, ci ef])
    (pp : (one && gb) = true → AC Tryz.prog 15 [cqw a, cqz 1, cqw b] none [cqw sa] ∧ AC Tryz.prog 15 [cqw a, cqz (-1), cqw b] none [cqw sb] ∧ AC Tryz.prog 16 [cqw a, cqw b] none [cqw sc])
    (na : (one && gb) = false → sa = [] ∧ sb = [] ∧ sc = []) (pd : (one && ox) = true → AC Tryz.prog 15 [cqw [], cqq x, cqw a] none [cqw sd]) (nd : (one && ox) = false → sd = []) (hox : gb = true → ox = true)
    (ia : AC Tryz.prog 17 [cqw la, ci ea, cb (one && gb), cqw sa] none [cb true]) (ib : AC Tryz.prog 17 [cqw lb, ci eb, cb (one && gb), cqw sb] none [cb true]) (ic : AC Tryz.prog 17 [cqw lc, ci ec, cb (one && gb), cqw sc] none [cb true]) (idd : AC Tryz.prog 17 [cqw ld, ci ed, cb (one && ox), cqw sd] none [cb true])
    (hP : (one = true ∧ (m < 0 ∨ 1024 < m) ∧ lf = [] ∧ ef = 3) ∨ (one = false ∧ lf = [] ∧ ef = 1) ∨ (one = true ∧ 0 ≤ m ∧ m ≤ 1024 ∧ ef = 0 ∧ AC Tryz.prog 18 [cqw a, ci m] none [cqw lf] ∧ AC Tryz.prog 17 [cqw lf, ci 0, cb true, cqw lf] none [cb true])) :
    AC Tryz.prog 3 [cqw p, cqw r, ci n] none [cb true] := by
  have z0 := hP_ok 0 1 (by omega) (by omega) (by omega) (by omega)
  rw [show ((0 : Int) : Rat) / ((1 : Nat) : Rat) = 0 by decide +kernel] at z0
  refine AC.by_walk (rs := [.tmp 6]) ords Tryz.func3 (by rfl) (by rfl) (by rfl) (by rfl) (by rfl) ?_
  simp (disch := omega) only [wk, tis, seval, reduceCtorEq, Nat.reduceEqDiff, rqs]
  refine call_by (known_ok) (by rfl) (by simp) ?_
  simp (disch := omega) only [wk, tis, seval, reduceCtorEq, Nat.reduceEqDiff, rqs]
  refine call_by (fa) (by rfl) (by simp) ?_
  simp (disch := omega) only [wk, tis, seval, reduceCtorEq, Nat.reduceEqDiff, rqs]
  refine call_by (fb) (by rfl) (by simp) ?_
  simp (disch := omega) only [wk, tis, seval, reduceCtorEq, Nat.reduceEqDiff, rqs]
  refine call_by (g1) (by rfl) (by simp) ?_
  simp (disch := omega) only [wk, tis, seval, reduceCtorEq, Nat.reduceEqDiff, rqs]
  cases one with
  | false =>
    refine call_by (g1) (by rfl) (by simp) ?_
    simp (disch := omega) only [wk, tis, seval, reduceCtorEq, Nat.reduceEqDiff, rqs]
    refine call_by (z0) (by rfl) (by simp) ?_
    simp (disch := omega) only [wk, tis, seval, reduceCtorEq, Nat.reduceEqDiff, rqs]
    rcases hx with ⟨hb0, rfl⟩ | ⟨hb0, rfl⟩
    · have hxl : ¬ 0 < (b.length : Int) := by omega
      simp (disch := omega) only [wk, tis, seval, reduceCtorEq, Nat.reduceEqDiff, rqs, hxl]
      by_cases h5 : 5 < n
      · by_cases h10 : n ≤ 1024
        · simp (disch := omega) only [wk, tis, seval, reduceCtorEq, Nat.reduceEqDiff, rqs, h5, h10]
          refine call_by (un) (by first | rfl | (simp only [tocvs, tocv, h5, h10]; rfl) | (simp only [tocvs, tocv, toboxes, tobox, updH_at, Nat.reduceEqDiff, ↓reduceIte, h5, h10]; rfl)) (by simp) ?_
          simp (disch := omega) only [wk, tis, seval, reduceCtorEq, Nat.reduceEqDiff, rqs, h5, h10]
          cases u with
          | true =>
            obtain rfl := hmu h5 h10 rfl
            simp (disch := omega) only [wk, tis, seval, reduceCtorEq, Nat.reduceEqDiff, rqs, h5, h10]
            refine call_by (ca) (by rfl) (by simp) ?_
            simp (disch := omega) only [wk, tis, seval, reduceCtorEq, Nat.reduceEqDiff, rqs]
            refine call_by (cbb) (by rfl) (by simp) ?_
            simp (disch := omega) only [wk, tis, seval, reduceCtorEq, Nat.reduceEqDiff, rqs]
            refine call_by (cc) (by rfl) (by simp) ?_
            simp (disch := omega) only [wk, tis, seval, reduceCtorEq, Nat.reduceEqDiff, rqs]
            refine call_by (cdd) (by rfl) (by simp) ?_
            simp (disch := omega) only [wk, tis, seval, reduceCtorEq, Nat.reduceEqDiff, rqs]
            refine call_by (cf) (by rfl) (by simp) ?_
            simp (disch := omega) only [wk, tis, seval, reduceCtorEq, Nat.reduceEqDiff, rqs]
            obtain ⟨rfl, rfl, rfl⟩ := na rfl
            obtain rfl := nd rfl
            refine call_by (ia) (by rfl) (by simp) ?_
            simp (disch := omega) only [wk, tis, seval, reduceCtorEq, Nat.reduceEqDiff, rqs]
            refine call_by (ib) (by rfl) (by simp) ?_
            simp (disch := omega) only [wk, tis, seval, reduceCtorEq, Nat.reduceEqDiff, rqs]
            refine call_by (ic) (by rfl) (by simp) ?_
            simp (disch := omega) only [wk, tis, seval, reduceCtorEq, Nat.reduceEqDiff, rqs]
            refine call_by (idd) (by rfl) (by simp) ?_
            simp (disch := omega) only [wk, tis, seval, reduceCtorEq, Nat.reduceEqDiff, rqs]
            rcases hP with ⟨h, _⟩ | ⟨_, rfl, rfl⟩ | ⟨h, _⟩
            · cases h
            · simp (disch := omega) only [wk, tis, seval, reduceCtorEq, Nat.reduceEqDiff, rqs]
              try rfl
            · cases h
          | false =>
            have hmn := hmv h5 h10 rfl
            simp (disch := omega) only [wk, tis, seval, reduceCtorEq, Nat.reduceEqDiff, rqs, h5, h10, hmn]
            refine call_by (ca) (by rfl) (by simp) ?_
            simp (disch := omega) only [wk, tis, seval, reduceCtorEq, Nat.reduceEqDiff, rqs]
            refine call_by (cbb) (by rfl) (by simp) ?_
            simp (disch := omega) only [wk, tis, seval, reduceCtorEq, Nat.reduceEqDiff, rqs]
            refine call_by (cc) (by rfl) (by simp) ?_
            simp (disch := omega) only [wk, tis, seval, reduceCtorEq, Nat.reduceEqDiff, rqs]
            refine call_by (cdd) (by rfl) (by simp) ?_
            simp (disch := omega) only [wk, tis, seval, reduceCtorEq, Nat.reduceEqDiff, rqs]
            refine call_by (cf) (by rfl) (by simp) ?_
            simp (disch := omega) only [wk, tis, seval, reduceCtorEq, Nat.reduceEqDiff, rqs]
            obtain ⟨rfl, rfl, rfl⟩ := na rfl
            obtain rfl := nd rfl
            refine call_by (ia) (by rfl) (by simp) ?_
            simp (disch := omega) only [wk, tis, seval, reduceCtorEq, Nat.reduceEqDiff, rqs]
            refine call_by (ib) (by rfl) (by simp) ?_
            simp (disch := omega) only [wk, tis, seval, reduceCtorEq, Nat.reduceEqDiff, rqs]
            refine call_by (ic) (by rfl) (by simp) ?_
            simp (disch := omega) only [wk, tis, seval, reduceCtorEq, Nat.reduceEqDiff, rqs]
            refine call_by (idd) (by rfl) (by simp) ?_
            simp (disch := omega) only [wk, tis, seval, reduceCtorEq, Nat.reduceEqDiff, rqs]
            rcases hP with ⟨h, _⟩ | ⟨_, rfl, rfl⟩ | ⟨h, _⟩
            · cases h
            · simp (disch := omega) only [wk, tis, seval, reduceCtorEq, Nat.reduceEqDiff, rqs]
              try rfl
            · cases h
        · obtain rfl := hme (.inr (by omega))
          simp (disch := omega) only [wk, tis, seval, reduceCtorEq, Nat.reduceEqDiff, rqs, h5, h10]
          refine call_by (ca) (by rfl) (by simp) ?_
          simp (disch := omega) only [wk, tis, seval, reduceCtorEq, Nat.reduceEqDiff, rqs]
          refine call_by (cbb) (by rfl) (by simp) ?_
          simp (disch := omega) only [wk, tis, seval, reduceCtorEq, Nat.reduceEqDiff, rqs]
          refine call_by (cc) (by rfl) (by simp) ?_
          simp (disch := omega) only [wk, tis, seval, reduceCtorEq, Nat.reduceEqDiff, rqs]
          refine call_by (cdd) (by rfl) (by simp) ?_
          simp (disch := omega) only [wk, tis, seval, reduceCtorEq, Nat.reduceEqDiff, rqs]
          refine call_by (cf) (by rfl) (by simp) ?_
          simp (disch := omega) only [wk, tis, seval, reduceCtorEq, Nat.reduceEqDiff, rqs]
          obtain ⟨rfl, rfl, rfl⟩ := na rfl
          obtain rfl := nd rfl
          refine call_by (ia) (by rfl) (by simp) ?_
          simp (disch := omega) only [wk, tis, seval, reduceCtorEq, Nat.reduceEqDiff, rqs]
          refine call_by (ib) (by rfl) (by simp) ?_
          simp (disch := omega) only [wk, tis, seval, reduceCtorEq, Nat.reduceEqDiff, rqs]
          refine call_by (ic) (by rfl) (by simp) ?_
          simp (disch := omega) only [wk, tis, seval, reduceCtorEq, Nat.reduceEqDiff, rqs]
          refine call_by (idd) (by rfl) (by simp) ?_
          simp (disch := omega) only [wk, tis, seval, reduceCtorEq, Nat.reduceEqDiff, rqs]
          rcases hP with ⟨h, _⟩ | ⟨_, rfl, rfl⟩ | ⟨h, _⟩
          · cases h
          · simp (disch := omega) only [wk, tis, seval, reduceCtorEq, Nat.reduceEqDiff, rqs]
            try rfl
          · cases h
      · obtain rfl := hme (.inl (by omega))
        simp (disch := omega) only [wk, tis, seval, reduceCtorEq, Nat.reduceEqDiff, rqs, h5]
        refine call_by (ca) (by rfl) (by simp) ?_
        simp (disch := omega) only [wk, tis, seval, reduceCtorEq, Nat.reduceEqDiff, rqs]
        refine call_by (cbb) (by rfl) (by simp) ?_
        simp (disch := omega) only [wk, tis, seval, reduceCtorEq, Nat.reduceEqDiff, rqs]
        refine call_by (cc) (by rfl) (by simp) ?_
        simp (disch := omega) only [wk, tis, seval, reduceCtorEq, Nat.reduceEqDiff, rqs]
        refine call_by (cdd) (by rfl) (by simp) ?_
        simp (disch := omega) only [wk, tis, seval, reduceCtorEq, Nat.reduceEqDiff, rqs]
        refine call_by (cf) (by rfl) (by simp) ?_
        simp (disch := omega) only [wk, tis, seval, reduceCtorEq, Nat.reduceEqDiff, rqs]
        obtain ⟨rfl, rfl, rfl⟩ := na rfl
        obtain rfl := nd rfl
        refine call_by (ia) (by rfl) (by simp) ?_
        simp (disch := omega) only [wk, tis, seval, reduceCtorEq, Nat.reduceEqDiff, rqs]
        refine call_by (ib) (by rfl) (by simp) ?_
        simp (disch := omega) only [wk, tis, seval, reduceCtorEq, Nat.reduceEqDiff, rqs]
        refine call_by (ic) (by rfl) (by simp) ?_
        simp (disch := omega) only [wk, tis, seval, reduceCtorEq, Nat.reduceEqDiff, rqs]
        refine call_by (idd) (by rfl) (by simp) ?_
        simp (disch := omega) only [wk, tis, seval, reduceCtorEq, Nat.reduceEqDiff, rqs]
        rcases hP with ⟨h, _⟩ | ⟨_, rfl, rfl⟩ | ⟨h, _⟩
        · cases h
        · simp (disch := omega) only [wk, tis, seval, reduceCtorEq, Nat.reduceEqDiff, rqs]
          try rfl
        · cases h
    · have hxl : 0 < (b.length : Int) := by omega
      simp (disch := omega) only [wk, tis, seval, reduceCtorEq, Nat.reduceEqDiff, rqs, hxl]
      by_cases h5 : 5 < n
      · by_cases h10 : n ≤ 1024
        · simp (disch := omega) only [wk, tis, seval, reduceCtorEq, Nat.reduceEqDiff, rqs, h5, h10]
          refine call_by (un) (by first | rfl | (simp only [tocvs, tocv, h5, h10]; rfl) | (simp only [tocvs, tocv, toboxes, tobox, updH_at, Nat.reduceEqDiff, ↓reduceIte, h5, h10]; rfl)) (by simp) ?_
          simp (disch := omega) only [wk, tis, seval, reduceCtorEq, Nat.reduceEqDiff, rqs, h5, h10]
          cases u with
          | true =>
            obtain rfl := hmu h5 h10 rfl
            simp (disch := omega) only [wk, tis, seval, reduceCtorEq, Nat.reduceEqDiff, rqs, h5, h10]
            refine call_by (ca) (by rfl) (by simp) ?_
            simp (disch := omega) only [wk, tis, seval, reduceCtorEq, Nat.reduceEqDiff, rqs]
            refine call_by (cbb) (by rfl) (by simp) ?_
            simp (disch := omega) only [wk, tis, seval, reduceCtorEq, Nat.reduceEqDiff, rqs]
            refine call_by (cc) (by rfl) (by simp) ?_
            simp (disch := omega) only [wk, tis, seval, reduceCtorEq, Nat.reduceEqDiff, rqs]
            refine call_by (cdd) (by rfl) (by simp) ?_
            simp (disch := omega) only [wk, tis, seval, reduceCtorEq, Nat.reduceEqDiff, rqs]
            refine call_by (cf) (by rfl) (by simp) ?_
            simp (disch := omega) only [wk, tis, seval, reduceCtorEq, Nat.reduceEqDiff, rqs]
            obtain ⟨rfl, rfl, rfl⟩ := na rfl
            obtain rfl := nd rfl
            refine call_by (ia) (by rfl) (by simp) ?_
            simp (disch := omega) only [wk, tis, seval, reduceCtorEq, Nat.reduceEqDiff, rqs]
            refine call_by (ib) (by rfl) (by simp) ?_
            simp (disch := omega) only [wk, tis, seval, reduceCtorEq, Nat.reduceEqDiff, rqs]
            refine call_by (ic) (by rfl) (by simp) ?_
            simp (disch := omega) only [wk, tis, seval, reduceCtorEq, Nat.reduceEqDiff, rqs]
            refine call_by (idd) (by rfl) (by simp) ?_
            simp (disch := omega) only [wk, tis, seval, reduceCtorEq, Nat.reduceEqDiff, rqs]
            rcases hP with ⟨h, _⟩ | ⟨_, rfl, rfl⟩ | ⟨h, _⟩
            · cases h
            · simp (disch := omega) only [wk, tis, seval, reduceCtorEq, Nat.reduceEqDiff, rqs]
              try rfl
            · cases h
          | false =>
            have hmn := hmv h5 h10 rfl
            simp (disch := omega) only [wk, tis, seval, reduceCtorEq, Nat.reduceEqDiff, rqs, h5, h10, hmn]
            refine call_by (ca) (by rfl) (by simp) ?_
            simp (disch := omega) only [wk, tis, seval, reduceCtorEq, Nat.reduceEqDiff, rqs]
            refine call_by (cbb) (by rfl) (by simp) ?_
            simp (disch := omega) only [wk, tis, seval, reduceCtorEq, Nat.reduceEqDiff, rqs]
            refine call_by (cc) (by rfl) (by simp) ?_
            simp (disch := omega) only [wk, tis, seval, reduceCtorEq, Nat.reduceEqDiff, rqs]
            refine call_by (cdd) (by rfl) (by simp) ?_
            simp (disch := omega) only [wk, tis, seval, reduceCtorEq, Nat.reduceEqDiff, rqs]
            refine call_by (cf) (by rfl) (by simp) ?_
            simp (disch := omega) only [wk, tis, seval, reduceCtorEq, Nat.reduceEqDiff, rqs]
            obtain ⟨rfl, rfl, rfl⟩ := na rfl
            obtain rfl := nd rfl
            refine call_by (ia) (by rfl) (by simp) ?_
            simp (disch := omega) only [wk, tis, seval, reduceCtorEq, Nat.reduceEqDiff, rqs]
            refine call_by (ib) (by rfl) (by simp) ?_
            simp (disch := omega) only [wk, tis, seval, reduceCtorEq, Nat.reduceEqDiff, rqs]
            refine call_by (ic) (by rfl) (by simp) ?_
            simp (disch := omega) only [wk, tis, seval, reduceCtorEq, Nat.reduceEqDiff, rqs]
            refine call_by (idd) (by rfl) (by simp) ?_
            simp (disch := omega) only [wk, tis, seval, reduceCtorEq, Nat.reduceEqDiff, rqs]
            rcases hP with ⟨h, _⟩ | ⟨_, rfl, rfl⟩ | ⟨h, _⟩
            · cases h
            · simp (disch := omega) only [wk, tis, seval, reduceCtorEq, Nat.reduceEqDiff, rqs]
              try rfl
            · cases h
        · obtain rfl := hme (.inr (by omega))
          simp (disch := omega) only [wk, tis, seval, reduceCtorEq, Nat.reduceEqDiff, rqs, h5, h10]
          refine call_by (ca) (by rfl) (by simp) ?_
          simp (disch := omega) only [wk, tis, seval, reduceCtorEq, Nat.reduceEqDiff, rqs]
          refine call_by (cbb) (by rfl) (by simp) ?_
          simp (disch := omega) only [wk, tis, seval, reduceCtorEq, Nat.reduceEqDiff, rqs]
          refine call_by (cc) (by rfl) (by simp) ?_
          simp (disch := omega) only [wk, tis, seval, reduceCtorEq, Nat.reduceEqDiff, rqs]
          refine call_by (cdd) (by rfl) (by simp) ?_
          simp (disch := omega) only [wk, tis, seval, reduceCtorEq, Nat.reduceEqDiff, rqs]
          refine call_by (cf) (by rfl) (by simp) ?_
          simp (disch := omega) only [wk, tis, seval, reduceCtorEq, Nat.reduceEqDiff, rqs]
          obtain ⟨rfl, rfl, rfl⟩ := na rfl
          obtain rfl := nd rfl
          refine call_by (ia) (by rfl) (by simp) ?_
          simp (disch := omega) only [wk, tis, seval, reduceCtorEq, Nat.reduceEqDiff, rqs]
          refine call_by (ib) (by rfl) (by simp) ?_
          simp (disch := omega) only [wk, tis, seval, reduceCtorEq, Nat.reduceEqDiff, rqs]
          refine call_by (ic) (by rfl) (by simp) ?_
          simp (disch := omega) only [wk, tis, seval, reduceCtorEq, Nat.reduceEqDiff, rqs]
          refine call_by (idd) (by rfl) (by simp) ?_
          simp (disch := omega) only [wk, tis, seval, reduceCtorEq, Nat.reduceEqDiff, rqs]
          rcases hP with ⟨h, _⟩ | ⟨_, rfl, rfl⟩ | ⟨h, _⟩
          · cases h
          · simp (disch := omega) only [wk, tis, seval, reduceCtorEq, Nat.reduceEqDiff, rqs]
            try rfl
          · cases h
      · obtain rfl := hme (.inl (by omega))
        simp (disch := omega) only [wk, tis, seval, reduceCtorEq, Nat.reduceEqDiff, rqs, h5]
        refine call_by (ca) (by rfl) (by simp) ?_
        simp (disch := omega) only [wk, tis, seval, reduceCtorEq, Nat.reduceEqDiff, rqs]
        refine call_by (cbb) (by rfl) (by simp) ?_
        simp (disch := omega) only [wk, tis, seval, reduceCtorEq, Nat.reduceEqDiff, rqs]
        refine call_by (cc) (by rfl) (by simp) ?_
        simp (disch := omega) only [wk, tis, seval, reduceCtorEq, Nat.reduceEqDiff, rqs]
        refine call_by (cdd) (by rfl) (by simp) ?_
        simp (disch := omega) only [wk, tis, seval, reduceCtorEq, Nat.reduceEqDiff, rqs]
        refine call_by (cf) (by rfl) (by simp) ?_
        simp (disch := omega) only [wk, tis, seval, reduceCtorEq, Nat.reduceEqDiff, rqs]
        obtain ⟨rfl, rfl, rfl⟩ := na rfl
        obtain rfl := nd rfl
        refine call_by (ia) (by rfl) (by simp) ?_
        simp (disch := omega) only [wk, tis, seval, reduceCtorEq, Nat.reduceEqDiff, rqs]
        refine call_by (ib) (by rfl) (by simp) ?_
        simp (disch := omega) only [wk, tis, seval, reduceCtorEq, Nat.reduceEqDiff, rqs]
        refine call_by (ic) (by rfl) (by simp) ?_
        simp (disch := omega) only [wk, tis, seval, reduceCtorEq, Nat.reduceEqDiff, rqs]
        refine call_by (idd) (by rfl) (by simp) ?_
        simp (disch := omega) only [wk, tis, seval, reduceCtorEq, Nat.reduceEqDiff, rqs]
        rcases hP with ⟨h, _⟩ | ⟨_, rfl, rfl⟩ | ⟨h, _⟩
        · cases h
        · simp (disch := omega) only [wk, tis, seval, reduceCtorEq, Nat.reduceEqDiff, rqs]
          try rfl
        · cases h
  | true =>
    refine call_by (g1) (by rfl) (by simp) ?_
    simp (disch := omega) only [wk, tis, seval, reduceCtorEq, Nat.reduceEqDiff, rqs]
    refine call_by (g2) (by rfl) (by simp) ?_
    simp (disch := omega) only [wk, tis, seval, reduceCtorEq, Nat.reduceEqDiff, rqs]
    refine call_by (z0) (by rfl) (by simp) ?_
    simp (disch := omega) only [wk, tis, seval, reduceCtorEq, Nat.reduceEqDiff, rqs]
    rcases hx with ⟨hb0, rfl⟩ | ⟨hb0, rfl⟩
    · have hxl : ¬ 0 < (b.length : Int) := by omega
      simp (disch := omega) only [wk, tis, seval, reduceCtorEq, Nat.reduceEqDiff, rqs, hxl]
      refine call_by (ok) (by first | rfl | (simp only [tocvs, tocv, hxl]; rfl) | (simp only [tocvs, tocv, toboxes, tobox, updH_at, Nat.reduceEqDiff, ↓reduceIte, hxl]; rfl)) (by simp) ?_
      simp (disch := omega) only [wk, tis, seval, reduceCtorEq, Nat.reduceEqDiff, rqs, hxl]
      by_cases h5 : 5 < n
      · by_cases h10 : n ≤ 1024
        · simp (disch := omega) only [wk, tis, seval, reduceCtorEq, Nat.reduceEqDiff, rqs, h5, h10]
          refine call_by (un) (by first | rfl | (simp only [tocvs, tocv, h5, h10]; rfl) | (simp only [tocvs, tocv, toboxes, tobox, updH_at, Nat.reduceEqDiff, ↓reduceIte, h5, h10]; rfl)) (by simp) ?_
          simp (disch := omega) only [wk, tis, seval, reduceCtorEq, Nat.reduceEqDiff, rqs, h5, h10]
          cases u with
          | true =>
            obtain rfl := hmu h5 h10 rfl
            simp (disch := omega) only [wk, tis, seval, reduceCtorEq, Nat.reduceEqDiff, rqs, h5, h10]
            refine call_by (ca) (by rfl) (by simp) ?_
            simp (disch := omega) only [wk, tis, seval, reduceCtorEq, Nat.reduceEqDiff, rqs]
            refine call_by (cbb) (by rfl) (by simp) ?_
            simp (disch := omega) only [wk, tis, seval, reduceCtorEq, Nat.reduceEqDiff, rqs]
            refine call_by (cc) (by rfl) (by simp) ?_
            simp (disch := omega) only [wk, tis, seval, reduceCtorEq, Nat.reduceEqDiff, rqs]
            refine call_by (cdd) (by rfl) (by simp) ?_
            simp (disch := omega) only [wk, tis, seval, reduceCtorEq, Nat.reduceEqDiff, rqs]
            refine call_by (cf) (by rfl) (by simp) ?_
            simp (disch := omega) only [wk, tis, seval, reduceCtorEq, Nat.reduceEqDiff, rqs]
            cases gb with
            | false =>
              obtain ⟨rfl, rfl, rfl⟩ := na rfl
              cases ox with
              | false =>
                obtain rfl := nd rfl
                simp (disch := omega) only [wk, tis, seval, reduceCtorEq, Nat.reduceEqDiff, rqs]
                refine call_by (ia) (by rfl) (by simp) ?_
                simp (disch := omega) only [wk, tis, seval, reduceCtorEq, Nat.reduceEqDiff, rqs]
                refine call_by (ib) (by rfl) (by simp) ?_
                simp (disch := omega) only [wk, tis, seval, reduceCtorEq, Nat.reduceEqDiff, rqs]
                refine call_by (ic) (by rfl) (by simp) ?_
                simp (disch := omega) only [wk, tis, seval, reduceCtorEq, Nat.reduceEqDiff, rqs]
                refine call_by (idd) (by rfl) (by simp) ?_
                simp (disch := omega) only [wk, tis, seval, reduceCtorEq, Nat.reduceEqDiff, rqs]
                rcases hP with ⟨_, h, rfl, rfl⟩ | ⟨h, _⟩ | ⟨_, h1, h2, rfl, cp, ip⟩
                · by_cases h1 : m < 0
                  · simp (disch := omega) only [wk, tis, seval, reduceCtorEq, Nat.reduceEqDiff, rqs, h1]
                    first | done | rfl | (exfalso; omega)
                  · have h2 : 1024 < m := h.resolve_left h1
                    simp (disch := omega) only [wk, tis, seval, reduceCtorEq, Nat.reduceEqDiff, rqs, h1, h2]
                    first | done | rfl | (exfalso; omega)
                · cases h
                · have h1' : ¬ m < 0 := by omega
                  have h2' : ¬ 1024 < m := by omega
                  simp (disch := omega) only [wk, tis, seval, reduceCtorEq, Nat.reduceEqDiff, rqs, h1', h2']
                  refine call_by (cp) (by first | rfl | (simp only [tocvs, tocv, h1', h2']; rfl) | (simp only [tocvs, tocv, toboxes, tobox, updH_at, Nat.reduceEqDiff, ↓reduceIte, h1', h2']; rfl)) (by simp) ?_
                  simp (disch := omega) only [wk, tis, seval, reduceCtorEq, Nat.reduceEqDiff, rqs, h1', h2']
                  refine call_by (ip) (by first | rfl | (simp only [tocvs, tocv, h1', h2']; rfl) | (simp only [tocvs, tocv, toboxes, tobox, updH_at, Nat.reduceEqDiff, ↓reduceIte, h1', h2']; rfl)) (by simp) ?_
                  simp (disch := omega) only [wk, tis, seval, reduceCtorEq, Nat.reduceEqDiff, rqs, h1', h2']
                  try rfl
              | true =>
                have pd := pd rfl
                simp (disch := omega) only [wk, tis, seval, reduceCtorEq, Nat.reduceEqDiff, rqs]
                refine call_by (pd) (by rfl) (by simp) ?_
                simp (disch := omega) only [wk, tis, seval, reduceCtorEq, Nat.reduceEqDiff, rqs]
                refine call_by (ia) (by rfl) (by simp) ?_
                simp (disch := omega) only [wk, tis, seval, reduceCtorEq, Nat.reduceEqDiff, rqs]
                refine call_by (ib) (by rfl) (by simp) ?_
                simp (disch := omega) only [wk, tis, seval, reduceCtorEq, Nat.reduceEqDiff, rqs]
                refine call_by (ic) (by rfl) (by simp) ?_
                simp (disch := omega) only [wk, tis, seval, reduceCtorEq, Nat.reduceEqDiff, rqs]
                refine call_by (idd) (by rfl) (by simp) ?_
                simp (disch := omega) only [wk, tis, seval, reduceCtorEq, Nat.reduceEqDiff, rqs]
                rcases hP with ⟨_, h, rfl, rfl⟩ | ⟨h, _⟩ | ⟨_, h1, h2, rfl, cp, ip⟩
                · by_cases h1 : m < 0
                  · simp (disch := omega) only [wk, tis, seval, reduceCtorEq, Nat.reduceEqDiff, rqs, h1]
                    first | done | rfl | (exfalso; omega)
                  · have h2 : 1024 < m := h.resolve_left h1
                    simp (disch := omega) only [wk, tis, seval, reduceCtorEq, Nat.reduceEqDiff, rqs, h1, h2]
                    first | done | rfl | (exfalso; omega)
                · cases h
                · have h1' : ¬ m < 0 := by omega
                  have h2' : ¬ 1024 < m := by omega
                  simp (disch := omega) only [wk, tis, seval, reduceCtorEq, Nat.reduceEqDiff, rqs, h1', h2']
                  refine call_by (cp) (by first | rfl | (simp only [tocvs, tocv, h1', h2']; rfl) | (simp only [tocvs, tocv, toboxes, tobox, updH_at, Nat.reduceEqDiff, ↓reduceIte, h1', h2']; rfl)) (by simp) ?_
                  simp (disch := omega) only [wk, tis, seval, reduceCtorEq, Nat.reduceEqDiff, rqs, h1', h2']
                  refine call_by (ip) (by first | rfl | (simp only [tocvs, tocv, h1', h2']; rfl) | (simp only [tocvs, tocv, toboxes, tobox, updH_at, Nat.reduceEqDiff, ↓reduceIte, h1', h2']; rfl)) (by simp) ?_
                  simp (disch := omega) only [wk, tis, seval, reduceCtorEq, Nat.reduceEqDiff, rqs, h1', h2']
                  try rfl
            | true =>
              obtain ⟨pa, pb, pc⟩ := pp rfl
              cases ox with
              | false => cases hox rfl
              | true =>
                have pd := pd rfl
                simp (disch := omega) only [wk, tis, seval, reduceCtorEq, Nat.reduceEqDiff, rqs]
                refine call_by (hone_ok) (by rfl) (by simp) ?_
                simp (disch := omega) only [wk, tis, seval, reduceCtorEq, Nat.reduceEqDiff, rqs]
                refine call_by (pa) (by rfl) (by simp) ?_
                simp (disch := omega) only [wk, tis, seval, reduceCtorEq, Nat.reduceEqDiff, rqs]
                refine call_by (hm1_ok) (by rfl) (by simp) ?_
                simp (disch := omega) only [wk, tis, seval, reduceCtorEq, Nat.reduceEqDiff, rqs]
                refine call_by (pb) (by rfl) (by simp) ?_
                simp (disch := omega) only [wk, tis, seval, reduceCtorEq, Nat.reduceEqDiff, rqs]
                refine call_by (pc) (by rfl) (by simp) ?_
                simp (disch := omega) only [wk, tis, seval, reduceCtorEq, Nat.reduceEqDiff, rqs]
                refine call_by (pd) (by rfl) (by simp) ?_
                simp (disch := omega) only [wk, tis, seval, reduceCtorEq, Nat.reduceEqDiff, rqs]
                refine call_by (ia) (by rfl) (by simp) ?_
                simp (disch := omega) only [wk, tis, seval, reduceCtorEq, Nat.reduceEqDiff, rqs]
                refine call_by (ib) (by rfl) (by simp) ?_
                simp (disch := omega) only [wk, tis, seval, reduceCtorEq, Nat.reduceEqDiff, rqs]
                refine call_by (ic) (by rfl) (by simp) ?_
                simp (disch := omega) only [wk, tis, seval, reduceCtorEq, Nat.reduceEqDiff, rqs]
                refine call_by (idd) (by rfl) (by simp) ?_
                simp (disch := omega) only [wk, tis, seval, reduceCtorEq, Nat.reduceEqDiff, rqs]
                rcases hP with ⟨_, h, rfl, rfl⟩ | ⟨h, _⟩ | ⟨_, h1, h2, rfl, cp, ip⟩
                · by_cases h1 : m < 0
                  · simp (disch := omega) only [wk, tis, seval, reduceCtorEq, Nat.reduceEqDiff, rqs, h1]
                    first | done | rfl | (exfalso; omega)
                  · have h2 : 1024 < m := h.resolve_left h1
                    simp (disch := omega) only [wk, tis, seval, reduceCtorEq, Nat.reduceEqDiff, rqs, h1, h2]
                    first | done | rfl | (exfalso; omega)
                · cases h
                · have h1' : ¬ m < 0 := by omega
                  have h2' : ¬ 1024 < m := by omega
                  simp (disch := omega) only [wk, tis, seval, reduceCtorEq, Nat.reduceEqDiff, rqs, h1', h2']
                  refine call_by (cp) (by first | rfl | (simp only [tocvs, tocv, h1', h2']; rfl) | (simp only [tocvs, tocv, toboxes, tobox, updH_at, Nat.reduceEqDiff, ↓reduceIte, h1', h2']; rfl)) (by simp) ?_
                  simp (disch := omega) only [wk, tis, seval, reduceCtorEq, Nat.reduceEqDiff, rqs, h1', h2']
                  refine call_by (ip) (by first | rfl | (simp only [tocvs, tocv, h1', h2']; rfl) | (simp only [tocvs, tocv, toboxes, tobox, updH_at, Nat.reduceEqDiff, ↓reduceIte, h1', h2']; rfl)) (by simp) ?_
                  simp (disch := omega) only [wk, tis, seval, reduceCtorEq, Nat.reduceEqDiff, rqs, h1', h2']
                  try rfl
          | false =>
            have hmn := hmv h5 h10 rfl
            simp (disch := omega) only [wk, tis, seval, reduceCtorEq, Nat.reduceEqDiff, rqs, h5, h10, hmn]
            refine call_by (ca) (by rfl) (by simp) ?_
            simp (disch := omega) only [wk, tis, seval, reduceCtorEq, Nat.reduceEqDiff, rqs]
            refine call_by (cbb) (by rfl) (by simp) ?_
            simp (disch := omega) only [wk, tis, seval, reduceCtorEq, Nat.reduceEqDiff, rqs]
            refine call_by (cc) (by rfl) (by simp) ?_
            simp (disch := omega) only [wk, tis, seval, reduceCtorEq, Nat.reduceEqDiff, rqs]
            refine call_by (cdd) (by rfl) (by simp) ?_
            simp (disch := omega) only [wk, tis, seval, reduceCtorEq, Nat.reduceEqDiff, rqs]
            refine call_by (cf) (by rfl) (by simp) ?_
            simp (disch := omega) only [wk, tis, seval, reduceCtorEq, Nat.reduceEqDiff, rqs]
            cases gb with
            | false =>
              obtain ⟨rfl, rfl, rfl⟩ := na rfl
              cases ox with
              | false =>
                obtain rfl := nd rfl
                simp (disch := omega) only [wk, tis, seval, reduceCtorEq, Nat.reduceEqDiff, rqs]
                refine call_by (ia) (by rfl) (by simp) ?_
                simp (disch := omega) only [wk, tis, seval, reduceCtorEq, Nat.reduceEqDiff, rqs]
                refine call_by (ib) (by rfl) (by simp) ?_
                simp (disch := omega) only [wk, tis, seval, reduceCtorEq, Nat.reduceEqDiff, rqs]
                refine call_by (ic) (by rfl) (by simp) ?_
                simp (disch := omega) only [wk, tis, seval, reduceCtorEq, Nat.reduceEqDiff, rqs]
                refine call_by (idd) (by rfl) (by simp) ?_
                simp (disch := omega) only [wk, tis, seval, reduceCtorEq, Nat.reduceEqDiff, rqs]
                rcases hP with ⟨_, h, rfl, rfl⟩ | ⟨h, _⟩ | ⟨_, h1, h2, rfl, cp, ip⟩
                · by_cases h1 : m < 0
                  · simp (disch := omega) only [wk, tis, seval, reduceCtorEq, Nat.reduceEqDiff, rqs, h1]
                    first | done | rfl | (exfalso; omega)
                  · have h2 : 1024 < m := h.resolve_left h1
                    simp (disch := omega) only [wk, tis, seval, reduceCtorEq, Nat.reduceEqDiff, rqs, h1, h2]
                    first | done | rfl | (exfalso; omega)
                · cases h
                · have h1' : ¬ m < 0 := by omega
                  have h2' : ¬ 1024 < m := by omega
                  simp (disch := omega) only [wk, tis, seval, reduceCtorEq, Nat.reduceEqDiff, rqs, h1', h2']
                  refine call_by (cp) (by first | rfl | (simp only [tocvs, tocv, h1', h2']; rfl) | (simp only [tocvs, tocv, toboxes, tobox, updH_at, Nat.reduceEqDiff, ↓reduceIte, h1', h2']; rfl)) (by simp) ?_
                  simp (disch := omega) only [wk, tis, seval, reduceCtorEq, Nat.reduceEqDiff, rqs, h1', h2']
                  refine call_by (ip) (by first | rfl | (simp only [tocvs, tocv, h1', h2']; rfl) | (simp only [tocvs, tocv, toboxes, tobox, updH_at, Nat.reduceEqDiff, ↓reduceIte, h1', h2']; rfl)) (by simp) ?_
                  simp (disch := omega) only [wk, tis, seval, reduceCtorEq, Nat.reduceEqDiff, rqs, h1', h2']
                  try rfl
              | true =>
                have pd := pd rfl
                simp (disch := omega) only [wk, tis, seval, reduceCtorEq, Nat.reduceEqDiff, rqs]
                refine call_by (pd) (by rfl) (by simp) ?_
                simp (disch := omega) only [wk, tis, seval, reduceCtorEq, Nat.reduceEqDiff, rqs]
                refine call_by (ia) (by rfl) (by simp) ?_
                simp (disch := omega) only [wk, tis, seval, reduceCtorEq, Nat.reduceEqDiff, rqs]
                refine call_by (ib) (by rfl) (by simp) ?_
                simp (disch := omega) only [wk, tis, seval, reduceCtorEq, Nat.reduceEqDiff, rqs]
                refine call_by (ic) (by rfl) (by simp) ?_
                simp (disch := omega) only [wk, tis, seval, reduceCtorEq, Nat.reduceEqDiff, rqs]
                refine call_by (idd) (by rfl) (by simp) ?_
                simp (disch := omega) only [wk, tis, seval, reduceCtorEq, Nat.reduceEqDiff, rqs]
                rcases hP with ⟨_, h, rfl, rfl⟩ | ⟨h, _⟩ | ⟨_, h1, h2, rfl, cp, ip⟩
                · by_cases h1 : m < 0
                  · simp (disch := omega) only [wk, tis, seval, reduceCtorEq, Nat.reduceEqDiff, rqs, h1]
                    first | done | rfl | (exfalso; omega)
                  · have h2 : 1024 < m := h.resolve_left h1
                    simp (disch := omega) only [wk, tis, seval, reduceCtorEq, Nat.reduceEqDiff, rqs, h1, h2]
                    first | done | rfl | (exfalso; omega)
                · cases h
                · have h1' : ¬ m < 0 := by omega
                  have h2' : ¬ 1024 < m := by omega
                  simp (disch := omega) only [wk, tis, seval, reduceCtorEq, Nat.reduceEqDiff, rqs, h1', h2']
                  refine call_by (cp) (by first | rfl | (simp only [tocvs, tocv, h1', h2']; rfl) | (simp only [tocvs, tocv, toboxes, tobox, updH_at, Nat.reduceEqDiff, ↓reduceIte, h1', h2']; rfl)) (by simp) ?_
                  simp (disch := omega) only [wk, tis, seval, reduceCtorEq, Nat.reduceEqDiff, rqs, h1', h2']
                  refine call_by (ip) (by first | rfl | (simp only [tocvs, tocv, h1', h2']; rfl) | (simp only [tocvs, tocv, toboxes, tobox, updH_at, Nat.reduceEqDiff, ↓reduceIte, h1', h2']; rfl)) (by simp) ?_
                  simp (disch := omega) only [wk, tis, seval, reduceCtorEq, Nat.reduceEqDiff, rqs, h1', h2']
                  try rfl
            | true =>
              obtain ⟨pa, pb, pc⟩ := pp rfl
              cases ox with
              | false => cases hox rfl
              | true =>
                have pd := pd rfl
                simp (disch := omega) only [wk, tis, seval, reduceCtorEq, Nat.reduceEqDiff, rqs]
                refine call_by (hone_ok) (by rfl) (by simp) ?_
                simp (disch := omega) only [wk, tis, seval, reduceCtorEq, Nat.reduceEqDiff, rqs]
                refine call_by (pa) (by rfl) (by simp) ?_
                simp (disch := omega) only [wk, tis, seval, reduceCtorEq, Nat.reduceEqDiff, rqs]
                refine call_by (hm1_ok) (by rfl) (by simp) ?_
                simp (disch := omega) only [wk, tis, seval, reduceCtorEq, Nat.reduceEqDiff, rqs]
                refine call_by (pb) (by rfl) (by simp) ?_
                simp (disch := omega) only [wk, tis, seval, reduceCtorEq, Nat.reduceEqDiff, rqs]
                refine call_by (pc) (by rfl) (by simp) ?_
                simp (disch := omega) only [wk, tis, seval, reduceCtorEq, Nat.reduceEqDiff, rqs]
                refine call_by (pd) (by rfl) (by simp) ?_
                simp (disch := omega) only [wk, tis, seval, reduceCtorEq, Nat.reduceEqDiff, rqs]
                refine call_by (ia) (by rfl) (by simp) ?_
                simp (disch := omega) only [wk, tis, seval, reduceCtorEq, Nat.reduceEqDiff, rqs]
                refine call_by (ib) (by rfl) (by simp) ?_
                simp (disch := omega) only [wk, tis, seval, reduceCtorEq, Nat.reduceEqDiff, rqs]
                refine call_by (ic) (by rfl) (by simp) ?_
                simp (disch := omega) only [wk, tis, seval, reduceCtorEq, Nat.reduceEqDiff, rqs]
                refine call_by (idd) (by rfl) (by simp) ?_
                simp (disch := omega) only [wk, tis, seval, reduceCtorEq, Nat.reduceEqDiff, rqs]
                rcases hP with ⟨_, h, rfl, rfl⟩ | ⟨h, _⟩ | ⟨_, h1, h2, rfl, cp, ip⟩
                · by_cases h1 : m < 0
                  · simp (disch := omega) only [wk, tis, seval, reduceCtorEq, Nat.reduceEqDiff, rqs, h1]
                    first | done | rfl | (exfalso; omega)
                  · have h2 : 1024 < m := h.resolve_left h1
                    simp (disch := omega) only [wk, tis, seval, reduceCtorEq, Nat.reduceEqDiff, rqs, h1, h2]
                    first | done | rfl | (exfalso; omega)
                · cases h
                · have h1' : ¬ m < 0 := by omega
                  have h2' : ¬ 1024 < m := by omega
                  simp (disch := omega) only [wk, tis, seval, reduceCtorEq, Nat.reduceEqDiff, rqs, h1', h2']
                  refine call_by (cp) (by first | rfl | (simp only [tocvs, tocv, h1', h2']; rfl) | (simp only [tocvs, tocv, toboxes, tobox, updH_at, Nat.reduceEqDiff, ↓reduceIte, h1', h2']; rfl)) (by simp) ?_
                  simp (disch := omega) only [wk, tis, seval, reduceCtorEq, Nat.reduceEqDiff, rqs, h1', h2']
                  refine call_by (ip) (by first | rfl | (simp only [tocvs, tocv, h1', h2']; rfl) | (simp only [tocvs, tocv, toboxes, tobox, updH_at, Nat.reduceEqDiff, ↓reduceIte, h1', h2']; rfl)) (by simp) ?_
                  simp (disch := omega) only [wk, tis, seval, reduceCtorEq, Nat.reduceEqDiff, rqs, h1', h2']
                  try rfl
        · obtain rfl := hme (.inr (by omega))
          simp (disch := omega) only [wk, tis, seval, reduceCtorEq, Nat.reduceEqDiff, rqs, h5, h10]
          refine call_by (ca) (by rfl) (by simp) ?_
          simp (disch := omega) only [wk, tis, seval, reduceCtorEq, Nat.reduceEqDiff, rqs]
          refine call_by (cbb) (by rfl) (by simp) ?_
          simp (disch := omega) only [wk, tis, seval, reduceCtorEq, Nat.reduceEqDiff, rqs]
          refine call_by (cc) (by rfl) (by simp) ?_
          simp (disch := omega) only [wk, tis, seval, reduceCtorEq, Nat.reduceEqDiff, rqs]
          refine call_by (cdd) (by rfl) (by simp) ?_
          simp (disch := omega) only [wk, tis, seval, reduceCtorEq, Nat.reduceEqDiff, rqs]
          refine call_by (cf) (by rfl) (by simp) ?_
          simp (disch := omega) only [wk, tis, seval, reduceCtorEq, Nat.reduceEqDiff, rqs]
          cases gb with
          | false =>
            obtain ⟨rfl, rfl, rfl⟩ := na rfl
            cases ox with
            | false =>
              obtain rfl := nd rfl
              simp (disch := omega) only [wk, tis, seval, reduceCtorEq, Nat.reduceEqDiff, rqs]
              refine call_by (ia) (by rfl) (by simp) ?_
              simp (disch := omega) only [wk, tis, seval, reduceCtorEq, Nat.reduceEqDiff, rqs]
              refine call_by (ib) (by rfl) (by simp) ?_
              simp (disch := omega) only [wk, tis, seval, reduceCtorEq, Nat.reduceEqDiff, rqs]
              refine call_by (ic) (by rfl) (by simp) ?_
              simp (disch := omega) only [wk, tis, seval, reduceCtorEq, Nat.reduceEqDiff, rqs]
              refine call_by (idd) (by rfl) (by simp) ?_
              simp (disch := omega) only [wk, tis, seval, reduceCtorEq, Nat.reduceEqDiff, rqs]
              rcases hP with ⟨_, h, rfl, rfl⟩ | ⟨h, _⟩ | ⟨_, h1, h2, rfl, cp, ip⟩
              · by_cases h1 : m < 0
                · simp (disch := omega) only [wk, tis, seval, reduceCtorEq, Nat.reduceEqDiff, rqs, h1]
                  first | done | rfl | (exfalso; omega)
                · have h2 : 1024 < m := h.resolve_left h1
                  simp (disch := omega) only [wk, tis, seval, reduceCtorEq, Nat.reduceEqDiff, rqs, h1, h2]
                  first | done | rfl | (exfalso; omega)
              · cases h
              · exfalso; omega
            | true =>
              have pd := pd rfl
              simp (disch := omega) only [wk, tis, seval, reduceCtorEq, Nat.reduceEqDiff, rqs]
              refine call_by (pd) (by rfl) (by simp) ?_
              simp (disch := omega) only [wk, tis, seval, reduceCtorEq, Nat.reduceEqDiff, rqs]
              refine call_by (ia) (by rfl) (by simp) ?_
              simp (disch := omega) only [wk, tis, seval, reduceCtorEq, Nat.reduceEqDiff, rqs]
              refine call_by (ib) (by rfl) (by simp) ?_
              simp (disch := omega) only [wk, tis, seval, reduceCtorEq, Nat.reduceEqDiff, rqs]
              refine call_by (ic) (by rfl) (by simp) ?_
              simp (disch := omega) only [wk, tis, seval, reduceCtorEq, Nat.reduceEqDiff, rqs]
              refine call_by (idd) (by rfl) (by simp) ?_
              simp (disch := omega) only [wk, tis, seval, reduceCtorEq, Nat.reduceEqDiff, rqs]
              rcases hP with ⟨_, h, rfl, rfl⟩ | ⟨h, _⟩ | ⟨_, h1, h2, rfl, cp, ip⟩
              · by_cases h1 : m < 0
                · simp (disch := omega) only [wk, tis, seval, reduceCtorEq, Nat.reduceEqDiff, rqs, h1]
                  first | done | rfl | (exfalso; omega)
                · have h2 : 1024 < m := h.resolve_left h1
                  simp (disch := omega) only [wk, tis, seval, reduceCtorEq, Nat.reduceEqDiff, rqs, h1, h2]
                  first | done | rfl | (exfalso; omega)
              · cases h
              · exfalso; omega
          | true =>
            obtain ⟨pa, pb, pc⟩ := pp rfl
            cases ox with
            | false => cases hox rfl
            | true =>
              have pd := pd rfl
              simp (disch := omega) only [wk, tis, seval, reduceCtorEq, Nat.reduceEqDiff, rqs]
              refine call_by (hone_ok) (by rfl) (by simp) ?_
              simp (disch := omega) only [wk, tis, seval, reduceCtorEq, Nat.reduceEqDiff, rqs]
              refine call_by (pa) (by rfl) (by simp) ?_
              simp (disch := omega) only [wk, tis, seval, reduceCtorEq, Nat.reduceEqDiff, rqs]
              refine call_by (hm1_ok) (by rfl) (by simp) ?_
              simp (disch := omega) only [wk, tis, seval, reduceCtorEq, Nat.reduceEqDiff, rqs]
              refine call_by (pb) (by rfl) (by simp) ?_
              simp (disch := omega) only [wk, tis, seval, reduceCtorEq, Nat.reduceEqDiff, rqs]
              refine call_by (pc) (by rfl) (by simp) ?_
              simp (disch := omega) only [wk, tis, seval, reduceCtorEq, Nat.reduceEqDiff, rqs]
              refine call_by (pd) (by rfl) (by simp) ?_
              simp (disch := omega) only [wk, tis, seval, reduceCtorEq, Nat.reduceEqDiff, rqs]
              refine call_by (ia) (by rfl) (by simp) ?_
              simp (disch := omega) only [wk, tis, seval, reduceCtorEq, Nat.reduceEqDiff, rqs]
              refine call_by (ib) (by rfl) (by simp) ?_
              simp (disch := omega) only [wk, tis, seval, reduceCtorEq, Nat.reduceEqDiff, rqs]
              refine call_by (ic) (by rfl) (by simp) ?_
              simp (disch := omega) only [wk, tis, seval, reduceCtorEq, Nat.reduceEqDiff, rqs]
              refine call_by (idd) (by rfl) (by simp) ?_
              simp (disch := omega) only [wk, tis, seval, reduceCtorEq, Nat.reduceEqDiff, rqs]
              rcases hP with ⟨_, h, rfl, rfl⟩ | ⟨h, _⟩ | ⟨_, h1, h2, rfl, cp, ip⟩
              · by_cases h1 : m < 0
                · simp (disch := omega) only [wk, tis, seval, reduceCtorEq, Nat.reduceEqDiff, rqs, h1]
                  first | done | rfl | (exfalso; omega)
                · have h2 : 1024 < m := h.resolve_left h1
                  simp (disch := omega) only [wk, tis, seval, reduceCtorEq, Nat.reduceEqDiff, rqs, h1, h2]
                  first | done | rfl | (exfalso; omega)
              · cases h
              · exfalso; omega
      · obtain rfl := hme (.inl (by omega))
        simp (disch := omega) only [wk, tis, seval, reduceCtorEq, Nat.reduceEqDiff, rqs, h5]
        refine call_by (ca) (by rfl) (by simp) ?_
        simp (disch := omega) only [wk, tis, seval, reduceCtorEq, Nat.reduceEqDiff, rqs]
        refine call_by (cbb) (by rfl) (by simp) ?_
        simp (disch := omega) only [wk, tis, seval, reduceCtorEq, Nat.reduceEqDiff, rqs]
        refine call_by (cc) (by rfl) (by simp) ?_
        simp (disch := omega) only [wk, tis, seval, reduceCtorEq, Nat.reduceEqDiff, rqs]
        refine call_by (cdd) (by rfl) (by simp) ?_
        simp (disch := omega) only [wk, tis, seval, reduceCtorEq, Nat.reduceEqDiff, rqs]
        refine call_by (cf) (by rfl) (by simp) ?_
        simp (disch := omega) only [wk, tis, seval, reduceCtorEq, Nat.reduceEqDiff, rqs]
        cases gb with
        | false =>
          obtain ⟨rfl, rfl, rfl⟩ := na rfl
          cases ox with
          | false =>
            obtain rfl := nd rfl
            simp (disch := omega) only [wk, tis, seval, reduceCtorEq, Nat.reduceEqDiff, rqs]
            refine call_by (ia) (by rfl) (by simp) ?_
            simp (disch := omega) only [wk, tis, seval, reduceCtorEq, Nat.reduceEqDiff, rqs]
            refine call_by (ib) (by rfl) (by simp) ?_
            simp (disch := omega) only [wk, tis, seval, reduceCtorEq, Nat.reduceEqDiff, rqs]
            refine call_by (ic) (by rfl) (by simp) ?_
            simp (disch := omega) only [wk, tis, seval, reduceCtorEq, Nat.reduceEqDiff, rqs]
            refine call_by (idd) (by rfl) (by simp) ?_
            simp (disch := omega) only [wk, tis, seval, reduceCtorEq, Nat.reduceEqDiff, rqs]
            rcases hP with ⟨_, h, rfl, rfl⟩ | ⟨h, _⟩ | ⟨_, h1, h2, rfl, cp, ip⟩
            · by_cases h1 : m < 0
              · simp (disch := omega) only [wk, tis, seval, reduceCtorEq, Nat.reduceEqDiff, rqs, h1]
                first | done | rfl | (exfalso; omega)
              · have h2 : 1024 < m := h.resolve_left h1
                simp (disch := omega) only [wk, tis, seval, reduceCtorEq, Nat.reduceEqDiff, rqs, h1, h2]
                first | done | rfl | (exfalso; omega)
            · cases h
            · have h1' : ¬ m < 0 := by omega
              have h2' : ¬ 1024 < m := by omega
              simp (disch := omega) only [wk, tis, seval, reduceCtorEq, Nat.reduceEqDiff, rqs, h1', h2']
              refine call_by (cp) (by first | rfl | (simp only [tocvs, tocv, h1', h2']; rfl) | (simp only [tocvs, tocv, toboxes, tobox, updH_at, Nat.reduceEqDiff, ↓reduceIte, h1', h2']; rfl)) (by simp) ?_
              simp (disch := omega) only [wk, tis, seval, reduceCtorEq, Nat.reduceEqDiff, rqs, h1', h2']
              refine call_by (ip) (by first | rfl | (simp only [tocvs, tocv, h1', h2']; rfl) | (simp only [tocvs, tocv, toboxes, tobox, updH_at, Nat.reduceEqDiff, ↓reduceIte, h1', h2']; rfl)) (by simp) ?_
              simp (disch := omega) only [wk, tis, seval, reduceCtorEq, Nat.reduceEqDiff, rqs, h1', h2']
              try rfl
          | true =>
            have pd := pd rfl
            simp (disch := omega) only [wk, tis, seval, reduceCtorEq, Nat.reduceEqDiff, rqs]
            refine call_by (pd) (by rfl) (by simp) ?_
            simp (disch := omega) only [wk, tis, seval, reduceCtorEq, Nat.reduceEqDiff, rqs]
            refine call_by (ia) (by rfl) (by simp) ?_
            simp (disch := omega) only [wk, tis, seval, reduceCtorEq, Nat.reduceEqDiff, rqs]
            refine call_by (ib) (by rfl) (by simp) ?_
            simp (disch := omega) only [wk, tis, seval, reduceCtorEq, Nat.reduceEqDiff, rqs]
            refine call_by (ic) (by rfl) (by simp) ?_
            simp (disch := omega) only [wk, tis, seval, reduceCtorEq, Nat.reduceEqDiff, rqs]
            refine call_by (idd) (by rfl) (by simp) ?_
            simp (disch := omega) only [wk, tis, seval, reduceCtorEq, Nat.reduceEqDiff, rqs]
            rcases hP with ⟨_, h, rfl, rfl⟩ | ⟨h, _⟩ | ⟨_, h1, h2, rfl, cp, ip⟩
            · by_cases h1 : m < 0
              · simp (disch := omega) only [wk, tis, seval, reduceCtorEq, Nat.reduceEqDiff, rqs, h1]
                first | done | rfl | (exfalso; omega)
              · have h2 : 1024 < m := h.resolve_left h1
                simp (disch := omega) only [wk, tis, seval, reduceCtorEq, Nat.reduceEqDiff, rqs, h1, h2]
                first | done | rfl | (exfalso; omega)
            · cases h
            · have h1' : ¬ m < 0 := by omega
              have h2' : ¬ 1024 < m := by omega
              simp (disch := omega) only [wk, tis, seval, reduceCtorEq, Nat.reduceEqDiff, rqs, h1', h2']
              refine call_by (cp) (by first | rfl | (simp only [tocvs, tocv, h1', h2']; rfl) | (simp only [tocvs, tocv, toboxes, tobox, updH_at, Nat.reduceEqDiff, ↓reduceIte, h1', h2']; rfl)) (by simp) ?_
              simp (disch := omega) only [wk, tis, seval, reduceCtorEq, Nat.reduceEqDiff, rqs, h1', h2']
              refine call_by (ip) (by first | rfl | (simp only [tocvs, tocv, h1', h2']; rfl) | (simp only [tocvs, tocv, toboxes, tobox, updH_at, Nat.reduceEqDiff, ↓reduceIte, h1', h2']; rfl)) (by simp) ?_
              simp (disch := omega) only [wk, tis, seval, reduceCtorEq, Nat.reduceEqDiff, rqs, h1', h2']
              try rfl
        | true =>
          obtain ⟨pa, pb, pc⟩ := pp rfl
          cases ox with
          | false => cases hox rfl
          | true =>
            have pd := pd rfl
            simp (disch := omega) only [wk, tis, seval, reduceCtorEq, Nat.reduceEqDiff, rqs]
            refine call_by (hone_ok) (by rfl) (by simp) ?_
            simp (disch := omega) only [wk, tis, seval, reduceCtorEq, Nat.reduceEqDiff, rqs]
            refine call_by (pa) (by rfl) (by simp) ?_
            simp (disch := omega) only [wk, tis, seval, reduceCtorEq, Nat.reduceEqDiff, rqs]
            refine call_by (hm1_ok) (by rfl) (by simp) ?_
            simp (disch := omega) only [wk, tis, seval, reduceCtorEq, Nat.reduceEqDiff, rqs]
            refine call_by (pb) (by rfl) (by simp) ?_
            simp (disch := omega) only [wk, tis, seval, reduceCtorEq, Nat.reduceEqDiff, rqs]
            refine call_by (pc) (by rfl) (by simp) ?_
            simp (disch := omega) only [wk, tis, seval, reduceCtorEq, Nat.reduceEqDiff, rqs]
            refine call_by (pd) (by rfl) (by simp) ?_
            simp (disch := omega) only [wk, tis, seval, reduceCtorEq, Nat.reduceEqDiff, rqs]
            refine call_by (ia) (by rfl) (by simp) ?_
            simp (disch := omega) only [wk, tis, seval, reduceCtorEq, Nat.reduceEqDiff, rqs]
            refine call_by (ib) (by rfl) (by simp) ?_
            simp (disch := omega) only [wk, tis, seval, reduceCtorEq, Nat.reduceEqDiff, rqs]
            refine call_by (ic) (by rfl) (by simp) ?_
            simp (disch := omega) only [wk, tis, seval, reduceCtorEq, Nat.reduceEqDiff, rqs]
            refine call_by (idd) (by rfl) (by simp) ?_
            simp (disch := omega) only [wk, tis, seval, reduceCtorEq, Nat.reduceEqDiff, rqs]
            rcases hP with ⟨_, h, rfl, rfl⟩ | ⟨h, _⟩ | ⟨_, h1, h2, rfl, cp, ip⟩
            · by_cases h1 : m < 0
              · simp (disch := omega) only [wk, tis, seval, reduceCtorEq, Nat.reduceEqDiff, rqs, h1]
                first | done | rfl | (exfalso; omega)
              · have h2 : 1024 < m := h.resolve_left h1
                simp (disch := omega) only [wk, tis, seval, reduceCtorEq, Nat.reduceEqDiff, rqs, h1, h2]
                first | done | rfl | (exfalso; omega)
            · cases h
            · have h1' : ¬ m < 0 := by omega
              have h2' : ¬ 1024 < m := by omega
              simp (disch := omega) only [wk, tis, seval, reduceCtorEq, Nat.reduceEqDiff, rqs, h1', h2']
              refine call_by (cp) (by first | rfl | (simp only [tocvs, tocv, h1', h2']; rfl) | (simp only [tocvs, tocv, toboxes, tobox, updH_at, Nat.reduceEqDiff, ↓reduceIte, h1', h2']; rfl)) (by simp) ?_
              simp (disch := omega) only [wk, tis, seval, reduceCtorEq, Nat.reduceEqDiff, rqs, h1', h2']
              refine call_by (ip) (by first | rfl | (simp only [tocvs, tocv, h1', h2']; rfl) | (simp only [tocvs, tocv, toboxes, tobox, updH_at, Nat.reduceEqDiff, ↓reduceIte, h1', h2']; rfl)) (by simp) ?_
              simp (disch := omega) only [wk, tis, seval, reduceCtorEq, Nat.reduceEqDiff, rqs, h1', h2']
              try rfl
    · have hxl : 0 < (b.length : Int) := by omega
      simp (disch := omega) only [wk, tis, seval, reduceCtorEq, Nat.reduceEqDiff, rqs, hxl]
      refine call_by (ok) (by first | rfl | (simp only [tocvs, tocv, hxl]; rfl) | (simp only [tocvs, tocv, toboxes, tobox, updH_at, Nat.reduceEqDiff, ↓reduceIte, hxl]; rfl)) (by simp) ?_
      simp (disch := omega) only [wk, tis, seval, reduceCtorEq, Nat.reduceEqDiff, rqs, hxl]
      by_cases h5 : 5 < n
      · by_cases h10 : n ≤ 1024
        · simp (disch := omega) only [wk, tis, seval, reduceCtorEq, Nat.reduceEqDiff, rqs, h5, h10]
          refine call_by (un) (by first | rfl | (simp only [tocvs, tocv, h5, h10]; rfl) | (simp only [tocvs, tocv, toboxes, tobox, updH_at, Nat.reduceEqDiff, ↓reduceIte, h5, h10]; rfl)) (by simp) ?_
          simp (disch := omega) only [wk, tis, seval, reduceCtorEq, Nat.reduceEqDiff, rqs, h5, h10]
          cases u with
          | true =>
            obtain rfl := hmu h5 h10 rfl
            simp (disch := omega) only [wk, tis, seval, reduceCtorEq, Nat.reduceEqDiff, rqs, h5, h10]
            refine call_by (ca) (by rfl) (by simp) ?_
            simp (disch := omega) only [wk, tis, seval, reduceCtorEq, Nat.reduceEqDiff, rqs]
            refine call_by (cbb) (by rfl) (by simp) ?_
            simp (disch := omega) only [wk, tis, seval, reduceCtorEq, Nat.reduceEqDiff, rqs]
            refine call_by (cc) (by rfl) (by simp) ?_
            simp (disch := omega) only [wk, tis, seval, reduceCtorEq, Nat.reduceEqDiff, rqs]
            refine call_by (cdd) (by rfl) (by simp) ?_
            simp (disch := omega) only [wk, tis, seval, reduceCtorEq, Nat.reduceEqDiff, rqs]
            refine call_by (cf) (by rfl) (by simp) ?_
            simp (disch := omega) only [wk, tis, seval, reduceCtorEq, Nat.reduceEqDiff, rqs]
            cases gb with
            | false =>
              obtain ⟨rfl, rfl, rfl⟩ := na rfl
              cases ox with
              | false =>
                obtain rfl := nd rfl
                simp (disch := omega) only [wk, tis, seval, reduceCtorEq, Nat.reduceEqDiff, rqs]
                refine call_by (ia) (by rfl) (by simp) ?_
                simp (disch := omega) only [wk, tis, seval, reduceCtorEq, Nat.reduceEqDiff, rqs]
                refine call_by (ib) (by rfl) (by simp) ?_
                simp (disch := omega) only [wk, tis, seval, reduceCtorEq, Nat.reduceEqDiff, rqs]
                refine call_by (ic) (by rfl) (by simp) ?_
                simp (disch := omega) only [wk, tis, seval, reduceCtorEq, Nat.reduceEqDiff, rqs]
                refine call_by (idd) (by rfl) (by simp) ?_
                simp (disch := omega) only [wk, tis, seval, reduceCtorEq, Nat.reduceEqDiff, rqs]
                rcases hP with ⟨_, h, rfl, rfl⟩ | ⟨h, _⟩ | ⟨_, h1, h2, rfl, cp, ip⟩
                · by_cases h1 : m < 0
                  · simp (disch := omega) only [wk, tis, seval, reduceCtorEq, Nat.reduceEqDiff, rqs, h1]
                    first | done | rfl | (exfalso; omega)
                  · have h2 : 1024 < m := h.resolve_left h1
                    simp (disch := omega) only [wk, tis, seval, reduceCtorEq, Nat.reduceEqDiff, rqs, h1, h2]
                    first | done | rfl | (exfalso; omega)
                · cases h
                · have h1' : ¬ m < 0 := by omega
                  have h2' : ¬ 1024 < m := by omega
                  simp (disch := omega) only [wk, tis, seval, reduceCtorEq, Nat.reduceEqDiff, rqs, h1', h2']
                  refine call_by (cp) (by first | rfl | (simp only [tocvs, tocv, h1', h2']; rfl) | (simp only [tocvs, tocv, toboxes, tobox, updH_at, Nat.reduceEqDiff, ↓reduceIte, h1', h2']; rfl)) (by simp) ?_
                  simp (disch := omega) only [wk, tis, seval, reduceCtorEq, Nat.reduceEqDiff, rqs, h1', h2']
                  refine call_by (ip) (by first | rfl | (simp only [tocvs, tocv, h1', h2']; rfl) | (simp only [tocvs, tocv, toboxes, tobox, updH_at, Nat.reduceEqDiff, ↓reduceIte, h1', h2']; rfl)) (by simp) ?_
                  simp (disch := omega) only [wk, tis, seval, reduceCtorEq, Nat.reduceEqDiff, rqs, h1', h2']
                  try rfl
              | true =>
                have pd := pd rfl
                simp (disch := omega) only [wk, tis, seval, reduceCtorEq, Nat.reduceEqDiff, rqs]
                refine call_by (pd) (by rfl) (by simp) ?_
                simp (disch := omega) only [wk, tis, seval, reduceCtorEq, Nat.reduceEqDiff, rqs]
                refine call_by (ia) (by rfl) (by simp) ?_
                simp (disch := omega) only [wk, tis, seval, reduceCtorEq, Nat.reduceEqDiff, rqs]
                refine call_by (ib) (by rfl) (by simp) ?_
                simp (disch := omega) only [wk, tis, seval, reduceCtorEq, Nat.reduceEqDiff, rqs]
                refine call_by (ic) (by rfl) (by simp) ?_
                simp (disch := omega) only [wk, tis, seval, reduceCtorEq, Nat.reduceEqDiff, rqs]
                refine call_by (idd) (by rfl) (by simp) ?_
                simp (disch := omega) only [wk, tis, seval, reduceCtorEq, Nat.reduceEqDiff, rqs]
                rcases hP with ⟨_, h, rfl, rfl⟩ | ⟨h, _⟩ | ⟨_, h1, h2, rfl, cp, ip⟩
                · by_cases h1 : m < 0
                  · simp (disch := omega) only [wk, tis, seval, reduceCtorEq, Nat.reduceEqDiff, rqs, h1]
                    first | done | rfl | (exfalso; omega)
                  · have h2 : 1024 < m := h.resolve_left h1
                    simp (disch := omega) only [wk, tis, seval, reduceCtorEq, Nat.reduceEqDiff, rqs, h1, h2]
                    first | done | rfl | (exfalso; omega)
                · cases h
                · have h1' : ¬ m < 0 := by omega
                  have h2' : ¬ 1024 < m := by omega
                  simp (disch := omega) only [wk, tis, seval, reduceCtorEq, Nat.reduceEqDiff, rqs, h1', h2']
                  refine call_by (cp) (by first | rfl | (simp only [tocvs, tocv, h1', h2']; rfl) | (simp only [tocvs, tocv, toboxes, tobox, updH_at, Nat.reduceEqDiff, ↓reduceIte, h1', h2']; rfl)) (by simp) ?_
                  simp (disch := omega) only [wk, tis, seval, reduceCtorEq, Nat.reduceEqDiff, rqs, h1', h2']
                  refine call_by (ip) (by first | rfl | (simp only [tocvs, tocv, h1', h2']; rfl) | (simp only [tocvs, tocv, toboxes, tobox, updH_at, Nat.reduceEqDiff, ↓reduceIte, h1', h2']; rfl)) (by simp) ?_
                  simp (disch := omega) only [wk, tis, seval, reduceCtorEq, Nat.reduceEqDiff, rqs, h1', h2']
                  try rfl
            | true =>
              obtain ⟨pa, pb, pc⟩ := pp rfl
              cases ox with
              | false => cases hox rfl
              | true =>
                have pd := pd rfl
                simp (disch := omega) only [wk, tis, seval, reduceCtorEq, Nat.reduceEqDiff, rqs]
                refine call_by (hone_ok) (by rfl) (by simp) ?_
                simp (disch := omega) only [wk, tis, seval, reduceCtorEq, Nat.reduceEqDiff, rqs]
                refine call_by (pa) (by rfl) (by simp) ?_
                simp (disch := omega) only [wk, tis, seval, reduceCtorEq, Nat.reduceEqDiff, rqs]
                refine call_by (hm1_ok) (by rfl) (by simp) ?_
                simp (disch := omega) only [wk, tis, seval, reduceCtorEq, Nat.reduceEqDiff, rqs]
                refine call_by (pb) (by rfl) (by simp) ?_
                simp (disch := omega) only [wk, tis, seval, reduceCtorEq, Nat.reduceEqDiff, rqs]
                refine call_by (pc) (by rfl) (by simp) ?_
                simp (disch := omega) only [wk, tis, seval, reduceCtorEq, Nat.reduceEqDiff, rqs]
                refine call_by (pd) (by rfl) (by simp) ?_
                simp (disch := omega) only [wk, tis, seval, reduceCtorEq, Nat.reduceEqDiff, rqs]
                refine call_by (ia) (by rfl) (by simp) ?_
                simp (disch := omega) only [wk, tis, seval, reduceCtorEq, Nat.reduceEqDiff, rqs]
                refine call_by (ib) (by rfl) (by simp) ?_
                simp (disch := omega) only [wk, tis, seval, reduceCtorEq, Nat.reduceEqDiff, rqs]
                refine call_by (ic) (by rfl) (by simp) ?_
                simp (disch := omega) only [wk, tis, seval, reduceCtorEq, Nat.reduceEqDiff, rqs]
                refine call_by (idd) (by rfl) (by simp) ?_
                simp (disch := omega) only [wk, tis, seval, reduceCtorEq, Nat.reduceEqDiff, rqs]
                rcases hP with ⟨_, h, rfl, rfl⟩ | ⟨h, _⟩ | ⟨_, h1, h2, rfl, cp, ip⟩
                · by_cases h1 : m < 0
                  · simp (disch := omega) only [wk, tis, seval, reduceCtorEq, Nat.reduceEqDiff, rqs, h1]
                    first | done | rfl | (exfalso; omega)
                  · have h2 : 1024 < m := h.resolve_left h1
                    simp (disch := omega) only [wk, tis, seval, reduceCtorEq, Nat.reduceEqDiff, rqs, h1, h2]
                    first | done | rfl | (exfalso; omega)
                · cases h
                · have h1' : ¬ m < 0 := by omega
                  have h2' : ¬ 1024 < m := by omega
                  simp (disch := omega) only [wk, tis, seval, reduceCtorEq, Nat.reduceEqDiff, rqs, h1', h2']
                  refine call_by (cp) (by first | rfl | (simp only [tocvs, tocv, h1', h2']; rfl) | (simp only [tocvs, tocv, toboxes, tobox, updH_at, Nat.reduceEqDiff, ↓reduceIte, h1', h2']; rfl)) (by simp) ?_
                  simp (disch := omega) only [wk, tis, seval, reduceCtorEq, Nat.reduceEqDiff, rqs, h1', h2']
                  refine call_by (ip) (by first | rfl | (simp only [tocvs, tocv, h1', h2']; rfl) | (simp only [tocvs, tocv, toboxes, tobox, updH_at, Nat.reduceEqDiff, ↓reduceIte, h1', h2']; rfl)) (by simp) ?_
                  simp (disch := omega) only [wk, tis, seval, reduceCtorEq, Nat.reduceEqDiff, rqs, h1', h2']
                  try rfl
          | false =>
            have hmn := hmv h5 h10 rfl
            simp (disch := omega) only [wk, tis, seval, reduceCtorEq, Nat.reduceEqDiff, rqs, h5, h10, hmn]
            refine call_by (ca) (by rfl) (by simp) ?_
            simp (disch := omega) only [wk, tis, seval, reduceCtorEq, Nat.reduceEqDiff, rqs]
            refine call_by (cbb) (by rfl) (by simp) ?_
            simp (disch := omega) only [wk, tis, seval, reduceCtorEq, Nat.reduceEqDiff, rqs]
            refine call_by (cc) (by rfl) (by simp) ?_
            simp (disch := omega) only [wk, tis, seval, reduceCtorEq, Nat.reduceEqDiff, rqs]
            refine call_by (cdd) (by rfl) (by simp) ?_
            simp (disch := omega) only [wk, tis, seval, reduceCtorEq, Nat.reduceEqDiff, rqs]
            refine call_by (cf) (by rfl) (by simp) ?_
            simp (disch := omega) only [wk, tis, seval, reduceCtorEq, Nat.reduceEqDiff, rqs]
            cases gb with
            | false =>
              obtain ⟨rfl, rfl, rfl⟩ := na rfl
              cases ox with
              | false =>
                obtain rfl := nd rfl
                simp (disch := omega) only [wk, tis, seval, reduceCtorEq, Nat.reduceEqDiff, rqs]
                refine call_by (ia) (by rfl) (by simp) ?_
                simp (disch := omega) only [wk, tis, seval, reduceCtorEq, Nat.reduceEqDiff, rqs]
                refine call_by (ib) (by rfl) (by simp) ?_
                simp (disch := omega) only [wk, tis, seval, reduceCtorEq, Nat.reduceEqDiff, rqs]
                refine call_by (ic) (by rfl) (by simp) ?_
                simp (disch := omega) only [wk, tis, seval, reduceCtorEq, Nat.reduceEqDiff, rqs]
                refine call_by (idd) (by rfl) (by simp) ?_
                simp (disch := omega) only [wk, tis, seval, reduceCtorEq, Nat.reduceEqDiff, rqs]
                rcases hP with ⟨_, h, rfl, rfl⟩ | ⟨h, _⟩ | ⟨_, h1, h2, rfl, cp, ip⟩
                · by_cases h1 : m < 0
                  · simp (disch := omega) only [wk, tis, seval, reduceCtorEq, Nat.reduceEqDiff, rqs, h1]
                    first | done | rfl | (exfalso; omega)
                  · have h2 : 1024 < m := h.resolve_left h1
                    simp (disch := omega) only [wk, tis, seval, reduceCtorEq, Nat.reduceEqDiff, rqs, h1, h2]
                    first | done | rfl | (exfalso; omega)
                · cases h
                · have h1' : ¬ m < 0 := by omega
                  have h2' : ¬ 1024 < m := by omega
                  simp (disch := omega) only [wk, tis, seval, reduceCtorEq, Nat.reduceEqDiff, rqs, h1', h2']
                  refine call_by (cp) (by first | rfl | (simp only [tocvs, tocv, h1', h2']; rfl) | (simp only [tocvs, tocv, toboxes, tobox, updH_at, Nat.reduceEqDiff, ↓reduceIte, h1', h2']; rfl)) (by simp) ?_
                  simp (disch := omega) only [wk, tis, seval, reduceCtorEq, Nat.reduceEqDiff, rqs, h1', h2']
                  refine call_by (ip) (by first | rfl | (simp only [tocvs, tocv, h1', h2']; rfl) | (simp only [tocvs, tocv, toboxes, tobox, updH_at, Nat.reduceEqDiff, ↓reduceIte, h1', h2']; rfl)) (by simp) ?_
                  simp (disch := omega) only [wk, tis, seval, reduceCtorEq, Nat.reduceEqDiff, rqs, h1', h2']
                  try rfl
              | true =>
                have pd := pd rfl
                simp (disch := omega) only [wk, tis, seval, reduceCtorEq, Nat.reduceEqDiff, rqs]
                refine call_by (pd) (by rfl) (by simp) ?_
                simp (disch := omega) only [wk, tis, seval, reduceCtorEq, Nat.reduceEqDiff, rqs]
                refine call_by (ia) (by rfl) (by simp) ?_
                simp (disch := omega) only [wk, tis, seval, reduceCtorEq, Nat.reduceEqDiff, rqs]
                refine call_by (ib) (by rfl) (by simp) ?_
                simp (disch := omega) only [wk, tis, seval, reduceCtorEq, Nat.reduceEqDiff, rqs]
                refine call_by (ic) (by rfl) (by simp) ?_
                simp (disch := omega) only [wk, tis, seval, reduceCtorEq, Nat.reduceEqDiff, rqs]
                refine call_by (idd) (by rfl) (by simp) ?_
                simp (disch := omega) only [wk, tis, seval, reduceCtorEq, Nat.reduceEqDiff, rqs]
                rcases hP with ⟨_, h, rfl, rfl⟩ | ⟨h, _⟩ | ⟨_, h1, h2, rfl, cp, ip⟩
                · by_cases h1 : m < 0
                  · simp (disch := omega) only [wk, tis, seval, reduceCtorEq, Nat.reduceEqDiff, rqs, h1]
                    first | done | rfl | (exfalso; omega)
                  · have h2 : 1024 < m := h.resolve_left h1
                    simp (disch := omega) only [wk, tis, seval, reduceCtorEq, Nat.reduceEqDiff, rqs, h1, h2]
                    first | done | rfl | (exfalso; omega)
                · cases h
                · have h1' : ¬ m < 0 := by omega
                  have h2' : ¬ 1024 < m := by omega
                  simp (disch := omega) only [wk, tis, seval, reduceCtorEq, Nat.reduceEqDiff, rqs, h1', h2']
                  refine call_by (cp) (by first | rfl | (simp only [tocvs, tocv, h1', h2']; rfl) | (simp only [tocvs, tocv, toboxes, tobox, updH_at, Nat.reduceEqDiff, ↓reduceIte, h1', h2']; rfl)) (by simp) ?_
                  simp (disch := omega) only [wk, tis, seval, reduceCtorEq, Nat.reduceEqDiff, rqs, h1', h2']
                  refine call_by (ip) (by first | rfl | (simp only [tocvs, tocv, h1', h2']; rfl) | (simp only [tocvs, tocv, toboxes, tobox, updH_at, Nat.reduceEqDiff, ↓reduceIte, h1', h2']; rfl)) (by simp) ?_
                  simp (disch := omega) only [wk, tis, seval, reduceCtorEq, Nat.reduceEqDiff, rqs, h1', h2']
                  try rfl
            | true =>
              obtain ⟨pa, pb, pc⟩ := pp rfl
              cases ox with
              | false => cases hox rfl
              | true =>
                have pd := pd rfl
                simp (disch := omega) only [wk, tis, seval, reduceCtorEq, Nat.reduceEqDiff, rqs]
                refine call_by (hone_ok) (by rfl) (by simp) ?_
                simp (disch := omega) only [wk, tis, seval, reduceCtorEq, Nat.reduceEqDiff, rqs]
                refine call_by (pa) (by rfl) (by simp) ?_
                simp (disch := omega) only [wk, tis, seval, reduceCtorEq, Nat.reduceEqDiff, rqs]
                refine call_by (hm1_ok) (by rfl) (by simp) ?_
                simp (disch := omega) only [wk, tis, seval, reduceCtorEq, Nat.reduceEqDiff, rqs]
                refine call_by (pb) (by rfl) (by simp) ?_
                simp (disch := omega) only [wk, tis, seval, reduceCtorEq, Nat.reduceEqDiff, rqs]
                refine call_by (pc) (by rfl) (by simp) ?_
                simp (disch := omega) only [wk, tis, seval, reduceCtorEq, Nat.reduceEqDiff, rqs]
                refine call_by (pd) (by rfl) (by simp) ?_
                simp (disch := omega) only [wk, tis, seval, reduceCtorEq, Nat.reduceEqDiff, rqs]
                refine call_by (ia) (by rfl) (by simp) ?_
                simp (disch := omega) only [wk, tis, seval, reduceCtorEq, Nat.reduceEqDiff, rqs]
                refine call_by (ib) (by rfl) (by simp) ?_
                simp (disch := omega) only [wk, tis, seval, reduceCtorEq, Nat.reduceEqDiff, rqs]
                refine call_by (ic) (by rfl) (by simp) ?_
                simp (disch := omega) only [wk, tis, seval, reduceCtorEq, Nat.reduceEqDiff, rqs]
                refine call_by (idd) (by rfl) (by simp) ?_
                simp (disch := omega) only [wk, tis, seval, reduceCtorEq, Nat.reduceEqDiff, rqs]
                rcases hP with ⟨_, h, rfl, rfl⟩ | ⟨h, _⟩ | ⟨_, h1, h2, rfl, cp, ip⟩
                · by_cases h1 : m < 0
                  · simp (disch := omega) only [wk, tis, seval, reduceCtorEq, Nat.reduceEqDiff, rqs, h1]
                    first | done | rfl | (exfalso; omega)
                  · have h2 : 1024 < m := h.resolve_left h1
                    simp (disch := omega) only [wk, tis, seval, reduceCtorEq, Nat.reduceEqDiff, rqs, h1, h2]
                    first | done | rfl | (exfalso; omega)
                · cases h
                · have h1' : ¬ m < 0 := by omega
                  have h2' : ¬ 1024 < m := by omega
                  simp (disch := omega) only [wk, tis, seval, reduceCtorEq, Nat.reduceEqDiff, rqs, h1', h2']
                  refine call_by (cp) (by first | rfl | (simp only [tocvs, tocv, h1', h2']; rfl) | (simp only [tocvs, tocv, toboxes, tobox, updH_at, Nat.reduceEqDiff, ↓reduceIte, h1', h2']; rfl)) (by simp) ?_
                  simp (disch := omega) only [wk, tis, seval, reduceCtorEq, Nat.reduceEqDiff, rqs, h1', h2']
                  refine call_by (ip) (by first | rfl | (simp only [tocvs, tocv, h1', h2']; rfl) | (simp only [tocvs, tocv, toboxes, tobox, updH_at, Nat.reduceEqDiff, ↓reduceIte, h1', h2']; rfl)) (by simp) ?_
                  simp (disch := omega) only [wk, tis, seval, reduceCtorEq, Nat.reduceEqDiff, rqs, h1', h2']
                  try rfl
        · obtain rfl := hme (.inr (by omega))
          simp (disch := omega) only [wk, tis, seval, reduceCtorEq, Nat.reduceEqDiff, rqs, h5, h10]
          refine call_by (ca) (by rfl) (by simp) ?_
          simp (disch := omega) only [wk, tis, seval, reduceCtorEq, Nat.reduceEqDiff, rqs]
          refine call_by (cbb) (by rfl) (by simp) ?_
          simp (disch := omega) only [wk, tis, seval, reduceCtorEq, Nat.reduceEqDiff, rqs]
          refine call_by (cc) (by rfl) (by simp) ?_
          simp (disch := omega) only [wk, tis, seval, reduceCtorEq, Nat.reduceEqDiff, rqs]
          refine call_by (cdd) (by rfl) (by simp) ?_
          simp (disch := omega) only [wk, tis, seval, reduceCtorEq, Nat.reduceEqDiff, rqs]
          refine call_by (cf) (by rfl) (by simp) ?_
          simp (disch := omega) only [wk, tis, seval, reduceCtorEq, Nat.reduceEqDiff, rqs]
          cases gb with
          | false =>
            obtain ⟨rfl, rfl, rfl⟩ := na rfl
            cases ox with
            | false =>
              obtain rfl := nd rfl
              simp (disch := omega) only [wk, tis, seval, reduceCtorEq, Nat.reduceEqDiff, rqs]
              refine call_by (ia) (by rfl) (by simp) ?_
              simp (disch := omega) only [wk, tis, seval, reduceCtorEq, Nat.reduceEqDiff, rqs]
              refine call_by (ib) (by rfl) (by simp) ?_
              simp (disch := omega) only [wk, tis, seval, reduceCtorEq, Nat.reduceEqDiff, rqs]
              refine call_by (ic) (by rfl) (by simp) ?_
              simp (disch := omega) only [wk, tis, seval, reduceCtorEq, Nat.reduceEqDiff, rqs]
              refine call_by (idd) (by rfl) (by simp) ?_
              simp (disch := omega) only [wk, tis, seval, reduceCtorEq, Nat.reduceEqDiff, rqs]
              rcases hP with ⟨_, h, rfl, rfl⟩ | ⟨h, _⟩ | ⟨_, h1, h2, rfl, cp, ip⟩
              · by_cases h1 : m < 0
                · simp (disch := omega) only [wk, tis, seval, reduceCtorEq, Nat.reduceEqDiff, rqs, h1]
                  first | done | rfl | (exfalso; omega)
                · have h2 : 1024 < m := h.resolve_left h1
                  simp (disch := omega) only [wk, tis, seval, reduceCtorEq, Nat.reduceEqDiff, rqs, h1, h2]
                  first | done | rfl | (exfalso; omega)
              · cases h
              · exfalso; omega
            | true =>
              have pd := pd rfl
              simp (disch := omega) only [wk, tis, seval, reduceCtorEq, Nat.reduceEqDiff, rqs]
              refine call_by (pd) (by rfl) (by simp) ?_
              simp (disch := omega) only [wk, tis, seval, reduceCtorEq, Nat.reduceEqDiff, rqs]
              refine call_by (ia) (by rfl) (by simp) ?_
              simp (disch := omega) only [wk, tis, seval, reduceCtorEq, Nat.reduceEqDiff, rqs]
              refine call_by (ib) (by rfl) (by simp) ?_
              simp (disch := omega) only [wk, tis, seval, reduceCtorEq, Nat.reduceEqDiff, rqs]
              refine call_by (ic) (by rfl) (by simp) ?_
              simp (disch := omega) only [wk, tis, seval, reduceCtorEq, Nat.reduceEqDiff, rqs]
              refine call_by (idd) (by rfl) (by simp) ?_
              simp (disch := omega) only [wk, tis, seval, reduceCtorEq, Nat.reduceEqDiff, rqs]
              rcases hP with ⟨_, h, rfl, rfl⟩ | ⟨h, _⟩ | ⟨_, h1, h2, rfl, cp, ip⟩
              · by_cases h1 : m < 0
                · simp (disch := omega) only [wk, tis, seval, reduceCtorEq, Nat.reduceEqDiff, rqs, h1]
                  first | done | rfl | (exfalso; omega)
                · have h2 : 1024 < m := h.resolve_left h1
                  simp (disch := omega) only [wk, tis, seval, reduceCtorEq, Nat.reduceEqDiff, rqs, h1, h2]
                  first | done | rfl | (exfalso; omega)
              · cases h
              · exfalso; omega
          | true =>
            obtain ⟨pa, pb, pc⟩ := pp rfl
            cases ox with
            | false => cases hox rfl
            | true =>
              have pd := pd rfl
              simp (disch := omega) only [wk, tis, seval, reduceCtorEq, Nat.reduceEqDiff, rqs]
              refine call_by (hone_ok) (by rfl) (by simp) ?_
              simp (disch := omega) only [wk, tis, seval, reduceCtorEq, Nat.reduceEqDiff, rqs]
              refine call_by (pa) (by rfl) (by simp) ?_
              simp (disch := omega) only [wk, tis, seval, reduceCtorEq, Nat.reduceEqDiff, rqs]
              refine call_by (hm1_ok) (by rfl) (by simp) ?_
              simp (disch := omega) only [wk, tis, seval, reduceCtorEq, Nat.reduceEqDiff, rqs]
              refine call_by (pb) (by rfl) (by simp) ?_
              simp (disch := omega) only [wk, tis, seval, reduceCtorEq, Nat.reduceEqDiff, rqs]
              refine call_by (pc) (by rfl) (by simp) ?_
              simp (disch := omega) only [wk, tis, seval, reduceCtorEq, Nat.reduceEqDiff, rqs]
              refine call_by (pd) (by rfl) (by simp) ?_
              simp (disch := omega) only [wk, tis, seval, reduceCtorEq, Nat.reduceEqDiff, rqs]
              refine call_by (ia) (by rfl) (by simp) ?_
              simp (disch := omega) only [wk, tis, seval, reduceCtorEq, Nat.reduceEqDiff, rqs]
              refine call_by (ib) (by rfl) (by simp) ?_
              simp (disch := omega) only [wk, tis, seval, reduceCtorEq, Nat.reduceEqDiff, rqs]
              refine call_by (ic) (by rfl) (by simp) ?_
              simp (disch := omega) only [wk, tis, seval, reduceCtorEq, Nat.reduceEqDiff, rqs]
              refine call_by (idd) (by rfl) (by simp) ?_
              simp (disch := omega) only [wk, tis, seval, reduceCtorEq, Nat.reduceEqDiff, rqs]
              rcases hP with ⟨_, h, rfl, rfl⟩ | ⟨h, _⟩ | ⟨_, h1, h2, rfl, cp, ip⟩
              · by_cases h1 : m < 0
                · simp (disch := omega) only [wk, tis, seval, reduceCtorEq, Nat.reduceEqDiff, rqs, h1]
                  first | done | rfl | (exfalso; omega)
                · have h2 : 1024 < m := h.resolve_left h1
                  simp (disch := omega) only [wk, tis, seval, reduceCtorEq, Nat.reduceEqDiff, rqs, h1, h2]
                  first | done | rfl | (exfalso; omega)
              · cases h
              · exfalso; omega
      · obtain rfl := hme (.inl (by omega))
        simp (disch := omega) only [wk, tis, seval, reduceCtorEq, Nat.reduceEqDiff, rqs, h5]
        refine call_by (ca) (by rfl) (by simp) ?_
        simp (disch := omega) only [wk, tis, seval, reduceCtorEq, Nat.reduceEqDiff, rqs]
        refine call_by (cbb) (by rfl) (by simp) ?_
        simp (disch := omega) only [wk, tis, seval, reduceCtorEq, Nat.reduceEqDiff, rqs]
        refine call_by (cc) (by rfl) (by simp) ?_
        simp (disch := omega) only [wk, tis, seval, reduceCtorEq, Nat.reduceEqDiff, rqs]
        refine call_by (cdd) (by rfl) (by simp) ?_
        simp (disch := omega) only [wk, tis, seval, reduceCtorEq, Nat.reduceEqDiff, rqs]
        refine call_by (cf) (by rfl) (by simp) ?_
        simp (disch := omega) only [wk, tis, seval, reduceCtorEq, Nat.reduceEqDiff, rqs]
        cases gb with
        | false =>
          obtain ⟨rfl, rfl, rfl⟩ := na rfl
          cases ox with
          | false =>
            obtain rfl := nd rfl
            simp (disch := omega) only [wk, tis, seval, reduceCtorEq, Nat.reduceEqDiff, rqs]
            refine call_by (ia) (by rfl) (by simp) ?_
            simp (disch := omega) only [wk, tis, seval, reduceCtorEq, Nat.reduceEqDiff, rqs]
            refine call_by (ib) (by rfl) (by simp) ?_
            simp (disch := omega) only [wk, tis, seval, reduceCtorEq, Nat.reduceEqDiff, rqs]
            refine call_by (ic) (by rfl) (by simp) ?_
            simp (disch := omega) only [wk, tis, seval, reduceCtorEq, Nat.reduceEqDiff, rqs]
            refine call_by (idd) (by rfl) (by simp) ?_
            simp (disch := omega) only [wk, tis, seval, reduceCtorEq, Nat.reduceEqDiff, rqs]
            rcases hP with ⟨_, h, rfl, rfl⟩ | ⟨h, _⟩ | ⟨_, h1, h2, rfl, cp, ip⟩
            · by_cases h1 : m < 0
              · simp (disch := omega) only [wk, tis, seval, reduceCtorEq, Nat.reduceEqDiff, rqs, h1]
                first | done | rfl | (exfalso; omega)
              · have h2 : 1024 < m := h.resolve_left h1
                simp (disch := omega) only [wk, tis, seval, reduceCtorEq, Nat.reduceEqDiff, rqs, h1, h2]
                first | done | rfl | (exfalso; omega)
            · cases h
            · have h1' : ¬ m < 0 := by omega
              have h2' : ¬ 1024 < m := by omega
              simp (disch := omega) only [wk, tis, seval, reduceCtorEq, Nat.reduceEqDiff, rqs, h1', h2']
              refine call_by (cp) (by first | rfl | (simp only [tocvs, tocv, h1', h2']; rfl) | (simp only [tocvs, tocv, toboxes, tobox, updH_at, Nat.reduceEqDiff, ↓reduceIte, h1', h2']; rfl)) (by simp) ?_
              simp (disch := omega) only [wk, tis, seval, reduceCtorEq, Nat.reduceEqDiff, rqs, h1', h2']
              refine call_by (ip) (by first | rfl | (simp only [tocvs, tocv, h1', h2']; rfl) | (simp only [tocvs, tocv, toboxes, tobox, updH_at, Nat.reduceEqDiff, ↓reduceIte, h1', h2']; rfl)) (by simp) ?_
              simp (disch := omega) only [wk, tis, seval, reduceCtorEq, Nat.reduceEqDiff, rqs, h1', h2']
              try rfl
          | true =>
            have pd := pd rfl
            simp (disch := omega) only [wk, tis, seval, reduceCtorEq, Nat.reduceEqDiff, rqs]
            refine call_by (pd) (by rfl) (by simp) ?_
            simp (disch := omega) only [wk, tis, seval, reduceCtorEq, Nat.reduceEqDiff, rqs]
            refine call_by (ia) (by rfl) (by simp) ?_
            simp (disch := omega) only [wk, tis, seval, reduceCtorEq, Nat.reduceEqDiff, rqs]
            refine call_by (ib) (by rfl) (by simp) ?_
            simp (disch := omega) only [wk, tis, seval, reduceCtorEq, Nat.reduceEqDiff, rqs]
            refine call_by (ic) (by rfl) (by simp) ?_
            simp (disch := omega) only [wk, tis, seval, reduceCtorEq, Nat.reduceEqDiff, rqs]
            refine call_by (idd) (by rfl) (by simp) ?_
            simp (disch := omega) only [wk, tis, seval, reduceCtorEq, Nat.reduceEqDiff, rqs]
            rcases hP with ⟨_, h, rfl, rfl⟩ | ⟨h, _⟩ | ⟨_, h1, h2, rfl, cp, ip⟩
            · by_cases h1 : m < 0
              · simp (disch := omega) only [wk, tis, seval, reduceCtorEq, Nat.reduceEqDiff, rqs, h1]
                first | done | rfl | (exfalso; omega)
              · have h2 : 1024 < m := h.resolve_left h1
                simp (disch := omega) only [wk, tis, seval, reduceCtorEq, Nat.reduceEqDiff, rqs, h1, h2]
                first | done | rfl | (exfalso; omega)
            · cases h
            · have h1' : ¬ m < 0 := by omega
              have h2' : ¬ 1024 < m := by omega
              simp (disch := omega) only [wk, tis, seval, reduceCtorEq, Nat.reduceEqDiff, rqs, h1', h2']
              refine call_by (cp) (by first | rfl | (simp only [tocvs, tocv, h1', h2']; rfl) | (simp only [tocvs, tocv, toboxes, tobox, updH_at, Nat.reduceEqDiff, ↓reduceIte, h1', h2']; rfl)) (by simp) ?_
              simp (disch := omega) only [wk, tis, seval, reduceCtorEq, Nat.reduceEqDiff, rqs, h1', h2']
              refine call_by (ip) (by first | rfl | (simp only [tocvs, tocv, h1', h2']; rfl) | (simp only [tocvs, tocv, toboxes, tobox, updH_at, Nat.reduceEqDiff, ↓reduceIte, h1', h2']; rfl)) (by simp) ?_
              simp (disch := omega) only [wk, tis, seval, reduceCtorEq, Nat.reduceEqDiff, rqs, h1', h2']
              try rfl
        | true =>
          obtain ⟨pa, pb, pc⟩ := pp rfl
          cases ox with
          | false => cases hox rfl
          | true =>
            have pd := pd rfl
            simp (disch := omega) only [wk, tis, seval, reduceCtorEq, Nat.reduceEqDiff, rqs]
            refine call_by (hone_ok) (by rfl) (by simp) ?_
            simp (disch := omega) only [wk, tis, seval, reduceCtorEq, Nat.reduceEqDiff, rqs]
            refine call_by (pa) (by rfl) (by simp) ?_
            simp (disch := omega) only [wk, tis, seval, reduceCtorEq, Nat.reduceEqDiff, rqs]
            refine call_by (hm1_ok) (by rfl) (by simp) ?_
            simp (disch := omega) only [wk, tis, seval, reduceCtorEq, Nat.reduceEqDiff, rqs]
            refine call_by (pb) (by rfl) (by simp) ?_
            simp (disch := omega) only [wk, tis, seval, reduceCtorEq, Nat.reduceEqDiff, rqs]
            refine call_by (pc) (by rfl) (by simp) ?_
            simp (disch := omega) only [wk, tis, seval, reduceCtorEq, Nat.reduceEqDiff, rqs]
            refine call_by (pd) (by rfl) (by simp) ?_
            simp (disch := omega) only [wk, tis, seval, reduceCtorEq, Nat.reduceEqDiff, rqs]
            refine call_by (ia) (by rfl) (by simp) ?_
            simp (disch := omega) only [wk, tis, seval, reduceCtorEq, Nat.reduceEqDiff, rqs]
            refine call_by (ib) (by rfl) (by simp) ?_
            simp (disch := omega) only [wk, tis, seval, reduceCtorEq, Nat.reduceEqDiff, rqs]
            refine call_by (ic) (by rfl) (by simp) ?_
            simp (disch := omega) only [wk, tis, seval, reduceCtorEq, Nat.reduceEqDiff, rqs]
            refine call_by (idd) (by rfl) (by simp) ?_
            simp (disch := omega) only [wk, tis, seval, reduceCtorEq, Nat.reduceEqDiff, rqs]
            rcases hP with ⟨_, h, rfl, rfl⟩ | ⟨h, _⟩ | ⟨_, h1, h2, rfl, cp, ip⟩
            · by_cases h1 : m < 0
              · simp (disch := omega) only [wk, tis, seval, reduceCtorEq, Nat.reduceEqDiff, rqs, h1]
                first | done | rfl | (exfalso; omega)
              · have h2 : 1024 < m := h.resolve_left h1
                simp (disch := omega) only [wk, tis, seval, reduceCtorEq, Nat.reduceEqDiff, rqs, h1, h2]
                first | done | rfl | (exfalso; omega)
            · cases h
            · have h1' : ¬ m < 0 := by omega
              have h2' : ¬ 1024 < m := by omega
              simp (disch := omega) only [wk, tis, seval, reduceCtorEq, Nat.reduceEqDiff, rqs, h1', h2']
              refine call_by (cp) (by first | rfl | (simp only [tocvs, tocv, h1', h2']; rfl) | (simp only [tocvs, tocv, toboxes, tobox, updH_at, Nat.reduceEqDiff, ↓reduceIte, h1', h2']; rfl)) (by simp) ?_
              simp (disch := omega) only [wk, tis, seval, reduceCtorEq, Nat.reduceEqDiff, rqs, h1', h2']
              refine call_by (ip) (by first | rfl | (simp only [tocvs, tocv, h1', h2']; rfl) | (simp only [tocvs, tocv, toboxes, tobox, updH_at, Nat.reduceEqDiff, ↓reduceIte, h1', h2']; rfl)) (by simp) ?_
              simp (disch := omega) only [wk, tis, seval, reduceCtorEq, Nat.reduceEqDiff, rqs, h1', h2']
              try rfl
end Go.Proofs.YthpmlibcogifjaaGreat
