/-
  Contracts of the functions that the law reaches.
-/
import Derived.Test.YthpmlibcogifjaaGreatL36M
import Derived.Test.YthpmlibcogifjaaGreatL12M
set_option maxHeartbeats 2000000
namespace Go.Proofs.YthpmlibcogifjaaGreat
open Go Go.Proofs Go.AL
set_option linter.unusedSimpArgs false
set_option linter.unusedVariables false
theorem gzero_ok (a : List Nat) (h : Nt (2 ^ 42) a) : AC Tryz.prog 114 [cl a] none [cb (decide (nv a = 0))] := by
  have m := nbits_ok a h.2 h.1
  refine AC.by_walk (rs := [.tmp 2]) ords Tryz.func114 (by rfl) (by rfl) (by rfl) (by rfl) (by rfl) ?_
  simp (disch := omega) only [wk, tis, seval, reduceCtorEq, Nat.reduceEqDiff, rqs, natsr_len, natsr_at, natsr_snoc, natsr_app, natsr_rows, natsr_nil]
  refine call_by (m) (by rfl) (by simp) ?_
  simp (disch := omega) only [wk, tis, seval, reduceCtorEq, Nat.reduceEqDiff, rqs, natsr_len, natsr_at, natsr_snoc, natsr_app, natsr_rows, natsr_nil]
  rw [decide_eq_decide]
  constructor
  · intro e; exact bl_zero.mp (by omega)
  · intro e; rw [bl_zero.mpr e]; rfl
theorem gquo_ok (a b : List Nat) (ha : Nt (2 ^ 38) a) (hb : Nt (2 ^ 38) b) (h0 : nv b ≠ 0) : AC Tryz.prog 115 [cl a, cl b] none [cl (wd (nv a / nv b))] := by
  have m := quo_ok a b ha.2 hb.2 ha.1 hb.1 h0
  refine AC.by_walk (rs := [.tmp 4]) ords Tryz.func115 (by rfl) (by rfl) (by rfl) (by rfl) (by rfl) ?_
  simp (disch := omega) only [wk, tis, seval, reduceCtorEq, Nat.reduceEqDiff, rqs, natsr_len, natsr_at, natsr_snoc, natsr_app, natsr_rows, natsr_nil]
  refine call_by (m) (by rfl) (by simp) ?_
  simp (disch := omega) only [wk, tis, seval, reduceCtorEq, Nat.reduceEqDiff, rqs, natsr_len, natsr_at, natsr_snoc, natsr_app, natsr_rows, natsr_nil]
theorem lcm_val (a b : Nat) : a / Nat.gcd a b * b = Nat.lcm a b := by
  unfold Nat.lcm
  rcases Nat.eq_zero_or_pos (Nat.gcd a b) with h | h
  · rw [h, Nat.div_zero, Nat.div_zero, Nat.zero_mul]
  · obtain ⟨k, hk⟩ := Nat.gcd_dvd_left a b
    have e : a / Nat.gcd a b = k := Nat.div_eq_of_eq_mul_right h hk
    rw [e]
    refine (Nat.div_eq_of_eq_mul_right h ?_).symm
    rw [← Nat.mul_assoc, ← hk]
theorem lcm_len {a b j k : Nat} (ha : (wd a).length ≤ j) (hb : (wd b).length ≤ k) : (wd (Nat.lcm a b)).length ≤ j + k :=
  Nat.le_trans (wd_len_mono (Nat.div_le_self _ _)) (wd_len2 ha hb)
theorem lcm_ne {a b : Nat} (ha : a ≠ 0) (hb : b ≠ 0) : Nat.lcm a b ≠ 0 := Nat.lcm_ne_zero ha hb
theorem glcm_ok (a b : List Nat) (ha : Nt (2 ^ 35) a) (hb : Nt (2 ^ 35) b) (h0 : nv a ≠ 0) (h1 : nv b ≠ 0) : AC Tryz.prog 90 [cl a, cl b] none [cl (wd (Nat.lcm (nv a) (nv b)))] := by
  have z1 := gzero_ok a ⟨Nat.le_trans ha.1 (by omega), ha.2⟩
  have z2 := gzero_ok b ⟨Nat.le_trans hb.1 (by omega), hb.2⟩
  rw [decide_eq_false h0] at z1
  rw [decide_eq_false h1] at z2
  have g := gcd_ok a b ha.2 hb.2 (Nat.le_trans ha.1 (by omega)) (Nat.le_trans hb.1 (by omega))
  have hgp : Nat.gcd (nv a) (nv b) ≠ 0 := Nat.ne_of_gt (Nat.gcd_pos_of_pos_right _ (by omega))
  have hgl : (wd (Nat.gcd (nv a) (nv b))).length ≤ 2 ^ 38 := Nat.le_trans (wd_len_mono (Nat.gcd_le_right _ (by omega))) (Nat.le_trans (nv_len hb.2) (Nat.le_trans hb.1 (by omega)))
  have q := gquo_ok a (wd (Nat.gcd (nv a) (nv b))) ⟨Nat.le_trans ha.1 (by omega), ha.2⟩ ⟨hgl, lim_wd _⟩ (by rw [nv_wd]; exact hgp)
  rw [nv_wd] at q
  have m := mmul_ok (wd (nv a / Nat.gcd (nv a) (nv b))) b (lim_wd _) hb.2 (Nat.le_trans (wd_len_mono (Nat.div_le_self _ _)) (Nat.le_trans (nv_len ha.2) (Nat.le_trans ha.1 (by omega)))) (Nat.le_trans hb.1 (by omega))
  rw [nv_wd, lcm_val] at m
  refine AC.by_walk (rs := [.tmp 4]) ords Tryz.func90 (by rfl) (by rfl) (by rfl) (by rfl) (by rfl) ?_
  simp (disch := omega) only [wk, tis, seval, reduceCtorEq, Nat.reduceEqDiff, rqs, natsr_len, natsr_at, natsr_snoc, natsr_app, natsr_rows, natsr_nil]
  refine call_by (z1) (by rfl) (by simp) ?_
  simp (disch := omega) only [wk, tis, seval, reduceCtorEq, Nat.reduceEqDiff, rqs, natsr_len, natsr_at, natsr_snoc, natsr_app, natsr_rows, natsr_nil]
  refine call_by (z2) (by rfl) (by simp) ?_
  simp (disch := omega) only [wk, tis, seval, reduceCtorEq, Nat.reduceEqDiff, rqs, natsr_len, natsr_at, natsr_snoc, natsr_app, natsr_rows, natsr_nil]
  refine call_by (g) (by rfl) (by simp) ?_
  simp (disch := omega) only [wk, tis, seval, reduceCtorEq, Nat.reduceEqDiff, rqs, natsr_len, natsr_at, natsr_snoc, natsr_app, natsr_rows, natsr_nil]
  refine call_by (q) (by rfl) (by simp) ?_
  simp (disch := omega) only [wk, tis, seval, reduceCtorEq, Nat.reduceEqDiff, rqs, natsr_len, natsr_at, natsr_snoc, natsr_app, natsr_rows, natsr_nil]
  refine call_by (m) (by rfl) (by simp) ?_
  simp (disch := omega) only [wk, tis, seval, reduceCtorEq, Nat.reduceEqDiff, rqs, natsr_len, natsr_at, natsr_snoc, natsr_app, natsr_rows, natsr_nil]
def lcmL (l : List Nat) : Nat := l.foldl Nat.lcm 1
theorem lcmL_take {l : List Nat} {i : Nat} (h : i < l.length) : lcmL (l.take (i + 1)) = Nat.lcm (lcmL (l.take i)) (l.getD i 0) := by
  rw [List.take_add_one, List.getElem?_eq_getElem h, lcmL, List.foldl_append]
  simp [lcmL, List.getD, h]
theorem lcmL_facts (l : List Nat) (K : Nat) (h0 : ∀ x ∈ l, x ≠ 0) (hK : ∀ x ∈ l, (wd x).length ≤ K) : ∀ i, i ≤ l.length → lcmL (l.take i) ≠ 0 ∧ (wd (lcmL (l.take i))).length ≤ i * K + 1 ∧ ∀ j, j < i → l.getD j 0 ∣ lcmL (l.take i)
  | 0, _ => ⟨by simp [lcmL], by rw [List.take_zero]; show (wd 1).length ≤ _; rw [show wd 1 = [1] by decide +kernel]; simp, fun j hj => by omega⟩
  | i + 1, hi => by
    obtain ⟨a1, a2, a3⟩ := lcmL_facts l K h0 hK i (by omega)
    have hm : l.getD i 0 ∈ l := by rw [List.getD, List.getElem?_eq_getElem (by omega), Option.getD_some]; exact List.getElem_mem _
    rw [lcmL_take (by omega)]
    refine ⟨lcm_ne a1 (h0 _ hm), ?_, fun j hj => ?_⟩
    · have := lcm_len a2 (hK _ hm)
      rw [Nat.succ_mul]
      omega
    · rcases Nat.lt_or_ge j i with h | h
      · exact Nat.dvd_trans (a3 j h) (Nat.dvd_lcm_left _ _)
      · obtain rfl : j = i := by omega
        exact Nat.dvd_lcm_right _ _
set_option maxRecDepth 100000 in
theorem galllcm_ok (l : List Nat) (K : Nat) (hl : l.length ≤ 2 ^ 30) (h0 : ∀ x ∈ l, x ≠ 0) (hK : ∀ x ∈ l, (wd x).length ≤ K) (hB : l.length * K + K + 1 ≤ 2 ^ 35) : AC Tryz.prog 57 [.iv (.sl (natsr (l.map wd)))] none [cl (wd (lcmL l))] := by
  have o := nof_ok 1 (by decide)
  have hml : (l.map wd).length = l.length := List.length_map _
  have e0 : wd (lcmL (l.take 0)) = wd 1 := by rw [List.take_zero]; rfl
  refine AC.by_walk (rs := [.tmp 2]) ords Tryz.func57 (by rfl) (by rfl) (by rfl) (by rfl) (by rfl) ?_
  simp (disch := omega) only [wk, tis, seval, reduceCtorEq, Nat.reduceEqDiff, rqs, natsr_len, natsr_at, natsr_snoc, natsr_app, natsr_rows, natsr_nil]
  refine call_by (o) (by rfl) (by simp) ?_
  simp (disch := omega) only [wk, tis, seval, reduceCtorEq, Nat.reduceEqDiff, rqs, natsr_len, natsr_at, natsr_snoc, natsr_app, natsr_rows, natsr_nil]
  refine aloop_by (fun f H => ∃ (i : Nat), i ≤ l.length ∧ f 9 = .iv (.int .i64 i) ∧ f 7 = .iv (.sl (natsr (l.map wd))) ∧ f 8 = .iv (.int .i64 l.length) ∧ f 3 = .iv (.sl (lims (wd (lcmL (l.take i)))))) (fun f H => (l.length - intAt f 9).toNat) ?_ ?_
  · refine ⟨0, by omega, ?_⟩
    simp (disch := omega) only [wk, tis, seval, reduceCtorEq, Nat.reduceEqDiff, rqs, natsr_len, natsr_at, natsr_snoc, natsr_app, natsr_rows, natsr_nil, e0, hml]
  rintro f H ⟨i, hi, hF⟩
  rw [intAt_of hF.1]
  simp (disch := omega) only [wk, tis, seval, reduceCtorEq, Nat.reduceEqDiff, rqs, natsr_len, natsr_at, natsr_snoc, natsr_app, natsr_rows, natsr_nil, hF]
  refine if_by (fun hlt => ?_) (fun hlt => ?_)
  · have hlt' : i < l.length := by omega
    obtain ⟨a1, a2, a3⟩ := lcmL_facts l K h0 hK i hi
    have hm : l.getD i 0 ∈ l := by rw [List.getD, List.getElem?_eq_getElem hlt', Option.getD_some]; exact List.getElem_mem _
    have hg : (l.map wd).getD i [] = wd (l.getD i 0) := by simp [List.getD, hlt']
    have hk := hK _ hm
    have h2 : i * K ≤ l.length * K := Nat.mul_le_mul_right _ hi
    have m := glcm_ok (wd (lcmL (l.take i))) (wd (l.getD i 0)) ⟨by omega, lim_wd _⟩ ⟨by omega, lim_wd _⟩ (by rw [nv_wd]; exact a1) (by rw [nv_wd]; exact h0 _ hm)
    rw [nv_wd, nv_wd, ← lcmL_take hlt'] at m
    simp (disch := omega) only [wk, tis, seval, reduceCtorEq, Nat.reduceEqDiff, rqs, natsr_len, natsr_at, natsr_snoc, natsr_app, natsr_rows, natsr_nil, hF, hml, hg]
    refine call_by (m) (by first | rfl | (simp only [tocvs, tocv, hF, hml, hg]; rfl) | (simp only [tocvs, tocv, toboxes, tobox, updH_at, Nat.reduceEqDiff, ↓reduceIte, hF, hml, hg]; rfl)) (by simp) ?_
    simp (disch := omega) only [wk, tis, seval, reduceCtorEq, Nat.reduceEqDiff, rqs, natsr_len, natsr_at, natsr_snoc, natsr_app, natsr_rows, natsr_nil, hF, hml, hg]
    refine ⟨⟨i + 1, by omega, ?_⟩, by omega⟩
    (repeat' apply And.intro) <;> first | rfl | omega
  · simp (disch := omega) only [wk, tis, seval, reduceCtorEq, Nat.reduceEqDiff, rqs, natsr_len, natsr_at, natsr_snoc, natsr_app, natsr_rows, natsr_nil, hF]
    rw [List.take_of_length_le (by omega)]
def dens (A : List Rat) : List Nat := A.map fun c => c.den
def cden (A : List Rat) : Nat := lcmL (dens A)
def clr (A : List Rat) : List Int := A.map fun c => c.num * ((cden A : Int) / (c.den : Int))
theorem dens_len (A : List Rat) : (dens A).length = A.length := List.length_map _
theorem clr_len (A : List Rat) : (clr A).length = A.length := List.length_map _
theorem dens_get {A : List Rat} {i : Nat} (h : i < A.length) : (dens A).getD i 0 = (cfq A i).den := by simp [dens, cfq, List.getD, h]
theorem clr_get {A : List Rat} {i : Nat} (h : i < A.length) : cf (clr A) i = (cfq A i).num * ((cden A : Int) / ((cfq A i).den : Int)) := by simp [clr, cf, cfq, List.getD, h]
theorem dens_ne {A : List Rat} : ∀ x ∈ dens A, x ≠ 0 := fun x hx => by
  obtain ⟨c, _, rfl⟩ := List.mem_map.1 hx
  exact c.den_nz
theorem QB.dens {n k : Nat} {A : List Rat} (h : QB n k A) : ∀ x ∈ dens A, (wd x).length ≤ k := fun x hx => by
  obtain ⟨c, hc, rfl⟩ := List.mem_map.1 hx
  exact Nat.le_trans (qz_parts c).2 (h.2 c hc)
theorem cden_ne (A : List Rat) : cden A ≠ 0 := by
  have := (lcmL_facts (dens A) ((dens A).foldl (fun m x => max m (wd x).length) 0) dens_ne (fun x hx => by
    have key : ∀ (l : List Nat) (m : Nat), m ≤ l.foldl (fun m x => max m (wd x).length) m ∧ ∀ x ∈ l, (wd x).length ≤ l.foldl (fun m x => max m (wd x).length) m := by
      intro l
      induction l with
      | nil => exact fun m => ⟨Nat.le_refl _, fun x hx => nomatch hx⟩
      | cons a l ih =>
        intro m
        have := ih (max m (wd a).length)
        refine ⟨Nat.le_trans (Nat.le_max_left _ _) this.1, fun x hx => ?_⟩
        rcases List.mem_cons.1 hx with rfl | hx
        · exact Nat.le_trans (Nat.le_max_right _ _) this.1
        · exact this.2 x hx
    exact (key (dens A) 0).2 x hx) (dens A).length (Nat.le_refl _)).1
  rwa [List.take_of_length_le (Nat.le_refl _)] at this
theorem cden_dvd {A : List Rat} {i : Nat} (h : i < A.length) : (cfq A i).den ∣ cden A := by
  have := (lcmL_facts (dens A) (cden A + (dens A).foldl (fun m x => m + (wd x).length) 0) dens_ne (fun x hx => by
    have key : ∀ (l : List Nat) (m : Nat), m ≤ l.foldl (fun m x => m + (wd x).length) m ∧ ∀ x ∈ l, (wd x).length ≤ l.foldl (fun m x => m + (wd x).length) m := by
      intro l
      induction l with
      | nil => exact fun m => ⟨Nat.le_refl _, fun x hx => nomatch hx⟩
      | cons a l ih =>
        intro m
        have := ih (m + (wd a).length)
        refine ⟨Nat.le_trans (by omega) this.1, fun x hx => ?_⟩
        rcases List.mem_cons.1 hx with rfl | hx
        · exact Nat.le_trans (by omega) this.1
        · exact this.2 x hx
    have := (key (dens A) 0).2 x hx
    omega) (dens A).length (Nat.le_refl _)).2.2 i (by rw [dens_len]; exact h)
  rw [List.take_of_length_le (Nat.le_refl _), dens_get h] at this
  exact this
theorem cden_len {n k : Nat} {A : List Rat} (h : QB n k A) : (wd (cden A)).length ≤ n * k + 1 := by
  have := (lcmL_facts (dens A) k dens_ne h.dens (dens A).length (Nat.le_refl _)).2.1
  rw [List.take_of_length_le (Nat.le_refl _), dens_len] at this
  have h2 := Nat.mul_le_mul_right k h.1
  show (wd (lcmL (dens A))).length ≤ _
  omega
theorem cf_clr (A : List Rat) (i : Nat) : (cf (clr A) i : Rat) = cfq A i * (cden A : Rat) := by
  by_cases h : i < A.length
  · rw [clr_get h]
    obtain ⟨m, hm⟩ := cden_dvd h
    have hd : ((cfq A i).den : Int) ≠ 0 := by have := (cfq A i).den_nz; omega
    have e : (cden A : Int) / ((cfq A i).den : Int) = (m : Int) := by
      rw [hm, Int.natCast_mul, Int.mul_ediv_cancel_left _ hd]
    rw [e, Rat.intCast_mul, Rat.intCast_natCast, hm, Rat.natCast_mul]
    have h1 : cfq A i = ((cfq A i).num : Rat) / ((cfq A i).den : Rat) := by rw [← Rat.mkRat_eq_div, Rat.mkRat_self]
    have h2 := natr_ne (cfq A i).den_nz
    generalize (cfq A i).num = u at *
    generalize (cfq A i).den = v at *
    rw [h1]
    grind
  · rw [cf_ge (by rw [clr_len]; omega), cfq_ge (by omega), Rat.intCast_zero, Rat.zero_mul]
theorem zl_clr {n k : Nat} {A : List Rat} (h : QB n k A) (i : Nat) : zl (cf (clr A) i) ≤ k + n * k + 1 := by
  by_cases hi : i < A.length
  · rw [clr_get hi]
    have h1 := zl_mul (cfq A i).num ((cden A : Int) / ((cfq A i).den : Int))
    have h2 := zl_div (a := (cden A : Int)) (b := ((cfq A i).den : Int)) (Int.natCast_dvd_natCast.mpr (cden_dvd hi))
    have h3 := cden_len h
    have h4 := (qz_parts (cfq A i)).1
    have h5 : qz (cfq A i) ≤ k := by rw [cfq_lt hi]; exact h.2 _ (List.getElem_mem hi)
    rw [zl_nat] at h2
    omega
  · rw [cf_ge (by rw [clr_len]; omega), zl_zero]; omega
theorem QB.clr {n k : Nat} {A : List Rat} (h : QB n k A) : PB n (k + n * k + 1) (clr A) := .of (by rw [clr_len]; exact h.1) (zl_clr h)
theorem natsr_dens (A : List Rat) {i : Nat} (h : i < A.length) : ((dens A).take (i + 1)).map wd = ((dens A).take i).map wd ++ [wd (cfq A i).den] := by
  rw [List.take_add_one, List.getElem?_eq_getElem (by rw [dens_len]; exact h), List.map_append]
  have e : (dens A)[i]'(by rw [dens_len]; exact h) = (cfq A i).den := by
    have := dens_get h
    rw [List.getD, List.getElem?_eq_getElem (by rw [dens_len]; exact h), Option.getD_some] at this
    exact this
  simp only [Option.toList, List.map_cons, List.map_nil, e]
theorem qclear_ok (p : List RQ) (n k : Nat) (hp : GQ n k p) (hn : n ≤ 2 ^ 28) (hM : n * k + k + 2 ≤ 2 ^ 34) : AC Tryz.prog 29 [cqw p] none [cl (wd (cden (trimq (qvs p)))), cw ((clr (trimq (qvs p))).map canon), ci 0] := by
  have nm := qpnorm_ok p (hp.mono (by omega) (by omega))
  have hA := hp.qb.trimq
  refine AC.by_walk (rs := [.tmp 2, .tmp 3, .tmp 4]) ords Tryz.func29 (by rfl) (by rfl) (by rfl) (by rfl) (by rfl) ?_
  simp (disch := omega) only [wk, tis, seval, reduceCtorEq, Nat.reduceEqDiff, rqs, natsr_len, natsr_at, natsr_snoc, natsr_app, natsr_rows, natsr_nil]
  refine call_by (nm) (by rfl) (by simp) ?_
  simp (disch := omega) only [wk, tis, seval, reduceCtorEq, Nat.reduceEqDiff, rqs, natsr_len, natsr_at, natsr_snoc, natsr_app, natsr_rows, natsr_nil]
  unfold cqs
  generalize trimq (qvs p) = A at *
  have hAl := hA.1
  have hq : (A.map crat).length = A.length := List.length_map _
  have hdl := dens_len A
  have hcl := clr_len A
  simp (disch := omega) only [wk, tis, seval, reduceCtorEq, Nat.reduceEqDiff, rqs, natsr_len, natsr_at, natsr_snoc, natsr_app, natsr_rows, natsr_nil, hq]
  refine aloop_by (fun f H => ∃ (i st26 : Nat), i ≤ A.length ∧ f 29 = .iv (.int .i64 i) ∧ f 27 = .iv (.sl (rats (A.map crat))) ∧ f 28 = .iv (.int .i64 A.length) ∧ f 5 = .iv (.sl (rats (A.map crat))) ∧ f 7 = .hs 26 st26 ∧ H 26 = .blk false st26 28 1 (natsr (((dens A).take i).map wd))) (fun f H => (A.length - intAt f 29).toNat) ?_ ?_
  · refine ⟨0, 1, by omega, ?_⟩
    simp (disch := omega) only [wk, tis, seval, reduceCtorEq, Nat.reduceEqDiff, rqs, natsr_len, natsr_at, natsr_snoc, natsr_app, natsr_rows, natsr_nil, hq, List.take_zero, List.map_nil, Int.toNat_natCast, List.replicate_zero]
  rintro f H ⟨i, st26, hi, hF⟩
  rw [intAt_of hF.1]
  simp (disch := omega) only [wk, tis, seval, reduceCtorEq, Nat.reduceEqDiff, rqs, natsr_len, natsr_at, natsr_snoc, natsr_app, natsr_rows, natsr_nil, hF]
  refine if_by (fun hlt => ?_) (fun hlt => ?_)
  · have hlt' : i < A.length := by omega
    have hdq : (((dens A).take i).map wd).length = i := by rw [List.length_map, List.length_take]; omega
    have e := cratq_get hlt'
    have e2 : lims (crat (cfq A i)).2 = lims (wd (cfq A i).den) := rfl
    simp (disch := omega) only [wk, tis, seval, reduceCtorEq, Nat.reduceEqDiff, rqs, natsr_len, natsr_at, natsr_snoc, natsr_app, natsr_rows, natsr_nil, hF, hq, hdq, e, e2]
    refine ⟨⟨i + 1, st26 + 1, by omega, ?_⟩, by omega⟩
    rw [natsr_dens A hlt']
    (repeat' apply And.intro) <;> first | rfl | omega
  · have hie : i = A.length := by omega
    subst hie
    rw [List.take_of_length_le (by omega)] at hF
    have m := galllcm_ok (dens A) k (by omega) dens_ne hA.dens (by rw [hdl]; have := Nat.mul_le_mul_right k hA.1; omega)
    have hcd := cden_len hA
    have hcn := cden_ne A
    simp (disch := omega) only [wk, tis, seval, reduceCtorEq, Nat.reduceEqDiff, rqs, natsr_len, natsr_at, natsr_snoc, natsr_app, natsr_rows, natsr_nil, hF, hq]
    refine call_by (m) (by first | rfl | (simp only [tocvs, tocv, hF, hq]; rfl) | (simp only [tocvs, tocv, toboxes, tobox, updH_at, Nat.reduceEqDiff, ↓reduceIte, hF, hq]; rfl)) (by simp) ?_
    simp (disch := omega) only [wk, tis, seval, reduceCtorEq, Nat.reduceEqDiff, rqs, natsr_len, natsr_at, natsr_snoc, natsr_app, natsr_rows, natsr_nil, hF, hq]
    rw [show lcmL (dens A) = cden A from rfl]
    refine aloop_nil 11 11 30 2 (by simp (disch := omega) only [wk, tis, seval, reduceCtorEq, Nat.reduceEqDiff, rqs, natsr_len, natsr_at, natsr_snoc, natsr_app, natsr_rows, natsr_nil]) (fun f H => ∃ (i st : Nat), i ≤ A.length ∧ f 43 = .iv (.int .i64 i) ∧ f 41 = .iv (.sl (rats (A.map crat))) ∧ f 42 = .iv (.int .i64 A.length) ∧ f 10 = .iv (.sl (lims (wd (cden A)))) ∧ f 11 = .hs 11 st ∧ H 11 = .blk false st 30 2 (raws (((clr A).take i).map canon))) (fun f H => (A.length - intAt f 43).toNat) ?_ ?_
    · refine ⟨0, (H 11).stamp + 1, by omega, ?_⟩
      simp (disch := omega) only [wk, tis, seval, reduceCtorEq, Nat.reduceEqDiff, rqs, natsr_len, natsr_at, natsr_snoc, natsr_app, natsr_rows, natsr_nil, ghostF, ghostH, hF, hq, List.take_zero, List.map_nil]
    rintro f H ⟨i, st, hi, hF⟩
    rw [intAt_of hF.1]
    simp (disch := omega) only [wk, tis, seval, reduceCtorEq, Nat.reduceEqDiff, rqs, natsr_len, natsr_at, natsr_snoc, natsr_app, natsr_rows, natsr_nil, hF]
    refine if_by (fun hlt => ?_) (fun hlt => ?_)
    · have hlt' : i < A.length := by omega
      have hcq : (((clr A).take i).map canon).length = i := by rw [List.length_map, List.length_take]; omega
      have e := cratq_get hlt'
      have e2 : lims (crat (cfq A i)).2 = lims (wd (cfq A i).den) := rfl
      have e3 : prow (crat (cfq A i)).1 = prow (canon (cfq A i).num) := rfl
      have hc : qz (cfq A i) ≤ k := by rw [cfq_lt hlt']; exact hA.2 _ (List.getElem_mem hlt')
      have hc2 := qz_parts (cfq A i)
      have n1 := znat_ok false (cden A) (by omega)
      have n2 := znat_ok false (cfq A i).den (by omega)
      rw [sgf] at n1 n2
      have hdv : ((cfq A i).den : Int) ∣ (cden A : Int) := Int.natCast_dvd_natCast.mpr (cden_dvd hlt')
      have x := zexact_ok (canon (cden A : Int)) (canon ((cfq A i).den : Int)) ((sz_canon _).mono (by rw [zl_nat]; omega)) ((sz_canon _).mono (by rw [zl_nat]; omega)) (by rw [iv_canon]; have := (cfq A i).den_nz; omega) (by rw [iv_canon, iv_canon]; exact hdv)
      rw [iv_canon, iv_canon] at x
      have zd := zl_div hdv
      rw [zl_nat] at zd
      have w := zmul_ok (canon (cfq A i).num) (canon ((cden A : Int) / ((cfq A i).den : Int))) ((sz_canon _).mono (by omega)) ((sz_canon _).mono (by omega))
      rw [iv_canon, iv_canon, ← clr_get hlt'] at w
      simp (disch := omega) only [wk, tis, seval, reduceCtorEq, Nat.reduceEqDiff, rqs, natsr_len, natsr_at, natsr_snoc, natsr_app, natsr_rows, natsr_nil, hF, hq, hcq, e, e2, e3]
      refine ⟨tmps_by (by kernel_rfl), ?_⟩
      refine call_by (n1) (by first | rfl | (simp only [tocvs, tocv, hF, hq, hcq, e, e2, e3]; rfl) | (simp only [tocvs, tocv, toboxes, tobox, updH_at, Nat.reduceEqDiff, ↓reduceIte, hF, hq, hcq, e, e2, e3]; rfl)) (by simp) ?_
      simp (disch := omega) only [wk, tis, seval, reduceCtorEq, Nat.reduceEqDiff, rqs, natsr_len, natsr_at, natsr_snoc, natsr_app, natsr_rows, natsr_nil, hF, hq, hcq, e, e2, e3]
      refine call_by (n2) (by first | rfl | (simp only [tocvs, tocv, hF, hq, hcq, e, e2, e3]; rfl) | (simp only [tocvs, tocv, toboxes, tobox, updH_at, Nat.reduceEqDiff, ↓reduceIte, hF, hq, hcq, e, e2, e3]; rfl)) (by simp) ?_
      simp (disch := omega) only [wk, tis, seval, reduceCtorEq, Nat.reduceEqDiff, rqs, natsr_len, natsr_at, natsr_snoc, natsr_app, natsr_rows, natsr_nil, hF, hq, hcq, e, e2, e3]
      refine call_by (x) (by first | rfl | (simp only [tocvs, tocv, hF, hq, hcq, e, e2, e3]; rfl) | (simp only [tocvs, tocv, toboxes, tobox, updH_at, Nat.reduceEqDiff, ↓reduceIte, hF, hq, hcq, e, e2, e3]; rfl)) (by simp) ?_
      simp (disch := omega) only [wk, tis, seval, reduceCtorEq, Nat.reduceEqDiff, rqs, natsr_len, natsr_at, natsr_snoc, natsr_app, natsr_rows, natsr_nil, hF, hq, hcq, e, e2, e3]
      first | exact log_by (by kernel_rfl) | refine ⟨log_by (by kernel_rfl), ?_⟩
      refine call_by (w) (by first | rfl | (simp only [tocvs, tocv, hF, hq, hcq, e, e2, e3]; rfl) | (simp only [tocvs, tocv, toboxes, tobox, updH_at, Nat.reduceEqDiff, ↓reduceIte, hF, hq, hcq, e, e2, e3]; rfl)) (by simp) ?_
      simp (disch := omega) only [wk, tis, seval, reduceCtorEq, Nat.reduceEqDiff, rqs, natsr_len, natsr_at, natsr_snoc, natsr_app, natsr_rows, natsr_nil, hF, hq, hcq, e, e2, e3]
      have et := takez_snoc (q := clr A) (i := i) (by omega)
      refine ⟨⟨i + 1, st + 1, by omega, ?_⟩, by omega⟩
      rw [et, List.map_append]
      (repeat' apply And.intro) <;> first | rfl | omega
    · have hie : i = A.length := by omega
      subst hie
      rw [List.take_of_length_le (by omega)] at hF
      simp (disch := omega) only [wk, tis, seval, reduceCtorEq, Nat.reduceEqDiff, rqs, natsr_len, natsr_at, natsr_snoc, natsr_app, natsr_rows, natsr_nil, hF]
      try rfl
end Go.Proofs.YthpmlibcogifjaaGreat

namespace Go.Proofs.YthpmlibcogifjaaGreat
open Go Go.Proofs Go.AL
set_option linter.unusedSimpArgs false
set_option linter.unusedVariables false
def divl (L : List Int) (D : Int) : List Rat := L.map fun c : Int => (c : Rat) / (D : Rat)
theorem divl_len (L : List Int) (D : Int) : (divl L D).length = L.length := List.length_map _
theorem zero_divr (x : Rat) : (0 : Rat) / x = 0 := by rw [Rat.div_def, Rat.zero_mul]
theorem cfq_divl (L : List Int) (D : Int) (k : Nat) : cfq (divl L D) k = (cf L k : Rat) / (D : Rat) := by
  unfold divl cfq cf
  rw [List.getD_eq_getElem?_getD, List.getD_eq_getElem?_getD, List.getElem?_map]
  cases L[k]? with
  | none => simp only [Option.map_none, Option.getD_none]; rw [Rat.intCast_zero, zero_divr]
  | some x => rfl
theorem qz_divn {c : Int} {d M : Nat} (hd : d ≠ 0) (hc : zl c ≤ M) (hw : (wd d).length ≤ M) : qz ((c : Rat) / (((d : Nat) : Int) : Rat)) ≤ M := by
  rw [Rat.intCast_natCast, ← Rat.mkRat_eq_div]
  exact qz_mk hd hc hw
theorem QB.divl {n M : Nat} {L : List Int} {d : Nat} (h : PB n M L) (hd : d ≠ 0) (hw : (wd d).length ≤ M) : QB n M (divl L (d : Int)) := .of (by rw [divl_len]; exact h.1) fun i => by
  rw [cfq_divl]
  exact qz_divn hd (h.cf i) hw
theorem qover_ok (L : List Int) (d e : Nat) (hL : PB (2 ^ 31) (2 ^ 37) L) (hd : (wd d).length ≤ 2 ^ 35) (he : (wd e).length ≤ 2 ^ 35) (hd0 : d ≠ 0) (he0 : e ≠ 0) : AC Tryz.prog 30 [cw (L.map canon), cl (wd d), cl (wd e)] none [cqp (divl L ((d * e : Nat) : Int)), ci 0] := by
  have hl := hL.1
  have hq : (L.map canon).length = L.length := List.length_map _
  have hrl := divl_len L ((d * e : Nat) : Int)
  have n1 := znat_ok false d (by omega)
  have n2 := znat_ok false e (by omega)
  rw [sgf] at n1 n2
  have m := zmul_ok (canon (d : Int)) (canon (e : Int)) ((sz_canon _).mono (by rw [zl_nat]; omega)) ((sz_canon _).mono (by rw [zl_nat]; omega))
  rw [iv_canon, iv_canon, ← Int.natCast_mul] at m
  have hde : d * e ≠ 0 := Nat.mul_ne_zero hd0 he0
  have hw : (wd (d * e)).length ≤ 2 ^ 35 + 2 ^ 35 := wd_len2 hd he
  have hR : QB (2 ^ 40) (2 ^ 38) (divl L ((d * e : Nat) : Int)) := (QB.divl hL hde (by omega)).mono (by omega) (by omega)
  refine AC.by_walk (rs := [.tmp 6, .tmp 7]) ords Tryz.func30 (by rfl) (by rfl) (by rfl) (by rfl) (by rfl) ?_
  simp (disch := omega) only [wk, tis, seval, reduceCtorEq, Nat.reduceEqDiff, rqs]
  refine call_by (n1) (by rfl) (by simp) ?_
  simp (disch := omega) only [wk, tis, seval, reduceCtorEq, Nat.reduceEqDiff, rqs]
  refine call_by (n2) (by rfl) (by simp) ?_
  simp (disch := omega) only [wk, tis, seval, reduceCtorEq, Nat.reduceEqDiff, rqs]
  refine call_by (m) (by rfl) (by simp) ?_
  simp (disch := omega) only [wk, tis, seval, reduceCtorEq, Nat.reduceEqDiff, rqs]
  refine aloop_nil 9 9 32 3 (by simp (disch := omega) only [wk, tis, seval, reduceCtorEq, Nat.reduceEqDiff, rqs]) (fun f H => ∃ (i st st8 : Nat), i ≤ L.length ∧ f 21 = .iv (.int .i64 i) ∧ f 19 = .iv (.sl (raws (L.map canon))) ∧ f 20 = .iv (.int .i64 L.length) ∧ f 8 = .hp 8 st8 0 0 ∧ H 8 = .blk false st8 30 2 [prow (canon ((d * e : Nat) : Int))] ∧ f 9 = .hs 9 st ∧ H 9 = .blk false st 32 3 (rats (((divl L ((d * e : Nat) : Int)).take i).map crat))) (fun f H => (L.length - intAt f 21).toNat) ?_ ?_
  · refine ⟨0, 1, 1, by omega, ?_⟩
    simp (disch := omega) only [wk, tis, seval, reduceCtorEq, Nat.reduceEqDiff, rqs, ghostF, ghostH, hq, List.take_zero, List.map_nil]
  rintro f H ⟨i, st, st8, hi, hF⟩
  rw [intAt_of hF.1]
  simp (disch := omega) only [wk, tis, seval, reduceCtorEq, Nat.reduceEqDiff, rqs, hF]
  refine if_by (fun hlt => ?_) (fun hlt => ?_)
  · have hlt' : i < L.length := by omega
    have hrq : (((divl L ((d * e : Nat) : Int)).take i).map crat).length = i := by rw [List.length_map, List.length_take]; omega
    have e1 := canon_getD L i
    have hz := hL.cf i
    have k := qmake_ok (canon (cf L i)) (canon ((d * e : Nat) : Int)) ((sz_canon _).mono (by omega)) ((sz_canon _).mono (by rw [zl_nat]; omega)) (by rw [iv_canon]; omega)
    rw [iv_canon, iv_canon, ← cfq_divl] at k
    simp (disch := omega) only [wk, tis, seval, reduceCtorEq, Nat.reduceEqDiff, rqs, hF, hq, hrq, e1]
    refine call_by (k) (by first | rfl | (simp only [tocvs, tocv, hF, hq, hrq, e1]; rfl) | (simp only [tocvs, tocv, toboxes, tobox, updH_at, Nat.reduceEqDiff, ↓reduceIte, hF, hq, hrq, e1]; rfl)) (by simp) ?_
    simp (disch := omega) only [wk, tis, seval, reduceCtorEq, Nat.reduceEqDiff, rqs, hF, hq, hrq, e1]
    have et := takeq_snoc (q := divl L ((d * e : Nat) : Int)) (i := i) (by omega)
    refine ⟨⟨i + 1, st + 1, st8, by omega, ?_⟩, by omega⟩
    rw [et, List.map_append]
    (repeat' apply And.intro) <;> first | rfl | omega
  · simp (disch := omega) only [wk, tis, seval, reduceCtorEq, Nat.reduceEqDiff, rqs, hF]
    rw [List.take_of_length_le (by omega)] at hF
    have m := qtrim_own _ hR
    refine call_by (m) (by first | rfl | (simp only [tocvs, tocv, hF]; rfl) | (simp only [tocvs, tocv, toboxes, tobox, updH_at, Nat.reduceEqDiff, ↓reduceIte, hF]; rfl)) (by simp) ?_
    simp (disch := omega) only [wk, tis, seval, reduceCtorEq, Nat.reduceEqDiff, rqs, hF]
theorem cv_cast (g : Nat → Int) : ∀ (p : List Int) (k : Nat), ((cv p g k : Int) : Rat) = cvq (qp p) (fun j => (g j : Rat)) k
  | [], k => by simp only [cv, qp, List.map_nil, cvq]; rfl
  | x :: xs, 0 => by
    have e : qp (x :: xs) = (x : Rat) :: qp xs := rfl
    rw [e]
    simp only [cv, cvq]
    rw [Int.add_zero, Rat.intCast_mul, Rat.add_zero]
  | x :: xs, k + 1 => by
    have e : qp (x :: xs) = (x : Rat) :: qp xs := rfl
    have ih := cv_cast g xs k
    rw [e]
    simp only [cv, cvq]
    rw [Rat.intCast_add, Rat.intCast_mul, ih]
theorem cfq_qp_pmul (x y : List Int) (k : Nat) : cfq (qp (pmul x y)) k = cfq (mulq (qp x) (qp y)) k := by
  rw [cfq_qp, cf_pmul, cfq_mulq, cv_cast]
  exact cvq_congr _ _ fun j => (cfq_qp y j).symm
theorem pq_clr (A : List Rat) : pq (qp (clr A)) = PQ.C (cden A : Rat) * pq A := PQ.ext fun k => by
  rw [PQ.C_mul_c, pq_c, pq_c, cfq_qp, cf_clr, Rat.mul_comm]
theorem cfq_clear_mul (A B : List Rat) (k : Nat) : cfq (divl (trimz (pmul (clr A) (clr B))) ((cden A * cden B : Nat) : Int)) k = cfq (mulq A B) k := by
  have h1 := natr_ne (cden_ne A)
  have h2 := natr_ne (cden_ne B)
  rw [cfq_divl, cf_trimz, ← cfq_qp, cfq_qp_pmul]
  have e : pq (mulq (qp (clr A)) (qp (clr B))) = PQ.C ((cden A : Rat) * (cden B : Rat)) * pq (mulq A B) := by
    rw [pq_mulq, pq_clr, pq_clr, PQ.C_mul, pq_mulq]
    ac_rfl
  have e2 := congrArg (fun f => PQ.c f k) e
  simp only [PQ.C_mul_c, pq_c] at e2
  rw [e2, Rat.intCast_natCast, Rat.natCast_mul]
  grind
theorem mulq_def (A B : List Rat) : mulq A B = (List.range (A.length + B.length)).map (cvq A (cfq B)) := rfl
theorem QB.mulq {n k M : Nat} {A B : List Rat} (hA : QB n k A) (hB : QB n k B) (hn : n < W) (hM : n * k + k + 1 ≤ M) (hk : 1 ≤ k) : QB (2 * n) (2 * M + 1) (mulq A B) := by
  have pA := hA.clr.mono (n' := n) (k' := M) (Nat.le_refl _) (by omega)
  have pB := hB.clr.mono (n' := n) (k' := M) (Nat.le_refl _) (by omega)
  have pm := (pA.pmul pB hn).trimz
  have c1 := cden_len hA
  have c2 := cden_len hB
  have hw : (wd (cden A * cden B)).length ≤ M + M := wd_len2 (by omega) (by omega)
  have q := QB.divl (pm.mono (n' := n + n) (k' := M + M + 1) (Nat.le_refl _) (by omega)) (Nat.mul_ne_zero (cden_ne A) (cden_ne B)) (by omega)
  refine .of (by simp only [mulq_def, List.length_map, List.length_range]; have := hA.1; have := hB.1; omega) fun i => ?_
  rw [← cfq_clear_mul]
  have := q.cz (by omega) i
  omega
theorem mulq_trim (A B : List Rat) (k : Nat) : cfq (mulq (trimq A) (trimq B)) k = cfq (mulq A B) k := mulq_congr (cfq_trimq A) (cfq_trimq B) k
theorem mulq_nil {A B : List Rat} (h : trimq A = [] ∨ trimq B = []) : cqs (mulq A B) = [] := by
  have hz : ∀ k, cfq (mulq A B) k = 0 := fun k => by
    rw [← mulq_trim]
    rcases h with h | h
    · rw [h, cfq_mulq]; rfl
    · rw [h, cfq_mulq, cvq_none]
  have : tzq (mulq A B) = 0 := tzq_zero_iff.mpr hz
  rw [cqs, show trimq (mulq A B) = [] by rw [trimq, this, List.take_zero]]; rfl
theorem qpmul_ok (p q : List RQ) (n k : Nat) (hp : GQ n k p) (hq : GQ n k q) (hn : n ≤ 2 ^ 28) (hM : n * k + k + 2 ≤ 2 ^ 34) (hk : 1 ≤ k) : AC Tryz.prog 12 [cqw p, cqw q] none [cqp (mulq (qvs p) (qvs q)), ci 0] := by
  have m := qboth_ok p q (hp.mono (by omega) (by omega)) (hq.mono (by omega) (by omega))
  have hA := hp.qb.trimq
  have hB := hq.qb.trimq
  have e : cqp (mulq (qvs p) (qvs q)) = cqp (mulq (trimq (qvs p)) (trimq (qvs q))) := congrArg cqw (cqs_ext fun k => (mulq_trim _ _ k).symm)
  have tA := trimq_trimq (qvs p)
  have tB := trimq_trimq (qvs q)
  rw [e]
  refine AC.by_walk (rs := [.tmp 4, .tmp 5]) ords Tryz.func12 (by rfl) (by rfl) (by rfl) (by rfl) (by rfl) ?_
  simp (disch := omega) only [wk, tis, seval, reduceCtorEq, Nat.reduceEqDiff, rqs]
  refine call_by (m) (by rfl) (by simp) ?_
  simp (disch := omega) only [wk, tis, seval, reduceCtorEq, Nat.reduceEqDiff, rqs]
  unfold cqs
  generalize trimq (qvs p) = A at *
  generalize trimq (qvs q) = B at *
  have hqa : (A.map crat).length = A.length := List.length_map _
  have hqb : (B.map crat).length = B.length := List.length_map _
  by_cases ha : A.length = 0
  · have ha' : ((A.map crat).length : Int) = 0 := by omega
    have hn := mulq_nil (A := A) (B := B) (.inl (by rw [tA]; exact List.length_eq_zero_iff.mp ha))
    rw [show cqp (mulq A B) = cqw [] from congrArg cqw hn]
    simp (disch := omega) only [wk, tis, seval, reduceCtorEq, Nat.reduceEqDiff, rqs, ha']
    try rfl
  have ha' : ¬ ((A.map crat).length : Int) = 0 := by omega
  by_cases hb : B.length = 0
  · have hb' : ((B.map crat).length : Int) = 0 := by omega
    have hn := mulq_nil (A := A) (B := B) (.inr (by rw [tB]; exact List.length_eq_zero_iff.mp hb))
    rw [show cqp (mulq A B) = cqw [] from congrArg cqw hn]
    simp (disch := omega) only [wk, tis, seval, reduceCtorEq, Nat.reduceEqDiff, rqs, ha', hb']
    try rfl
  have hb' : ¬ ((B.map crat).length : Int) = 0 := by omega
  have c1 := qclear_ok (A.map crat) n k hA.gq hn hM
  have c2 := qclear_ok (B.map crat) n k hB.gq hn hM
  rw [qvs_map, tA] at c1
  rw [qvs_map, tB] at c2
  have pA := hA.clr.mono (n' := 2 ^ 30) (k' := 2 ^ 35) (by omega) (by omega)
  have pB := hB.clr.mono (n' := 2 ^ 30) (k' := 2 ^ 35) (by omega) (by omega)
  have z := pmul_ok ((clr A).map canon) ((clr B).map canon) (RP.canon pA) (RP.canon pB)
  rw [pv_canon, pv_canon] at z
  have l1 := cden_len hA
  have l2 := cden_len hB
  have pm := (pA.pmul pB (by decide)).trimz
  have o := qover_ok (trimz (pmul (clr A) (clr B))) (cden A) (cden B) (pm.mono (by omega) (by omega)) (by omega) (by omega) (cden_ne A) (cden_ne B)
  have ee : cqs (divl (trimz (pmul (clr A) (clr B))) ((cden A * cden B : Nat) : Int)) = cqs (mulq A B) := cqs_ext (cfq_clear_mul A B)
  rw [show cqp (divl (trimz (pmul (clr A) (clr B))) ((cden A * cden B : Nat) : Int)) = cqw (cqs (mulq A B)) from congrArg cqw ee] at o
  simp (disch := omega) only [wk, tis, seval, reduceCtorEq, Nat.reduceEqDiff, rqs, ha', hb']
  refine call_by (c1) (by rfl) (by simp) ?_
  simp (disch := omega) only [wk, tis, seval, reduceCtorEq, Nat.reduceEqDiff, rqs]
  refine call_by (c2) (by rfl) (by simp) ?_
  simp (disch := omega) only [wk, tis, seval, reduceCtorEq, Nat.reduceEqDiff, rqs]
  refine call_by (z) (by rfl) (by simp) ?_
  simp (disch := omega) only [wk, tis, seval, reduceCtorEq, Nat.reduceEqDiff, rqs]
  refine call_by (o) (by rfl) (by simp) ?_
  simp (disch := omega) only [wk, tis, seval, reduceCtorEq, Nat.reduceEqDiff, rqs]
  try rfl
theorem qpmul_bad (p q : List RQ) (hp : BQ (2 ^ 40) (2 ^ 38) p) (hq : BQ (2 ^ 40) (2 ^ 38) q) (h : gd p = false ∨ gd q = false) : AC Tryz.prog 12 [cqw p, cqw q] none [cqw [], ci 1] := by
  have m := qboth_bad p q hp hq h
  refine AC.by_walk (rs := [.tmp 4, .tmp 5]) ords Tryz.func12 (by rfl) (by rfl) (by rfl) (by rfl) (by rfl) ?_
  simp (disch := omega) only [wk, tis, seval, reduceCtorEq, Nat.reduceEqDiff, rqs]
  refine call_by (m) (by rfl) (by simp) ?_
  simp (disch := omega) only [wk, tis, seval, reduceCtorEq, Nat.reduceEqDiff, rqs]
  try rfl
end Go.Proofs.YthpmlibcogifjaaGreat

namespace Go.Proofs.YthpmlibcogifjaaGreat
open Go Go.Proofs Go.AL
set_option linter.unusedSimpArgs false
set_option linter.unusedVariables false
end Go.Proofs.YthpmlibcogifjaaGreat

namespace Go.Proofs.YthpmlibcogifjaaGreat
open Go Go.Proofs Go.AL
set_option linter.unusedSimpArgs false
set_option linter.unusedVariables false
def rowsAt (f : Fr) (t : Nat) : Nat := match f t with
  | .iv (.sl rows) => rows.length
  | _ => 0
theorem rowsAt_of {f : Fr} {t : Nat} {rows : List (List IV)} (h : f t = .iv (.sl rows)) : rowsAt f t = rows.length := by
  unfold rowsAt; rw [h]
end Go.Proofs.YthpmlibcogifjaaGreat

namespace Go.Proofs.YthpmlibcogifjaaGreat
open Go Go.Proofs Go.AL
set_option linter.unusedSimpArgs false
set_option linter.unusedVariables false
theorem tgood_ok (l : List RQ) (h : BQ (2 ^ 40) (2 ^ 38) l) : AC Tryz.prog 6 [cqw l] none [cb (gd l)] := by
  refine AC.by_walk (rs := [.tmp 2]) ords Tryz.func6 (by rfl) (by rfl) (by rfl) (by rfl) (by rfl) ?_
  have hl := h.1
  simp (disch := omega) only [wk, tis, seval, reduceCtorEq, Nat.reduceEqDiff, rqs]
  refine aloop_by (fun f H => ∃ (i : Nat), i ≤ l.length ∧ (∀ j, j < i → nv (l.getD j q0).2 ≠ 0) ∧ f 3 = .iv (.int .i64 i) ∧ f 0 = .iv (.sl (rats l))) (fun f H => (l.length - intAt f 3).toNat) ?_ ?_
  · refine ⟨0, by omega, fun j hj => by omega, ?_⟩
    simp (disch := omega) only [wk, tis, seval, reduceCtorEq, Nat.reduceEqDiff, rqs]
  rintro f H ⟨i, hi, hz, hF⟩
  rw [intAt_of hF.1]
  simp (disch := omega) only [wk, tis, seval, reduceCtorEq, Nat.reduceEqDiff, rqs, hF]
  refine if_by (fun hlt => ?_) (fun hlt => ?_)
  · have hr := h.get (i := i) (by omega)
    simp (disch := omega) only [wk, tis, seval, reduceCtorEq, Nat.reduceEqDiff, rqs, hF]
    refine call_by ((hok_ok (l.getD i q0) ⟨Nat.le_trans hr.2.1 (by omega), hr.2.2⟩)) (by first | rfl | (simp only [tocvs, tocv, hF]; rfl) | (simp only [tocvs, tocv, toboxes, tobox, updH_at, Nat.reduceEqDiff, ↓reduceIte, hF]; rfl)) (by simp) ?_
    simp (disch := omega) only [wk, tis, seval, reduceCtorEq, Nat.reduceEqDiff, rqs, hF]
    by_cases h0 : nv (l.getD i q0).2 = 0
    · have hb : gd l = false := by
        cases hg : gd l with
        | false => rfl
        | true => exact (gd_iff.mp hg _ (getq_mem (by omega)) h0).elim
      rw [hb]
      simp (disch := omega) only [wk, tis, seval, reduceCtorEq, Nat.reduceEqDiff, rqs, hF, h0, not_true_eq_false, decide_false, Bool.not_false]
    · simp (disch := omega) only [wk, tis, seval, reduceCtorEq, Nat.reduceEqDiff, rqs, hF, h0, not_false_eq_true, decide_true, Bool.not_true]
      refine ⟨⟨i + 1, by omega, fun j hj => ?_, by omega⟩, by omega⟩
      rcases Nat.lt_or_ge j i with hj' | hj'
      · exact hz j hj'
      · obtain rfl : j = i := by omega
        exact h0
  · have hg : gd l = true := gd_iff.mpr fun r hr => by
      obtain ⟨j, hj, rfl⟩ := List.getElem_of_mem hr
      have := hz j (by omega)
      rwa [List.getD, List.getElem?_eq_getElem hj, Option.getD_some] at this
    rw [hg]
    simp (disch := omega) only [wk, tis, seval, reduceCtorEq, Nat.reduceEqDiff, rqs, hF]
theorem tsame_self {p : List RQ} (h : BQ (2 ^ 40) (2 ^ 40) p) : AC Tryz.prog 19 [cqw p, cqw p] none [cb true] := by
  have := tsameq_ok p p h h
  rwa [decide_eq_true rfl] at this
theorem tform_ok (p : List RQ) (h : GQ (2 ^ 40) (2 ^ 38) p) : AC Tryz.prog 38 [cqw p] none [cqp (qvs p)] := by
  refine AC.by_walk (rs := [.tmp 2]) ords Tryz.func38 (by rfl) (by rfl) (by rfl) (by rfl) (by rfl) ?_
  have hl := h.1
  have htl := tzq_le (qvs p)
  rw [qvs_len] at htl
  simp (disch := omega) only [wk, tis, seval, reduceCtorEq, Nat.reduceEqDiff, rqs]
  refine aloop_nil 3 3 32 3 (by simp (disch := omega) only [wk, tis, seval, reduceCtorEq, Nat.reduceEqDiff, rqs]) (fun f H => ∃ (i st : Nat), i ≤ p.length ∧ f 4 = .iv (.int .i64 i) ∧ f 0 = .iv (.sl (rats p)) ∧ f 3 = .hs 3 st ∧ H 3 = .blk false st 32 3 (rats (((qvs p).take i).map crat))) (fun f H => (p.length - intAt f 4).toNat) ?_ ?_
  · refine ⟨0, 1, by omega, ?_⟩
    simp (disch := omega) only [wk, tis, seval, reduceCtorEq, Nat.reduceEqDiff, rqs, ghostF, ghostH, List.take_zero, List.map_nil]
  rintro f H ⟨i, st, hi, hF⟩
  rw [intAt_of hF.1]
  simp (disch := omega) only [wk, tis, seval, reduceCtorEq, Nat.reduceEqDiff, rqs, hF]
  refine if_by (fun hlt => ?_) (fun hlt => ?_)
  · have hq : (((qvs p).take i).map crat).length = i := by rw [List.length_map, List.length_take, qvs_len]; omega
    have hr := h.get (i := i) (by omega)
    have m := rR_ok (p.getD i q0).1 (p.getD i q0).2 hr.1 hr.2 (h.den (by omega))
    rw [show mkRat (iv (p.getD i q0).1) (nv (p.getD i q0).2) = cfq (qvs p) i from (cfq_qvs p i).symm] at m
    simp (disch := omega) only [wk, tis, seval, reduceCtorEq, Nat.reduceEqDiff, rqs, hF, hq]
    refine ⟨tmps_by (by kernel_rfl), ?_⟩
    refine call_by (m) (by first | rfl | (simp only [tocvs, tocv, hF, hq]; rfl) | (simp only [tocvs, tocv, toboxes, tobox, updH_at, Nat.reduceEqDiff, ↓reduceIte, hF, hq]; rfl)) (by simp) ?_
    simp (disch := omega) only [wk, tis, seval, reduceCtorEq, Nat.reduceEqDiff, rqs, hF, hq]
    first | exact log_by (by kernel_rfl) | refine ⟨log_by (by kernel_rfl), ?_⟩
    have e := takeq_snoc (q := qvs p) (i := i) (by rw [qvs_len]; omega)
    refine ⟨⟨i + 1, st + 1, by omega, ?_⟩, by omega⟩
    rw [e, List.map_append]
    (repeat' apply And.intro) <;> first | rfl | omega
  · rw [List.take_of_length_le (by rw [qvs_len]; omega)] at hF
    have hqq := h.qb
    have hqz := fun i => hqq.cz (k := 2 ^ 38) (by omega) i
    simp (disch := omega) only [wk, tis, seval, reduceCtorEq, Nat.reduceEqDiff, rqs, hF]
    refine aloop_w (.iv 3 3 st false 32 3 (rats ((qvs p).map crat)) (by simp (disch := omega) only [wk, tis, seval, reduceCtorEq, Nat.reduceEqDiff, rqs, hF]) (by simp (disch := omega) only [wk, tis, seval, reduceCtorEq, Nat.reduceEqDiff, rqs, hF]) (.refl _ _)) (fun f H => ∃ k : Nat, k ≤ p.length ∧ tzq ((qvs p).take k) = tzq (qvs p) ∧ f 0 = .iv (.sl (rats p)) ∧ f 3 = .iv (.sl (rats (((qvs p).take k).map crat)))) (fun f H => rowsAt f 3) ?_ ?_
    · refine ⟨p.length, Nat.le_refl _, by rw [← qvs_len p, List.take_length], ?_⟩
      rw [show (qvs p).take p.length = qvs p from List.take_of_length_le (by rw [qvs_len]; exact Nat.le_refl _)]
      simp (disch := omega) only [wk, tis, seval, reduceCtorEq, Nat.reduceEqDiff, rqs, hF]
    clear hF
    rintro f H ⟨k, hk, ht, hF⟩
    have hq : (((qvs p).take k).map crat).length = k := by rw [List.length_map, List.length_take, qvs_len]; omega
    rw [rowsAt_of hF.2, rats_len, hq]
    by_cases hc : 0 < (k : Int)
    · have ek : ((k : Int) - 1).toNat = k - 1 := by omega
      have hg : (((qvs p).take k).map crat).getD (k - 1) q0 = crat (cfq (qvs p) (k - 1)) := by
        simp [cfq, List.getD, List.getElem?_take, show k - 1 < k by omega, show k - 1 < (qvs p).length by rw [qvs_len]; omega]
      have hs := hS_ok (crat (cfq (qvs p) (k - 1))) ((szq_crat (k := 2 ^ 40) (Nat.le_trans (hqz _) (by omega))).1)
      rw [sgq_qv (nv_crat0 _), qv_crat] at hs
      simp (disch := omega) only [wk, tis, seval, reduceCtorEq, Nat.reduceEqDiff, rqs, hF, hq, hc, ek, hg]
      refine call_by (hs) (by first | rfl | (simp only [tocvs, tocv, hF, hq, hc, ek, hg]; rfl) | (simp only [tocvs, tocv, toboxes, tobox, updH_at, Nat.reduceEqDiff, ↓reduceIte, hF, hq, hc, ek, hg]; rfl)) (by simp) ?_
      simp (disch := omega) only [wk, tis, seval, reduceCtorEq, Nat.reduceEqDiff, rqs, hF, hq, hc, ek, hg]
      refine if_by (fun hz => ?_) (fun hz => ?_)
      · have e2 : (((qvs p).take k).map crat).take (k - 1) = ((qvs p).take (k - 1)).map crat := by
          rw [← List.map_take, List.take_take, Nat.min_eq_left (by omega)]
        have hq2 : (((qvs p).take (k - 1)).map crat).length = k - 1 := by rw [List.length_map, List.length_take, qvs_len]; omega
        simp (disch := omega) only [wk, tis, seval, reduceCtorEq, Nat.reduceEqDiff, rqs, hF, hq, hc, ek, hg]
        refine ⟨⟨k - 1, by omega, ?_, by rw [e2]⟩, ?_⟩
        · rw [← tzq_take_zero (k := k - 1) (by rw [qvs_len]; omega) (sgq_eq_zero.mp hz), show k - 1 + 1 = k by omega, ht]
        · rw [rowsAt_of rfl, rats_len, e2, hq2]; omega
      · have hk : k = tzq (qvs p) := by
          have := tzq_full (q := qvs p) (k := k - 1) (by rw [qvs_len]; omega) (fun e => hz (sgq_eq_zero.mpr e))
          rw [show k - 1 + 1 = k by omega, ht] at this; exact this.symm
        simp (disch := omega) only [wk, tis, seval, reduceCtorEq, Nat.reduceEqDiff, rqs, hF, hq, hc, ek, hg]
        rw [hk]; rfl
    · have hk : k = tzq (qvs p) := by
        obtain rfl : k = 0 := by omega
        rw [← ht]; rfl
      simp (disch := omega) only [wk, tis, seval, reduceCtorEq, Nat.reduceEqDiff, rqs, hF, hq, hc]
      rw [hk]; rfl
end Go.Proofs.YthpmlibcogifjaaGreat

namespace Go.Proofs.YthpmlibcogifjaaGreat
open Go Go.Proofs Go.AL
set_option linter.unusedSimpArgs false
set_option linter.unusedVariables false
theorem tat_ok (A : List Rat) (n : Int) (hl : A.length ≤ 2 ^ 40) : AC Tryz.prog 40 [cqw (A.map crat), ci n] none [cqz (if n < 0 then 0 else cfq A n.toNat)] := by
  have hq : (A.map crat).length = A.length := List.length_map _
  have z := hP_ok 0 1 (by omega) (by omega) (by omega) (by omega)
  rw [show ((0 : Int) : Rat) / ((1 : Nat) : Rat) = 0 by decide +kernel] at z
  refine AC.by_walk (rs := [.cell 4 32]) ords Tryz.func40 (by rfl) (by rfl) (by rfl) (by rfl) (by rfl) ?_
  by_cases h0 : n < 0
  · rw [if_pos h0]
    simp (disch := omega) only [wk, tis, seval, reduceCtorEq, Nat.reduceEqDiff, rqs, h0]
    refine call_by (z) (by first | rfl | (simp only [tocvs, tocv, h0]; rfl) | (simp only [tocvs, tocv, toboxes, tobox, updH_at, Nat.reduceEqDiff, ↓reduceIte, h0]; rfl)) (by simp) ?_
    simp (disch := omega) only [wk, tis, seval, reduceCtorEq, Nat.reduceEqDiff, rqs, h0]
    try rfl
  · rw [if_neg h0]
    obtain ⟨i, rfl⟩ : ∃ i : Nat, n = i := ⟨n.toNat, by omega⟩
    rw [Int.toNat_natCast]
    by_cases h1 : i < A.length
    · have h2 : ¬ (A.length : Int) ≤ (i : Int) := by omega
      have e := cratq_get h1
      simp (disch := omega) only [wk, tis, seval, reduceCtorEq, Nat.reduceEqDiff, rqs, h0, h2, hq, e]
      try rfl
    · have h2 : (A.length : Int) ≤ (i : Int) := by omega
      rw [cfq_ge (by omega)]
      simp (disch := omega) only [wk, tis, seval, reduceCtorEq, Nat.reduceEqDiff, rqs, h0, h2, hq]
      refine call_by (z) (by first | rfl | (simp only [tocvs, tocv, h0, h2, hq]; rfl) | (simp only [tocvs, tocv, toboxes, tobox, updH_at, Nat.reduceEqDiff, ↓reduceIte, h0, h2, hq]; rfl)) (by simp) ?_
      simp (disch := omega) only [wk, tis, seval, reduceCtorEq, Nat.reduceEqDiff, rqs, h0, h2, hq]
      try rfl
theorem tat_nat (A : List Rat) (i : Nat) (hl : A.length ≤ 2 ^ 40) : AC Tryz.prog 40 [cqw (A.map crat), ci i] none [cqz (cfq A i)] := by
  have := tat_ok A i hl
  rwa [if_neg (by omega), Int.toNat_natCast] at this
theorem known_ok : AC Tryz.prog 4 [] none [cb true] := by
  have p1 := hP_ok 1 2 (by omega) (by omega) (by omega) (by omega)
  have p2 := hP_ok 1 1 (by omega) (by omega) (by omega) (by omega)
  have p3 := hP_ok (-1) 2 (by omega) (by omega) (by omega) (by omega)
  have p4 := hP_ok (-1) 4 (by omega) (by omega) (by omega) (by omega)
  have p5 := hP_ok 0 1 (by omega) (by omega) (by omega) (by omega)
  rw [show ((1 : Int) : Rat) / ((2 : Nat) : Rat) = mkRat 1 2 by decide +kernel] at p1
  rw [show ((1 : Int) : Rat) / ((1 : Nat) : Rat) = 1 by decide +kernel] at p2
  rw [show ((-1 : Int) : Rat) / ((2 : Nat) : Rat) = mkRat (-1) 2 by decide +kernel] at p3
  rw [show ((-1 : Int) : Rat) / ((4 : Nat) : Rat) = mkRat (-1) 4 by decide +kernel] at p4
  rw [show ((0 : Int) : Rat) / ((1 : Nat) : Rat) = 0 by decide +kernel] at p5
  have b : ∀ x ∈ [mkRat 1 2, (1 : Rat), mkRat (-1) 2, mkRat (-1) 4, 0], qz x ≤ 1 := by decide +kernel
  have q1 : QB 2 1 [mkRat 1 2, 1] := ⟨by simp, fun c hc => b c (by simp at hc ⊢; rcases hc with rfl | rfl <;> simp)⟩
  have q2 : QB 2 1 [mkRat (-1) 2, 1] := ⟨by simp, fun c hc => b c (by simp at hc ⊢; rcases hc with rfl | rfl <;> simp)⟩
  have q3 : QB 3 1 [mkRat (-1) 4, 0, 1] := ⟨by simp, fun c hc => b c (by simp at hc ⊢; rcases hc with rfl | rfl | rfl <;> simp)⟩
  have m := qpmul_ok ([mkRat 1 2, 1].map crat) ([mkRat (-1) 2, 1].map crat) 2 1 q1.gq q2.gq (by omega) (by omega) (by omega)
  rw [qvs_map, qvs_map] at m
  have e : cqs (mulq [mkRat 1 2, 1] [mkRat (-1) 2, 1]) = [mkRat (-1) 4, 0, 1].map crat := by
    rw [cqs, show trimq (mulq [mkRat 1 2, 1] [mkRat (-1) 2, 1]) = [mkRat (-1) 4, 0, 1] by decide +kernel]
  rw [show cqp (mulq [mkRat 1 2, 1] [mkRat (-1) 2, 1]) = cqw ([mkRat (-1) 4, 0, 1].map crat) from congrArg cqw e] at m
  have s := tsame_self (q3.gq.bq.mono (n' := 2 ^ 40) (k' := 2 ^ 40) (by omega) (by omega))
  refine AC.by_walk (rs := [.tmp 0]) ords Tryz.func4 (by rfl) (by rfl) (by rfl) (by rfl) (by rfl) ?_
  simp (disch := omega) only [wk, tis, seval, reduceCtorEq, Nat.reduceEqDiff, rqs]
  refine call_by (p1) (by rfl) (by simp) ?_
  simp (disch := omega) only [wk, tis, seval, reduceCtorEq, Nat.reduceEqDiff, rqs]
  refine call_by (p2) (by rfl) (by simp) ?_
  simp (disch := omega) only [wk, tis, seval, reduceCtorEq, Nat.reduceEqDiff, rqs]
  refine call_by (p3) (by rfl) (by simp) ?_
  simp (disch := omega) only [wk, tis, seval, reduceCtorEq, Nat.reduceEqDiff, rqs]
  refine call_by (p2) (by rfl) (by simp) ?_
  simp (disch := omega) only [wk, tis, seval, reduceCtorEq, Nat.reduceEqDiff, rqs]
  refine call_by (m) (by rfl) (by simp) ?_
  simp (disch := omega) only [wk, tis, seval, reduceCtorEq, Nat.reduceEqDiff, rqs]
  refine call_by (p4) (by rfl) (by simp) ?_
  simp (disch := omega) only [wk, tis, seval, reduceCtorEq, Nat.reduceEqDiff, rqs]
  refine call_by (p5) (by rfl) (by simp) ?_
  simp (disch := omega) only [wk, tis, seval, reduceCtorEq, Nat.reduceEqDiff, rqs]
  refine call_by (p2) (by rfl) (by simp) ?_
  simp (disch := omega) only [wk, tis, seval, reduceCtorEq, Nat.reduceEqDiff, rqs]
  refine call_by (s) (by rfl) (by simp) ?_
  simp (disch := omega) only [wk, tis, seval, reduceCtorEq, Nat.reduceEqDiff, rqs]
  try rfl
end Go.Proofs.YthpmlibcogifjaaGreat
