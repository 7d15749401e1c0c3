/-
  Contracts of the functions that the law reaches.
-/
import Derived.Test.YtcjnacpekbhhcaaGreatL36M
import Derived.Test.YtcjnacpekbhhcaaGreatL12M
namespace Go.Proofs.YtcjnacpekbhhcaaGreat
open Go Go.Proofs Go.AL
set_option linter.unusedSimpArgs false
set_option linter.unusedVariables false

/-! ### Lists of rationals: sizes -/
def BQ (n k : Nat) (p : List RQ) : Prop := p.length ≤ n ∧ ∀ r ∈ p, SzQ k r
def GQ (n k : Nat) (p : List RQ) : Prop := p.length ≤ n ∧ ∀ r ∈ p, SzQ k r ∧ nv r.2 ≠ 0
def QB (n k : Nat) (q : List Rat) : Prop := q.length ≤ n ∧ ∀ c ∈ q, qz c ≤ k
/-- Do all mean numbers? -/
def gd (p : List RQ) : Bool := p.all fun r => decide (nv r.2 ≠ 0)

theorem getq_mem {p : List RQ} {i : Nat} (h : i < p.length) : p.getD i q0 ∈ p := by rw [List.getD, List.getElem?_eq_getElem h, Option.getD_some]; exact List.getElem_mem h
theorem BQ.get {n k i : Nat} {p : List RQ} (h : BQ n k p) (hi : i < p.length) : SzQ k (p.getD i q0) := h.2 _ (getq_mem hi)
theorem GQ.get {n k i : Nat} {p : List RQ} (h : GQ n k p) (hi : i < p.length) : SzQ k (p.getD i q0) := (h.2 _ (getq_mem hi)).1
theorem GQ.den {n k i : Nat} {p : List RQ} (h : GQ n k p) (hi : i < p.length) : nv (p.getD i q0).2 ≠ 0 := (h.2 _ (getq_mem hi)).2
theorem GQ.bq {n k : Nat} {p : List RQ} (h : GQ n k p) : BQ n k p := ⟨h.1, fun r hr => (h.2 r hr).1⟩
theorem gd_iff {p : List RQ} : gd p = true ↔ ∀ r ∈ p, nv r.2 ≠ 0 := by simp [gd]
theorem GQ.gd {n k : Nat} {p : List RQ} (h : GQ n k p) : gd p = true := gd_iff.mpr fun r hr => (h.2 r hr).2
theorem BQ.gq {n k : Nat} {p : List RQ} (h : BQ n k p) (g : gd p = true) : GQ n k p := ⟨h.1, fun r hr => ⟨h.2 r hr, gd_iff.mp g r hr⟩⟩
theorem BQ.mono {n k n' k' : Nat} {p : List RQ} (h : BQ n k p) (hn : n ≤ n') (hk : k ≤ k') : BQ n' k' p := ⟨Nat.le_trans h.1 hn, fun r hr => (h.2 r hr).mono hk⟩
theorem GQ.mono {n k n' k' : Nat} {p : List RQ} (h : GQ n k p) (hn : n ≤ n') (hk : k ≤ k') : GQ n' k' p := ⟨Nat.le_trans h.1 hn, fun r hr => ⟨(h.2 r hr).1.mono hk, (h.2 r hr).2⟩⟩
theorem QB.mono {n k n' k' : Nat} {q : List Rat} (h : QB n k q) (hn : n ≤ n') (hk : k ≤ k') : QB n' k' q := ⟨Nat.le_trans h.1 hn, fun r hr => Nat.le_trans (h.2 r hr) hk⟩
theorem cfq_qvs (p : List RQ) (i : Nat) : cfq (qvs p) i = qv (p.getD i q0) := by
  unfold cfq qvs
  rw [List.getD_eq_getElem?_getD, List.getD_eq_getElem?_getD, List.getElem?_map]
  cases p[i]? with
  | none => decide +kernel
  | some x => rfl
theorem GQ.qb {n k : Nat} {p : List RQ} (h : GQ n k p) : QB n k (qvs p) := ⟨by rw [qvs_len]; exact h.1, fun c hc => by
  obtain ⟨r, hr, rfl⟩ := List.mem_map.1 hc
  exact qz_raw (h.2 r hr).1 (h.2 r hr).2⟩
theorem QB.gq {n k : Nat} {q : List Rat} (h : QB n k q) : GQ n k (q.map crat) := ⟨by rw [List.length_map]; exact h.1, fun r hr => by
  obtain ⟨c, hc, rfl⟩ := List.mem_map.1 hr
  exact ⟨szq_crat (h.2 c hc), nv_crat0 c⟩⟩
theorem QB.trimq {n k : Nat} {q : List Rat} (h : QB n k q) : QB n k (trimq q) := ⟨Nat.le_trans (by rw [trimq_len]; exact tzq_le q) h.1, fun c hc => h.2 c (List.mem_of_mem_take hc)⟩
theorem QB.gqs {n k : Nat} {q : List Rat} (h : QB n k q) : GQ n k (cqs q) := h.trimq.gq
theorem QB.cz {n k : Nat} {q : List Rat} (h : QB n k q) (hk : 1 ≤ k) (i : Nat) : qz (cfq q i) ≤ k := by
  unfold cfq
  rw [List.getD_eq_getElem?_getD]
  cases hi : q[i]? with
  | none => rw [Option.getD_none, qz_zero]; exact hk
  | some x => exact h.2 x (List.mem_of_getElem? hi)
theorem QB.of {n k : Nat} {q : List Rat} (hl : q.length ≤ n) (h : ∀ i, qz (cfq q i) ≤ k) : QB n k q := ⟨hl, fun c hc => by
  obtain ⟨i, hi, rfl⟩ := List.getElem_of_mem hc
  have := h i
  rwa [cfq_lt hi] at this⟩
theorem qv_zero {r : RQ} (h : nv r.2 ≠ 0) : qv r = 0 ↔ iv r.1 = 0 := Rat.mkRat_eq_zero h
theorem takeq_snoc {q : List Rat} {i : Nat} (h : i < q.length) : q.take (i + 1) = q.take i ++ [cfq q i] := by
  rw [List.take_add_one]
  congr 1
  simp [cfq, List.getD, h]
theorem qvs_cqs (q : List Rat) : qvs (cqs q) = trimq q := qvs_map _

/-- Polynomials over the integers, over the rationals. -/
def qp (p : List Int) : List Rat := p.map fun z : Int => (z : Rat)
theorem cfq_qp (p : List Int) (k : Nat) : cfq (qp p) k = (cf p k : Rat) := by
  unfold cfq qp cf
  rw [List.getD_eq_getElem?_getD, List.getD_eq_getElem?_getD, List.getElem?_map]
  cases p[k]? <;> rfl
theorem qz_int (z : Int) : qz (z : Rat) ≤ max (zl z) 1 := by
  unfold qz
  rw [Rat.num_intCast, Rat.den_intCast]
  have : (wd 1).length = 1 := by decide +kernel
  omega
theorem PB.ofZ {n k : Nat} {p : List Int} (h : PB n k p) (hk : 1 ≤ k) : QB n k (qp p) := ⟨by simp [qp]; exact h.1, fun c hc => by
  obtain ⟨z, hz, rfl⟩ := List.mem_map.1 hc
  have := h.2 z hz
  have := qz_int z
  omega⟩

/-! ### The references -/

theorem hnormq_ok (p : List RQ) (h : GQ (2 ^ 40) (2 ^ 38) p) : AC Tryz.prog 61 [cqw p] none [cqp (qvs p)] := by
  refine AC.by_walk (rs := [.tmp 2]) ords Tryz.func61 (by rfl) (by rfl) (by rfl) (by rfl) (by rfl) ?_
  have hl := h.1
  have htl := tzq_le (qvs p)
  rw [qvs_len] at htl
  simp (disch := omega) only [wk, tis, Int.reduceNe, Int.reduceEq, Int.reduceLT, Int.reduceLE, Int.reduceAdd, Int.reduceSub, Int.reduceNeg, Int.reduceMul, Int.reduceToNat, Nat.reduceSub, Nat.reduceMul, Nat.reduceLeDiff, Nat.reduceAdd, Nat.reduceLT, Nat.reduceEqDiff, reduceCtorEq, ↓reduceIte, rqs]
  refine aloop_by (fun f H => ∃ k : Nat, k ≤ p.length ∧ f 0 = .iv (.sl (rats p)) ∧ f 3 = .iv (.int .i64 k) ∧ tzq ((qvs p).take k) = tzq (qvs p)) (fun f H => (intAt f 3).toNat) ?_ ?_
  · exact ⟨p.length, Nat.le_refl _, by simp (disch := omega) only [wk, tis, Int.reduceNe, Int.reduceEq, Int.reduceLT, Int.reduceLE, Int.reduceAdd, Int.reduceSub, Int.reduceNeg, Int.reduceMul, Int.reduceToNat, Nat.reduceSub, Nat.reduceMul, Nat.reduceLeDiff, Nat.reduceAdd, Nat.reduceLT, Nat.reduceEqDiff, reduceCtorEq, ↓reduceIte, rqs], by simp (disch := omega) only [wk, tis, Int.reduceNe, Int.reduceEq, Int.reduceLT, Int.reduceLE, Int.reduceAdd, Int.reduceSub, Int.reduceNeg, Int.reduceMul, Int.reduceToNat, Nat.reduceSub, Nat.reduceMul, Nat.reduceLeDiff, Nat.reduceAdd, Nat.reduceLT, Nat.reduceEqDiff, reduceCtorEq, ↓reduceIte, rqs], by rw [← qvs_len p, List.take_length]⟩
  rintro f H ⟨k, hk, h0, h3, ht⟩
  rw [intAt_of h3]
  by_cases hc : 0 < (k : Int)
  · simp (disch := omega) only [wk, tis, Int.reduceNe, Int.reduceEq, Int.reduceLT, Int.reduceLE, Int.reduceAdd, Int.reduceSub, Int.reduceNeg, Int.reduceMul, Int.reduceToNat, Nat.reduceSub, Nat.reduceMul, Nat.reduceLeDiff, Nat.reduceAdd, Nat.reduceLT, Nat.reduceEqDiff, reduceCtorEq, ↓reduceIte, rqs, h0, h3, hc]
    have ek : ((k : Int) - 1).toNat = k - 1 := by omega
    have ek' : k = (k - 1) + 1 := by omega
    rw [ek]
    have hr := h.get (i := k - 1) (by omega)
    refine call_by ((hS_ok (p.getD (k - 1) q0) (hr.1.mono (by omega)))) (by first | rfl | (simp only [tocvs, tocv, h0, h3, hc]; rfl) | (simp only [tocvs, tocv, toboxes, tobox, updH_at, Nat.reduceEqDiff, ↓reduceIte, h0, h3, hc]; rfl)) (by simp) ?_
    simp (disch := omega) only [wk, tis, Int.reduceNe, Int.reduceEq, Int.reduceLT, Int.reduceLE, Int.reduceAdd, Int.reduceSub, Int.reduceNeg, Int.reduceMul, Int.reduceToNat, Nat.reduceSub, Nat.reduceMul, Nat.reduceLeDiff, Nat.reduceAdd, Nat.reduceLT, Nat.reduceEqDiff, reduceCtorEq, ↓reduceIte, rqs, h0, h3, hc]
    have hz' : (iv (p.getD (k - 1) q0).1).sign = 0 ↔ cfq (qvs p) (k - 1) = 0 := by rw [cfq_qvs, qv_zero (h.den (by omega))]; exact Int.sign_eq_zero_iff_zero
    refine if_by (fun hz => ?_) (fun hz => ?_)
    · simp (disch := omega) only [wk, tis, Int.reduceNe, Int.reduceEq, Int.reduceLT, Int.reduceLE, Int.reduceAdd, Int.reduceSub, Int.reduceNeg, Int.reduceMul, Int.reduceToNat, Nat.reduceSub, Nat.reduceMul, Nat.reduceLeDiff, Nat.reduceAdd, Nat.reduceLT, Nat.reduceEqDiff, reduceCtorEq, ↓reduceIte, rqs, h0, h3]
      refine ⟨⟨k - 1, by omega, by omega, ?_⟩, by omega⟩
      rw [← tzq_take_zero (k := k - 1) (by rw [qvs_len]; omega) (hz'.mp hz), ← ek', ht]
    · have hk : k = tzq (qvs p) := by
        have := tzq_full (q := qvs p) (k := k - 1) (by rw [qvs_len]; omega) (fun e => hz (hz'.mpr e))
        rw [← ek', ht] at this; exact this.symm
      simp (disch := omega) only [wk, tis, Int.reduceNe, Int.reduceEq, Int.reduceLT, Int.reduceLE, Int.reduceAdd, Int.reduceSub, Int.reduceNeg, Int.reduceMul, Int.reduceToNat, Nat.reduceSub, Nat.reduceMul, Nat.reduceLeDiff, Nat.reduceAdd, Nat.reduceLT, Nat.reduceEqDiff, reduceCtorEq, ↓reduceIte, rqs, h0, h3]
      subst hk
      refine aloop_nil 4 4 31 3 (by simp (disch := omega) only [wk, tis, Int.reduceNe, Int.reduceEq, Int.reduceLT, Int.reduceLE, Int.reduceAdd, Int.reduceSub, Int.reduceNeg, Int.reduceMul, Int.reduceToNat, Nat.reduceSub, Nat.reduceMul, Nat.reduceLeDiff, Nat.reduceAdd, Nat.reduceLT, Nat.reduceEqDiff, reduceCtorEq, ↓reduceIte, rqs]) (fun f H => ∃ (i st : Nat), i ≤ tzq (qvs p) ∧ f 5 = .iv (.int .i64 i) ∧ f 0 = .iv (.sl (rats p)) ∧ f 3 = .iv (.int .i64 (tzq (qvs p))) ∧ f 4 = .hs 4 st ∧ H 4 = .blk false st 31 3 (rats (((qvs p).take i).map crat))) (fun f H => (tzq (qvs p) - intAt f 5).toNat) ?_ ?_
      · refine ⟨0, (H 4).stamp + 1, by omega, ?_⟩
        simp (disch := omega) only [wk, tis, Int.reduceNe, Int.reduceEq, Int.reduceLT, Int.reduceLE, Int.reduceAdd, Int.reduceSub, Int.reduceNeg, Int.reduceMul, Int.reduceToNat, Nat.reduceSub, Nat.reduceMul, Nat.reduceLeDiff, Nat.reduceAdd, Nat.reduceLT, Nat.reduceEqDiff, reduceCtorEq, ↓reduceIte, rqs, ghostF, ghostH, List.take_zero, List.map_nil, h0, h3]
      rintro f H ⟨i, st, hi, hF⟩
      rw [intAt_of hF.1]
      simp (disch := omega) only [wk, tis, Int.reduceNe, Int.reduceEq, Int.reduceLT, Int.reduceLE, Int.reduceAdd, Int.reduceSub, Int.reduceNeg, Int.reduceMul, Int.reduceToNat, Nat.reduceSub, Nat.reduceMul, Nat.reduceLeDiff, Nat.reduceAdd, Nat.reduceLT, Nat.reduceEqDiff, reduceCtorEq, ↓reduceIte, rqs, hF]
      refine if_by (fun hlt => ?_) (fun hlt => ?_)
      · have hq : (((qvs p).take i).map crat).length = i := by rw [List.length_map, List.length_take, qvs_len]; omega
        have hr := h.get (i := i) (by omega)
        have m := rR_ok (p.getD i q0).1 (p.getD i q0).2 hr.1 hr.2 (h.den (by omega))
        rw [show mkRat (iv (p.getD i q0).1) (nv (p.getD i q0).2) = cfq (qvs p) i from (cfq_qvs p i).symm] at m
        simp (disch := omega) only [wk, tis, Int.reduceNe, Int.reduceEq, Int.reduceLT, Int.reduceLE, Int.reduceAdd, Int.reduceSub, Int.reduceNeg, Int.reduceMul, Int.reduceToNat, Nat.reduceSub, Nat.reduceMul, Nat.reduceLeDiff, Nat.reduceAdd, Nat.reduceLT, Nat.reduceEqDiff, reduceCtorEq, ↓reduceIte, rqs, hF, hq]
        refine ⟨tmps_by (by kernel_rfl), ?_⟩
        refine call_by (m) (by first | rfl | (simp only [tocvs, tocv, hF, hq]; rfl) | (simp only [tocvs, tocv, toboxes, tobox, updH_at, Nat.reduceEqDiff, ↓reduceIte, hF, hq]; rfl)) (by simp) ?_
        simp (disch := omega) only [wk, tis, Int.reduceNe, Int.reduceEq, Int.reduceLT, Int.reduceLE, Int.reduceAdd, Int.reduceSub, Int.reduceNeg, Int.reduceMul, Int.reduceToNat, Nat.reduceSub, Nat.reduceMul, Nat.reduceLeDiff, Nat.reduceAdd, Nat.reduceLT, Nat.reduceEqDiff, reduceCtorEq, ↓reduceIte, rqs, hF, hq]
        first | exact log_by (by kernel_rfl) | refine ⟨log_by (by kernel_rfl), ?_⟩
        have e := takeq_snoc (q := qvs p) (i := i) (by rw [qvs_len]; omega)
        refine ⟨⟨i + 1, st + 1, by omega, ?_⟩, by omega⟩
        rw [e, List.map_append]
        exact ⟨by omega, rfl, rfl⟩
      · simp (disch := omega) only [wk, tis, Int.reduceNe, Int.reduceEq, Int.reduceLT, Int.reduceLE, Int.reduceAdd, Int.reduceSub, Int.reduceNeg, Int.reduceMul, Int.reduceToNat, Nat.reduceSub, Nat.reduceMul, Nat.reduceLeDiff, Nat.reduceAdd, Nat.reduceLT, Nat.reduceEqDiff, reduceCtorEq, ↓reduceIte, rqs, hF]
        have ei : i = tzq (qvs p) := by omega
        rw [ei]
        try rfl
  · have hk : k = tzq (qvs p) := by
      obtain rfl : k = 0 := by omega
      rw [← ht]; rfl
    simp (disch := omega) only [wk, tis, Int.reduceNe, Int.reduceEq, Int.reduceLT, Int.reduceLE, Int.reduceAdd, Int.reduceSub, Int.reduceNeg, Int.reduceMul, Int.reduceToNat, Nat.reduceSub, Nat.reduceMul, Nat.reduceLeDiff, Nat.reduceAdd, Nat.reduceLT, Nat.reduceEqDiff, reduceCtorEq, ↓reduceIte, rqs, h0, h3, hc]
    subst hk
    refine aloop_nil 4 4 31 3 (by simp (disch := omega) only [wk, tis, Int.reduceNe, Int.reduceEq, Int.reduceLT, Int.reduceLE, Int.reduceAdd, Int.reduceSub, Int.reduceNeg, Int.reduceMul, Int.reduceToNat, Nat.reduceSub, Nat.reduceMul, Nat.reduceLeDiff, Nat.reduceAdd, Nat.reduceLT, Nat.reduceEqDiff, reduceCtorEq, ↓reduceIte, rqs]) (fun f H => ∃ (i st : Nat), i ≤ tzq (qvs p) ∧ f 5 = .iv (.int .i64 i) ∧ f 0 = .iv (.sl (rats p)) ∧ f 3 = .iv (.int .i64 (tzq (qvs p))) ∧ f 4 = .hs 4 st ∧ H 4 = .blk false st 31 3 (rats (((qvs p).take i).map crat))) (fun f H => (tzq (qvs p) - intAt f 5).toNat) ?_ ?_
    · refine ⟨0, (H 4).stamp + 1, by omega, ?_⟩
      simp (disch := omega) only [wk, tis, Int.reduceNe, Int.reduceEq, Int.reduceLT, Int.reduceLE, Int.reduceAdd, Int.reduceSub, Int.reduceNeg, Int.reduceMul, Int.reduceToNat, Nat.reduceSub, Nat.reduceMul, Nat.reduceLeDiff, Nat.reduceAdd, Nat.reduceLT, Nat.reduceEqDiff, reduceCtorEq, ↓reduceIte, rqs, ghostF, ghostH, List.take_zero, List.map_nil, h0, h3]
    rintro f H ⟨i, st, hi, hF⟩
    rw [intAt_of hF.1]
    simp (disch := omega) only [wk, tis, Int.reduceNe, Int.reduceEq, Int.reduceLT, Int.reduceLE, Int.reduceAdd, Int.reduceSub, Int.reduceNeg, Int.reduceMul, Int.reduceToNat, Nat.reduceSub, Nat.reduceMul, Nat.reduceLeDiff, Nat.reduceAdd, Nat.reduceLT, Nat.reduceEqDiff, reduceCtorEq, ↓reduceIte, rqs, hF]
    refine if_by (fun hlt => ?_) (fun hlt => ?_)
    · have hq : (((qvs p).take i).map crat).length = i := by rw [List.length_map, List.length_take, qvs_len]; omega
      have hr := h.get (i := i) (by omega)
      have m := rR_ok (p.getD i q0).1 (p.getD i q0).2 hr.1 hr.2 (h.den (by omega))
      rw [show mkRat (iv (p.getD i q0).1) (nv (p.getD i q0).2) = cfq (qvs p) i from (cfq_qvs p i).symm] at m
      simp (disch := omega) only [wk, tis, Int.reduceNe, Int.reduceEq, Int.reduceLT, Int.reduceLE, Int.reduceAdd, Int.reduceSub, Int.reduceNeg, Int.reduceMul, Int.reduceToNat, Nat.reduceSub, Nat.reduceMul, Nat.reduceLeDiff, Nat.reduceAdd, Nat.reduceLT, Nat.reduceEqDiff, reduceCtorEq, ↓reduceIte, rqs, hF, hq]
      refine ⟨tmps_by (by kernel_rfl), ?_⟩
      refine call_by (m) (by first | rfl | (simp only [tocvs, tocv, hF, hq]; rfl) | (simp only [tocvs, tocv, toboxes, tobox, updH_at, Nat.reduceEqDiff, ↓reduceIte, hF, hq]; rfl)) (by simp) ?_
      simp (disch := omega) only [wk, tis, Int.reduceNe, Int.reduceEq, Int.reduceLT, Int.reduceLE, Int.reduceAdd, Int.reduceSub, Int.reduceNeg, Int.reduceMul, Int.reduceToNat, Nat.reduceSub, Nat.reduceMul, Nat.reduceLeDiff, Nat.reduceAdd, Nat.reduceLT, Nat.reduceEqDiff, reduceCtorEq, ↓reduceIte, rqs, hF, hq]
      first | exact log_by (by kernel_rfl) | refine ⟨log_by (by kernel_rfl), ?_⟩
      have e := takeq_snoc (q := qvs p) (i := i) (by rw [qvs_len]; omega)
      refine ⟨⟨i + 1, st + 1, by omega, ?_⟩, by omega⟩
      rw [e, List.map_append]
      exact ⟨by omega, rfl, rfl⟩
    · simp (disch := omega) only [wk, tis, Int.reduceNe, Int.reduceEq, Int.reduceLT, Int.reduceLE, Int.reduceAdd, Int.reduceSub, Int.reduceNeg, Int.reduceMul, Int.reduceToNat, Nat.reduceSub, Nat.reduceMul, Nat.reduceLeDiff, Nat.reduceAdd, Nat.reduceLT, Nat.reduceEqDiff, reduceCtorEq, ↓reduceIte, rqs, hF]
      have ei : i = tzq (qvs p) := by omega
      rw [ei]
      try rfl

theorem hgood_ok (l : List RQ) (h : BQ (2 ^ 40) (2 ^ 38) l) : AC Tryz.prog 48 [cqw l] none [cb (gd l)] := by
  refine AC.by_walk (rs := [.tmp 2]) ords Tryz.func48 (by rfl) (by rfl) (by rfl) (by rfl) (by rfl) ?_
  have hl := h.1
  simp (disch := omega) only [wk, tis, Int.reduceNe, Int.reduceEq, Int.reduceLT, Int.reduceLE, Int.reduceAdd, Int.reduceSub, Int.reduceNeg, Int.reduceMul, Int.reduceToNat, Nat.reduceSub, Nat.reduceMul, Nat.reduceLeDiff, Nat.reduceAdd, Nat.reduceLT, Nat.reduceEqDiff, reduceCtorEq, ↓reduceIte, rqs]
  refine aloop_by (fun f H => ∃ (i : Nat), i ≤ l.length ∧ (∀ j, j < i → nv (l.getD j q0).2 ≠ 0) ∧ f 3 = .iv (.int .i64 i) ∧ f 0 = .iv (.sl (rats l))) (fun f H => (l.length - intAt f 3).toNat) ?_ ?_
  · refine ⟨0, by omega, fun j hj => by omega, ?_⟩
    simp (disch := omega) only [wk, tis, Int.reduceNe, Int.reduceEq, Int.reduceLT, Int.reduceLE, Int.reduceAdd, Int.reduceSub, Int.reduceNeg, Int.reduceMul, Int.reduceToNat, Nat.reduceSub, Nat.reduceMul, Nat.reduceLeDiff, Nat.reduceAdd, Nat.reduceLT, Nat.reduceEqDiff, reduceCtorEq, ↓reduceIte, rqs]
  rintro f H ⟨i, hi, hz, hF⟩
  rw [intAt_of hF.1]
  simp (disch := omega) only [wk, tis, Int.reduceNe, Int.reduceEq, Int.reduceLT, Int.reduceLE, Int.reduceAdd, Int.reduceSub, Int.reduceNeg, Int.reduceMul, Int.reduceToNat, Nat.reduceSub, Nat.reduceMul, Nat.reduceLeDiff, Nat.reduceAdd, Nat.reduceLT, Nat.reduceEqDiff, reduceCtorEq, ↓reduceIte, rqs, hF]
  refine if_by (fun hlt => ?_) (fun hlt => ?_)
  · have hr := h.get (i := i) (by omega)
    simp (disch := omega) only [wk, tis, Int.reduceNe, Int.reduceEq, Int.reduceLT, Int.reduceLE, Int.reduceAdd, Int.reduceSub, Int.reduceNeg, Int.reduceMul, Int.reduceToNat, Nat.reduceSub, Nat.reduceMul, Nat.reduceLeDiff, Nat.reduceAdd, Nat.reduceLT, Nat.reduceEqDiff, reduceCtorEq, ↓reduceIte, rqs, hF]
    refine call_by ((hok_ok (l.getD i q0) ⟨Nat.le_trans hr.2.1 (by omega), hr.2.2⟩)) (by first | rfl | (simp only [tocvs, tocv, hF]; rfl) | (simp only [tocvs, tocv, toboxes, tobox, updH_at, Nat.reduceEqDiff, ↓reduceIte, hF]; rfl)) (by simp) ?_
    simp (disch := omega) only [wk, tis, Int.reduceNe, Int.reduceEq, Int.reduceLT, Int.reduceLE, Int.reduceAdd, Int.reduceSub, Int.reduceNeg, Int.reduceMul, Int.reduceToNat, Nat.reduceSub, Nat.reduceMul, Nat.reduceLeDiff, Nat.reduceAdd, Nat.reduceLT, Nat.reduceEqDiff, reduceCtorEq, ↓reduceIte, rqs, hF]
    by_cases h0 : nv (l.getD i q0).2 = 0
    · have hb : gd l = false := by
        cases hg : gd l with
        | false => rfl
        | true => exact (gd_iff.mp hg _ (getq_mem (by omega)) h0).elim
      rw [hb]
      simp (disch := omega) only [wk, tis, Int.reduceNe, Int.reduceEq, Int.reduceLT, Int.reduceLE, Int.reduceAdd, Int.reduceSub, Int.reduceNeg, Int.reduceMul, Int.reduceToNat, Nat.reduceSub, Nat.reduceMul, Nat.reduceLeDiff, Nat.reduceAdd, Nat.reduceLT, Nat.reduceEqDiff, reduceCtorEq, ↓reduceIte, rqs, hF, h0, not_true_eq_false, decide_false, Bool.not_false]
    · simp (disch := omega) only [wk, tis, Int.reduceNe, Int.reduceEq, Int.reduceLT, Int.reduceLE, Int.reduceAdd, Int.reduceSub, Int.reduceNeg, Int.reduceMul, Int.reduceToNat, Nat.reduceSub, Nat.reduceMul, Nat.reduceLeDiff, Nat.reduceAdd, Nat.reduceLT, Nat.reduceEqDiff, reduceCtorEq, ↓reduceIte, rqs, hF, h0, not_false_eq_true, decide_true, Bool.not_true]
      refine ⟨⟨i + 1, by omega, fun j hj => ?_, by omega⟩, by omega⟩
      rcases Nat.lt_or_ge j i with hj' | hj'
      · exact hz j hj'
      · obtain rfl : j = i := by omega
        exact h0
  · have hg : gd l = true := gd_iff.mpr fun r hr => by
      obtain ⟨j, hj, rfl⟩ := List.getElem_of_mem hr
      have := hz j (by omega)
      rwa [List.getD, List.getElem?_eq_getElem hj, Option.getD_some] at this
    rw [hg]
    simp (disch := omega) only [wk, tis, Int.reduceNe, Int.reduceEq, Int.reduceLT, Int.reduceLE, Int.reduceAdd, Int.reduceSub, Int.reduceNeg, Int.reduceMul, Int.reduceToNat, Nat.reduceSub, Nat.reduceMul, Nat.reduceLeDiff, Nat.reduceAdd, Nat.reduceLT, Nat.reduceEqDiff, reduceCtorEq, ↓reduceIte, rqs, hF]

theorem hoverq_ok (p : List RI) (h : RP (2 ^ 40) (2 ^ 38) p) : AC Tryz.prog 42 [cw p] none [cqp (qp (pv p))] := by
  refine AC.by_walk (rs := [.tmp 2]) ords Tryz.func42 (by rfl) (by rfl) (by rfl) (by rfl) (by rfl) ?_
  have hl := h.1
  have hql : (qp (pv p)).length = p.length := by simp [qp, pv_len]
  simp (disch := omega) only [wk, tis, Int.reduceNe, Int.reduceEq, Int.reduceLT, Int.reduceLE, Int.reduceAdd, Int.reduceSub, Int.reduceNeg, Int.reduceMul, Int.reduceToNat, Nat.reduceSub, Nat.reduceMul, Nat.reduceLeDiff, Nat.reduceAdd, Nat.reduceLT, Nat.reduceEqDiff, reduceCtorEq, ↓reduceIte, rqs]
  refine aloop_nil 3 3 31 3 (by simp (disch := omega) only [wk, tis, Int.reduceNe, Int.reduceEq, Int.reduceLT, Int.reduceLE, Int.reduceAdd, Int.reduceSub, Int.reduceNeg, Int.reduceMul, Int.reduceToNat, Nat.reduceSub, Nat.reduceMul, Nat.reduceLeDiff, Nat.reduceAdd, Nat.reduceLT, Nat.reduceEqDiff, reduceCtorEq, ↓reduceIte, rqs]) (fun f H => ∃ (i st : Nat), i ≤ p.length ∧ f 4 = .iv (.int .i64 i) ∧ f 0 = .iv (.sl (raws p)) ∧ f 3 = .hs 3 st ∧ H 3 = .blk false st 31 3 (rats (((qp (pv p)).take i).map crat))) (fun f H => (p.length - intAt f 4).toNat) ?_ ?_
  · refine ⟨0, 1, by omega, ?_⟩
    simp (disch := omega) only [wk, tis, Int.reduceNe, Int.reduceEq, Int.reduceLT, Int.reduceLE, Int.reduceAdd, Int.reduceSub, Int.reduceNeg, Int.reduceMul, Int.reduceToNat, Nat.reduceSub, Nat.reduceMul, Nat.reduceLeDiff, Nat.reduceAdd, Nat.reduceLT, Nat.reduceEqDiff, reduceCtorEq, ↓reduceIte, rqs, ghostF, ghostH, List.take_zero, List.map_nil]
  rintro f H ⟨i, st, hi, hF⟩
  rw [intAt_of hF.1]
  simp (disch := omega) only [wk, tis, Int.reduceNe, Int.reduceEq, Int.reduceLT, Int.reduceLE, Int.reduceAdd, Int.reduceSub, Int.reduceNeg, Int.reduceMul, Int.reduceToNat, Nat.reduceSub, Nat.reduceMul, Nat.reduceLeDiff, Nat.reduceAdd, Nat.reduceLT, Nat.reduceEqDiff, reduceCtorEq, ↓reduceIte, rqs, hF]
  refine if_by (fun hlt => ?_) (fun hlt => ?_)
  · have hq : (((qp (pv p)).take i).map crat).length = i := by rw [List.length_map, List.length_take, hql]; omega
    have m := hZ_ok (p.getD i (false, [])) (h.get i)
    rw [← cf_pv, ← cfq_qp] at m
    simp (disch := omega) only [wk, tis, Int.reduceNe, Int.reduceEq, Int.reduceLT, Int.reduceLE, Int.reduceAdd, Int.reduceSub, Int.reduceNeg, Int.reduceMul, Int.reduceToNat, Nat.reduceSub, Nat.reduceMul, Nat.reduceLeDiff, Nat.reduceAdd, Nat.reduceLT, Nat.reduceEqDiff, reduceCtorEq, ↓reduceIte, rqs, hF, hq]
    refine call_by (m) (by first | rfl | (simp only [tocvs, tocv, hF, hq]; rfl) | (simp only [tocvs, tocv, toboxes, tobox, updH_at, Nat.reduceEqDiff, ↓reduceIte, hF, hq]; rfl)) (by simp) ?_
    simp (disch := omega) only [wk, tis, Int.reduceNe, Int.reduceEq, Int.reduceLT, Int.reduceLE, Int.reduceAdd, Int.reduceSub, Int.reduceNeg, Int.reduceMul, Int.reduceToNat, Nat.reduceSub, Nat.reduceMul, Nat.reduceLeDiff, Nat.reduceAdd, Nat.reduceLT, Nat.reduceEqDiff, reduceCtorEq, ↓reduceIte, rqs, hF, hq]
    have e := takeq_snoc (q := qp (pv p)) (i := i) (by omega)
    refine ⟨⟨i + 1, st + 1, by omega, ?_⟩, by omega⟩
    rw [e, List.map_append]
    exact ⟨by omega, rfl, rfl⟩
  · simp (disch := omega) only [wk, tis, Int.reduceNe, Int.reduceEq, Int.reduceLT, Int.reduceLE, Int.reduceAdd, Int.reduceSub, Int.reduceNeg, Int.reduceMul, Int.reduceToNat, Nat.reduceSub, Nat.reduceMul, Nat.reduceLeDiff, Nat.reduceAdd, Nat.reduceLT, Nat.reduceEqDiff, reduceCtorEq, ↓reduceIte, rqs, hF]
    rw [List.take_of_length_le (by omega)] at hF
    have b := PB.ofZ (h.pv.mono (k' := 2 ^ 38) (Nat.le_refl _) (by omega)) (by omega)
    have m := hnormq_ok ((qp (pv p)).map crat) b.gq
    rw [qvs_map] at m
    refine call_by (m) (by first | rfl | (simp only [tocvs, tocv, hF]; rfl) | (simp only [tocvs, tocv, toboxes, tobox, updH_at, Nat.reduceEqDiff, ↓reduceIte, hF]; rfl)) (by simp) ?_
    simp (disch := omega) only [wk, tis, Int.reduceNe, Int.reduceEq, Int.reduceLT, Int.reduceLE, Int.reduceAdd, Int.reduceSub, Int.reduceNeg, Int.reduceMul, Int.reduceToNat, Nat.reduceSub, Nat.reduceMul, Nat.reduceLeDiff, Nat.reduceAdd, Nat.reduceLT, Nat.reduceEqDiff, reduceCtorEq, ↓reduceIte, rqs, hF]
end Go.Proofs.YtcjnacpekbhhcaaGreat

namespace Go.Proofs.YtcjnacpekbhhcaaGreat
open Go Go.Proofs Go.AL
set_option linter.unusedSimpArgs false
set_option linter.unusedVariables false

/-! ### slices.ContainsFunc over rationals, qpoly.Good -/
theorem idxq_gen (l : List RQ) (g : Nat) (P : RQ → Bool) (e : Int) (hl : l.length ≤ 2 ^ 43) (hc : ∀ r ∈ l, AC Tryz.prog g [cqq r] none [cb (P r)])
    (h1 : ∀ i, i < l.length → (∀ j, j < i → P (l.getD j q0) = false) → P (l.getD i q0) = true → e = i) (h2 : (∀ j, j < l.length → P (l.getD j q0) = false) → e = -1) :
    AC Tryz.prog 155 [cqw l, .fn g []] none [ci e] := by
  refine AC.by_walk (rs := [.tmp 4]) ords Tryz.func155 (by rfl) (by rfl) (by rfl) (by rfl) (by rfl) ?_
  simp (disch := omega) only [wk, tis, Int.reduceNe, Int.reduceEq, Int.reduceLT, Int.reduceLE, Int.reduceAdd, Int.reduceSub, Int.reduceNeg, Int.reduceMul, Int.reduceToNat, Nat.reduceSub, Nat.reduceMul, Nat.reduceLeDiff, Nat.reduceAdd, Nat.reduceLT, Nat.reduceEqDiff, reduceCtorEq, ↓reduceIte, rqs]
  refine aloop_by (fun f H => ∃ (i : Nat), i ≤ l.length ∧ (∀ j, j < i → P (l.getD j q0) = false) ∧ f 8 = .iv (.int .i64 i) ∧ f 0 = .iv (.sl (rats l)) ∧ f 6 = .iv (.sl (rats l)) ∧ f 7 = .iv (.int .i64 l.length) ∧ f 1 = .fn g []) (fun f H => (l.length - intAt f 8).toNat) ?_ ?_
  · refine ⟨0, by omega, fun j hj => by omega, ?_⟩
    simp (disch := omega) only [wk, tis, Int.reduceNe, Int.reduceEq, Int.reduceLT, Int.reduceLE, Int.reduceAdd, Int.reduceSub, Int.reduceNeg, Int.reduceMul, Int.reduceToNat, Nat.reduceSub, Nat.reduceMul, Nat.reduceLeDiff, Nat.reduceAdd, Nat.reduceLT, Nat.reduceEqDiff, reduceCtorEq, ↓reduceIte, rqs, List.map_nil]
  rintro f H ⟨i, hi, hz, hF⟩
  rw [intAt_of hF.1]
  simp (disch := omega) only [wk, tis, Int.reduceNe, Int.reduceEq, Int.reduceLT, Int.reduceLE, Int.reduceAdd, Int.reduceSub, Int.reduceNeg, Int.reduceMul, Int.reduceToNat, Nat.reduceSub, Nat.reduceMul, Nat.reduceLeDiff, Nat.reduceAdd, Nat.reduceLT, Nat.reduceEqDiff, reduceCtorEq, ↓reduceIte, rqs, hF]
  refine if_by (fun hlt => ?_) (fun hlt => ?_)
  · have hlt' : i < l.length := by omega
    simp (disch := omega) only [wk, tis, Int.reduceNe, Int.reduceEq, Int.reduceLT, Int.reduceLE, Int.reduceAdd, Int.reduceSub, Int.reduceNeg, Int.reduceMul, Int.reduceToNat, Nat.reduceSub, Nat.reduceMul, Nat.reduceLeDiff, Nat.reduceAdd, Nat.reduceLT, Nat.reduceEqDiff, reduceCtorEq, ↓reduceIte, rqs, hF]
    refine call_by ((hc (l.getD i q0) (getq_mem hlt'))) (by first | rfl | (simp only [tocvs, tocv, hF]; rfl) | (simp only [tocvs, tocv, toboxes, tobox, updH_at, Nat.reduceEqDiff, ↓reduceIte, hF]; rfl)) (by simp) ?_
    simp (disch := omega) only [wk, tis, Int.reduceNe, Int.reduceEq, Int.reduceLT, Int.reduceLE, Int.reduceAdd, Int.reduceSub, Int.reduceNeg, Int.reduceMul, Int.reduceToNat, Nat.reduceSub, Nat.reduceMul, Nat.reduceLeDiff, Nat.reduceAdd, Nat.reduceLT, Nat.reduceEqDiff, reduceCtorEq, ↓reduceIte, rqs, hF]
    cases hP : P (l.getD i q0) with
    | true =>
      obtain rfl := h1 i hlt' hz hP
      simp (disch := omega) only [wk, tis, Int.reduceNe, Int.reduceEq, Int.reduceLT, Int.reduceLE, Int.reduceAdd, Int.reduceSub, Int.reduceNeg, Int.reduceMul, Int.reduceToNat, Nat.reduceSub, Nat.reduceMul, Nat.reduceLeDiff, Nat.reduceAdd, Nat.reduceLT, Nat.reduceEqDiff, reduceCtorEq, ↓reduceIte, rqs, hF]
    | false =>
      simp (disch := omega) only [wk, tis, Int.reduceNe, Int.reduceEq, Int.reduceLT, Int.reduceLE, Int.reduceAdd, Int.reduceSub, Int.reduceNeg, Int.reduceMul, Int.reduceToNat, Nat.reduceSub, Nat.reduceMul, Nat.reduceLeDiff, Nat.reduceAdd, Nat.reduceLT, Nat.reduceEqDiff, reduceCtorEq, ↓reduceIte, rqs, hF]
      refine ⟨⟨i + 1, by omega, fun j hj => ?_, by omega⟩, by omega⟩
      rcases Nat.lt_or_ge j i with hj' | hj'
      · exact hz j hj'
      · obtain rfl : j = i := by omega
        exact hP
  · obtain rfl := h2 fun j hj => hz j (by omega)
    simp (disch := omega) only [wk, tis, Int.reduceNe, Int.reduceEq, Int.reduceLT, Int.reduceLE, Int.reduceAdd, Int.reduceSub, Int.reduceNeg, Int.reduceMul, Int.reduceToNat, Nat.reduceSub, Nat.reduceMul, Nat.reduceLeDiff, Nat.reduceAdd, Nat.reduceLT, Nat.reduceEqDiff, reduceCtorEq, ↓reduceIte, rqs, hF]

theorem conq_ok (l : List RQ) (g : Nat) (P : RQ → Bool) (hl : l.length ≤ 2 ^ 43) (hc : ∀ r ∈ l, AC Tryz.prog g [cqq r] none [cb (P r)]) :
    AC Tryz.prog 115 [cqw l, .fn g []] none [cb (l.any P)] := by
  have key : ∃ e : Int, (0 ≤ e ↔ l.any P = true) ∧ AC Tryz.prog 155 [cqw l, .fn g []] none [ci e] := by
    by_cases h : ∃ i, i < l.length ∧ P (l.getD i q0) = true
    · obtain ⟨i, hi, hP, hz⟩ : ∃ i, i < l.length ∧ P (l.getD i q0) = true ∧ ∀ j, j < i → P (l.getD j q0) = false := by
        obtain ⟨i0, hi0⟩ := h
        induction i0 using Nat.strongRecOn with
        | _ n ih =>
          by_cases hm : ∃ m, m < n ∧ P (l.getD m q0) = true
          · obtain ⟨m, hm1, hm2⟩ := hm
            exact ih m hm1 ⟨by omega, hm2⟩
          · refine ⟨n, hi0.1, hi0.2, fun j hj => ?_⟩
            cases hj' : P (l.getD j q0) with
            | false => rfl
            | true => exact (hm ⟨j, hj, hj'⟩).elim
      refine ⟨i, ⟨fun _ => List.any_eq_true.mpr ⟨_, getq_mem hi, hP⟩, fun _ => by omega⟩, idxq_gen l g P i hl hc (fun k hk hkz hkP => ?_) (fun hall => ?_)⟩
      · have : k = i := by
          rcases Nat.lt_trichotomy k i with h | h | h
          · have := hz k h; rw [this] at hkP; cases hkP
          · exact h
          · have := hkz i h; rw [this] at hP; cases hP
        rw [this]
      · rw [hall i hi] at hP; cases hP
    · refine ⟨-1, ⟨fun h0 => by omega, fun h0 => ?_⟩, idxq_gen l g P (-1) hl hc (fun k hk _ hkP => (h ⟨k, hk, hkP⟩).elim) (fun _ => rfl)⟩
      obtain ⟨r, hr, hP⟩ := List.any_eq_true.mp h0
      obtain ⟨j, hj, rfl⟩ := List.getElem_of_mem hr
      exact (h ⟨j, hj, by rw [List.getD, List.getElem?_eq_getElem hj, Option.getD_some]; exact hP⟩).elim
  obtain ⟨e, he, m⟩ := key
  refine AC.by_walk (rs := [.tmp 4]) ords Tryz.func115 (by rfl) (by rfl) (by rfl) (by rfl) (by rfl) ?_
  simp (disch := omega) only [wk, tis, Int.reduceNe, Int.reduceEq, Int.reduceLT, Int.reduceLE, Int.reduceAdd, Int.reduceSub, Int.reduceNeg, Int.reduceMul, Int.reduceToNat, Nat.reduceSub, Nat.reduceMul, Nat.reduceLeDiff, Nat.reduceAdd, Nat.reduceLT, Nat.reduceEqDiff, reduceCtorEq, ↓reduceIte, rqs]
  refine call_by (m) (by rfl) (by simp) ?_
  simp (disch := omega) only [wk, tis, Int.reduceNe, Int.reduceEq, Int.reduceLT, Int.reduceLE, Int.reduceAdd, Int.reduceSub, Int.reduceNeg, Int.reduceMul, Int.reduceToNat, Nat.reduceSub, Nat.reduceMul, Nat.reduceLeDiff, Nat.reduceAdd, Nat.reduceLT, Nat.reduceEqDiff, reduceCtorEq, ↓reduceIte, rqs]
  cases hP : l.any P with
  | true => rw [decide_eq_true (he.mpr hP)]
  | false => rw [decide_eq_false fun h => by rw [he.mp h] at hP; cases hP]

theorem qgood1_ok (r : RQ) (h : Nt (2 ^ 42) r.2) : AC Tryz.prog 116 [cqq r] none [cb (decide (nv r.2 = 0))] := by
  refine AC.by_walk (rs := [.tmp 2]) ords Tryz.func116 (by rfl) (by rfl) (by rfl) (by rfl) (by rfl) ?_
  simp (disch := omega) only [wk, tis, Int.reduceNe, Int.reduceEq, Int.reduceLT, Int.reduceLE, Int.reduceAdd, Int.reduceSub, Int.reduceNeg, Int.reduceMul, Int.reduceToNat, Nat.reduceSub, Nat.reduceMul, Nat.reduceLeDiff, Nat.reduceAdd, Nat.reduceLT, Nat.reduceEqDiff, reduceCtorEq, ↓reduceIte, rqs]
  by_cases h0 : nv r.2 = 0
  · have h0' := h0
    refine call_by ((qcheck_bad r h h0)) (by rfl) (by simp) ?_
    simp (disch := omega) only [wk, tis, Int.reduceNe, Int.reduceEq, Int.reduceLT, Int.reduceLE, Int.reduceAdd, Int.reduceSub, Int.reduceNeg, Int.reduceMul, Int.reduceToNat, Nat.reduceSub, Nat.reduceMul, Nat.reduceLeDiff, Nat.reduceAdd, Nat.reduceLT, Nat.reduceEqDiff, reduceCtorEq, ↓reduceIte, rqs]
    rw [decide_eq_true h0]
    try rfl
  · have h0' := h0
    refine call_by ((qcheck_good r h h0)) (by rfl) (by simp) ?_
    simp (disch := omega) only [wk, tis, Int.reduceNe, Int.reduceEq, Int.reduceLT, Int.reduceLE, Int.reduceAdd, Int.reduceSub, Int.reduceNeg, Int.reduceMul, Int.reduceToNat, Nat.reduceSub, Nat.reduceMul, Nat.reduceLeDiff, Nat.reduceAdd, Nat.reduceLT, Nat.reduceEqDiff, reduceCtorEq, ↓reduceIte, rqs]
    rw [decide_eq_false h0]
    try rfl

theorem not_any {l : List RQ} : (!l.any fun r => decide (nv r.2 = 0)) = gd l := by
  unfold gd
  induction l with
  | nil => rfl
  | cons a l ih =>
    rw [List.any_cons, List.all_cons, Bool.not_or, ih]
    congr 1
    by_cases h : nv a.2 = 0 <;> simp [h]

theorem qgood_ok (l : List RQ) (h : BQ (2 ^ 40) (2 ^ 40) l) : AC Tryz.prog 52 [cqw l] none [cb (gd l)] := by
  have m := conq_ok l 116 (fun r => decide (nv r.2 = 0)) (Nat.le_trans h.1 (by omega)) (fun r hr => qgood1_ok r ⟨Nat.le_trans (h.2 r hr).2.1 (by omega), (h.2 r hr).2.2⟩)
  refine AC.by_walk (rs := [.tmp 2]) ords Tryz.func52 (by rfl) (by rfl) (by rfl) (by rfl) (by rfl) ?_
  simp (disch := omega) only [wk, tis, Int.reduceNe, Int.reduceEq, Int.reduceLT, Int.reduceLE, Int.reduceAdd, Int.reduceSub, Int.reduceNeg, Int.reduceMul, Int.reduceToNat, Nat.reduceSub, Nat.reduceMul, Nat.reduceLeDiff, Nat.reduceAdd, Nat.reduceLT, Nat.reduceEqDiff, reduceCtorEq, ↓reduceIte, rqs, List.map_nil]
  refine call_by (m) (by first | rfl | (simp only [tocvs, tocv, List.map_nil]; rfl) | (simp only [tocvs, tocv, toboxes, tobox, updH_at, Nat.reduceEqDiff, ↓reduceIte, List.map_nil]; rfl)) (by simp) ?_
  simp (disch := omega) only [wk, tis, Int.reduceNe, Int.reduceEq, Int.reduceLT, Int.reduceLE, Int.reduceAdd, Int.reduceSub, Int.reduceNeg, Int.reduceMul, Int.reduceToNat, Nat.reduceSub, Nat.reduceMul, Nat.reduceLeDiff, Nat.reduceAdd, Nat.reduceLT, Nat.reduceEqDiff, reduceCtorEq, ↓reduceIte, rqs, List.map_nil]
  exact not_any

/-! ### Values -/
theorem evq_nil (x : Rat) : evq [] x = 0 := rfl
/-- Bounds for the values of a polynomial. -/
structure VB (p : List RQ) (x : RQ) (B : Nat) : Prop where
  hp : GQ (2 ^ 30) B p
  hx : SzQ B x
  d : nv x.2 ≠ 0
  e : ∀ q : List Rat, q.length ≤ p.length → (∀ c ∈ q, c ∈ qvs p) → qz (evq q (qv x)) ≤ B
  w : ∀ i, i ≤ p.length → qz (qv x ^ i) ≤ B
  b : B ≤ 2 ^ 34
  one : 1 ≤ B
theorem VB.of {n K X B : Nat} {p : List RQ} {x : RQ} (hp : GQ n K p) (hx : SzQ X x) (hd : nv x.2 ≠ 0) (hn : n ≤ 2 ^ 30) (hB : n * (K + X + 1) + K + X + 1 ≤ B) (hB' : B ≤ 2 ^ 34) : VB p x B where
  hp := hp.mono hn (by omega)
  hx := hx.mono (by omega)
  d := hd
  e := fun q hq hc => by
    have h := qz_evq (K := K) (qz_raw hx hd) (p := q) fun c hc' => hp.qb.2 c (hc c hc')
    have h2 := Nat.mul_le_mul_right (K + X + 1) (Nat.le_trans hq hp.1)
    omega
  w := fun i hi => by
    have h := qz_pow (qz_raw hx hd) i
    have h2 := Nat.mul_le_mul_right X (Nat.le_trans hi hp.1)
    have h3 : n * X ≤ n * (K + X + 1) := Nat.mul_le_mul_left n (by omega)
    omega
  b := hB'
  one := by omega
theorem VB.take {p : List RQ} {x : RQ} {B : Nat} (v : VB p x B) (i : Nat) : qz (evq ((qvs p).take i) (qv x)) ≤ B :=
  v.e _ (by rw [List.length_take, qvs_len]; omega) fun c hc => List.mem_of_mem_take hc
theorem VB.drop {p : List RQ} {x : RQ} {B : Nat} (v : VB p x B) (i : Nat) : qz (evq ((qvs p).drop i) (qv x)) ≤ B :=
  v.e _ (by rw [List.length_drop, qvs_len]; omega) fun c hc => List.mem_of_mem_drop hc
theorem crat_zero' : qrow (crat 0) = qrow ((false, []), [1]) := by
  have := crat_int 0
  rw [canon_zero] at this
  exact congrArg qrow this

theorem hzero_ok : AC Tryz.prog 110 [] none [cqz 0] := by
  have m := hP_ok 0 1 (by omega) (by omega) (by omega) (by omega)
  rw [show ((0 : Int) : Rat) / ((1 : Nat) : Rat) = 0 by decide +kernel] at m
  refine AC.by_walk (rs := [.cell 0 31]) ords Tryz.func110 (by rfl) (by rfl) (by rfl) (by rfl) (by rfl) ?_
  simp (disch := omega) only [wk, tis, Int.reduceNe, Int.reduceEq, Int.reduceLT, Int.reduceLE, Int.reduceAdd, Int.reduceSub, Int.reduceNeg, Int.reduceMul, Int.reduceToNat, Nat.reduceSub, Nat.reduceMul, Nat.reduceLeDiff, Nat.reduceAdd, Nat.reduceLT, Nat.reduceEqDiff, reduceCtorEq, ↓reduceIte, rqs]
  refine call_by (m) (by rfl) (by simp) ?_
  simp (disch := omega) only [wk, tis, Int.reduceNe, Int.reduceEq, Int.reduceLT, Int.reduceLE, Int.reduceAdd, Int.reduceSub, Int.reduceNeg, Int.reduceMul, Int.reduceToNat, Nat.reduceSub, Nat.reduceMul, Nat.reduceLeDiff, Nat.reduceAdd, Nat.reduceLT, Nat.reduceEqDiff, reduceCtorEq, ↓reduceIte, rqs]
  try rfl
theorem hone_ok : AC Tryz.prog 36 [ci 1, ci 1] none [cqz 1] := by
  have m := hP_ok 1 1 (by omega) (by omega) (by omega) (by omega)
  rwa [show ((1 : Int) : Rat) / ((1 : Nat) : Rat) = 1 by decide +kernel] at m

theorem hat_ok (p : List RQ) (x : RQ) (B : Nat) (v : VB p x B) : AC Tryz.prog 50 [cqw p, cqq x] none [cqz (evq (qvs p) (qv x))] := by
  have hl := v.hp.1
  have hb := v.b
  have o := hone_ok
  refine AC.by_walk (rs := [.cell 4 31]) ords Tryz.func50 (by rfl) (by rfl) (by rfl) (by rfl) (by rfl) ?_
  simp (disch := omega) only [wk, tis, Int.reduceNe, Int.reduceEq, Int.reduceLT, Int.reduceLE, Int.reduceAdd, Int.reduceSub, Int.reduceNeg, Int.reduceMul, Int.reduceToNat, Nat.reduceSub, Nat.reduceMul, Nat.reduceLeDiff, Nat.reduceAdd, Nat.reduceLT, Nat.reduceEqDiff, reduceCtorEq, ↓reduceIte, rqs]
  refine call_by (hzero_ok) (by rfl) (by simp) ?_
  simp (disch := omega) only [wk, tis, Int.reduceNe, Int.reduceEq, Int.reduceLT, Int.reduceLE, Int.reduceAdd, Int.reduceSub, Int.reduceNeg, Int.reduceMul, Int.reduceToNat, Nat.reduceSub, Nat.reduceMul, Nat.reduceLeDiff, Nat.reduceAdd, Nat.reduceLT, Nat.reduceEqDiff, reduceCtorEq, ↓reduceIte, rqs]
  refine call_by (o) (by rfl) (by simp) ?_
  simp (disch := omega) only [wk, tis, Int.reduceNe, Int.reduceEq, Int.reduceLT, Int.reduceLE, Int.reduceAdd, Int.reduceSub, Int.reduceNeg, Int.reduceMul, Int.reduceToNat, Nat.reduceSub, Nat.reduceMul, Nat.reduceLeDiff, Nat.reduceAdd, Nat.reduceLT, Nat.reduceEqDiff, reduceCtorEq, ↓reduceIte, rqs]
  refine aloop_by (fun f H => ∃ (i st3 st5 st6 : Nat), i ≤ p.length ∧ f 7 = .iv (.int .i64 i) ∧ f 0 = .iv (.sl (rats p)) ∧ f 3 = .hp 3 st3 0 0 ∧ H 3 = .blk false st3 31 3 [qrow x] ∧ f 5 = .hp 5 st5 0 0 ∧ H 5 = .blk false st5 31 3 [qrow (crat (evq ((qvs p).take i) (qv x)))] ∧ f 6 = .hp 6 st6 0 0 ∧ H 6 = .blk false st6 31 3 [qrow (crat (qv x ^ i))] ∧ f 4 = .hp 4 1 0 0 ∧ H 4 = .blk false 1 31 3 [[.bool false, .sl [], .sl []]]) (fun f H => (p.length - intAt f 7).toNat) ?_ ?_
  · refine ⟨0, 1, 1, 1, by omega, ?_⟩
    simp (disch := omega) only [wk, tis, Int.reduceNe, Int.reduceEq, Int.reduceLT, Int.reduceLE, Int.reduceAdd, Int.reduceSub, Int.reduceNeg, Int.reduceMul, Int.reduceToNat, Nat.reduceSub, Nat.reduceMul, Nat.reduceLeDiff, Nat.reduceAdd, Nat.reduceLT, Nat.reduceEqDiff, reduceCtorEq, ↓reduceIte, rqs, List.take_zero, evq_nil, Rat.pow_zero]
  rintro f H ⟨i, st3, st5, st6, hi, hF⟩
  rw [intAt_of hF.1]
  simp (disch := omega) only [wk, tis, Int.reduceNe, Int.reduceEq, Int.reduceLT, Int.reduceLE, Int.reduceAdd, Int.reduceSub, Int.reduceNeg, Int.reduceMul, Int.reduceToNat, Nat.reduceSub, Nat.reduceMul, Nat.reduceLeDiff, Nat.reduceAdd, Nat.reduceLT, Nat.reduceEqDiff, reduceCtorEq, ↓reduceIte, rqs, hF]
  refine if_by (fun hlt => ?_) (fun hlt => ?_)
  · have hlt' : i < p.length := by omega
    have hr := v.hp.get hlt'
    have hrd := v.hp.den hlt'
    have z1 := v.take i
    have z2 := v.take (i + 1)
    have z3 := v.w i hi
    have z4 := v.w (i + 1) (by omega)
    have zc := qz_raw hr hrd
    have m := htimes_ok (p.getD i q0) (crat (qv x ^ i)) (hr.mono (by omega)) (szq_crat (by omega)) hrd (nv_crat0 _)
    rw [qv_crat, ← cfq_qvs] at m
    have zm := qz_mul (cfq (qvs p) i) (qv x ^ i)
    rw [← cfq_qvs] at zc
    have s := hplus_ok (crat (evq ((qvs p).take i) (qv x))) (crat (cfq (qvs p) i * qv x ^ i)) (szq_crat (by omega)) (szq_crat (by omega)) (nv_crat0 _) (nv_crat0 _)
    rw [qv_crat, qv_crat, show evq ((qvs p).take i) (qv x) + cfq (qvs p) i * qv x ^ i = evq ((qvs p).take (i + 1)) (qv x) from (evq_take (qvs p) (qv x) (by rw [qvs_len]; exact hlt')).symm] at s
    have w := htimes_ok (crat (qv x ^ i)) x (szq_crat (by omega)) (v.hx.mono (by omega)) (nv_crat0 _) v.d
    rw [qv_crat, ← Rat.pow_succ] at w
    simp (disch := omega) only [wk, tis, Int.reduceNe, Int.reduceEq, Int.reduceLT, Int.reduceLE, Int.reduceAdd, Int.reduceSub, Int.reduceNeg, Int.reduceMul, Int.reduceToNat, Nat.reduceSub, Nat.reduceMul, Nat.reduceLeDiff, Nat.reduceAdd, Nat.reduceLT, Nat.reduceEqDiff, reduceCtorEq, ↓reduceIte, rqs, hF]
    refine ⟨tmps_by (by kernel_rfl), ?_⟩
    refine call_by (m) (by first | rfl | (simp only [tocvs, tocv, hF]; rfl) | (simp only [tocvs, tocv, toboxes, tobox, updH_at, Nat.reduceEqDiff, ↓reduceIte, hF]; rfl)) (by simp) ?_
    simp (disch := omega) only [wk, tis, Int.reduceNe, Int.reduceEq, Int.reduceLT, Int.reduceLE, Int.reduceAdd, Int.reduceSub, Int.reduceNeg, Int.reduceMul, Int.reduceToNat, Nat.reduceSub, Nat.reduceMul, Nat.reduceLeDiff, Nat.reduceAdd, Nat.reduceLT, Nat.reduceEqDiff, reduceCtorEq, ↓reduceIte, rqs, hF]
    refine call_by (s) (by first | rfl | (simp only [tocvs, tocv, hF]; rfl) | (simp only [tocvs, tocv, toboxes, tobox, updH_at, Nat.reduceEqDiff, ↓reduceIte, hF]; rfl)) (by simp) ?_
    simp (disch := omega) only [wk, tis, Int.reduceNe, Int.reduceEq, Int.reduceLT, Int.reduceLE, Int.reduceAdd, Int.reduceSub, Int.reduceNeg, Int.reduceMul, Int.reduceToNat, Nat.reduceSub, Nat.reduceMul, Nat.reduceLeDiff, Nat.reduceAdd, Nat.reduceLT, Nat.reduceEqDiff, reduceCtorEq, ↓reduceIte, rqs, hF]
    first | exact log_by (by kernel_rfl) | refine ⟨log_by (by kernel_rfl), ?_⟩
    refine call_by (w) (by first | rfl | (simp only [tocvs, tocv, hF]; rfl) | (simp only [tocvs, tocv, toboxes, tobox, updH_at, Nat.reduceEqDiff, ↓reduceIte, hF]; rfl)) (by simp) ?_
    simp (disch := omega) only [wk, tis, Int.reduceNe, Int.reduceEq, Int.reduceLT, Int.reduceLE, Int.reduceAdd, Int.reduceSub, Int.reduceNeg, Int.reduceMul, Int.reduceToNat, Nat.reduceSub, Nat.reduceMul, Nat.reduceLeDiff, Nat.reduceAdd, Nat.reduceLT, Nat.reduceEqDiff, reduceCtorEq, ↓reduceIte, rqs, hF]
    exact ⟨⟨i + 1, st3, st5, st6, by omega, by omega, rfl, rfl, rfl, rfl, rfl, rfl⟩, by omega⟩
  · simp (disch := omega) only [wk, tis, Int.reduceNe, Int.reduceEq, Int.reduceLT, Int.reduceLE, Int.reduceAdd, Int.reduceSub, Int.reduceNeg, Int.reduceMul, Int.reduceToNat, Nat.reduceSub, Nat.reduceMul, Nat.reduceLeDiff, Nat.reduceAdd, Nat.reduceLT, Nat.reduceEqDiff, reduceCtorEq, ↓reduceIte, rqs, hF]
    rw [List.take_of_length_le (by rw [qvs_len]; omega)]
    try rfl

theorem eAt_ok (p : List RQ) (x : RQ) (B : Nat) (v : VB p x B) : AC Tryz.prog 44 [cqw p, cqq x] none [cqz (evq (qvs p) (qv x)), ci 0] := by
  have hl := v.hp.1
  have hb := v.b
  have g := qgood_ok p (v.hp.bq.mono (by omega) (by omega))
  rw [v.hp.gd] at g
  have o := qcheck_good x ⟨Nat.le_trans v.hx.2.1 (by omega), v.hx.2.2⟩ v.d
  have w := ewhole_ok 0 (by omega) (by omega)
  rw [Rat.intCast_zero] at w
  have e0 : evq ((qvs p).drop p.length) (qv x) = 0 := by rw [← qvs_len p, List.drop_length]; rfl
  refine AC.by_walk (rs := [.cell 4 31, .tmp 5]) ords Tryz.func44 (by rfl) (by rfl) (by rfl) (by rfl) (by rfl) ?_
  simp (disch := omega) only [wk, tis, Int.reduceNe, Int.reduceEq, Int.reduceLT, Int.reduceLE, Int.reduceAdd, Int.reduceSub, Int.reduceNeg, Int.reduceMul, Int.reduceToNat, Nat.reduceSub, Nat.reduceMul, Nat.reduceLeDiff, Nat.reduceAdd, Nat.reduceLT, Nat.reduceEqDiff, reduceCtorEq, ↓reduceIte, rqs]
  refine call_by (g) (by rfl) (by simp) ?_
  simp (disch := omega) only [wk, tis, Int.reduceNe, Int.reduceEq, Int.reduceLT, Int.reduceLE, Int.reduceAdd, Int.reduceSub, Int.reduceNeg, Int.reduceMul, Int.reduceToNat, Nat.reduceSub, Nat.reduceMul, Nat.reduceLeDiff, Nat.reduceAdd, Nat.reduceLT, Nat.reduceEqDiff, reduceCtorEq, ↓reduceIte, rqs]
  refine call_by (o) (by rfl) (by simp) ?_
  simp (disch := omega) only [wk, tis, Int.reduceNe, Int.reduceEq, Int.reduceLT, Int.reduceLE, Int.reduceAdd, Int.reduceSub, Int.reduceNeg, Int.reduceMul, Int.reduceToNat, Nat.reduceSub, Nat.reduceMul, Nat.reduceLeDiff, Nat.reduceAdd, Nat.reduceLT, Nat.reduceEqDiff, reduceCtorEq, ↓reduceIte, rqs]
  refine call_by (w) (by rfl) (by simp) ?_
  simp (disch := omega) only [wk, tis, Int.reduceNe, Int.reduceEq, Int.reduceLT, Int.reduceLE, Int.reduceAdd, Int.reduceSub, Int.reduceNeg, Int.reduceMul, Int.reduceToNat, Nat.reduceSub, Nat.reduceMul, Nat.reduceLeDiff, Nat.reduceAdd, Nat.reduceLT, Nat.reduceEqDiff, reduceCtorEq, ↓reduceIte, rqs]
  refine aloop_by (fun f H => ∃ (i st3 st6 : Nat), i ≤ p.length ∧ f 7 = .iv (.int .i64 ((i : Int) - 1)) ∧ f 0 = .iv (.sl (rats p)) ∧ f 3 = .hp 3 st3 0 0 ∧ H 3 = .blk false st3 31 3 [qrow x] ∧ f 6 = .hp 6 st6 0 0 ∧ H 6 = .blk false st6 31 3 [qrow (crat (evq ((qvs p).drop i) (qv x)))] ∧ f 4 = .hp 4 1 0 0 ∧ H 4 = .blk false 1 31 3 [[.bool false, .sl [], .sl []]]) (fun f H => (intAt f 7 + 1).toNat) ?_ ?_
  · refine ⟨p.length, 1, 1, by omega, ?_⟩
    simp (disch := omega) only [wk, tis, Int.reduceNe, Int.reduceEq, Int.reduceLT, Int.reduceLE, Int.reduceAdd, Int.reduceSub, Int.reduceNeg, Int.reduceMul, Int.reduceToNat, Nat.reduceSub, Nat.reduceMul, Nat.reduceLeDiff, Nat.reduceAdd, Nat.reduceLT, Nat.reduceEqDiff, reduceCtorEq, ↓reduceIte, rqs, e0]
  rintro f H ⟨i, st3, st6, hi, hF⟩
  rw [intAt_of hF.1]
  simp (disch := omega) only [wk, tis, Int.reduceNe, Int.reduceEq, Int.reduceLT, Int.reduceLE, Int.reduceAdd, Int.reduceSub, Int.reduceNeg, Int.reduceMul, Int.reduceToNat, Nat.reduceSub, Nat.reduceMul, Nat.reduceLeDiff, Nat.reduceAdd, Nat.reduceLT, Nat.reduceEqDiff, reduceCtorEq, ↓reduceIte, rqs, hF]
  refine if_by (fun hlt => ?_) (fun hlt => ?_)
  · obtain ⟨j, rfl⟩ : ∃ j, i = j + 1 := ⟨i - 1, by omega⟩
    have ej : ((j + 1 : Nat) : Int) - 1 = (j : Int) := by omega
    rw [ej] at hF
    have hlt' : j < p.length := by omega
    have hr := v.hp.get hlt'
    have hrd := v.hp.den hlt'
    have z1 := v.drop (j + 1)
    have z2 := v.drop j
    have zx := qz_raw v.hx v.d
    have zm := qz_mul (evq ((qvs p).drop (j + 1)) (qv x)) (qv x)
    have m := qmul_ok (crat (evq ((qvs p).drop (j + 1)) (qv x))) x (szq_crat (by omega)) (v.hx.mono (by omega)) (nv_crat0 _) v.d
    rw [qv_crat] at m
    have s := qadd_ok (crat (evq ((qvs p).drop (j + 1)) (qv x) * qv x)) (p.getD j q0) (szq_crat (by omega)) (hr.mono (by omega)) (nv_crat0 _) hrd
    rw [qv_crat, ← cfq_qvs, show evq ((qvs p).drop (j + 1)) (qv x) * qv x + cfq (qvs p) j = evq ((qvs p).drop j) (qv x) from (evq_drop (qvs p) (qv x) (by rw [qvs_len]; exact hlt')).symm] at s
    simp (disch := omega) only [wk, tis, Int.reduceNe, Int.reduceEq, Int.reduceLT, Int.reduceLE, Int.reduceAdd, Int.reduceSub, Int.reduceNeg, Int.reduceMul, Int.reduceToNat, Nat.reduceSub, Nat.reduceMul, Nat.reduceLeDiff, Nat.reduceAdd, Nat.reduceLT, Nat.reduceEqDiff, reduceCtorEq, ↓reduceIte, rqs, hF, ej]
    refine call_by (m) (by first | rfl | (simp only [tocvs, tocv, hF, ej]; rfl) | (simp only [tocvs, tocv, toboxes, tobox, updH_at, Nat.reduceEqDiff, ↓reduceIte, hF, ej]; rfl)) (by simp) ?_
    simp (disch := omega) only [wk, tis, Int.reduceNe, Int.reduceEq, Int.reduceLT, Int.reduceLE, Int.reduceAdd, Int.reduceSub, Int.reduceNeg, Int.reduceMul, Int.reduceToNat, Nat.reduceSub, Nat.reduceMul, Nat.reduceLeDiff, Nat.reduceAdd, Nat.reduceLT, Nat.reduceEqDiff, reduceCtorEq, ↓reduceIte, rqs, hF, ej]
    refine ⟨tmps_by (by kernel_rfl), ?_⟩
    refine call_by (s) (by first | rfl | (simp only [tocvs, tocv, hF, ej]; rfl) | (simp only [tocvs, tocv, toboxes, tobox, updH_at, Nat.reduceEqDiff, ↓reduceIte, hF, ej]; rfl)) (by simp) ?_
    simp (disch := omega) only [wk, tis, Int.reduceNe, Int.reduceEq, Int.reduceLT, Int.reduceLE, Int.reduceAdd, Int.reduceSub, Int.reduceNeg, Int.reduceMul, Int.reduceToNat, Nat.reduceSub, Nat.reduceMul, Nat.reduceLeDiff, Nat.reduceAdd, Nat.reduceLT, Nat.reduceEqDiff, reduceCtorEq, ↓reduceIte, rqs, hF, ej]
    first | exact log_by (by kernel_rfl) | refine ⟨log_by (by kernel_rfl), ?_⟩
    refine ⟨⟨j, st3, st6, by omega, ?_⟩, by omega⟩
    (repeat' apply And.intro) <;> first | rfl | omega
  · have hi0 : i = 0 := by omega
    subst hi0
    rw [List.drop_zero] at hF
    simp (disch := omega) only [wk, tis, Int.reduceNe, Int.reduceEq, Int.reduceLT, Int.reduceLE, Int.reduceAdd, Int.reduceSub, Int.reduceNeg, Int.reduceMul, Int.reduceToNat, Nat.reduceSub, Nat.reduceMul, Nat.reduceLeDiff, Nat.reduceAdd, Nat.reduceLT, Nat.reduceEqDiff, reduceCtorEq, ↓reduceIte, rqs, hF]
    try rfl

end Go.Proofs.YtcjnacpekbhhcaaGreat

namespace Go.Proofs.YtcjnacpekbhhcaaGreat
open Go Go.Proofs Go.AL
set_option linter.unusedSimpArgs false
set_option linter.unusedVariables false

/-! ### Signs of rationals -/
def sgq (q : Rat) : Int := q.num.sign
theorem sgq_pos {q : Rat} (h : 0 < q) : sgq q = 1 := by
  refine Int.sign_eq_one_of_pos ?_
  have h1 : 0 ≤ q.num := Rat.num_nonneg.mpr (Rat.le_of_lt h)
  have h2 : q.num ≠ 0 := fun e => by rw [Rat.num_eq_zero.mp e] at h; exact Rat.lt_irrefl h
  omega
theorem sgq_neg {q : Rat} (h : q < 0) : sgq q = -1 := by
  refine Int.sign_eq_neg_one_of_neg ?_
  have h1 : ¬ 0 ≤ q.num := fun e => Rat.not_le.mpr h (Rat.num_nonneg.mp e)
  omega
theorem sgq_zero : sgq 0 = 0 := rfl
theorem sgq_cases (q : Rat) : (0 < q ∧ sgq q = 1) ∨ (q = 0 ∧ sgq q = 0) ∨ (q < 0 ∧ sgq q = -1) := by
  by_cases h : q < 0
  · exact .inr (.inr ⟨h, sgq_neg h⟩)
  · by_cases h0 : q = 0
    · exact .inr (.inl ⟨h0, by rw [h0]; rfl⟩)
    · have : 0 < q := Rat.lt_of_le_of_ne (Rat.not_lt.mp h) (fun e => h0 e.symm)
      exact .inl ⟨this, sgq_pos this⟩
theorem sgq_mul (p q : Rat) : sgq (p * q) = sgq p * sgq q := by
  have hn : ∀ {x : Rat}, x < 0 → 0 < -x := fun {x} h => by grind
  rcases sgq_cases p with ⟨h1, e1⟩ | ⟨h1, e1⟩ | ⟨h1, e1⟩ <;> rcases sgq_cases q with ⟨h2, e2⟩ | ⟨h2, e2⟩ | ⟨h2, e2⟩ <;> rw [e1, e2]
  · rw [sgq_pos (Rat.mul_pos h1 h2)]; rfl
  · rw [h2, Rat.mul_zero]; rfl
  · have := Rat.mul_pos h1 (hn h2)
    rw [sgq_neg (by rw [Rat.mul_neg] at this; grind)]; rfl
  · rw [h1, Rat.zero_mul]; rfl
  · rw [h1, Rat.zero_mul]; rfl
  · rw [h1, Rat.zero_mul]; rfl
  · have := Rat.mul_pos (hn h1) h2
    rw [sgq_neg (by rw [Rat.neg_mul] at this; grind)]; rfl
  · rw [h2, Rat.mul_zero]; rfl
  · have := Rat.mul_pos (hn h1) (hn h2)
    rw [sgq_pos (by rw [Rat.neg_mul, Rat.mul_neg, Rat.neg_neg] at this; exact this)]; rfl
theorem sgq_int (z : Int) : sgq (z : Rat) = z.sign := by rw [sgq, Rat.num_intCast]
theorem sgq_eq_zero {q : Rat} : sgq q = 0 ↔ q = 0 := by
  rcases sgq_cases q with ⟨h1, e1⟩ | ⟨h1, e1⟩ | ⟨h1, e1⟩ <;> rw [e1]
  · exact ⟨fun h => by omega, fun h => by rw [h] at h1; exact (Rat.lt_irrefl h1).elim⟩
  · exact ⟨fun _ => h1, fun _ => rfl⟩
  · exact ⟨fun h => by omega, fun h => by rw [h] at h1; exact (Rat.lt_irrefl h1).elim⟩
theorem sgq_qv {r : RQ} (h : nv r.2 ≠ 0) : (iv r.1).sign = sgq (qv r) := by
  rw [qv_eq]
  have hp : (0 : Rat) < (nv r.2 : Rat) := Rat.natCast_pos.mpr (by omega)
  have e : (iv r.1 : Rat) = (iv r.1 : Rat) / (nv r.2 : Rat) * (nv r.2 : Rat) := (Rat.div_mul_cancel (Rat.ne_of_gt hp)).symm
  have e2 := congrArg sgq e
  rw [sgq_mul, sgq_int, sgq_pos hp, Int.mul_one] at e2
  exact e2

theorem evq_trim (q : List Rat) (x : Rat) : evq (trimq q) x = evq q x := evq_ext x (cfq_trimq q)
theorem evq_qp_trim (p : List Int) (x : Rat) : evq (qp (trimz p)) x = evq (qp p) x := evq_ext x fun k => by rw [cfq_qp, cfq_qp, cf_trimz]
theorem ihom_evq {a b : Int} (hb : b ≠ 0) : ∀ p : List Int, ((ihom p a b : Int) : Rat) * (b : Rat) = (b : Rat) ^ p.length * evq (qp p) ((a : Rat) / (b : Rat))
  | [] => by
    rw [ihom, qp, List.map_nil, evq, Rat.intCast_zero]; grind
  | c :: p => by
    have ih := ihom_evq (a := a) hb p
    have hr : (b : Rat) ≠ 0 := fun h => hb (Rat.intCast_eq_zero_iff.mp h)
    have e : qp (c :: p) = (c : Rat) :: qp p := rfl
    rw [ihom, e, evq, List.length_cons, Rat.intCast_add, Rat.intCast_mul, Rat.intCast_mul, Rat.intCast_pow, Rat.pow_succ]
    have h2 : (a : Rat) / (b : Rat) * (b : Rat) = (a : Rat) := Rat.div_mul_cancel hr
    generalize (a : Rat) / (b : Rat) = x at *
    rw [← h2]
    grind
theorem ihom_sign {p : List Int} {a : Int} {b : Nat} (hb : b ≠ 0) : (ihom (trimz p) a (b : Int)).sign = sgq (evq (qp p) ((a : Rat) / (b : Rat))) := by
  have h := ihom_evq (a := a) (b := (b : Int)) (by omega) (trimz p)
  rw [Rat.intCast_natCast, evq_qp_trim] at h
  have hp : (0 : Rat) < (b : Rat) := Rat.natCast_pos.mpr (by omega)
  have e := congrArg sgq h
  rwa [sgq_mul, sgq_mul, sgq_int, sgq_pos hp, sgq_pos (Rat.pow_pos hp), Int.mul_one, Int.one_mul] at e

theorem takez_snoc {q : List Int} {i : Nat} (h : i < q.length) : q.take (i + 1) = q.take i ++ [cf q i] := by
  rw [List.take_add_one]
  congr 1
  simp [cf, List.getD, h]

theorem ehomog_ok (p : List RI) (a b : RI) (hp : RP (2 ^ 10) (2 ^ 20) p) (ha : Sz (2 ^ 20) a) (hb : Sz (2 ^ 20) b) : AC Tryz.prog 146 [cw p, cr a, cr b] none [cz (ihom (trimz (pv p)) (iv a) (iv b))] := by
  have za := zl_iv ha
  have zb := zl_iv hb
  refine AC.by_walk (rs := [.cell 6 29]) ords Tryz.func146 (by rfl) (by rfl) (by rfl) (by rfl) (by rfl) ?_
  simp (disch := omega) only [wk, tis, Int.reduceNe, Int.reduceEq, Int.reduceLT, Int.reduceLE, Int.reduceAdd, Int.reduceSub, Int.reduceNeg, Int.reduceMul, Int.reduceToNat, Nat.reduceSub, Nat.reduceMul, Nat.reduceLeDiff, Nat.reduceAdd, Nat.reduceLT, Nat.reduceEqDiff, reduceCtorEq, ↓reduceIte, rqs]
  refine call_by ((pnorm_ok p (hp.mono (by omega) (by omega)))) (by rfl) (by simp) ?_
  simp (disch := omega) only [wk, tis, Int.reduceNe, Int.reduceEq, Int.reduceLT, Int.reduceLE, Int.reduceAdd, Int.reduceSub, Int.reduceNeg, Int.reduceMul, Int.reduceToNat, Nat.reduceSub, Nat.reduceMul, Nat.reduceLeDiff, Nat.reduceAdd, Nat.reduceLT, Nat.reduceEqDiff, reduceCtorEq, ↓reduceIte, rqs]
  have hA := hp.pv.trimz
  unfold cpoly
  generalize trimz (pv p) = A at *
  have hAl := hA.1
  have hq : (A.map canon).length = A.length := by simp
  have hB : ∀ i, zl (ihom (A.drop i) (iv a) (iv b)) ≤ 2 ^ 32 := fun i => by
    have h := zl_ihom (K := 2 ^ 20) (p := A.drop i) za zb fun z hz => hA.2 z (List.mem_of_mem_drop hz)
    have h2 : (A.drop i).length ≤ 2 ^ 10 := by rw [List.length_drop]; omega
    have h3 := Nat.mul_le_mul_right (2 ^ 20 + 1) h2
    have h4 : 2 ^ 20 + 2 ^ 10 * (2 ^ 20 + 1) + 1 ≤ 2 ^ 32 := by decide
    omega
  refine call_by ((zOf_ok 0 (by omega) (by omega))) (by first | rfl | (simp only [tocvs, tocv, hq]; rfl) | (simp only [tocvs, tocv, toboxes, tobox, updH_at, Nat.reduceEqDiff, ↓reduceIte, hq]; rfl)) (by simp) ?_
  simp (disch := omega) only [wk, tis, Int.reduceNe, Int.reduceEq, Int.reduceLT, Int.reduceLE, Int.reduceAdd, Int.reduceSub, Int.reduceNeg, Int.reduceMul, Int.reduceToNat, Nat.reduceSub, Nat.reduceMul, Nat.reduceLeDiff, Nat.reduceAdd, Nat.reduceLT, Nat.reduceEqDiff, reduceCtorEq, ↓reduceIte, rqs, hq]
  refine call_by ((zOf_ok 1 (by omega) (by omega))) (by first | rfl | (simp only [tocvs, tocv, hq]; rfl) | (simp only [tocvs, tocv, toboxes, tobox, updH_at, Nat.reduceEqDiff, ↓reduceIte, hq]; rfl)) (by simp) ?_
  simp (disch := omega) only [wk, tis, Int.reduceNe, Int.reduceEq, Int.reduceLT, Int.reduceLE, Int.reduceAdd, Int.reduceSub, Int.reduceNeg, Int.reduceMul, Int.reduceToNat, Nat.reduceSub, Nat.reduceMul, Nat.reduceLeDiff, Nat.reduceAdd, Nat.reduceLT, Nat.reduceEqDiff, reduceCtorEq, ↓reduceIte, rqs, hq]
  have e0 : canon (ihom (A.drop A.length) (iv a) (iv b)) = canon 0 := by rw [List.drop_length, ihom]
  have e1 : canon (iv b ^ (A.length - A.length)) = canon 1 := by rw [Nat.sub_self, Int.pow_zero]
  refine aloop_by (fun f H => ∃ (i st4 st5 st6 st7 st8 : Nat), i ≤ A.length ∧ f 9 = .iv (.int .i64 ((i : Int) - 1)) ∧ f 0 = .iv (.sl (raws (A.map canon))) ∧ f 4 = .hp 4 st4 0 0 ∧ H 4 = .blk false st4 29 2 [prow a] ∧ f 5 = .hp 5 st5 0 0 ∧ H 5 = .blk false st5 29 2 [prow b] ∧ f 6 = .hp 6 st6 0 0 ∧ H 6 = .blk false st6 29 2 [prow (false, [])] ∧ f 7 = .hp 7 st7 0 0 ∧ H 7 = .blk false st7 29 2 [prow (canon (ihom (A.drop i) (iv a) (iv b)))] ∧ f 8 = .hp 8 st8 0 0 ∧ H 8 = .blk false st8 29 2 [prow (canon (iv b ^ (A.length - i)))]) (fun f H => (intAt f 9 + 1).toNat) ?_ ?_
  · refine ⟨A.length, 1, 1, 1, 1, 1, by omega, ?_⟩
    simp (disch := omega) only [wk, tis, Int.reduceNe, Int.reduceEq, Int.reduceLT, Int.reduceLE, Int.reduceAdd, Int.reduceSub, Int.reduceNeg, Int.reduceMul, Int.reduceToNat, Nat.reduceSub, Nat.reduceMul, Nat.reduceLeDiff, Nat.reduceAdd, Nat.reduceLT, Nat.reduceEqDiff, reduceCtorEq, ↓reduceIte, rqs, e0, e1]
  rintro f H ⟨i, st4, st5, st6, st7, st8, hi, hF⟩
  rw [intAt_of hF.1]
  simp (disch := omega) only [wk, tis, Int.reduceNe, Int.reduceEq, Int.reduceLT, Int.reduceLE, Int.reduceAdd, Int.reduceSub, Int.reduceNeg, Int.reduceMul, Int.reduceToNat, Nat.reduceSub, Nat.reduceMul, Nat.reduceLeDiff, Nat.reduceAdd, Nat.reduceLT, Nat.reduceEqDiff, reduceCtorEq, ↓reduceIte, rqs, hF]
  refine if_by (fun hlt => ?_) (fun hlt => ?_)
  · obtain ⟨j, rfl⟩ : ∃ j, i = j + 1 := ⟨i - 1, by omega⟩
    have ej : ((j + 1 : Nat) : Int) - 1 = (j : Int) := by omega
    rw [ej] at hF
    have hd := drop_cf A (i := j) (by omega)
    have zj := hA.cf j
    have zh := hB (j + 1)
    have zp := zl_pow_b zb (i := A.length - (j + 1)) (by omega)
    have zm := zl_mul (ihom (A.drop (j + 1)) (iv a) (iv b)) (iv a)
    have zm2 := zl_mul (cf A j) (iv b ^ (A.length - (j + 1)))
    simp (disch := omega) only [wk, tis, Int.reduceNe, Int.reduceEq, Int.reduceLT, Int.reduceLE, Int.reduceAdd, Int.reduceSub, Int.reduceNeg, Int.reduceMul, Int.reduceToNat, Nat.reduceSub, Nat.reduceMul, Nat.reduceLeDiff, Nat.reduceAdd, Nat.reduceLT, Nat.reduceEqDiff, reduceCtorEq, ↓reduceIte, rqs, hF, ej, hq]
    refine ⟨tmps_by (by kernel_rfl), ?_⟩
    have m := zmul_ok (canon (ihom (A.drop (j + 1)) (iv a) (iv b))) a ((sz_canon _).mono (by omega)) (ha.mono (by omega))
    rw [iv_canon] at m
    refine call_by (m) (by first | rfl | (simp only [tocvs, tocv, hF, ej, hq]; rfl) | (simp only [tocvs, tocv, toboxes, tobox, updH_at, Nat.reduceEqDiff, ↓reduceIte, hF, ej, hq]; rfl)) (by simp) ?_
    simp (disch := omega) only [wk, tis, Int.reduceNe, Int.reduceEq, Int.reduceLT, Int.reduceLE, Int.reduceAdd, Int.reduceSub, Int.reduceNeg, Int.reduceMul, Int.reduceToNat, Nat.reduceSub, Nat.reduceMul, Nat.reduceLeDiff, Nat.reduceAdd, Nat.reduceLT, Nat.reduceEqDiff, reduceCtorEq, ↓reduceIte, rqs, hF, ej, hq]
    have m2 := zmul_ok (canon (cf A j)) (canon (iv b ^ (A.length - (j + 1)))) ((sz_canon _).mono (by omega)) ((sz_canon _).mono (by omega))
    rw [iv_canon, iv_canon] at m2
    refine call_by (m2) (by first | rfl | (simp only [tocvs, tocv, hF, ej, hq]; rfl) | (simp only [tocvs, tocv, toboxes, tobox, updH_at, Nat.reduceEqDiff, ↓reduceIte, hF, ej, hq]; rfl)) (by simp) ?_
    simp (disch := omega) only [wk, tis, Int.reduceNe, Int.reduceEq, Int.reduceLT, Int.reduceLE, Int.reduceAdd, Int.reduceSub, Int.reduceNeg, Int.reduceMul, Int.reduceToNat, Nat.reduceSub, Nat.reduceMul, Nat.reduceLeDiff, Nat.reduceAdd, Nat.reduceLT, Nat.reduceEqDiff, reduceCtorEq, ↓reduceIte, rqs, hF, ej, hq]
    have s := zadd_ok (canon (ihom (A.drop (j + 1)) (iv a) (iv b) * iv a)) (canon (cf A j * iv b ^ (A.length - (j + 1)))) ((sz_canon _).mono (by omega)) ((sz_canon _).mono (by omega))
    rw [iv_canon, iv_canon] at s
    refine call_by (s) (by first | rfl | (simp only [tocvs, tocv, hF, ej, hq]; rfl) | (simp only [tocvs, tocv, toboxes, tobox, updH_at, Nat.reduceEqDiff, ↓reduceIte, hF, ej, hq]; rfl)) (by simp) ?_
    simp (disch := omega) only [wk, tis, Int.reduceNe, Int.reduceEq, Int.reduceLT, Int.reduceLE, Int.reduceAdd, Int.reduceSub, Int.reduceNeg, Int.reduceMul, Int.reduceToNat, Nat.reduceSub, Nat.reduceMul, Nat.reduceLeDiff, Nat.reduceAdd, Nat.reduceLT, Nat.reduceEqDiff, reduceCtorEq, ↓reduceIte, rqs, hF, ej, hq]
    first | exact log_by (by kernel_rfl) | refine ⟨log_by (by kernel_rfl), ?_⟩
    have m3 := zmul_ok (canon (iv b ^ (A.length - (j + 1)))) b ((sz_canon _).mono (by omega)) (hb.mono (by omega))
    rw [iv_canon, ← Int.pow_succ, show (A.length - (j + 1)).succ = A.length - j by omega] at m3
    refine call_by (m3) (by first | rfl | (simp only [tocvs, tocv, hF, ej, hq]; rfl) | (simp only [tocvs, tocv, toboxes, tobox, updH_at, Nat.reduceEqDiff, ↓reduceIte, hF, ej, hq]; rfl)) (by simp) ?_
    simp (disch := omega) only [wk, tis, Int.reduceNe, Int.reduceEq, Int.reduceLT, Int.reduceLE, Int.reduceAdd, Int.reduceSub, Int.reduceNeg, Int.reduceMul, Int.reduceToNat, Nat.reduceSub, Nat.reduceMul, Nat.reduceLeDiff, Nat.reduceAdd, Nat.reduceLT, Nat.reduceEqDiff, reduceCtorEq, ↓reduceIte, rqs, hF, ej, hq]
    have e' : ihom (A.drop (j + 1)) (iv a) (iv b) * iv a + cf A j * iv b ^ (A.length - (j + 1)) = ihom (A.drop j) (iv a) (iv b) := by rw [hd, ihom, List.length_drop, Int.add_comm, Int.mul_comm (iv a)]
    refine ⟨⟨j, st4, st5, st6, st7, st8, by omega, ?_⟩, by omega⟩
    rw [e']
    (repeat' apply And.intro) <;> first | rfl | omega
  · have hi0 : i = 0 := by omega
    subst hi0
    rw [List.drop_zero] at hF
    simp (disch := omega) only [wk, tis, Int.reduceNe, Int.reduceEq, Int.reduceLT, Int.reduceLE, Int.reduceAdd, Int.reduceSub, Int.reduceNeg, Int.reduceMul, Int.reduceToNat, Nat.reduceSub, Nat.reduceMul, Nat.reduceLeDiff, Nat.reduceAdd, Nat.reduceLT, Nat.reduceEqDiff, reduceCtorEq, ↓reduceIte, rqs, hF]
    try rfl

/-! ### Signs -/
theorem esign_ok (p : List RI) (x : RQ) (hp : RP (2 ^ 10) (2 ^ 20) p) (hx : SzQ (2 ^ 20) x) (h0 : nv x.2 ≠ 0) : AC Tryz.prog 108 [cw p, cqq x] none [ci (sgq (evq (qp (pv p)) (qv x)))] := by
  have n := znatl_ok false x.2 hx.2.2 (Nat.le_trans hx.2.1 (by omega))
  rw [sgf] at n
  have za := zl_iv hx.1
  have zb := nt_zl hx.2
  have m := ehomog_ok p x.1 (canon (nv x.2 : Nat)) hp hx.1 ((sz_canon _).mono zb)
  rw [iv_canon] at m
  have zi : zl (ihom (trimz (pv p)) (iv x.1) (nv x.2 : Nat)) ≤ 2 ^ 33 := by
    have h := zl_ihom (K := 2 ^ 20) (p := trimz (pv p)) za zb fun z hz => hp.pv.trimz.2 z hz
    have h2 : (trimz (pv p)).length ≤ 2 ^ 10 := hp.pv.trimz.1
    have h3 := Nat.mul_le_mul_right (2 ^ 20 + 1) h2
    have h4 : 2 ^ 20 + 2 ^ 10 * (2 ^ 20 + 1) + 1 ≤ 2 ^ 32 := by decide
    omega
  have s := zsign_ok (canon (ihom (trimz (pv p)) (iv x.1) (nv x.2 : Nat))) ((sz_canon _).mono (by omega))
  rw [iv_canon, ihom_sign h0, ← qv_eq] at s
  refine AC.by_walk (rs := [.tmp 4]) ords Tryz.func108 (by rfl) (by rfl) (by rfl) (by rfl) (by rfl) ?_
  simp (disch := omega) only [wk, tis, Int.reduceNe, Int.reduceEq, Int.reduceLT, Int.reduceLE, Int.reduceAdd, Int.reduceSub, Int.reduceNeg, Int.reduceMul, Int.reduceToNat, Nat.reduceSub, Nat.reduceMul, Nat.reduceLeDiff, Nat.reduceAdd, Nat.reduceLT, Nat.reduceEqDiff, reduceCtorEq, ↓reduceIte, rqs]
  refine ⟨tmps_by (by kernel_rfl), ?_⟩
  refine call_by (n) (by rfl) (by simp) ?_
  simp (disch := omega) only [wk, tis, Int.reduceNe, Int.reduceEq, Int.reduceLT, Int.reduceLE, Int.reduceAdd, Int.reduceSub, Int.reduceNeg, Int.reduceMul, Int.reduceToNat, Nat.reduceSub, Nat.reduceMul, Nat.reduceLeDiff, Nat.reduceAdd, Nat.reduceLT, Nat.reduceEqDiff, reduceCtorEq, ↓reduceIte, rqs]
  refine call_by (m) (by rfl) (by simp) ?_
  simp (disch := omega) only [wk, tis, Int.reduceNe, Int.reduceEq, Int.reduceLT, Int.reduceLE, Int.reduceAdd, Int.reduceSub, Int.reduceNeg, Int.reduceMul, Int.reduceToNat, Nat.reduceSub, Nat.reduceMul, Nat.reduceLeDiff, Nat.reduceAdd, Nat.reduceLT, Nat.reduceEqDiff, reduceCtorEq, ↓reduceIte, rqs]
  refine call_by (s) (by rfl) (by simp) ?_
  simp (disch := omega) only [wk, tis, Int.reduceNe, Int.reduceEq, Int.reduceLT, Int.reduceLE, Int.reduceAdd, Int.reduceSub, Int.reduceNeg, Int.reduceMul, Int.reduceToNat, Nat.reduceSub, Nat.reduceMul, Nat.reduceLeDiff, Nat.reduceAdd, Nat.reduceLT, Nat.reduceEqDiff, reduceCtorEq, ↓reduceIte, rqs]
  first | exact log_by (by kernel_rfl) | refine ⟨log_by (by kernel_rfl), ?_⟩
  try rfl

theorem eSign_ok (p : List RI) (x : RQ) (hp : RP (2 ^ 10) (2 ^ 20) p) (hx : SzQ (2 ^ 20) x) (h0 : nv x.2 ≠ 0) : AC Tryz.prog 45 [cw p, cqq x] none [ci (sgq (evq (qp (pv p)) (qv x))), ci 0] := by
  have c := qcheck_good x ⟨Nat.le_trans hx.2.1 (by omega), hx.2.2⟩ h0
  have s := esign_ok p x hp hx h0
  refine AC.by_walk (rs := [.tmp 4, .tmp 5]) ords Tryz.func45 (by rfl) (by rfl) (by rfl) (by rfl) (by rfl) ?_
  simp (disch := omega) only [wk, tis, Int.reduceNe, Int.reduceEq, Int.reduceLT, Int.reduceLE, Int.reduceAdd, Int.reduceSub, Int.reduceNeg, Int.reduceMul, Int.reduceToNat, Nat.reduceSub, Nat.reduceMul, Nat.reduceLeDiff, Nat.reduceAdd, Nat.reduceLT, Nat.reduceEqDiff, reduceCtorEq, ↓reduceIte, rqs]
  refine call_by (c) (by rfl) (by simp) ?_
  simp (disch := omega) only [wk, tis, Int.reduceNe, Int.reduceEq, Int.reduceLT, Int.reduceLE, Int.reduceAdd, Int.reduceSub, Int.reduceNeg, Int.reduceMul, Int.reduceToNat, Nat.reduceSub, Nat.reduceMul, Nat.reduceLeDiff, Nat.reduceAdd, Nat.reduceLT, Nat.reduceEqDiff, reduceCtorEq, ↓reduceIte, rqs]
  refine call_by (s) (by rfl) (by simp) ?_
  simp (disch := omega) only [wk, tis, Int.reduceNe, Int.reduceEq, Int.reduceLT, Int.reduceLE, Int.reduceAdd, Int.reduceSub, Int.reduceNeg, Int.reduceMul, Int.reduceToNat, Nat.reduceSub, Nat.reduceMul, Nat.reduceLeDiff, Nat.reduceAdd, Nat.reduceLT, Nat.reduceEqDiff, reduceCtorEq, ↓reduceIte, rqs]
  try rfl
end Go.Proofs.YtcjnacpekbhhcaaGreat

namespace Go.Proofs.YtcjnacpekbhhcaaGreat
open Go Go.Proofs Go.AL
set_option linter.unusedSimpArgs false
set_option linter.unusedVariables false

/-- Numbers of at most k words, at most n of them. -/
def NP (n k : Nat) (l : List (List Nat)) : Prop := l.length ≤ n ∧ ∀ a ∈ l, Lim a ∧ a.length ≤ k

theorem NP.get {n k : Nat} {l : List (List Nat)} (h : NP n k l) (i : Nat) : Lim (l.getD i []) ∧ (l.getD i []).length ≤ k := by
  by_cases hi : i < l.length
  · have e : l.getD i [] = l[i] := by simp [List.getD, hi]
    rw [e]; exact h.2 _ (List.getElem_mem hi)
  · rw [List.getD_eq_getElem?_getD, List.getElem?_eq_none (by omega)]
    exact ⟨Lim.nil, by simp⟩

end Go.Proofs.YtcjnacpekbhhcaaGreat

namespace Go.Proofs.YtcjnacpekbhhcaaGreat
open Go Go.Proofs Go.AL
set_option linter.unusedSimpArgs false
set_option linter.unusedVariables false

/-- A case. -/
structure C12 where
  (P Q : List RI) (R S : List RQ) (A B : RI) (X Y : RQ) (N : Int)
abbrev case12 (x : C12) : List IV := [.sl (raws x.P), .sl (raws x.Q), .sl (rats x.R), .sl (rats x.S), .bool x.A.1, .sl (lims x.A.2), .bool x.B.1, .sl (lims x.B.2), .bool x.X.1.1, .sl (lims x.X.1.2), .sl (lims x.X.2), .bool x.Y.1.1, .sl (lims x.Y.1.2), .sl (lims x.Y.2), .int .i64 x.N]
theorem case12_A (x : C12) : List.take 2 (List.drop 4 (case12 x)) = prow x.A := rfl
theorem case12_B (x : C12) : List.take 2 (List.drop 6 (case12 x)) = prow x.B := rfl
theorem case12_X (x : C12) : List.take 3 (List.drop 8 (case12 x)) = qrow x.X := rfl
theorem case12_Y (x : C12) : List.take 3 (List.drop 11 (case12 x)) = qrow x.Y := rfl
theorem ints_two (a b : RI) : [prow a, prow b] = raws [a, b] := rfl
/-- Are there many rationals, or a long one? -/
def gqr (l : List RQ) : Bool := decide (40 < l.length) || l.any fun r => decide (200 < r.1.2.length) || decide (200 < r.2.length)
def lenQ (r : RQ) : Prop := r.1.2.length ≤ 9223372036854775807 ∧ r.2.length ≤ 9223372036854775807

theorem sgrats_ok (l : List RQ) (hl : l.length ≤ 9223372036854775807) (h : ∀ c ∈ l, lenQ c) : AC Tryz.prog 13 [cqw l] none [cb (gqr l)] := by
  refine AC.by_walk (rs := [.tmp 2]) ords Tryz.func13 (by rfl) (by rfl) (by rfl) (by rfl) (by rfl) ?_
  simp (disch := omega) only [wk, tis, Int.reduceNe, Int.reduceEq, Int.reduceLT, Int.reduceLE, Int.reduceAdd, Int.reduceSub, Int.reduceNeg, Int.reduceMul, Int.reduceToNat, Nat.reduceSub, Nat.reduceMul, Nat.reduceLeDiff, Nat.reduceAdd, Nat.reduceLT, Nat.reduceEqDiff, reduceCtorEq, ↓reduceIte, rqs, case12_A, case12_B, case12_X, case12_Y, ints_two]
  by_cases hw : 40 < (l.length : Int)
  · have e : gqr l = true := by unfold gqr; rw [decide_eq_true (by omega)]; rfl
    rw [e]
    simp (disch := omega) only [wk, tis, Int.reduceNe, Int.reduceEq, Int.reduceLT, Int.reduceLE, Int.reduceAdd, Int.reduceSub, Int.reduceNeg, Int.reduceMul, Int.reduceToNat, Nat.reduceSub, Nat.reduceMul, Nat.reduceLeDiff, Nat.reduceAdd, Nat.reduceLT, Nat.reduceEqDiff, reduceCtorEq, ↓reduceIte, rqs, case12_A, case12_B, case12_X, case12_Y, ints_two, hw]
  have hw' : ¬ 40 < l.length := by omega
  have e : gqr l = l.any fun r => decide (200 < r.1.2.length) || decide (200 < r.2.length) := by unfold gqr; rw [decide_eq_false hw', Bool.false_or]
  rw [e]
  simp (disch := omega) only [wk, tis, Int.reduceNe, Int.reduceEq, Int.reduceLT, Int.reduceLE, Int.reduceAdd, Int.reduceSub, Int.reduceNeg, Int.reduceMul, Int.reduceToNat, Nat.reduceSub, Nat.reduceMul, Nat.reduceLeDiff, Nat.reduceAdd, Nat.reduceLT, Nat.reduceEqDiff, reduceCtorEq, ↓reduceIte, rqs, case12_A, case12_B, case12_X, case12_Y, ints_two, hw]
  refine aloop_by (fun f H => ∃ (i : Nat), i ≤ l.length ∧ (l.take i).any (fun r => decide (200 < r.1.2.length) || decide (200 < r.2.length)) = false ∧ f 3 = .iv (.int .i64 i) ∧ f 0 = .iv (.sl (rats l))) (fun f H => (l.length - intAt f 3).toNat) ?_ ?_
  · refine ⟨0, by omega, rfl, ?_⟩
    simp (disch := omega) only [wk, tis, Int.reduceNe, Int.reduceEq, Int.reduceLT, Int.reduceLE, Int.reduceAdd, Int.reduceSub, Int.reduceNeg, Int.reduceMul, Int.reduceToNat, Nat.reduceSub, Nat.reduceMul, Nat.reduceLeDiff, Nat.reduceAdd, Nat.reduceLT, Nat.reduceEqDiff, reduceCtorEq, ↓reduceIte, rqs, case12_A, case12_B, case12_X, case12_Y, ints_two]
  rintro f H ⟨i, hi, he, hF⟩
  rw [intAt_of hF.1]
  simp (disch := omega) only [wk, tis, Int.reduceNe, Int.reduceEq, Int.reduceLT, Int.reduceLE, Int.reduceAdd, Int.reduceSub, Int.reduceNeg, Int.reduceMul, Int.reduceToNat, Nat.reduceSub, Nat.reduceMul, Nat.reduceLeDiff, Nat.reduceAdd, Nat.reduceLT, Nat.reduceEqDiff, reduceCtorEq, ↓reduceIte, rqs, case12_A, case12_B, case12_X, case12_Y, ints_two, hF]
  refine if_by (fun hlt => ?_) (fun hlt => ?_)
  · have hil : i < l.length := by omega
    have hg : l.getD i q0 = l[i] := by simp [List.getD, hil]
    have hm := h l[i] (List.getElem_mem hil)
    have l1 := slong_ok l[i].1.2 hm.1
    have l2 := slong_ok l[i].2 hm.2
    simp (disch := omega) only [wk, tis, Int.reduceNe, Int.reduceEq, Int.reduceLT, Int.reduceLE, Int.reduceAdd, Int.reduceSub, Int.reduceNeg, Int.reduceMul, Int.reduceToNat, Nat.reduceSub, Nat.reduceMul, Nat.reduceLeDiff, Nat.reduceAdd, Nat.reduceLT, Nat.reduceEqDiff, reduceCtorEq, ↓reduceIte, rqs, case12_A, case12_B, case12_X, case12_Y, ints_two, hF, hg]
    by_cases h1 : 200 < l[i].1.2.length
    · rw [decide_eq_true h1] at l1
      refine call_by (l1) (by first | rfl | (simp only [tocvs, tocv, hF, hg]; rfl) | (simp only [tocvs, tocv, toboxes, tobox, updH_at, Nat.reduceEqDiff, ↓reduceIte, hF, hg]; rfl)) (by simp) ?_
      simp (disch := omega) only [wk, tis, Int.reduceNe, Int.reduceEq, Int.reduceLT, Int.reduceLE, Int.reduceAdd, Int.reduceSub, Int.reduceNeg, Int.reduceMul, Int.reduceToNat, Nat.reduceSub, Nat.reduceMul, Nat.reduceLeDiff, Nat.reduceAdd, Nat.reduceLT, Nat.reduceEqDiff, reduceCtorEq, ↓reduceIte, rqs, case12_A, case12_B, case12_X, case12_Y, ints_two, hF, hg]
      exact (any_of_get hil (by rw [decide_eq_true h1]; rfl)).symm
    · rw [decide_eq_false h1] at l1
      refine call_by (l1) (by first | rfl | (simp only [tocvs, tocv, hF, hg]; rfl) | (simp only [tocvs, tocv, toboxes, tobox, updH_at, Nat.reduceEqDiff, ↓reduceIte, hF, hg]; rfl)) (by simp) ?_
      simp (disch := omega) only [wk, tis, Int.reduceNe, Int.reduceEq, Int.reduceLT, Int.reduceLE, Int.reduceAdd, Int.reduceSub, Int.reduceNeg, Int.reduceMul, Int.reduceToNat, Nat.reduceSub, Nat.reduceMul, Nat.reduceLeDiff, Nat.reduceAdd, Nat.reduceLT, Nat.reduceEqDiff, reduceCtorEq, ↓reduceIte, rqs, case12_A, case12_B, case12_X, case12_Y, ints_two, hF, hg]
      by_cases h2 : 200 < l[i].2.length
      · rw [decide_eq_true h2] at l2
        refine call_by (l2) (by first | rfl | (simp only [tocvs, tocv, hF, hg]; rfl) | (simp only [tocvs, tocv, toboxes, tobox, updH_at, Nat.reduceEqDiff, ↓reduceIte, hF, hg]; rfl)) (by simp) ?_
        simp (disch := omega) only [wk, tis, Int.reduceNe, Int.reduceEq, Int.reduceLT, Int.reduceLE, Int.reduceAdd, Int.reduceSub, Int.reduceNeg, Int.reduceMul, Int.reduceToNat, Nat.reduceSub, Nat.reduceMul, Nat.reduceLeDiff, Nat.reduceAdd, Nat.reduceLT, Nat.reduceEqDiff, reduceCtorEq, ↓reduceIte, rqs, case12_A, case12_B, case12_X, case12_Y, ints_two, hF, hg]
        exact (any_of_get hil (by rw [decide_eq_true h2, Bool.or_true])).symm
      · rw [decide_eq_false h2] at l2
        refine call_by (l2) (by first | rfl | (simp only [tocvs, tocv, hF, hg]; rfl) | (simp only [tocvs, tocv, toboxes, tobox, updH_at, Nat.reduceEqDiff, ↓reduceIte, hF, hg]; rfl)) (by simp) ?_
        simp (disch := omega) only [wk, tis, Int.reduceNe, Int.reduceEq, Int.reduceLT, Int.reduceLE, Int.reduceAdd, Int.reduceSub, Int.reduceNeg, Int.reduceMul, Int.reduceToNat, Nat.reduceSub, Nat.reduceMul, Nat.reduceLeDiff, Nat.reduceAdd, Nat.reduceLT, Nat.reduceEqDiff, reduceCtorEq, ↓reduceIte, rqs, case12_A, case12_B, case12_X, case12_Y, ints_two, hF, hg]
        refine ⟨⟨i + 1, by omega, ?_, by omega⟩, by omega⟩
        rw [any_take_succ hil, he, decide_eq_false h1, decide_eq_false h2]
        rfl
  · simp (disch := omega) only [wk, tis, Int.reduceNe, Int.reduceEq, Int.reduceLT, Int.reduceLE, Int.reduceAdd, Int.reduceSub, Int.reduceNeg, Int.reduceMul, Int.reduceToNat, Nat.reduceSub, Nat.reduceMul, Nat.reduceLeDiff, Nat.reduceAdd, Nat.reduceLT, Nat.reduceEqDiff, reduceCtorEq, ↓reduceIte, rqs, case12_A, case12_B, case12_X, case12_Y, ints_two, hF]
    rw [List.take_of_length_le (by omega)] at he
    exact he.symm

theorem gqr_bq {l : List RQ} (h : gqr l = false) (hr : ∀ r ∈ l, SzQ 9223372036854775807 r) : BQ 40 200 l := by
  unfold gqr at h
  rw [Bool.or_eq_false_iff] at h
  refine ⟨by have := of_decide_eq_false h.1; omega, fun r hr' => ?_⟩
  have h2 := List.any_eq_false.mp h.2 r hr'
  rw [Bool.or_eq_true, decide_eq_true_eq, decide_eq_true_eq, not_or] at h2
  exact ⟨⟨by omega, (hr r hr').1.2⟩, by omega, (hr r hr').2.2⟩

structure Ok12 (x : C12) : Prop where
  P : Raw x.P
  Q : Raw x.Q
  R : RawQ x.R
  S : RawQ x.S
  A : Sz 9223372036854775807 x.A
  B : Sz 9223372036854775807 x.B
  X : SzQ 9223372036854775807 x.X
  Y : SzQ 9223372036854775807 x.Y
  N : -9223372036854775808 ≤ x.N ∧ x.N ≤ 9223372036854775807
/-- What isn't great. -/
structure Fit12 (x : C12) : Prop where
  P : RP 40 200 x.P
  Q : RP 40 200 x.Q
  R : BQ 40 200 x.R
  S : BQ 40 200 x.S
  A : Sz 200 x.A
  B : Sz 200 x.B
  X : SzQ 200 x.X
  Y : SzQ 200 x.Y
theorem rawq_len {r : RQ} (h : SzQ 9223372036854775807 r) : lenQ r := ⟨h.1.1, h.2.1⟩
theorem plain12_ok (e w : Int) : AC Tryz.prog 11 [ci e, ci w] none [cb (decide (e = w))] := by
  refine AC.by_walk (rs := [.tmp 4]) ords Tryz.func11 (by rfl) (by rfl) (by rfl) (by rfl) (by rfl) ?_
  simp (disch := omega) only [wk, tis, Int.reduceNe, Int.reduceEq, Int.reduceLT, Int.reduceLE, Int.reduceAdd, Int.reduceSub, Int.reduceNeg, Int.reduceMul, Int.reduceToNat, Nat.reduceSub, Nat.reduceMul, Nat.reduceLeDiff, Nat.reduceAdd, Nat.reduceLT, Nat.reduceEqDiff, reduceCtorEq, ↓reduceIte, rqs, case12_A, case12_B, case12_X, case12_Y, ints_two]

theorem awake12_ok : AC Tryz.prog 7 [] none [cb true] := by
  have s := sof_ok [-2, 0, 1] (by decide) (by decide)
  have b0 := small_pb [-2, 0, 1] 3 (by decide) (by decide)
  have o := hoverq_ok (cn [-2, 0, 1]) (rp_cn (b0.mono (by omega) (by omega)))
  have e0 : trimz [-2, 0, 1] = [-2, 0, 1] := by decide
  have e1 : pv (cn [-2, 0, 1]) = [-2, 0, 1] := by rw [cn, pv_canon, e0]
  rw [e1] at o
  have p1 := hP_ok 3 2 (by omega) (by omega) (by omega) (by omega)
  have p2 := hP_ok 1 1 (by omega) (by omega) (by omega) (by omega)
  have p3 := hP_ok 1 4 (by omega) (by omega) (by omega) (by omega)
  have bq : QB 3 1 (qp [-2, 0, 1]) := PB.ofZ b0 (by omega)
  have z1 : qz ((3 : Int) / (2 : Nat) : Rat) ≤ 1 := by decide +kernel
  have a := eAt_ok (cqs (qp [-2, 0, 1])) (crat ((3 : Int) / (2 : Nat))) 100 (VB.of (K := 1) (X := 1) (n := 3) bq.gqs (szq_crat z1) (nv_crat0 _) (by omega) (by omega) (by omega))
  rw [qvs_cqs, evq_trim, qv_crat, show evq (qp [-2, 0, 1]) ((3 : Int) / (2 : Nat)) = ((1 : Int) : Rat) / ((4 : Nat) : Rat) by decide +kernel] at a
  have g := eSign_ok (cn [-2, 0, 1]) (crat ((1 : Int) / (1 : Nat))) (rp_cn (b0.mono (by omega) (by omega))) ((szq_crat (show qz ((1 : Int) / (1 : Nat) : Rat) ≤ 1 by decide +kernel)).mono (by omega)) (nv_crat0 _)
  rw [e1, qv_crat, show sgq (evq (qp [-2, 0, 1]) ((1 : Int) / (1 : Nat))) = -1 by decide +kernel] at g
  have z2 : qz ((1 : Int) / (4 : Nat) : Rat) ≤ 1 := by decide +kernel
  have sm := hsame_ok (crat ((1 : Int) / (4 : Nat))) (crat ((1 : Int) / (4 : Nat))) ((szq_crat z2).mono (by omega)) ((szq_crat z2).mono (by omega))
  rw [decide_eq_true rfl] at sm
  refine AC.by_walk (rs := [.tmp 0]) ords Tryz.func7 (by rfl) (by rfl) (by rfl) (by rfl) (by rfl) ?_
  simp (disch := omega) only [wk, tis, Int.reduceNe, Int.reduceEq, Int.reduceLT, Int.reduceLE, Int.reduceAdd, Int.reduceSub, Int.reduceNeg, Int.reduceMul, Int.reduceToNat, Nat.reduceSub, Nat.reduceMul, Nat.reduceLeDiff, Nat.reduceAdd, Nat.reduceLT, Nat.reduceEqDiff, reduceCtorEq, ↓reduceIte, rqs, case12_A, case12_B, case12_X, case12_Y, ints_two]
  refine call_by (s) (by rfl) (by simp) ?_
  simp (disch := omega) only [wk, tis, Int.reduceNe, Int.reduceEq, Int.reduceLT, Int.reduceLE, Int.reduceAdd, Int.reduceSub, Int.reduceNeg, Int.reduceMul, Int.reduceToNat, Nat.reduceSub, Nat.reduceMul, Nat.reduceLeDiff, Nat.reduceAdd, Nat.reduceLT, Nat.reduceEqDiff, reduceCtorEq, ↓reduceIte, rqs, case12_A, case12_B, case12_X, case12_Y, ints_two]
  refine call_by (o) (by rfl) (by simp) ?_
  simp (disch := omega) only [wk, tis, Int.reduceNe, Int.reduceEq, Int.reduceLT, Int.reduceLE, Int.reduceAdd, Int.reduceSub, Int.reduceNeg, Int.reduceMul, Int.reduceToNat, Nat.reduceSub, Nat.reduceMul, Nat.reduceLeDiff, Nat.reduceAdd, Nat.reduceLT, Nat.reduceEqDiff, reduceCtorEq, ↓reduceIte, rqs, case12_A, case12_B, case12_X, case12_Y, ints_two]
  refine call_by (p1) (by rfl) (by simp) ?_
  simp (disch := omega) only [wk, tis, Int.reduceNe, Int.reduceEq, Int.reduceLT, Int.reduceLE, Int.reduceAdd, Int.reduceSub, Int.reduceNeg, Int.reduceMul, Int.reduceToNat, Nat.reduceSub, Nat.reduceMul, Nat.reduceLeDiff, Nat.reduceAdd, Nat.reduceLT, Nat.reduceEqDiff, reduceCtorEq, ↓reduceIte, rqs, case12_A, case12_B, case12_X, case12_Y, ints_two]
  refine call_by (a) (by rfl) (by simp) ?_
  simp (disch := omega) only [wk, tis, Int.reduceNe, Int.reduceEq, Int.reduceLT, Int.reduceLE, Int.reduceAdd, Int.reduceSub, Int.reduceNeg, Int.reduceMul, Int.reduceToNat, Nat.reduceSub, Nat.reduceMul, Nat.reduceLeDiff, Nat.reduceAdd, Nat.reduceLT, Nat.reduceEqDiff, reduceCtorEq, ↓reduceIte, rqs, case12_A, case12_B, case12_X, case12_Y, ints_two]
  refine call_by (s) (by rfl) (by simp) ?_
  simp (disch := omega) only [wk, tis, Int.reduceNe, Int.reduceEq, Int.reduceLT, Int.reduceLE, Int.reduceAdd, Int.reduceSub, Int.reduceNeg, Int.reduceMul, Int.reduceToNat, Nat.reduceSub, Nat.reduceMul, Nat.reduceLeDiff, Nat.reduceAdd, Nat.reduceLT, Nat.reduceEqDiff, reduceCtorEq, ↓reduceIte, rqs, case12_A, case12_B, case12_X, case12_Y, ints_two]
  refine call_by (p2) (by rfl) (by simp) ?_
  simp (disch := omega) only [wk, tis, Int.reduceNe, Int.reduceEq, Int.reduceLT, Int.reduceLE, Int.reduceAdd, Int.reduceSub, Int.reduceNeg, Int.reduceMul, Int.reduceToNat, Nat.reduceSub, Nat.reduceMul, Nat.reduceLeDiff, Nat.reduceAdd, Nat.reduceLT, Nat.reduceEqDiff, reduceCtorEq, ↓reduceIte, rqs, case12_A, case12_B, case12_X, case12_Y, ints_two]
  refine call_by (g) (by rfl) (by simp) ?_
  simp (disch := omega) only [wk, tis, Int.reduceNe, Int.reduceEq, Int.reduceLT, Int.reduceLE, Int.reduceAdd, Int.reduceSub, Int.reduceNeg, Int.reduceMul, Int.reduceToNat, Nat.reduceSub, Nat.reduceMul, Nat.reduceLeDiff, Nat.reduceAdd, Nat.reduceLT, Nat.reduceEqDiff, reduceCtorEq, ↓reduceIte, rqs, case12_A, case12_B, case12_X, case12_Y, ints_two]
  refine ⟨tmps_by (by kernel_rfl), ?_⟩
  refine call_by (p3) (by rfl) (by simp) ?_
  simp (disch := omega) only [wk, tis, Int.reduceNe, Int.reduceEq, Int.reduceLT, Int.reduceLE, Int.reduceAdd, Int.reduceSub, Int.reduceNeg, Int.reduceMul, Int.reduceToNat, Nat.reduceSub, Nat.reduceMul, Nat.reduceLeDiff, Nat.reduceAdd, Nat.reduceLT, Nat.reduceEqDiff, reduceCtorEq, ↓reduceIte, rqs, case12_A, case12_B, case12_X, case12_Y, ints_two]
  refine call_by (sm) (by rfl) (by simp) ?_
  simp (disch := omega) only [wk, tis, Int.reduceNe, Int.reduceEq, Int.reduceLT, Int.reduceLE, Int.reduceAdd, Int.reduceSub, Int.reduceNeg, Int.reduceMul, Int.reduceToNat, Nat.reduceSub, Nat.reduceMul, Nat.reduceLeDiff, Nat.reduceAdd, Nat.reduceLT, Nat.reduceEqDiff, reduceCtorEq, ↓reduceIte, rqs, case12_A, case12_B, case12_X, case12_Y, ints_two]
  first | exact log_by (by kernel_rfl) | refine ⟨log_by (by kernel_rfl), ?_⟩
  try rfl

end Go.Proofs.YtcjnacpekbhhcaaGreat

namespace Go.Proofs.YtcjnacpekbhhcaaGreat
open Go Go.Proofs Go.AL
set_option linter.unusedSimpArgs false
set_option linter.unusedVariables false

/-! ### Common denominators -/
def CD (D M : Nat) (q : Rat) : Prop := ∃ z : Int, q = (z : Rat) / (D : Rat) ∧ zl z ≤ M
theorem CD.mono {D M N : Nat} {q : Rat} (h : CD D M q) (hk : M ≤ N) : CD D N q := by
  obtain ⟨z, e, hz⟩ := h
  exact ⟨z, e, Nat.le_trans hz hk⟩
theorem natr_ne {n : Nat} (h : n ≠ 0) : (n : Rat) ≠ 0 := fun e => h (Rat.natCast_eq_zero_iff.mp e)
theorem CD.add {D M N : Nat} {p q : Rat} (h : CD D M p) (k : CD D N q) : CD D (max M N + 1) (p + q) := by
  obtain ⟨z, e, hz⟩ := h
  obtain ⟨w, f, hw⟩ := k
  refine ⟨z + w, ?_, ?_⟩
  · rw [e, f, Rat.intCast_add, Rat.div_def, Rat.div_def, Rat.div_def, Rat.add_mul]
  · have := zl_add z w
    omega
theorem CD.neg {D M : Nat} {p : Rat} (h : CD D M p) : CD D M (-p) := by
  obtain ⟨z, e, hz⟩ := h
  exact ⟨-z, by rw [e, Rat.intCast_neg, Rat.div_def, Rat.div_def, Rat.neg_mul], by rw [zl_neg]; exact hz⟩
theorem CD.mul {D E M N : Nat} {p q : Rat} (hD : D ≠ 0) (hE : E ≠ 0) (h : CD D M p) (k : CD E N q) : CD (D * E) (M + N) (p * q) := by
  obtain ⟨z, e, hz⟩ := h
  obtain ⟨w, f, hw⟩ := k
  refine ⟨z * w, ?_, ?_⟩
  · have h1 := natr_ne hD
    have h2 := natr_ne hE
    rw [e, f, Rat.intCast_mul, Rat.natCast_mul]
    grind
  · have := zl_mul z w
    omega
theorem CD.up {D E M V : Nat} {q : Rat} (hD : D ≠ 0) (hE : E ≠ 0) (hV : (wd E).length ≤ V) (h : CD D M q) : CD (D * E) (M + V) q := by
  obtain ⟨z, e, hz⟩ := h
  refine ⟨z * E, ?_, ?_⟩
  · have h1 := natr_ne hD
    have h2 := natr_ne hE
    rw [e, Rat.intCast_mul, Rat.natCast_mul, Rat.intCast_natCast]
    grind
  · have := zl_mul z E
    rw [zl_nat] at this
    omega
theorem CD.ofRat (q : Rat) : CD q.den (zl q.num) q := ⟨q.num, by rw [← Rat.mkRat_eq_div]; exact (Rat.mkRat_self q).symm, Nat.le_refl _⟩
theorem CD.size {D M : Nat} {q : Rat} (hD : D ≠ 0) (hw : (wd D).length ≤ M) (h : CD D M q) : qz q ≤ M := by
  obtain ⟨z, e, hz⟩ := h
  rw [e, ← Rat.mkRat_eq_div]
  exact qz_mk hD hz hw
theorem CD.zero (D M : Nat) : CD D M 0 := ⟨0, by rw [Rat.intCast_zero, Rat.div_def, Rat.zero_mul], by rw [zl_zero]; omega⟩
theorem wd_pow {v V : Nat} (h : (wd v).length ≤ V) (n : Nat) : (wd (v ^ n)).length ≤ n * V + 1 := by
  have := zl_pow (a := (v : Int)) (K := V) h n
  unfold zl at this
  rwa [Int.natAbs_pow, Int.natAbs_natCast] at this
theorem pow_ne {v : Nat} (h : v ≠ 0) (n : Nat) : v ^ n ≠ 0 := Nat.ne_of_gt (Nat.pow_pos (Nat.pos_of_ne_zero h))

theorem evq_cd {D K v X V : Nat} {x : Rat} (hD : D ≠ 0) (hv : v ≠ 0) (hV : (wd v).length ≤ V) (hx : CD v X x) : ∀ p : List Rat, (∀ c ∈ p, CD D K c) → CD (D * v ^ p.length) (K + p.length * (X + V + 1) + 1) (evq p x)
  | [], _ => CD.zero _ _
  | c :: p, h => by
    have ih := evq_cd hD hv hV hx p fun c' hc => h c' (List.mem_cons_of_mem _ hc)
    have h1 := (h c (by simp)).up hD (pow_ne hv (p.length + 1)) (wd_pow hV (p.length + 1))
    have h2 := hx.mul hv (Nat.mul_ne_zero hD (pow_ne hv _)) ih
    rw [show v * (D * v ^ p.length) = D * v ^ (p.length + 1) by rw [Nat.pow_succ]; ac_rfl] at h2
    rw [evq, List.length_cons]
    refine (h1.add h2).mono ?_
    have e1 : (p.length + 1) * V = p.length * V + V := Nat.succ_mul _ _
    have e2 : (p.length + 1) * (X + V + 1) = p.length * (X + V + 1) + (X + V + 1) := Nat.succ_mul _ _
    have e3 : p.length * V ≤ p.length * (X + V + 1) := Nat.mul_le_mul_left _ (by omega)
    omega
theorem evq_cdN {D K v X V N : Nat} {x : Rat} (hD : D ≠ 0) (hv : v ≠ 0) (hV : (wd v).length ≤ V) (hx : CD v X x) {p : List Rat} (hp : ∀ c ∈ p, CD D K c) (hN : p.length ≤ N) : CD (D * v ^ N) (K + N * (X + V + 1) + N * V + 2) (evq p x) := by
  have h1 := (evq_cd hD hv hV hx p hp).up (Nat.mul_ne_zero hD (pow_ne hv _)) (pow_ne hv (N - p.length)) (wd_pow hV (N - p.length))
  rw [Nat.mul_assoc, ← Nat.pow_add, show p.length + (N - p.length) = N by omega] at h1
  refine h1.mono ?_
  have e1 : p.length * (X + V + 1) ≤ N * (X + V + 1) := Nat.mul_le_mul_right _ hN
  have e2 : (N - p.length) * V ≤ N * V := Nat.mul_le_mul_right _ (by omega)
  omega

/-- All over one denominator. -/
structure CB (D n M : Nat) (q : List Rat) : Prop where
  d : D ≠ 0
  w : (wd D).length ≤ M
  l : q.length ≤ n
  c : ∀ c ∈ q, CD D M c
theorem CB.qb {D n M : Nat} {q : List Rat} (h : CB D n M q) : QB n M q := ⟨h.l, fun c hc => (h.c c hc).size h.d h.w⟩
theorem CB.mono {D n M m N : Nat} {q : List Rat} (h : CB D n M q) (hn : n ≤ m) (hM : M ≤ N) : CB D m N q := ⟨h.d, Nat.le_trans h.w hM, Nat.le_trans h.l hn, fun c hc => (h.c c hc).mono hM⟩
theorem CB.sub {D n M : Nat} {q r : List Rat} (h : CB D n M q) (hl : r.length ≤ n) (hr : ∀ c ∈ r, c ∈ q) : CB D n M r := ⟨h.d, h.w, hl, fun c hc => h.c c (hr c hc)⟩
theorem CB.trim {D n M : Nat} {q : List Rat} (h : CB D n M q) : CB D n M (trimq q) := h.sub (Nat.le_trans (by rw [trimq_len]; exact tzq_le q) h.l) fun c hc => List.mem_of_mem_take hc
theorem qz_parts (q : Rat) : zl q.num ≤ qz q ∧ (wd q.den).length ≤ qz q := ⟨Nat.le_max_left _ _, Nat.le_max_right _ _⟩
theorem one_cd : ∀ {k : Nat} (q : List Rat), (∀ c ∈ q, qz c ≤ k) → ∃ D, D ≠ 0 ∧ (wd D).length ≤ q.length * k + 1 ∧ ∀ c ∈ q, CD D (q.length * k + k + 1) c
  | k, [], _ => ⟨1, by omega, by rw [show wd 1 = [1] by decide +kernel]; simp, fun c hc => nomatch hc⟩
  | k, a :: q, h => by
    obtain ⟨D, hD, hw, hc⟩ := one_cd q fun c hc => h c (List.mem_cons_of_mem _ hc)
    have ha := h a (by simp)
    have hp := qz_parts a
    refine ⟨a.den * D, Nat.mul_ne_zero a.den_nz hD, ?_, fun c hc' => ?_⟩
    · have := AL.wd_mul_len a.den D
      rw [List.length_cons, Nat.succ_mul]
      omega
    · rw [List.length_cons, Nat.succ_mul]
      rcases List.mem_cons.1 hc' with rfl | hc'
      · exact ((CD.ofRat c).up c.den_nz hD hw).mono (by omega)
      · rw [Nat.mul_comm]
        exact ((hc c hc').up hD a.den_nz hp.2).mono (by omega)
theorem QB.cb {n k : Nat} {q : List Rat} (h : QB n k q) : ∃ D, CB D n (n * k + k + 1) q := by
  obtain ⟨D, hD, hw, hc⟩ := one_cd q h.2
  have := Nat.mul_le_mul_right k h.1
  exact ⟨D, hD, by omega, h.1, fun c hc' => (hc c hc').mono (by omega)⟩

/-! ### A polynomial by x - c -/
/-- The quotient's coefficients. -/
def sqq (q : List Rat) (c : Rat) : List Rat := (List.range (q.length - 1)).map fun i => evq (q.drop (i + 1)) c
theorem sqq_len (q : List Rat) (c : Rat) : (sqq q c).length = q.length - 1 := by simp [sqq]
theorem cfq_sqq (q : List Rat) (c : Rat) (i : Nat) : cfq (sqq q c) i = evq (q.drop (i + 1)) c := by
  by_cases h : i < q.length - 1
  · rw [sqq, cfq, List.getD, List.getElem?_map, List.getElem?_range h]; rfl
  · rw [cfq_ge (by rw [sqq_len]; omega), List.drop_of_length_le (by omega)]; rfl
theorem CB.sqq {D n M v X V : Nat} {q : List Rat} {x : Rat} (h : CB D n M q) (hv : v ≠ 0) (hV : (wd v).length ≤ V) (hx : CD v X x) : CB (D * v ^ n) n (M + n * (X + V + 1) + n * V + 2) (sqq q x) where
  d := Nat.mul_ne_zero h.d (pow_ne hv _)
  w := by
    have h1 := AL.wd_mul_len D (v ^ n)
    have h2 := wd_pow hV n
    have h3 := h.w
    omega
  l := by rw [sqq_len]; have := h.l; omega
  c := fun c hc => by
    obtain ⟨i, _, rfl⟩ := List.mem_map.1 hc
    exact evq_cdN h.d hv hV hx (fun c hc => h.c c (List.mem_of_mem_drop hc)) (by rw [List.length_drop]; have := h.l; omega)
theorem trimq_full {q : List Rat} (h : trimq q = q) : tzq q = q.length := by rw [← trimq_len, h]
/-- Where the rest is 0, the quotient is shorter by one, and isn't 0. -/
theorem sqq_tz {q : List Rat} {c : Rat} (h : trimq q = q) (h0 : q.length ≠ 0) (he : evq q c = 0) : tzq (sqq q c) = q.length - 1 ∧ q.length - 1 ≠ 0 := by
  have ht := trimq_full h
  have h1 : q.length ≠ 1 := fun e => by
    match q, e with
    | [a], _ =>
      have := cfq_tzq_pred (q := [a]) (by rw [ht]; simp)
      rw [ht] at this
      rw [evq, evq] at he
      exact this (by show a = 0; rw [← he]; grind)
  have h2 : cfq (sqq q c) (q.length - 2) ≠ 0 := by
    have := cfq_tzq_pred (q := q) (by rw [ht]; exact h0)
    rw [ht] at this
    rw [cfq_sqq, show q.length - 2 + 1 = q.length - 1 by omega, List.drop_eq_getElem_cons (by omega), evq, List.drop_of_length_le (by omega), evq]
    rw [cfq_lt (by omega)] at this
    intro e
    exact this (by rw [← e]; grind)
  have := tzq_spec h2 fun k hk => by rw [cfq_sqq, List.drop_of_length_le (by omega)]; rfl
  exact ⟨by omega, by omega⟩

/-- The quotients, one behind the other. -/
def qit (q : List Rat) (c : Rat) : Nat → List Rat
  | 0 => q
  | k + 1 => trimq (sqq (qit q c k) c)
theorem qit_len {q : List Rat} {c : Rat} (h : trimq q = q) (h0 : q.length ≠ 0) : ∀ k, (∀ j, j < k → evq (qit q c j) c = 0) → (qit q c k).length + k = q.length ∧ (qit q c k).length ≠ 0 ∧ trimq (qit q c k) = qit q c k
  | 0, _ => ⟨rfl, h0, h⟩
  | k + 1, hk => by
    obtain ⟨h1, h2, h3⟩ := qit_len h h0 k fun j hj => hk j (by omega)
    obtain ⟨h4, h5⟩ := sqq_tz h3 h2 (hk k (by omega))
    refine ⟨?_, ?_, trimq_trimq _⟩
    · rw [qit, trimq_len]; omega
    · rw [qit, trimq_len]; omega
end Go.Proofs.YtcjnacpekbhhcaaGreat

namespace Go.Proofs.YtcjnacpekbhhcaaGreat
open Go Go.Proofs Go.AL
set_option linter.unusedSimpArgs false
set_option linter.unusedVariables false

theorem qpzero_ok (r : RQ) (h : SzQ (2 ^ 38) r) (h0 : nv r.2 ≠ 0) : AC Tryz.prog 126 [cqq r] none [cb (decide (qv r = 0))] := by
  have s := qsign_ok r h h0
  refine AC.by_walk (rs := [.tmp 2]) ords Tryz.func126 (by rfl) (by rfl) (by rfl) (by rfl) (by rfl) ?_
  simp (disch := omega) only [wk, tis, Int.reduceNe, Int.reduceEq, Int.reduceLT, Int.reduceLE, Int.reduceAdd, Int.reduceSub, Int.reduceNeg, Int.reduceMul, Int.reduceToNat, Nat.reduceSub, Nat.reduceMul, Nat.reduceLeDiff, Nat.reduceAdd, Nat.reduceLT, Nat.reduceEqDiff, reduceCtorEq, ↓reduceIte, rqs]
  refine call_by (s) (by rfl) (by simp) ?_
  simp (disch := omega) only [wk, tis, Int.reduceNe, Int.reduceEq, Int.reduceLT, Int.reduceLE, Int.reduceAdd, Int.reduceSub, Int.reduceNeg, Int.reduceMul, Int.reduceToNat, Nat.reduceSub, Nat.reduceMul, Nat.reduceLeDiff, Nat.reduceAdd, Nat.reduceLT, Nat.reduceEqDiff, reduceCtorEq, ↓reduceIte, rqs]
  rw [decide_eq_decide, qv_zero h0]
  exact Int.sign_eq_zero_iff_zero

theorem qtrim_ok (p : List RQ) (h : GQ (2 ^ 40) (2 ^ 38) p) : AC Tryz.prog 72 [cqw p] none [cqw (p.take (tzq (qvs p)))] := by
  refine AC.by_walk (rs := [.tmp 2]) ords Tryz.func72 (by rfl) (by rfl) (by rfl) (by rfl) (by rfl) ?_
  have hl := h.1
  have htl := tzq_le (qvs p)
  rw [qvs_len] at htl
  simp (disch := omega) only [wk, tis, Int.reduceNe, Int.reduceEq, Int.reduceLT, Int.reduceLE, Int.reduceAdd, Int.reduceSub, Int.reduceNeg, Int.reduceMul, Int.reduceToNat, Nat.reduceSub, Nat.reduceMul, Nat.reduceLeDiff, Nat.reduceAdd, Nat.reduceLT, Nat.reduceEqDiff, reduceCtorEq, ↓reduceIte, rqs]
  refine aloop_by (fun f H => ∃ k : Nat, k ≤ p.length ∧ f 0 = .iv (.sl (rats p)) ∧ f 3 = .iv (.int .i64 k) ∧ tzq ((qvs p).take k) = tzq (qvs p)) (fun f H => (intAt f 3).toNat) ?_ ?_
  · exact ⟨p.length, Nat.le_refl _, by simp (disch := omega) only [wk, tis, Int.reduceNe, Int.reduceEq, Int.reduceLT, Int.reduceLE, Int.reduceAdd, Int.reduceSub, Int.reduceNeg, Int.reduceMul, Int.reduceToNat, Nat.reduceSub, Nat.reduceMul, Nat.reduceLeDiff, Nat.reduceAdd, Nat.reduceLT, Nat.reduceEqDiff, reduceCtorEq, ↓reduceIte, rqs], by simp (disch := omega) only [wk, tis, Int.reduceNe, Int.reduceEq, Int.reduceLT, Int.reduceLE, Int.reduceAdd, Int.reduceSub, Int.reduceNeg, Int.reduceMul, Int.reduceToNat, Nat.reduceSub, Nat.reduceMul, Nat.reduceLeDiff, Nat.reduceAdd, Nat.reduceLT, Nat.reduceEqDiff, reduceCtorEq, ↓reduceIte, rqs], by rw [← qvs_len p, List.take_length]⟩
  rintro f H ⟨k, hk, h0, h3, ht⟩
  rw [intAt_of h3]
  by_cases hc : 0 < (k : Int)
  · simp (disch := omega) only [wk, tis, Int.reduceNe, Int.reduceEq, Int.reduceLT, Int.reduceLE, Int.reduceAdd, Int.reduceSub, Int.reduceNeg, Int.reduceMul, Int.reduceToNat, Nat.reduceSub, Nat.reduceMul, Nat.reduceLeDiff, Nat.reduceAdd, Nat.reduceLT, Nat.reduceEqDiff, reduceCtorEq, ↓reduceIte, rqs, h0, h3, hc]
    have ek : ((k : Int) - 1).toNat = k - 1 := by omega
    have ek' : k = (k - 1) + 1 := by omega
    rw [ek]
    have hr := h.get (i := k - 1) (by omega)
    refine call_by ((qpzero_ok (p.getD (k - 1) q0) hr (h.den (by omega)))) (by first | rfl | (simp only [tocvs, tocv, h0, h3, hc]; rfl) | (simp only [tocvs, tocv, toboxes, tobox, updH_at, Nat.reduceEqDiff, ↓reduceIte, h0, h3, hc]; rfl)) (by simp) ?_
    simp (disch := omega) only [wk, tis, Int.reduceNe, Int.reduceEq, Int.reduceLT, Int.reduceLE, Int.reduceAdd, Int.reduceSub, Int.reduceNeg, Int.reduceMul, Int.reduceToNat, Nat.reduceSub, Nat.reduceMul, Nat.reduceLeDiff, Nat.reduceAdd, Nat.reduceLT, Nat.reduceEqDiff, reduceCtorEq, ↓reduceIte, rqs, h0, h3, hc]
    by_cases hz : qv (p.getD (k - 1) q0) = 0
    · simp (disch := omega) only [wk, tis, Int.reduceNe, Int.reduceEq, Int.reduceLT, Int.reduceLE, Int.reduceAdd, Int.reduceSub, Int.reduceNeg, Int.reduceMul, Int.reduceToNat, Nat.reduceSub, Nat.reduceMul, Nat.reduceLeDiff, Nat.reduceAdd, Nat.reduceLT, Nat.reduceEqDiff, reduceCtorEq, ↓reduceIte, rqs, h0, h3, hz]
      rw [← cfq_qvs] at hz
      refine ⟨⟨k - 1, by omega, by omega, ?_⟩, by omega⟩
      rw [← tzq_take_zero (k := k - 1) (by rw [qvs_len]; omega) hz, ← ek', ht]
    · simp (disch := omega) only [wk, tis, Int.reduceNe, Int.reduceEq, Int.reduceLT, Int.reduceLE, Int.reduceAdd, Int.reduceSub, Int.reduceNeg, Int.reduceMul, Int.reduceToNat, Nat.reduceSub, Nat.reduceMul, Nat.reduceLeDiff, Nat.reduceAdd, Nat.reduceLT, Nat.reduceEqDiff, reduceCtorEq, ↓reduceIte, rqs, h0, h3, hz]
      have hk : k = tzq (qvs p) := by
        rw [← cfq_qvs] at hz
        have := tzq_full (q := qvs p) (k := k - 1) (by rw [qvs_len]; omega) hz
        rw [← ek', ht] at this; exact this.symm
      rw [← hk]
  · have hk : k = tzq (qvs p) := by
      obtain rfl : k = 0 := by omega
      rw [← ht]; rfl
    simp (disch := omega) only [wk, tis, Int.reduceNe, Int.reduceEq, Int.reduceLT, Int.reduceLE, Int.reduceAdd, Int.reduceSub, Int.reduceNeg, Int.reduceMul, Int.reduceToNat, Nat.reduceSub, Nat.reduceMul, Nat.reduceLeDiff, Nat.reduceAdd, Nat.reduceLT, Nat.reduceEqDiff, reduceCtorEq, ↓reduceIte, rqs, h0, h3, hc]
    rw [← hk]

theorem trim_own {q : List Rat} : (q.map crat).take (tzq (qvs (q.map crat))) = cqs q := by rw [qvs_map, ← List.map_take]; rfl
/-- .. of numbers in their own form. -/
theorem qtrim_own (q : List Rat) (h : QB (2 ^ 40) (2 ^ 38) q) : AC Tryz.prog 72 [cqw (q.map crat)] none [cqp q] := by
  have m := qtrim_ok (q.map crat) h.gq
  rwa [trim_own] at m

theorem qpnorm_ok (p : List RQ) (h : GQ (2 ^ 40) (2 ^ 38) p) : AC Tryz.prog 26 [cqw p] none [cqp (qvs p), ci 0] := by
  refine AC.by_walk (rs := [.tmp 2, .tmp 3]) ords Tryz.func26 (by rfl) (by rfl) (by rfl) (by rfl) (by rfl) ?_
  have hl := h.1
  simp (disch := omega) only [wk, tis, Int.reduceNe, Int.reduceEq, Int.reduceLT, Int.reduceLE, Int.reduceAdd, Int.reduceSub, Int.reduceNeg, Int.reduceMul, Int.reduceToNat, Nat.reduceSub, Nat.reduceMul, Nat.reduceLeDiff, Nat.reduceAdd, Nat.reduceLT, Nat.reduceEqDiff, reduceCtorEq, ↓reduceIte, rqs]
  refine aloop_nil 4 4 31 3 (by simp (disch := omega) only [wk, tis, Int.reduceNe, Int.reduceEq, Int.reduceLT, Int.reduceLE, Int.reduceAdd, Int.reduceSub, Int.reduceNeg, Int.reduceMul, Int.reduceToNat, Nat.reduceSub, Nat.reduceMul, Nat.reduceLeDiff, Nat.reduceAdd, Nat.reduceLT, Nat.reduceEqDiff, reduceCtorEq, ↓reduceIte, rqs]) (fun f H => ∃ (i st : Nat), i ≤ p.length ∧ f 11 = .iv (.int .i64 i) ∧ f 9 = .iv (.sl (rats p)) ∧ f 10 = .iv (.int .i64 p.length) ∧ f 4 = .hs 4 st ∧ H 4 = .blk false st 31 3 (rats (((qvs p).take i).map crat))) (fun f H => (p.length - intAt f 11).toNat) ?_ ?_
  · refine ⟨0, 1, by omega, ?_⟩
    simp (disch := omega) only [wk, tis, Int.reduceNe, Int.reduceEq, Int.reduceLT, Int.reduceLE, Int.reduceAdd, Int.reduceSub, Int.reduceNeg, Int.reduceMul, Int.reduceToNat, Nat.reduceSub, Nat.reduceMul, Nat.reduceLeDiff, Nat.reduceAdd, Nat.reduceLT, Nat.reduceEqDiff, reduceCtorEq, ↓reduceIte, rqs, ghostF, ghostH, List.take_zero, List.map_nil]
  rintro f H ⟨i, st, hi, hF⟩
  rw [intAt_of hF.1]
  simp (disch := omega) only [wk, tis, Int.reduceNe, Int.reduceEq, Int.reduceLT, Int.reduceLE, Int.reduceAdd, Int.reduceSub, Int.reduceNeg, Int.reduceMul, Int.reduceToNat, Nat.reduceSub, Nat.reduceMul, Nat.reduceLeDiff, Nat.reduceAdd, Nat.reduceLT, Nat.reduceEqDiff, reduceCtorEq, ↓reduceIte, rqs, hF]
  refine if_by (fun hlt => ?_) (fun hlt => ?_)
  · have hlt' : i < p.length := by omega
    have hq : (((qvs p).take i).map crat).length = i := by rw [List.length_map, List.length_take, qvs_len]; omega
    have m := qnorm_ok (p.getD i q0) (h.get hlt') (h.den hlt')
    rw [← cfq_qvs] at m
    simp (disch := omega) only [wk, tis, Int.reduceNe, Int.reduceEq, Int.reduceLT, Int.reduceLE, Int.reduceAdd, Int.reduceSub, Int.reduceNeg, Int.reduceMul, Int.reduceToNat, Nat.reduceSub, Nat.reduceMul, Nat.reduceLeDiff, Nat.reduceAdd, Nat.reduceLT, Nat.reduceEqDiff, reduceCtorEq, ↓reduceIte, rqs, hF, hq]
    refine call_by (m) (by first | rfl | (simp only [tocvs, tocv, hF, hq]; rfl) | (simp only [tocvs, tocv, toboxes, tobox, updH_at, Nat.reduceEqDiff, ↓reduceIte, hF, hq]; rfl)) (by simp) ?_
    simp (disch := omega) only [wk, tis, Int.reduceNe, Int.reduceEq, Int.reduceLT, Int.reduceLE, Int.reduceAdd, Int.reduceSub, Int.reduceNeg, Int.reduceMul, Int.reduceToNat, Nat.reduceSub, Nat.reduceMul, Nat.reduceLeDiff, Nat.reduceAdd, Nat.reduceLT, Nat.reduceEqDiff, reduceCtorEq, ↓reduceIte, rqs, hF, hq]
    have e := takeq_snoc (q := qvs p) (i := i) (by rw [qvs_len]; omega)
    refine ⟨⟨i + 1, st + 1, by omega, ?_⟩, by omega⟩
    rw [e, List.map_append]
    (repeat' apply And.intro) <;> first | rfl | omega
  · simp (disch := omega) only [wk, tis, Int.reduceNe, Int.reduceEq, Int.reduceLT, Int.reduceLE, Int.reduceAdd, Int.reduceSub, Int.reduceNeg, Int.reduceMul, Int.reduceToNat, Nat.reduceSub, Nat.reduceMul, Nat.reduceLeDiff, Nat.reduceAdd, Nat.reduceLT, Nat.reduceEqDiff, reduceCtorEq, ↓reduceIte, rqs, hF]
    rw [List.take_of_length_le (by rw [qvs_len]; omega)] at hF
    have m := qtrim_own (qvs p) h.qb
    refine call_by (m) (by first | rfl | (simp only [tocvs, tocv, hF]; rfl) | (simp only [tocvs, tocv, toboxes, tobox, updH_at, Nat.reduceEqDiff, ↓reduceIte, hF]; rfl)) (by simp) ?_
    simp (disch := omega) only [wk, tis, Int.reduceNe, Int.reduceEq, Int.reduceLT, Int.reduceLE, Int.reduceAdd, Int.reduceSub, Int.reduceNeg, Int.reduceMul, Int.reduceToNat, Nat.reduceSub, Nat.reduceMul, Nat.reduceLeDiff, Nat.reduceAdd, Nat.reduceLT, Nat.reduceEqDiff, reduceCtorEq, ↓reduceIte, rqs, hF]

theorem hsameq_ok (a b : List RQ) (ha : BQ (2 ^ 40) (2 ^ 40) a) (hb : BQ (2 ^ 40) (2 ^ 40) b) : AC Tryz.prog 17 [cqw a, cqw b] none [cb (decide (a = b))] := by
  refine AC.by_walk (rs := [.tmp 4]) ords Tryz.func17 (by rfl) (by rfl) (by rfl) (by rfl) (by rfl) ?_
  have hla := ha.1
  have hlb := hb.1
  simp (disch := omega) only [wk, tis, Int.reduceNe, Int.reduceEq, Int.reduceLT, Int.reduceLE, Int.reduceAdd, Int.reduceSub, Int.reduceNeg, Int.reduceMul, Int.reduceToNat, Nat.reduceSub, Nat.reduceMul, Nat.reduceLeDiff, Nat.reduceAdd, Nat.reduceLT, Nat.reduceEqDiff, reduceCtorEq, ↓reduceIte, rqs]
  by_cases hl : a.length = b.length
  · have hl' : (a.length : Int) = (b.length : Int) := by omega
    simp (disch := omega) only [wk, tis, Int.reduceNe, Int.reduceEq, Int.reduceLT, Int.reduceLE, Int.reduceAdd, Int.reduceSub, Int.reduceNeg, Int.reduceMul, Int.reduceToNat, Nat.reduceSub, Nat.reduceMul, Nat.reduceLeDiff, Nat.reduceAdd, Nat.reduceLT, Nat.reduceEqDiff, reduceCtorEq, ↓reduceIte, rqs, hl']
    refine aloop_by (fun f H => ∃ (i : Nat), i ≤ a.length ∧ a.take i = b.take i ∧ f 5 = .iv (.int .i64 i) ∧ f 0 = .iv (.sl (rats a)) ∧ f 1 = .iv (.sl (rats b))) (fun f H => (a.length - intAt f 5).toNat) ?_ ?_
    · refine ⟨0, by omega, rfl, ?_⟩
      simp (disch := omega) only [wk, tis, Int.reduceNe, Int.reduceEq, Int.reduceLT, Int.reduceLE, Int.reduceAdd, Int.reduceSub, Int.reduceNeg, Int.reduceMul, Int.reduceToNat, Nat.reduceSub, Nat.reduceMul, Nat.reduceLeDiff, Nat.reduceAdd, Nat.reduceLT, Nat.reduceEqDiff, reduceCtorEq, ↓reduceIte, rqs]
    rintro f H ⟨i, hi, he, hF⟩
    rw [intAt_of hF.1]
    simp (disch := omega) only [wk, tis, Int.reduceNe, Int.reduceEq, Int.reduceLT, Int.reduceLE, Int.reduceAdd, Int.reduceSub, Int.reduceNeg, Int.reduceMul, Int.reduceToNat, Nat.reduceSub, Nat.reduceMul, Nat.reduceLeDiff, Nat.reduceAdd, Nat.reduceLT, Nat.reduceEqDiff, reduceCtorEq, ↓reduceIte, rqs, hF]
    refine if_by (fun hlt => ?_) (fun hlt => ?_)
    · have hia : i < a.length := by omega
      have hib : i < b.length := by omega
      have m := hsame_ok (a.getD i q0) (b.getD i q0) ((ha.get hia).mono (by omega)) ((hb.get hib).mono (by omega))
      have e1 : a.getD i q0 = a[i] := by simp [List.getD, hia]
      have e2 : b.getD i q0 = b[i] := by simp [List.getD, hib]
      simp (disch := omega) only [wk, tis, Int.reduceNe, Int.reduceEq, Int.reduceLT, Int.reduceLE, Int.reduceAdd, Int.reduceSub, Int.reduceNeg, Int.reduceMul, Int.reduceToNat, Nat.reduceSub, Nat.reduceMul, Nat.reduceLeDiff, Nat.reduceAdd, Nat.reduceLT, Nat.reduceEqDiff, reduceCtorEq, ↓reduceIte, rqs, hF]
      refine ⟨tmps_by (by kernel_rfl), ?_⟩
      refine call_by (m) (by first | rfl | (simp only [tocvs, tocv, hF]; rfl) | (simp only [tocvs, tocv, toboxes, tobox, updH_at, Nat.reduceEqDiff, ↓reduceIte, hF]; rfl)) (by simp) ?_
      simp (disch := omega) only [wk, tis, Int.reduceNe, Int.reduceEq, Int.reduceLT, Int.reduceLE, Int.reduceAdd, Int.reduceSub, Int.reduceNeg, Int.reduceMul, Int.reduceToNat, Nat.reduceSub, Nat.reduceMul, Nat.reduceLeDiff, Nat.reduceAdd, Nat.reduceLT, Nat.reduceEqDiff, reduceCtorEq, ↓reduceIte, rqs, hF]
      first | exact log_by (by kernel_rfl) | refine ⟨log_by (by kernel_rfl), ?_⟩
      by_cases hne : a.getD i q0 = b.getD i q0
      · simp (disch := omega) only [wk, tis, Int.reduceNe, Int.reduceEq, Int.reduceLT, Int.reduceLE, Int.reduceAdd, Int.reduceSub, Int.reduceNeg, Int.reduceMul, Int.reduceToNat, Nat.reduceSub, Nat.reduceMul, Nat.reduceLeDiff, Nat.reduceAdd, Nat.reduceLT, Nat.reduceEqDiff, reduceCtorEq, ↓reduceIte, rqs, hF, hne]
        refine ⟨⟨i + 1, by omega, ?_, ?_⟩, by omega⟩
        · rw [List.take_add_one, List.take_add_one, he, List.getElem?_eq_getElem hia, List.getElem?_eq_getElem hib, ← e1, ← e2, hne]
        · omega
      · simp (disch := omega) only [wk, tis, Int.reduceNe, Int.reduceEq, Int.reduceLT, Int.reduceLE, Int.reduceAdd, Int.reduceSub, Int.reduceNeg, Int.reduceMul, Int.reduceToNat, Nat.reduceSub, Nat.reduceMul, Nat.reduceLeDiff, Nat.reduceAdd, Nat.reduceLT, Nat.reduceEqDiff, reduceCtorEq, ↓reduceIte, rqs, hF, hne]
        exact (decide_eq_false (fun e => hne (by rw [e]))).symm
    · simp (disch := omega) only [wk, tis, Int.reduceNe, Int.reduceEq, Int.reduceLT, Int.reduceLE, Int.reduceAdd, Int.reduceSub, Int.reduceNeg, Int.reduceMul, Int.reduceToNat, Nat.reduceSub, Nat.reduceMul, Nat.reduceLeDiff, Nat.reduceAdd, Nat.reduceLT, Nat.reduceEqDiff, reduceCtorEq, ↓reduceIte, rqs, hF]
      rw [List.take_of_length_le (by omega), List.take_of_length_le (by omega)] at he
      exact (decide_eq_true he).symm
  · have hl' : ¬ (a.length : Int) = (b.length : Int) := by omega
    simp (disch := omega) only [wk, tis, Int.reduceNe, Int.reduceEq, Int.reduceLT, Int.reduceLE, Int.reduceAdd, Int.reduceSub, Int.reduceNeg, Int.reduceMul, Int.reduceToNat, Nat.reduceSub, Nat.reduceMul, Nat.reduceLeDiff, Nat.reduceAdd, Nat.reduceLT, Nat.reduceEqDiff, reduceCtorEq, ↓reduceIte, rqs, hl']
    exact (decide_eq_false (fun e => hl (by rw [e]))).symm

end Go.Proofs.YtcjnacpekbhhcaaGreat

namespace Go.Proofs.YtcjnacpekbhhcaaGreat
open Go Go.Proofs Go.AL
set_option linter.unusedSimpArgs false
set_option linter.unusedVariables false

theorem cratq_get {q : List Rat} {i : Nat} (h : i < q.length) : (q.map crat).getD i q0 = crat (cfq q i) := by simp [cfq, List.getD, h]
theorem sqq_nil (c : Rat) : sqq [] c = [] := rfl
/-- What is known of a polynomial in its own form. -/
structure SB (A : List Rat) (x : RQ) (B : Nat) : Prop where
  l : A.length ≤ 2 ^ 30
  c : ∀ i, i < A.length → qz (cfq A i) ≤ B
  e : ∀ i, qz (evq (A.drop i) (qv x)) ≤ B
  hx : SzQ B x
  d : nv x.2 ≠ 0
  b : B ≤ 2 ^ 34
  one : 1 ≤ B
theorem VB.sb {p : List RQ} {x : RQ} {B : Nat} (v : VB p x B) : SB (trimq (qvs p)) x B where
  l := by rw [trimq_len]; exact Nat.le_trans (tzq_le _) (by rw [qvs_len]; exact v.hp.1)
  c := fun i hi => by
    have := v.hp.qb.trimq
    exact this.cz v.one i
  e := fun i => v.e _ (by rw [List.length_drop, trimq_len]; have := tzq_le (qvs p); rw [qvs_len] at this; omega) fun c hc => List.mem_of_mem_take (List.mem_of_mem_drop hc)
  hx := v.hx
  d := v.d
  b := v.b
  one := v.one
end Go.Proofs.YtcjnacpekbhhcaaGreat

namespace Go.Proofs.YtcjnacpekbhhcaaGreat
open Go Go.Proofs Go.AL
set_option linter.unusedSimpArgs false
set_option linter.unusedVariables false

/-- What the rounds of Times need. -/
structure TB (A : List Rat) (x : RQ) (n : Nat) : Prop where
  t : trimq A = A
  l : A.length ≤ 2 ^ 30
  n0 : A.length ≠ 0
  z : ∀ j, j < n → evq (qit A (qv x) j) (qv x) = 0
  e : evq (qit A (qv x) n) (qv x) ≠ 0
  v : ∀ k, k ≤ n → VB ((qit A (qv x) k).map crat) x (2 ^ 34)
theorem TB.le {A : List Rat} {x : RQ} {n : Nat} (h : TB A x n) {k : Nat} (hk : k ≤ n) : (qit A (qv x) k).length + k = A.length ∧ (qit A (qv x) k).length ≠ 0 ∧ trimq (qit A (qv x) k) = qit A (qv x) k :=
  qit_len h.t h.n0 k fun j hj => h.z j (by omega)
end Go.Proofs.YtcjnacpekbhhcaaGreat

namespace Go.Proofs.YtcjnacpekbhhcaaGreat
open Go Go.Proofs Go.AL
set_option linter.unusedSimpArgs false
set_option linter.unusedVariables false

theorem sameq_self {p : List RQ} (h : BQ (2 ^ 40) (2 ^ 40) p) : AC Tryz.prog 17 [cqw p, cqw p] none [cb true] := by
  have := hsameq_ok p p h h
  rwa [decide_eq_true rfl] at this
theorem bq_nil (n k : Nat) : BQ n k [] := ⟨Nat.zero_le _, fun r hr => nomatch hr⟩

end Go.Proofs.YtcjnacpekbhhcaaGreat

namespace Go.Proofs.YtcjnacpekbhhcaaGreat
open Go Go.Proofs Go.AL
set_option linter.unusedSimpArgs false
set_option linter.unusedVariables false

theorem lay_rat1 (l : List (List IV)) : lay (fun i => [(0, 2), (2, 1)][i]?) [.bool false, .sl [], .sl []] ([1].zip [[.sl l]]) = some ((1 = 1 ∧ 2 + 1 ≤ 3) ∧ True, [.bool false, .sl [], .sl l]) := rfl

theorem qnone_ok : AC Tryz.prog 70 [] none [cqz 0] := by
  have m := nof_ok 1 (by decide)
  rw [show wd 1 = [1] by decide +kernel] at m
  rw [show cqz 0 = .agg (qrow ((false, []), [1])) from congrArg CV.agg crat_zero']
  have hl := lay_rat1
  refine AC.by_walk (rs := [.cell 0 31]) ords Tryz.func70 (by rfl) (by rfl) (by rfl) (by rfl) (by rfl) ?_
  simp (disch := omega) only [wk, tis, Int.reduceNe, Int.reduceEq, Int.reduceLT, Int.reduceLE, Int.reduceAdd, Int.reduceSub, Int.reduceNeg, Int.reduceMul, Int.reduceToNat, Nat.reduceSub, Nat.reduceMul, Nat.reduceLeDiff, Nat.reduceAdd, Nat.reduceLT, Nat.reduceEqDiff, reduceCtorEq, ↓reduceIte, rqs, hl]
  refine call_by (m) (by first | rfl | (simp only [tocvs, tocv, hl]; rfl) | (simp only [tocvs, tocv, toboxes, tobox, updH_at, Nat.reduceEqDiff, ↓reduceIte, hl]; rfl)) (by simp) ?_
  simp (disch := omega) only [wk, tis, Int.reduceNe, Int.reduceEq, Int.reduceLT, Int.reduceLE, Int.reduceAdd, Int.reduceSub, Int.reduceNeg, Int.reduceMul, Int.reduceToNat, Nat.reduceSub, Nat.reduceMul, Nat.reduceLeDiff, Nat.reduceAdd, Nat.reduceLT, Nat.reduceEqDiff, reduceCtorEq, ↓reduceIte, rqs, hl]
  try rfl

theorem qcoef_ok (A : List Rat) (n : Int) (h : QB (2 ^ 40) (2 ^ 38) A) : AC Tryz.prog 89 [cqw (A.map crat), ci n] none [cqz (if n < 0 then 0 else cfq A n.toNat)] := by
  have hl := h.1
  have hq : (A.map crat).length = A.length := List.length_map _
  refine AC.by_walk (rs := [.cell 4 31]) ords Tryz.func89 (by rfl) (by rfl) (by rfl) (by rfl) (by rfl) ?_
  by_cases h0 : n < 0
  · rw [if_pos h0]
    simp (disch := omega) only [wk, tis, Int.reduceNe, Int.reduceEq, Int.reduceLT, Int.reduceLE, Int.reduceAdd, Int.reduceSub, Int.reduceNeg, Int.reduceMul, Int.reduceToNat, Nat.reduceSub, Nat.reduceMul, Nat.reduceLeDiff, Nat.reduceAdd, Nat.reduceLT, Nat.reduceEqDiff, reduceCtorEq, ↓reduceIte, rqs, h0]
    refine call_by (qnone_ok) (by first | rfl | (simp only [tocvs, tocv, h0]; rfl) | (simp only [tocvs, tocv, toboxes, tobox, updH_at, Nat.reduceEqDiff, ↓reduceIte, h0]; rfl)) (by simp) ?_
    simp (disch := omega) only [wk, tis, Int.reduceNe, Int.reduceEq, Int.reduceLT, Int.reduceLE, Int.reduceAdd, Int.reduceSub, Int.reduceNeg, Int.reduceMul, Int.reduceToNat, Nat.reduceSub, Nat.reduceMul, Nat.reduceLeDiff, Nat.reduceAdd, Nat.reduceLT, Nat.reduceEqDiff, reduceCtorEq, ↓reduceIte, rqs, h0]
    try rfl
  · rw [if_neg h0]
    obtain ⟨i, rfl⟩ : ∃ i : Nat, n = i := ⟨n.toNat, by omega⟩
    rw [Int.toNat_natCast]
    by_cases h1 : i < A.length
    · have h2 : ¬ (A.length : Int) ≤ (i : Int) := by omega
      have m := qnorm_ok (crat (cfq A i)) (szq_crat (h.cz (by omega) i)) (nv_crat0 _)
      rw [qv_crat] at m
      have e := cratq_get h1
      simp (disch := omega) only [wk, tis, Int.reduceNe, Int.reduceEq, Int.reduceLT, Int.reduceLE, Int.reduceAdd, Int.reduceSub, Int.reduceNeg, Int.reduceMul, Int.reduceToNat, Nat.reduceSub, Nat.reduceMul, Nat.reduceLeDiff, Nat.reduceAdd, Nat.reduceLT, Nat.reduceEqDiff, reduceCtorEq, ↓reduceIte, rqs, h0, h2, hq, e]
      refine call_by (m) (by first | rfl | (simp only [tocvs, tocv, h0, h2, hq, e]; rfl) | (simp only [tocvs, tocv, toboxes, tobox, updH_at, Nat.reduceEqDiff, ↓reduceIte, h0, h2, hq, e]; rfl)) (by simp) ?_
      simp (disch := omega) only [wk, tis, Int.reduceNe, Int.reduceEq, Int.reduceLT, Int.reduceLE, Int.reduceAdd, Int.reduceSub, Int.reduceNeg, Int.reduceMul, Int.reduceToNat, Nat.reduceSub, Nat.reduceMul, Nat.reduceLeDiff, Nat.reduceAdd, Nat.reduceLT, Nat.reduceEqDiff, reduceCtorEq, ↓reduceIte, rqs, h0, h2, hq, e]
      try rfl
    · have h2 : (A.length : Int) ≤ (i : Int) := by omega
      rw [cfq_ge (by omega)]
      simp (disch := omega) only [wk, tis, Int.reduceNe, Int.reduceEq, Int.reduceLT, Int.reduceLE, Int.reduceAdd, Int.reduceSub, Int.reduceNeg, Int.reduceMul, Int.reduceToNat, Nat.reduceSub, Nat.reduceMul, Nat.reduceLeDiff, Nat.reduceAdd, Nat.reduceLT, Nat.reduceEqDiff, reduceCtorEq, ↓reduceIte, rqs, h0, h2, hq]
      refine call_by (qnone_ok) (by first | rfl | (simp only [tocvs, tocv, h0, h2, hq]; rfl) | (simp only [tocvs, tocv, toboxes, tobox, updH_at, Nat.reduceEqDiff, ↓reduceIte, h0, h2, hq]; rfl)) (by simp) ?_
      simp (disch := omega) only [wk, tis, Int.reduceNe, Int.reduceEq, Int.reduceLT, Int.reduceLE, Int.reduceAdd, Int.reduceSub, Int.reduceNeg, Int.reduceMul, Int.reduceToNat, Nat.reduceSub, Nat.reduceMul, Nat.reduceLeDiff, Nat.reduceAdd, Nat.reduceLT, Nat.reduceEqDiff, reduceCtorEq, ↓reduceIte, rqs, h0, h2, hq]
      try rfl
theorem qcoef_nat (A : List Rat) (i : Nat) (h : QB (2 ^ 40) (2 ^ 38) A) : AC Tryz.prog 89 [cqw (A.map crat), ci i] none [cqz (cfq A i)] := by
  have := qcoef_ok A i h
  rwa [if_neg (by omega), Int.toNat_natCast] at this

theorem qboth_ok (p q : List RQ) (hp : GQ (2 ^ 40) (2 ^ 38) p) (hq : GQ (2 ^ 40) (2 ^ 38) q) : AC Tryz.prog 69 [cqw p, cqw q] none [cqp (qvs p), cqp (qvs q), ci 0] := by
  have m := qpnorm_ok p hp
  have n := qpnorm_ok q hq
  refine AC.by_walk (rs := [.tmp 4, .tmp 5, .tmp 6]) ords Tryz.func69 (by rfl) (by rfl) (by rfl) (by rfl) (by rfl) ?_
  simp (disch := omega) only [wk, tis, Int.reduceNe, Int.reduceEq, Int.reduceLT, Int.reduceLE, Int.reduceAdd, Int.reduceSub, Int.reduceNeg, Int.reduceMul, Int.reduceToNat, Nat.reduceSub, Nat.reduceMul, Nat.reduceLeDiff, Nat.reduceAdd, Nat.reduceLT, Nat.reduceEqDiff, reduceCtorEq, ↓reduceIte, rqs]
  refine call_by (m) (by rfl) (by simp) ?_
  simp (disch := omega) only [wk, tis, Int.reduceNe, Int.reduceEq, Int.reduceLT, Int.reduceLE, Int.reduceAdd, Int.reduceSub, Int.reduceNeg, Int.reduceMul, Int.reduceToNat, Nat.reduceSub, Nat.reduceMul, Nat.reduceLeDiff, Nat.reduceAdd, Nat.reduceLT, Nat.reduceEqDiff, reduceCtorEq, ↓reduceIte, rqs]
  refine call_by (n) (by rfl) (by simp) ?_
  simp (disch := omega) only [wk, tis, Int.reduceNe, Int.reduceEq, Int.reduceLT, Int.reduceLE, Int.reduceAdd, Int.reduceSub, Int.reduceNeg, Int.reduceMul, Int.reduceToNat, Nat.reduceSub, Nat.reduceMul, Nat.reduceLeDiff, Nat.reduceAdd, Nat.reduceLT, Nat.reduceEqDiff, reduceCtorEq, ↓reduceIte, rqs]
  try rfl
/-- Place by place. -/
def zipq (F : Rat → Rat → Rat) (A B : List Rat) : List Rat := (List.range (max A.length B.length)).map fun k => F (cfq A k) (cfq B k)
theorem zipq_len (F : Rat → Rat → Rat) (A B : List Rat) : (zipq F A B).length = max A.length B.length := by simp [zipq]
theorem cfq_zipq {F : Rat → Rat → Rat} (hF : F 0 0 = 0) (A B : List Rat) (k : Nat) : cfq (zipq F A B) k = F (cfq A k) (cfq B k) := by
  by_cases h : k < max A.length B.length
  · simp only [zipq, cfq, List.getD, List.getElem?_map, List.getElem?_range h, Option.map_some, Option.getD_some]
  · rw [cfq_ge (by rw [zipq_len]; omega), cfq_ge (by omega), cfq_ge (by omega), hF]

theorem qeach_ok (p q : List RQ) (g : Nat) (F : Rat → Rat → Rat) (K : Nat) (hp : GQ (2 ^ 30) K p) (hq : GQ (2 ^ 30) K q) (hK : K ≤ 2 ^ 35) (hK1 : 1 ≤ K) (hF0 : F 0 0 = 0) (hs : ∀ a b, qz a ≤ K → qz b ≤ K → qz (F a b) ≤ 2 ^ 38)
    (hop : ∀ a b, qz a ≤ K → qz b ≤ K → AC Tryz.prog g [cqz a, cqz b] none [cqz (F a b), ci 0]) : AC Tryz.prog 75 [cqw p, cqw q, .fn g []] none [cqp (zipq F (qvs p) (qvs q)), ci 0] := by
  have m := qboth_ok p q (hp.mono (by omega) (by omega)) (hq.mono (by omega) (by omega))
  have hA := hp.qb.trimq
  have hB := hq.qb.trimq
  have e : cqp (zipq F (qvs p) (qvs q)) = cqp (zipq F (trimq (qvs p)) (trimq (qvs q))) := congrArg cqw (cqs_ext fun k => by rw [cfq_zipq hF0, cfq_zipq hF0, cfq_trimq, cfq_trimq])
  rw [e]
  refine AC.by_walk (rs := [.tmp 6, .tmp 7]) ords Tryz.func75 (by rfl) (by rfl) (by rfl) (by rfl) (by rfl) ?_
  simp (disch := omega) only [wk, tis, Int.reduceNe, Int.reduceEq, Int.reduceLT, Int.reduceLE, Int.reduceAdd, Int.reduceSub, Int.reduceNeg, Int.reduceMul, Int.reduceToNat, Nat.reduceSub, Nat.reduceMul, Nat.reduceLeDiff, Nat.reduceAdd, Nat.reduceLT, Nat.reduceEqDiff, reduceCtorEq, ↓reduceIte, rqs]
  refine call_by (m) (by rfl) (by simp) ?_
  simp (disch := omega) only [wk, tis, Int.reduceNe, Int.reduceEq, Int.reduceLT, Int.reduceLE, Int.reduceAdd, Int.reduceSub, Int.reduceNeg, Int.reduceMul, Int.reduceToNat, Nat.reduceSub, Nat.reduceMul, Nat.reduceLeDiff, Nat.reduceAdd, Nat.reduceLT, Nat.reduceEqDiff, reduceCtorEq, ↓reduceIte, rqs]
  unfold cqs
  generalize trimq (qvs p) = A at *
  generalize trimq (qvs q) = B at *
  have hAl := hA.1
  have hBl := hB.1
  have hqa : (A.map crat).length = A.length := List.length_map _
  have hqb : (B.map crat).length = B.length := List.length_map _
  have hRl := zipq_len F A B
  have hR : QB (2 ^ 40) (2 ^ 38) (zipq F A B) := .of (by omega) fun i => by rw [cfq_zipq hF0]; exact hs _ _ (hA.cz hK1 i) (hB.cz hK1 i)
  obtain ⟨n, hn⟩ : ∃ n, n = max A.length B.length := ⟨_, rfl⟩
  have hnI : max (A.length : Int) (B.length : Int) = (n : Int) := by omega
  rw [← hn] at hRl
  simp (disch := omega) only [wk, tis, Int.reduceNe, Int.reduceEq, Int.reduceLT, Int.reduceLE, Int.reduceAdd, Int.reduceSub, Int.reduceNeg, Int.reduceMul, Int.reduceToNat, Nat.reduceSub, Nat.reduceMul, Nat.reduceLeDiff, Nat.reduceAdd, Nat.reduceLT, Nat.reduceEqDiff, reduceCtorEq, ↓reduceIte, rqs, hqa, hqb, hnI]
  refine aloop_nil 11 11 31 3 (by simp (disch := omega) only [wk, tis, Int.reduceNe, Int.reduceEq, Int.reduceLT, Int.reduceLE, Int.reduceAdd, Int.reduceSub, Int.reduceNeg, Int.reduceMul, Int.reduceToNat, Nat.reduceSub, Nat.reduceMul, Nat.reduceLeDiff, Nat.reduceAdd, Nat.reduceLT, Nat.reduceEqDiff, reduceCtorEq, ↓reduceIte, rqs]) (fun f H => ∃ (i st : Nat), i ≤ n ∧ f 30 = .iv (.int .i64 i) ∧ f 29 = .iv (.int .i64 n) ∧ f 8 = .iv (.sl (rats (A.map crat))) ∧ f 9 = .iv (.sl (rats (B.map crat))) ∧ f 2 = .fn g [] ∧ f 11 = .hs 11 st ∧ H 11 = .blk false st 31 3 (rats (((zipq F A B).take i).map crat))) (fun f H => (n - intAt f 30).toNat) ?_ ?_
  · refine ⟨0, 1, by omega, ?_⟩
    simp (disch := omega) only [wk, tis, Int.reduceNe, Int.reduceEq, Int.reduceLT, Int.reduceLE, Int.reduceAdd, Int.reduceSub, Int.reduceNeg, Int.reduceMul, Int.reduceToNat, Nat.reduceSub, Nat.reduceMul, Nat.reduceLeDiff, Nat.reduceAdd, Nat.reduceLT, Nat.reduceEqDiff, reduceCtorEq, ↓reduceIte, rqs, ghostF, ghostH, List.take_zero, List.map_nil, hqa, hqb, hnI]
  rintro f H ⟨i, st, hi, hF⟩
  rw [intAt_of hF.1]
  simp (disch := omega) only [wk, tis, Int.reduceNe, Int.reduceEq, Int.reduceLT, Int.reduceLE, Int.reduceAdd, Int.reduceSub, Int.reduceNeg, Int.reduceMul, Int.reduceToNat, Nat.reduceSub, Nat.reduceMul, Nat.reduceLeDiff, Nat.reduceAdd, Nat.reduceLT, Nat.reduceEqDiff, reduceCtorEq, ↓reduceIte, rqs, hF]
  refine if_by (fun hlt => ?_) (fun hlt => ?_)
  · have hq : (((zipq F A B).take i).map crat).length = i := by rw [List.length_map, List.length_take]; omega
    have c1 := qcoef_nat A i (hA.mono (by omega) (by omega))
    have c2 := qcoef_nat B i (hB.mono (by omega) (by omega))
    have o := hop (cfq A i) (cfq B i) (hA.cz hK1 i) (hB.cz hK1 i)
    simp (disch := omega) only [wk, tis, Int.reduceNe, Int.reduceEq, Int.reduceLT, Int.reduceLE, Int.reduceAdd, Int.reduceSub, Int.reduceNeg, Int.reduceMul, Int.reduceToNat, Nat.reduceSub, Nat.reduceMul, Nat.reduceLeDiff, Nat.reduceAdd, Nat.reduceLT, Nat.reduceEqDiff, reduceCtorEq, ↓reduceIte, rqs, hF, hq]
    refine call_by (c1) (by first | rfl | (simp only [tocvs, tocv, hF, hq]; rfl) | (simp only [tocvs, tocv, toboxes, tobox, updH_at, Nat.reduceEqDiff, ↓reduceIte, hF, hq]; rfl)) (by simp) ?_
    simp (disch := omega) only [wk, tis, Int.reduceNe, Int.reduceEq, Int.reduceLT, Int.reduceLE, Int.reduceAdd, Int.reduceSub, Int.reduceNeg, Int.reduceMul, Int.reduceToNat, Nat.reduceSub, Nat.reduceMul, Nat.reduceLeDiff, Nat.reduceAdd, Nat.reduceLT, Nat.reduceEqDiff, reduceCtorEq, ↓reduceIte, rqs, hF, hq]
    refine call_by (c2) (by first | rfl | (simp only [tocvs, tocv, hF, hq]; rfl) | (simp only [tocvs, tocv, toboxes, tobox, updH_at, Nat.reduceEqDiff, ↓reduceIte, hF, hq]; rfl)) (by simp) ?_
    simp (disch := omega) only [wk, tis, Int.reduceNe, Int.reduceEq, Int.reduceLT, Int.reduceLE, Int.reduceAdd, Int.reduceSub, Int.reduceNeg, Int.reduceMul, Int.reduceToNat, Nat.reduceSub, Nat.reduceMul, Nat.reduceLeDiff, Nat.reduceAdd, Nat.reduceLT, Nat.reduceEqDiff, reduceCtorEq, ↓reduceIte, rqs, hF, hq]
    refine call_by (o) (by first | rfl | (simp only [tocvs, tocv, hF, hq]; rfl) | (simp only [tocvs, tocv, toboxes, tobox, updH_at, Nat.reduceEqDiff, ↓reduceIte, hF, hq]; rfl)) (by simp) ?_
    simp (disch := omega) only [wk, tis, Int.reduceNe, Int.reduceEq, Int.reduceLT, Int.reduceLE, Int.reduceAdd, Int.reduceSub, Int.reduceNeg, Int.reduceMul, Int.reduceToNat, Nat.reduceSub, Nat.reduceMul, Nat.reduceLeDiff, Nat.reduceAdd, Nat.reduceLT, Nat.reduceEqDiff, reduceCtorEq, ↓reduceIte, rqs, hF, hq]
    have e := takeq_snoc (q := zipq F A B) (i := i) (by omega)
    rw [cfq_zipq hF0] at e
    refine ⟨⟨i + 1, st + 1, by omega, ?_⟩, by omega⟩
    rw [e, List.map_append]
    (repeat' apply And.intro) <;> first | rfl | omega
  · simp (disch := omega) only [wk, tis, Int.reduceNe, Int.reduceEq, Int.reduceLT, Int.reduceLE, Int.reduceAdd, Int.reduceSub, Int.reduceNeg, Int.reduceMul, Int.reduceToNat, Nat.reduceSub, Nat.reduceMul, Nat.reduceLeDiff, Nat.reduceAdd, Nat.reduceLT, Nat.reduceEqDiff, reduceCtorEq, ↓reduceIte, rqs, hF]
    rw [List.take_of_length_le (by omega)] at hF
    have m := qtrim_own (zipq F A B) hR
    refine call_by (m) (by first | rfl | (simp only [tocvs, tocv, hF]; rfl) | (simp only [tocvs, tocv, toboxes, tobox, updH_at, Nat.reduceEqDiff, ↓reduceIte, hF]; rfl)) (by simp) ?_
    simp (disch := omega) only [wk, tis, Int.reduceNe, Int.reduceEq, Int.reduceLT, Int.reduceLE, Int.reduceAdd, Int.reduceSub, Int.reduceNeg, Int.reduceMul, Int.reduceToNat, Nat.reduceSub, Nat.reduceMul, Nat.reduceLeDiff, Nat.reduceAdd, Nat.reduceLT, Nat.reduceEqDiff, reduceCtorEq, ↓reduceIte, rqs, hF]

theorem qpadd_ok (p q : List RQ) (K : Nat) (hp : GQ (2 ^ 30) K p) (hq : GQ (2 ^ 30) K q) (hK : K ≤ 2 ^ 35) (hK1 : 1 ≤ K) : AC Tryz.prog 25 [cqw p, cqw q] none [cqp (addq (qvs p) (qvs q)), ci 0] := by
  have m := qeach_ok p q 54 (fun a b => a + b) K hp hq hK hK1 (by decide +kernel) (fun a b ha hb => by have := qz_add a b; omega) (fun a b ha hb => by
    have := qadd_ok (crat a) (crat b) (szq_crat (by omega)) (szq_crat (by omega)) (nv_crat0 _) (nv_crat0 _)
    rwa [qv_crat, qv_crat] at this)
  rw [show zipq (fun a b => a + b) (qvs p) (qvs q) = addq (qvs p) (qvs q) from rfl] at m
  refine AC.by_walk (rs := [.tmp 4, .tmp 5]) ords Tryz.func25 (by rfl) (by rfl) (by rfl) (by rfl) (by rfl) ?_
  simp (disch := omega) only [wk, tis, Int.reduceNe, Int.reduceEq, Int.reduceLT, Int.reduceLE, Int.reduceAdd, Int.reduceSub, Int.reduceNeg, Int.reduceMul, Int.reduceToNat, Nat.reduceSub, Nat.reduceMul, Nat.reduceLeDiff, Nat.reduceAdd, Nat.reduceLT, Nat.reduceEqDiff, reduceCtorEq, ↓reduceIte, rqs, List.map_nil]
  refine call_by (m) (by first | rfl | (simp only [tocvs, tocv, List.map_nil]; rfl) | (simp only [tocvs, tocv, toboxes, tobox, updH_at, Nat.reduceEqDiff, ↓reduceIte, List.map_nil]; rfl)) (by simp) ?_
  simp (disch := omega) only [wk, tis, Int.reduceNe, Int.reduceEq, Int.reduceLT, Int.reduceLE, Int.reduceAdd, Int.reduceSub, Int.reduceNeg, Int.reduceMul, Int.reduceToNat, Nat.reduceSub, Nat.reduceMul, Nat.reduceLeDiff, Nat.reduceAdd, Nat.reduceLT, Nat.reduceEqDiff, reduceCtorEq, ↓reduceIte, rqs, List.map_nil]
  try rfl
end Go.Proofs.YtcjnacpekbhhcaaGreat

namespace Go.Proofs.YtcjnacpekbhhcaaGreat
open Go Go.Proofs Go.AL
set_option linter.unusedSimpArgs false
set_option linter.unusedVariables false

/-! ### Least common multiples -/
theorem gzero_ok (a : List Nat) (h : Nt (2 ^ 42) a) : AC Tryz.prog 162 [cl a] none [cb (decide (nv a = 0))] := by
  have m := nbits_ok a h.2 h.1
  refine AC.by_walk (rs := [.tmp 2]) ords Tryz.func162 (by rfl) (by rfl) (by rfl) (by rfl) (by rfl) ?_
  simp (disch := omega) only [wk, tis, Int.reduceNe, Int.reduceEq, Int.reduceLT, Int.reduceLE, Int.reduceAdd, Int.reduceSub, Int.reduceNeg, Int.reduceMul, Int.reduceToNat, Nat.reduceSub, Nat.reduceMul, Nat.reduceLeDiff, Nat.reduceAdd, Nat.reduceLT, Nat.reduceEqDiff, reduceCtorEq, ↓reduceIte, rqs, natsr_len, natsr_at, natsr_snoc, natsr_app, natsr_rows, natsr_nil]
  refine call_by (m) (by rfl) (by simp) ?_
  simp (disch := omega) only [wk, tis, Int.reduceNe, Int.reduceEq, Int.reduceLT, Int.reduceLE, Int.reduceAdd, Int.reduceSub, Int.reduceNeg, Int.reduceMul, Int.reduceToNat, Nat.reduceSub, Nat.reduceMul, Nat.reduceLeDiff, Nat.reduceAdd, Nat.reduceLT, Nat.reduceEqDiff, reduceCtorEq, ↓reduceIte, rqs, natsr_len, natsr_at, natsr_snoc, natsr_app, natsr_rows, natsr_nil]
  rw [decide_eq_decide]
  constructor
  · intro e; exact bl_zero.mp (by omega)
  · intro e; rw [bl_zero.mpr e]; rfl
theorem gquo_ok (a b : List Nat) (ha : Nt (2 ^ 38) a) (hb : Nt (2 ^ 38) b) (h0 : nv b ≠ 0) : AC Tryz.prog 163 [cl a, cl b] none [cl (wd (nv a / nv b))] := by
  have m := quo_ok a b ha.2 hb.2 ha.1 hb.1 h0
  refine AC.by_walk (rs := [.tmp 4]) ords Tryz.func163 (by rfl) (by rfl) (by rfl) (by rfl) (by rfl) ?_
  simp (disch := omega) only [wk, tis, Int.reduceNe, Int.reduceEq, Int.reduceLT, Int.reduceLE, Int.reduceAdd, Int.reduceSub, Int.reduceNeg, Int.reduceMul, Int.reduceToNat, Nat.reduceSub, Nat.reduceMul, Nat.reduceLeDiff, Nat.reduceAdd, Nat.reduceLT, Nat.reduceEqDiff, reduceCtorEq, ↓reduceIte, rqs, natsr_len, natsr_at, natsr_snoc, natsr_app, natsr_rows, natsr_nil]
  refine call_by (m) (by rfl) (by simp) ?_
  simp (disch := omega) only [wk, tis, Int.reduceNe, Int.reduceEq, Int.reduceLT, Int.reduceLE, Int.reduceAdd, Int.reduceSub, Int.reduceNeg, Int.reduceMul, Int.reduceToNat, Nat.reduceSub, Nat.reduceMul, Nat.reduceLeDiff, Nat.reduceAdd, Nat.reduceLT, Nat.reduceEqDiff, reduceCtorEq, ↓reduceIte, rqs, natsr_len, natsr_at, natsr_snoc, natsr_app, natsr_rows, natsr_nil]
theorem lcm_val (a b : Nat) : a / Nat.gcd a b * b = Nat.lcm a b := by
  unfold Nat.lcm
  rcases Nat.eq_zero_or_pos (Nat.gcd a b) with h | h
  · rw [h, Nat.div_zero, Nat.div_zero, Nat.zero_mul]
  · obtain ⟨k, hk⟩ := Nat.gcd_dvd_left a b
    have e : a / Nat.gcd a b = k := Nat.div_eq_of_eq_mul_right h hk
    rw [e]
    refine (Nat.div_eq_of_eq_mul_right h ?_).symm
    rw [← Nat.mul_assoc, ← hk]
theorem lcm_len {a b j k : Nat} (ha : (wd a).length ≤ j) (hb : (wd b).length ≤ k) : (wd (Nat.lcm a b)).length ≤ j + k :=
  Nat.le_trans (wd_len_mono (Nat.div_le_self _ _)) (wd_len2 ha hb)
theorem lcm_ne {a b : Nat} (ha : a ≠ 0) (hb : b ≠ 0) : Nat.lcm a b ≠ 0 := Nat.lcm_ne_zero ha hb
theorem glcm_ok (a b : List Nat) (ha : Nt (2 ^ 35) a) (hb : Nt (2 ^ 35) b) (h0 : nv a ≠ 0) (h1 : nv b ≠ 0) : AC Tryz.prog 127 [cl a, cl b] none [cl (wd (Nat.lcm (nv a) (nv b)))] := by
  have z1 := gzero_ok a ⟨Nat.le_trans ha.1 (by omega), ha.2⟩
  have z2 := gzero_ok b ⟨Nat.le_trans hb.1 (by omega), hb.2⟩
  rw [decide_eq_false h0] at z1
  rw [decide_eq_false h1] at z2
  have g := gcd_ok a b ha.2 hb.2 (Nat.le_trans ha.1 (by omega)) (Nat.le_trans hb.1 (by omega))
  have hgp : Nat.gcd (nv a) (nv b) ≠ 0 := Nat.ne_of_gt (Nat.gcd_pos_of_pos_right _ (by omega))
  have hgl : (wd (Nat.gcd (nv a) (nv b))).length ≤ 2 ^ 38 := Nat.le_trans (wd_len_mono (Nat.gcd_le_right _ (by omega))) (Nat.le_trans (nv_len hb.2) (Nat.le_trans hb.1 (by omega)))
  have q := gquo_ok a (wd (Nat.gcd (nv a) (nv b))) ⟨Nat.le_trans ha.1 (by omega), ha.2⟩ ⟨hgl, lim_wd _⟩ (by rw [nv_wd]; exact hgp)
  rw [nv_wd] at q
  have m := mmul_ok (wd (nv a / Nat.gcd (nv a) (nv b))) b (lim_wd _) hb.2 (Nat.le_trans (wd_len_mono (Nat.div_le_self _ _)) (Nat.le_trans (nv_len ha.2) (Nat.le_trans ha.1 (by omega)))) (Nat.le_trans hb.1 (by omega))
  rw [nv_wd, lcm_val] at m
  refine AC.by_walk (rs := [.tmp 4]) ords Tryz.func127 (by rfl) (by rfl) (by rfl) (by rfl) (by rfl) ?_
  simp (disch := omega) only [wk, tis, Int.reduceNe, Int.reduceEq, Int.reduceLT, Int.reduceLE, Int.reduceAdd, Int.reduceSub, Int.reduceNeg, Int.reduceMul, Int.reduceToNat, Nat.reduceSub, Nat.reduceMul, Nat.reduceLeDiff, Nat.reduceAdd, Nat.reduceLT, Nat.reduceEqDiff, reduceCtorEq, ↓reduceIte, rqs, natsr_len, natsr_at, natsr_snoc, natsr_app, natsr_rows, natsr_nil]
  refine call_by (z1) (by rfl) (by simp) ?_
  simp (disch := omega) only [wk, tis, Int.reduceNe, Int.reduceEq, Int.reduceLT, Int.reduceLE, Int.reduceAdd, Int.reduceSub, Int.reduceNeg, Int.reduceMul, Int.reduceToNat, Nat.reduceSub, Nat.reduceMul, Nat.reduceLeDiff, Nat.reduceAdd, Nat.reduceLT, Nat.reduceEqDiff, reduceCtorEq, ↓reduceIte, rqs, natsr_len, natsr_at, natsr_snoc, natsr_app, natsr_rows, natsr_nil]
  refine call_by (z2) (by rfl) (by simp) ?_
  simp (disch := omega) only [wk, tis, Int.reduceNe, Int.reduceEq, Int.reduceLT, Int.reduceLE, Int.reduceAdd, Int.reduceSub, Int.reduceNeg, Int.reduceMul, Int.reduceToNat, Nat.reduceSub, Nat.reduceMul, Nat.reduceLeDiff, Nat.reduceAdd, Nat.reduceLT, Nat.reduceEqDiff, reduceCtorEq, ↓reduceIte, rqs, natsr_len, natsr_at, natsr_snoc, natsr_app, natsr_rows, natsr_nil]
  refine call_by (g) (by rfl) (by simp) ?_
  simp (disch := omega) only [wk, tis, Int.reduceNe, Int.reduceEq, Int.reduceLT, Int.reduceLE, Int.reduceAdd, Int.reduceSub, Int.reduceNeg, Int.reduceMul, Int.reduceToNat, Nat.reduceSub, Nat.reduceMul, Nat.reduceLeDiff, Nat.reduceAdd, Nat.reduceLT, Nat.reduceEqDiff, reduceCtorEq, ↓reduceIte, rqs, natsr_len, natsr_at, natsr_snoc, natsr_app, natsr_rows, natsr_nil]
  refine call_by (q) (by rfl) (by simp) ?_
  simp (disch := omega) only [wk, tis, Int.reduceNe, Int.reduceEq, Int.reduceLT, Int.reduceLE, Int.reduceAdd, Int.reduceSub, Int.reduceNeg, Int.reduceMul, Int.reduceToNat, Nat.reduceSub, Nat.reduceMul, Nat.reduceLeDiff, Nat.reduceAdd, Nat.reduceLT, Nat.reduceEqDiff, reduceCtorEq, ↓reduceIte, rqs, natsr_len, natsr_at, natsr_snoc, natsr_app, natsr_rows, natsr_nil]
  refine call_by (m) (by rfl) (by simp) ?_
  simp (disch := omega) only [wk, tis, Int.reduceNe, Int.reduceEq, Int.reduceLT, Int.reduceLE, Int.reduceAdd, Int.reduceSub, Int.reduceNeg, Int.reduceMul, Int.reduceToNat, Nat.reduceSub, Nat.reduceMul, Nat.reduceLeDiff, Nat.reduceAdd, Nat.reduceLT, Nat.reduceEqDiff, reduceCtorEq, ↓reduceIte, rqs, natsr_len, natsr_at, natsr_snoc, natsr_app, natsr_rows, natsr_nil]

/-- Of all of them. -/
def lcmL (l : List Nat) : Nat := l.foldl Nat.lcm 1
theorem lcmL_take {l : List Nat} {i : Nat} (h : i < l.length) : lcmL (l.take (i + 1)) = Nat.lcm (lcmL (l.take i)) (l.getD i 0) := by
  rw [List.take_add_one, List.getElem?_eq_getElem h, lcmL, List.foldl_append]
  simp [lcmL, List.getD, h]
theorem lcmL_facts (l : List Nat) (K : Nat) (h0 : ∀ x ∈ l, x ≠ 0) (hK : ∀ x ∈ l, (wd x).length ≤ K) : ∀ i, i ≤ l.length → lcmL (l.take i) ≠ 0 ∧ (wd (lcmL (l.take i))).length ≤ i * K + 1 ∧ ∀ j, j < i → l.getD j 0 ∣ lcmL (l.take i)
  | 0, _ => ⟨by simp [lcmL], by rw [List.take_zero]; show (wd 1).length ≤ _; rw [show wd 1 = [1] by decide +kernel]; simp, fun j hj => by omega⟩
  | i + 1, hi => by
    obtain ⟨a1, a2, a3⟩ := lcmL_facts l K h0 hK i (by omega)
    have hm : l.getD i 0 ∈ l := by rw [List.getD, List.getElem?_eq_getElem (by omega), Option.getD_some]; exact List.getElem_mem _
    rw [lcmL_take (by omega)]
    refine ⟨lcm_ne a1 (h0 _ hm), ?_, fun j hj => ?_⟩
    · have := lcm_len a2 (hK _ hm)
      rw [Nat.succ_mul]
      omega
    · rcases Nat.lt_or_ge j i with h | h
      · exact Nat.dvd_trans (a3 j h) (Nat.dvd_lcm_left _ _)
      · obtain rfl : j = i := by omega
        exact Nat.dvd_lcm_right _ _

set_option maxRecDepth 100000 in
theorem galllcm_ok (l : List Nat) (K : Nat) (hl : l.length ≤ 2 ^ 30) (h0 : ∀ x ∈ l, x ≠ 0) (hK : ∀ x ∈ l, (wd x).length ≤ K) (hB : l.length * K + K + 1 ≤ 2 ^ 35) : AC Tryz.prog 77 [.iv (.sl (natsr (l.map wd)))] none [cl (wd (lcmL l))] := by
  have o := nof_ok 1 (by decide)
  have hml : (l.map wd).length = l.length := List.length_map _
  have e0 : wd (lcmL (l.take 0)) = wd 1 := by rw [List.take_zero]; rfl
  refine AC.by_walk (rs := [.tmp 2]) ords Tryz.func77 (by rfl) (by rfl) (by rfl) (by rfl) (by rfl) ?_
  simp (disch := omega) only [wk, tis, Int.reduceNe, Int.reduceEq, Int.reduceLT, Int.reduceLE, Int.reduceAdd, Int.reduceSub, Int.reduceNeg, Int.reduceMul, Int.reduceToNat, Nat.reduceSub, Nat.reduceMul, Nat.reduceLeDiff, Nat.reduceAdd, Nat.reduceLT, Nat.reduceEqDiff, reduceCtorEq, ↓reduceIte, rqs, natsr_len, natsr_at, natsr_snoc, natsr_app, natsr_rows, natsr_nil]
  refine call_by (o) (by rfl) (by simp) ?_
  simp (disch := omega) only [wk, tis, Int.reduceNe, Int.reduceEq, Int.reduceLT, Int.reduceLE, Int.reduceAdd, Int.reduceSub, Int.reduceNeg, Int.reduceMul, Int.reduceToNat, Nat.reduceSub, Nat.reduceMul, Nat.reduceLeDiff, Nat.reduceAdd, Nat.reduceLT, Nat.reduceEqDiff, reduceCtorEq, ↓reduceIte, rqs, natsr_len, natsr_at, natsr_snoc, natsr_app, natsr_rows, natsr_nil]
  refine aloop_by (fun f H => ∃ (i : Nat), i ≤ l.length ∧ f 9 = .iv (.int .i64 i) ∧ f 7 = .iv (.sl (natsr (l.map wd))) ∧ f 8 = .iv (.int .i64 l.length) ∧ f 3 = .iv (.sl (lims (wd (lcmL (l.take i)))))) (fun f H => (l.length - intAt f 9).toNat) ?_ ?_
  · refine ⟨0, by omega, ?_⟩
    simp (disch := omega) only [wk, tis, Int.reduceNe, Int.reduceEq, Int.reduceLT, Int.reduceLE, Int.reduceAdd, Int.reduceSub, Int.reduceNeg, Int.reduceMul, Int.reduceToNat, Nat.reduceSub, Nat.reduceMul, Nat.reduceLeDiff, Nat.reduceAdd, Nat.reduceLT, Nat.reduceEqDiff, reduceCtorEq, ↓reduceIte, rqs, natsr_len, natsr_at, natsr_snoc, natsr_app, natsr_rows, natsr_nil, e0, hml]
  rintro f H ⟨i, hi, hF⟩
  rw [intAt_of hF.1]
  simp (disch := omega) only [wk, tis, Int.reduceNe, Int.reduceEq, Int.reduceLT, Int.reduceLE, Int.reduceAdd, Int.reduceSub, Int.reduceNeg, Int.reduceMul, Int.reduceToNat, Nat.reduceSub, Nat.reduceMul, Nat.reduceLeDiff, Nat.reduceAdd, Nat.reduceLT, Nat.reduceEqDiff, reduceCtorEq, ↓reduceIte, rqs, natsr_len, natsr_at, natsr_snoc, natsr_app, natsr_rows, natsr_nil, hF]
  refine if_by (fun hlt => ?_) (fun hlt => ?_)
  · have hlt' : i < l.length := by omega
    obtain ⟨a1, a2, a3⟩ := lcmL_facts l K h0 hK i hi
    have hm : l.getD i 0 ∈ l := by rw [List.getD, List.getElem?_eq_getElem hlt', Option.getD_some]; exact List.getElem_mem _
    have hg : (l.map wd).getD i [] = wd (l.getD i 0) := by simp [List.getD, hlt']
    have hk := hK _ hm
    have h2 : i * K ≤ l.length * K := Nat.mul_le_mul_right _ hi
    have m := glcm_ok (wd (lcmL (l.take i))) (wd (l.getD i 0)) ⟨by omega, lim_wd _⟩ ⟨by omega, lim_wd _⟩ (by rw [nv_wd]; exact a1) (by rw [nv_wd]; exact h0 _ hm)
    rw [nv_wd, nv_wd, ← lcmL_take hlt'] at m
    simp (disch := omega) only [wk, tis, Int.reduceNe, Int.reduceEq, Int.reduceLT, Int.reduceLE, Int.reduceAdd, Int.reduceSub, Int.reduceNeg, Int.reduceMul, Int.reduceToNat, Nat.reduceSub, Nat.reduceMul, Nat.reduceLeDiff, Nat.reduceAdd, Nat.reduceLT, Nat.reduceEqDiff, reduceCtorEq, ↓reduceIte, rqs, natsr_len, natsr_at, natsr_snoc, natsr_app, natsr_rows, natsr_nil, hF, hml, hg]
    refine call_by (m) (by first | rfl | (simp only [tocvs, tocv, hF, hml, hg]; rfl) | (simp only [tocvs, tocv, toboxes, tobox, updH_at, Nat.reduceEqDiff, ↓reduceIte, hF, hml, hg]; rfl)) (by simp) ?_
    simp (disch := omega) only [wk, tis, Int.reduceNe, Int.reduceEq, Int.reduceLT, Int.reduceLE, Int.reduceAdd, Int.reduceSub, Int.reduceNeg, Int.reduceMul, Int.reduceToNat, Nat.reduceSub, Nat.reduceMul, Nat.reduceLeDiff, Nat.reduceAdd, Nat.reduceLT, Nat.reduceEqDiff, reduceCtorEq, ↓reduceIte, rqs, natsr_len, natsr_at, natsr_snoc, natsr_app, natsr_rows, natsr_nil, hF, hml, hg]
    refine ⟨⟨i + 1, by omega, ?_⟩, by omega⟩
    (repeat' apply And.intro) <;> first | rfl | omega
  · simp (disch := omega) only [wk, tis, Int.reduceNe, Int.reduceEq, Int.reduceLT, Int.reduceLE, Int.reduceAdd, Int.reduceSub, Int.reduceNeg, Int.reduceMul, Int.reduceToNat, Nat.reduceSub, Nat.reduceMul, Nat.reduceLeDiff, Nat.reduceAdd, Nat.reduceLT, Nat.reduceEqDiff, reduceCtorEq, ↓reduceIte, rqs, natsr_len, natsr_at, natsr_snoc, natsr_app, natsr_rows, natsr_nil, hF]
    rw [List.take_of_length_le (by omega)]

/-! ### The least multiple over the integers -/
def dens (A : List Rat) : List Nat := A.map fun c => c.den
def cden (A : List Rat) : Nat := lcmL (dens A)
def clr (A : List Rat) : List Int := A.map fun c => c.num * ((cden A : Int) / (c.den : Int))
theorem dens_len (A : List Rat) : (dens A).length = A.length := List.length_map _
theorem clr_len (A : List Rat) : (clr A).length = A.length := List.length_map _
theorem dens_get {A : List Rat} {i : Nat} (h : i < A.length) : (dens A).getD i 0 = (cfq A i).den := by simp [dens, cfq, List.getD, h]
theorem clr_get {A : List Rat} {i : Nat} (h : i < A.length) : cf (clr A) i = (cfq A i).num * ((cden A : Int) / ((cfq A i).den : Int)) := by simp [clr, cf, cfq, List.getD, h]
theorem dens_ne {A : List Rat} : ∀ x ∈ dens A, x ≠ 0 := fun x hx => by
  obtain ⟨c, _, rfl⟩ := List.mem_map.1 hx
  exact c.den_nz
theorem QB.dens {n k : Nat} {A : List Rat} (h : QB n k A) : ∀ x ∈ dens A, (wd x).length ≤ k := fun x hx => by
  obtain ⟨c, hc, rfl⟩ := List.mem_map.1 hx
  exact Nat.le_trans (qz_parts c).2 (h.2 c hc)
theorem cden_ne (A : List Rat) : cden A ≠ 0 := by
  have := (lcmL_facts (dens A) ((dens A).foldl (fun m x => max m (wd x).length) 0) dens_ne (fun x hx => by
    have key : ∀ (l : List Nat) (m : Nat), m ≤ l.foldl (fun m x => max m (wd x).length) m ∧ ∀ x ∈ l, (wd x).length ≤ l.foldl (fun m x => max m (wd x).length) m := by
      intro l
      induction l with
      | nil => exact fun m => ⟨Nat.le_refl _, fun x hx => nomatch hx⟩
      | cons a l ih =>
        intro m
        have := ih (max m (wd a).length)
        refine ⟨Nat.le_trans (Nat.le_max_left _ _) this.1, fun x hx => ?_⟩
        rcases List.mem_cons.1 hx with rfl | hx
        · exact Nat.le_trans (Nat.le_max_right _ _) this.1
        · exact this.2 x hx
    exact (key (dens A) 0).2 x hx) (dens A).length (Nat.le_refl _)).1
  rwa [List.take_of_length_le (Nat.le_refl _)] at this
theorem cden_dvd {A : List Rat} {i : Nat} (h : i < A.length) : (cfq A i).den ∣ cden A := by
  have := (lcmL_facts (dens A) (cden A + (dens A).foldl (fun m x => m + (wd x).length) 0) dens_ne (fun x hx => by
    have key : ∀ (l : List Nat) (m : Nat), m ≤ l.foldl (fun m x => m + (wd x).length) m ∧ ∀ x ∈ l, (wd x).length ≤ l.foldl (fun m x => m + (wd x).length) m := by
      intro l
      induction l with
      | nil => exact fun m => ⟨Nat.le_refl _, fun x hx => nomatch hx⟩
      | cons a l ih =>
        intro m
        have := ih (m + (wd a).length)
        refine ⟨Nat.le_trans (by omega) this.1, fun x hx => ?_⟩
        rcases List.mem_cons.1 hx with rfl | hx
        · exact Nat.le_trans (by omega) this.1
        · exact this.2 x hx
    have := (key (dens A) 0).2 x hx
    omega) (dens A).length (Nat.le_refl _)).2.2 i (by rw [dens_len]; exact h)
  rw [List.take_of_length_le (Nat.le_refl _), dens_get h] at this
  exact this
theorem cden_len {n k : Nat} {A : List Rat} (h : QB n k A) : (wd (cden A)).length ≤ n * k + 1 := by
  have := (lcmL_facts (dens A) k dens_ne h.dens (dens A).length (Nat.le_refl _)).2.1
  rw [List.take_of_length_le (Nat.le_refl _), dens_len] at this
  have h2 := Nat.mul_le_mul_right k h.1
  show (wd (lcmL (dens A))).length ≤ _
  omega
theorem cf_clr (A : List Rat) (i : Nat) : (cf (clr A) i : Rat) = cfq A i * (cden A : Rat) := by
  by_cases h : i < A.length
  · rw [clr_get h]
    obtain ⟨m, hm⟩ := cden_dvd h
    have hd : ((cfq A i).den : Int) ≠ 0 := by have := (cfq A i).den_nz; omega
    have e : (cden A : Int) / ((cfq A i).den : Int) = (m : Int) := by
      rw [hm, Int.natCast_mul, Int.mul_ediv_cancel_left _ hd]
    rw [e, Rat.intCast_mul, Rat.intCast_natCast, hm, Rat.natCast_mul]
    have h1 : cfq A i = ((cfq A i).num : Rat) / ((cfq A i).den : Rat) := by rw [← Rat.mkRat_eq_div, Rat.mkRat_self]
    have h2 := natr_ne (cfq A i).den_nz
    generalize (cfq A i).num = u at *
    generalize (cfq A i).den = v at *
    rw [h1]
    grind
  · rw [cf_ge (by rw [clr_len]; omega), cfq_ge (by omega), Rat.intCast_zero, Rat.zero_mul]
theorem zl_clr {n k : Nat} {A : List Rat} (h : QB n k A) (i : Nat) : zl (cf (clr A) i) ≤ k + n * k + 1 := by
  by_cases hi : i < A.length
  · rw [clr_get hi]
    have h1 := zl_mul (cfq A i).num ((cden A : Int) / ((cfq A i).den : Int))
    have h2 := zl_div (a := (cden A : Int)) (b := ((cfq A i).den : Int)) (Int.natCast_dvd_natCast.mpr (cden_dvd hi))
    have h3 := cden_len h
    have h4 := (qz_parts (cfq A i)).1
    have h5 : qz (cfq A i) ≤ k := by rw [cfq_lt hi]; exact h.2 _ (List.getElem_mem hi)
    rw [zl_nat] at h2
    omega
  · rw [cf_ge (by rw [clr_len]; omega), zl_zero]; omega
theorem QB.clr {n k : Nat} {A : List Rat} (h : QB n k A) : PB n (k + n * k + 1) (clr A) := .of (by rw [clr_len]; exact h.1) (zl_clr h)
theorem natsr_dens (A : List Rat) {i : Nat} (h : i < A.length) : ((dens A).take (i + 1)).map wd = ((dens A).take i).map wd ++ [wd (cfq A i).den] := by
  rw [List.take_add_one, List.getElem?_eq_getElem (by rw [dens_len]; exact h), List.map_append]
  have e : (dens A)[i]'(by rw [dens_len]; exact h) = (cfq A i).den := by
    have := dens_get h
    rw [List.getD, List.getElem?_eq_getElem (by rw [dens_len]; exact h), Option.getD_some] at this
    exact this
  simp only [Option.toList, List.map_cons, List.map_nil, e]

theorem qclear_ok (p : List RQ) (n k : Nat) (hp : GQ n k p) (hn : n ≤ 2 ^ 28) (hM : n * k + k + 2 ≤ 2 ^ 34) : AC Tryz.prog 29 [cqw p] none [cl (wd (cden (trimq (qvs p)))), cw ((clr (trimq (qvs p))).map canon), ci 0] := by
  have nm := qpnorm_ok p (hp.mono (by omega) (by omega))
  have hA := hp.qb.trimq
  refine AC.by_walk (rs := [.tmp 2, .tmp 3, .tmp 4]) ords Tryz.func29 (by rfl) (by rfl) (by rfl) (by rfl) (by rfl) ?_
  simp (disch := omega) only [wk, tis, Int.reduceNe, Int.reduceEq, Int.reduceLT, Int.reduceLE, Int.reduceAdd, Int.reduceSub, Int.reduceNeg, Int.reduceMul, Int.reduceToNat, Nat.reduceSub, Nat.reduceMul, Nat.reduceLeDiff, Nat.reduceAdd, Nat.reduceLT, Nat.reduceEqDiff, reduceCtorEq, ↓reduceIte, rqs, natsr_len, natsr_at, natsr_snoc, natsr_app, natsr_rows, natsr_nil]
  refine call_by (nm) (by rfl) (by simp) ?_
  simp (disch := omega) only [wk, tis, Int.reduceNe, Int.reduceEq, Int.reduceLT, Int.reduceLE, Int.reduceAdd, Int.reduceSub, Int.reduceNeg, Int.reduceMul, Int.reduceToNat, Nat.reduceSub, Nat.reduceMul, Nat.reduceLeDiff, Nat.reduceAdd, Nat.reduceLT, Nat.reduceEqDiff, reduceCtorEq, ↓reduceIte, rqs, natsr_len, natsr_at, natsr_snoc, natsr_app, natsr_rows, natsr_nil]
  unfold cqs
  generalize trimq (qvs p) = A at *
  have hAl := hA.1
  have hq : (A.map crat).length = A.length := List.length_map _
  have hdl := dens_len A
  have hcl := clr_len A
  simp (disch := omega) only [wk, tis, Int.reduceNe, Int.reduceEq, Int.reduceLT, Int.reduceLE, Int.reduceAdd, Int.reduceSub, Int.reduceNeg, Int.reduceMul, Int.reduceToNat, Nat.reduceSub, Nat.reduceMul, Nat.reduceLeDiff, Nat.reduceAdd, Nat.reduceLT, Nat.reduceEqDiff, reduceCtorEq, ↓reduceIte, rqs, natsr_len, natsr_at, natsr_snoc, natsr_app, natsr_rows, natsr_nil, hq]
  refine aloop_by (fun f H => ∃ (i st26 : Nat), i ≤ A.length ∧ f 29 = .iv (.int .i64 i) ∧ f 27 = .iv (.sl (rats (A.map crat))) ∧ f 28 = .iv (.int .i64 A.length) ∧ f 5 = .iv (.sl (rats (A.map crat))) ∧ f 7 = .hs 26 st26 ∧ H 26 = .blk false st26 27 1 (natsr (((dens A).take i).map wd))) (fun f H => (A.length - intAt f 29).toNat) ?_ ?_
  · refine ⟨0, 1, by omega, ?_⟩
    simp (disch := omega) only [wk, tis, Int.reduceNe, Int.reduceEq, Int.reduceLT, Int.reduceLE, Int.reduceAdd, Int.reduceSub, Int.reduceNeg, Int.reduceMul, Int.reduceToNat, Nat.reduceSub, Nat.reduceMul, Nat.reduceLeDiff, Nat.reduceAdd, Nat.reduceLT, Nat.reduceEqDiff, reduceCtorEq, ↓reduceIte, rqs, natsr_len, natsr_at, natsr_snoc, natsr_app, natsr_rows, natsr_nil, hq, List.take_zero, List.map_nil, Int.toNat_natCast, List.replicate_zero]
  rintro f H ⟨i, st26, hi, hF⟩
  rw [intAt_of hF.1]
  simp (disch := omega) only [wk, tis, Int.reduceNe, Int.reduceEq, Int.reduceLT, Int.reduceLE, Int.reduceAdd, Int.reduceSub, Int.reduceNeg, Int.reduceMul, Int.reduceToNat, Nat.reduceSub, Nat.reduceMul, Nat.reduceLeDiff, Nat.reduceAdd, Nat.reduceLT, Nat.reduceEqDiff, reduceCtorEq, ↓reduceIte, rqs, natsr_len, natsr_at, natsr_snoc, natsr_app, natsr_rows, natsr_nil, hF]
  refine if_by (fun hlt => ?_) (fun hlt => ?_)
  · have hlt' : i < A.length := by omega
    have hdq : (((dens A).take i).map wd).length = i := by rw [List.length_map, List.length_take]; omega
    have e := cratq_get hlt'
    have e2 : lims (crat (cfq A i)).2 = lims (wd (cfq A i).den) := rfl
    simp (disch := omega) only [wk, tis, Int.reduceNe, Int.reduceEq, Int.reduceLT, Int.reduceLE, Int.reduceAdd, Int.reduceSub, Int.reduceNeg, Int.reduceMul, Int.reduceToNat, Nat.reduceSub, Nat.reduceMul, Nat.reduceLeDiff, Nat.reduceAdd, Nat.reduceLT, Nat.reduceEqDiff, reduceCtorEq, ↓reduceIte, rqs, natsr_len, natsr_at, natsr_snoc, natsr_app, natsr_rows, natsr_nil, hF, hq, hdq, e, e2]
    refine ⟨⟨i + 1, st26 + 1, by omega, ?_⟩, by omega⟩
    rw [natsr_dens A hlt']
    (repeat' apply And.intro) <;> first | rfl | omega
  · have hie : i = A.length := by omega
    subst hie
    rw [List.take_of_length_le (by omega)] at hF
    have m := galllcm_ok (dens A) k (by omega) dens_ne hA.dens (by rw [hdl]; have := Nat.mul_le_mul_right k hA.1; omega)
    have hcd := cden_len hA
    have hcn := cden_ne A
    simp (disch := omega) only [wk, tis, Int.reduceNe, Int.reduceEq, Int.reduceLT, Int.reduceLE, Int.reduceAdd, Int.reduceSub, Int.reduceNeg, Int.reduceMul, Int.reduceToNat, Nat.reduceSub, Nat.reduceMul, Nat.reduceLeDiff, Nat.reduceAdd, Nat.reduceLT, Nat.reduceEqDiff, reduceCtorEq, ↓reduceIte, rqs, natsr_len, natsr_at, natsr_snoc, natsr_app, natsr_rows, natsr_nil, hF, hq]
    refine call_by (m) (by first | rfl | (simp only [tocvs, tocv, hF, hq]; rfl) | (simp only [tocvs, tocv, toboxes, tobox, updH_at, Nat.reduceEqDiff, ↓reduceIte, hF, hq]; rfl)) (by simp) ?_
    simp (disch := omega) only [wk, tis, Int.reduceNe, Int.reduceEq, Int.reduceLT, Int.reduceLE, Int.reduceAdd, Int.reduceSub, Int.reduceNeg, Int.reduceMul, Int.reduceToNat, Nat.reduceSub, Nat.reduceMul, Nat.reduceLeDiff, Nat.reduceAdd, Nat.reduceLT, Nat.reduceEqDiff, reduceCtorEq, ↓reduceIte, rqs, natsr_len, natsr_at, natsr_snoc, natsr_app, natsr_rows, natsr_nil, hF, hq]
    rw [show lcmL (dens A) = cden A from rfl]
    refine aloop_nil 11 11 29 2 (by simp (disch := omega) only [wk, tis, Int.reduceNe, Int.reduceEq, Int.reduceLT, Int.reduceLE, Int.reduceAdd, Int.reduceSub, Int.reduceNeg, Int.reduceMul, Int.reduceToNat, Nat.reduceSub, Nat.reduceMul, Nat.reduceLeDiff, Nat.reduceAdd, Nat.reduceLT, Nat.reduceEqDiff, reduceCtorEq, ↓reduceIte, rqs, natsr_len, natsr_at, natsr_snoc, natsr_app, natsr_rows, natsr_nil]) (fun f H => ∃ (i st : Nat), i ≤ A.length ∧ f 43 = .iv (.int .i64 i) ∧ f 41 = .iv (.sl (rats (A.map crat))) ∧ f 42 = .iv (.int .i64 A.length) ∧ f 10 = .iv (.sl (lims (wd (cden A)))) ∧ f 11 = .hs 11 st ∧ H 11 = .blk false st 29 2 (raws (((clr A).take i).map canon))) (fun f H => (A.length - intAt f 43).toNat) ?_ ?_
    · refine ⟨0, (H 11).stamp + 1, by omega, ?_⟩
      simp (disch := omega) only [wk, tis, Int.reduceNe, Int.reduceEq, Int.reduceLT, Int.reduceLE, Int.reduceAdd, Int.reduceSub, Int.reduceNeg, Int.reduceMul, Int.reduceToNat, Nat.reduceSub, Nat.reduceMul, Nat.reduceLeDiff, Nat.reduceAdd, Nat.reduceLT, Nat.reduceEqDiff, reduceCtorEq, ↓reduceIte, rqs, natsr_len, natsr_at, natsr_snoc, natsr_app, natsr_rows, natsr_nil, ghostF, ghostH, hF, hq, List.take_zero, List.map_nil]
    rintro f H ⟨i, st, hi, hF⟩
    rw [intAt_of hF.1]
    simp (disch := omega) only [wk, tis, Int.reduceNe, Int.reduceEq, Int.reduceLT, Int.reduceLE, Int.reduceAdd, Int.reduceSub, Int.reduceNeg, Int.reduceMul, Int.reduceToNat, Nat.reduceSub, Nat.reduceMul, Nat.reduceLeDiff, Nat.reduceAdd, Nat.reduceLT, Nat.reduceEqDiff, reduceCtorEq, ↓reduceIte, rqs, natsr_len, natsr_at, natsr_snoc, natsr_app, natsr_rows, natsr_nil, hF]
    refine if_by (fun hlt => ?_) (fun hlt => ?_)
    · have hlt' : i < A.length := by omega
      have hcq : (((clr A).take i).map canon).length = i := by rw [List.length_map, List.length_take]; omega
      have e := cratq_get hlt'
      have e2 : lims (crat (cfq A i)).2 = lims (wd (cfq A i).den) := rfl
      have e3 : prow (crat (cfq A i)).1 = prow (canon (cfq A i).num) := rfl
      have hc : qz (cfq A i) ≤ k := by rw [cfq_lt hlt']; exact hA.2 _ (List.getElem_mem hlt')
      have hc2 := qz_parts (cfq A i)
      have n1 := znat_ok false (cden A) (by omega)
      have n2 := znat_ok false (cfq A i).den (by omega)
      rw [sgf] at n1 n2
      have hdv : ((cfq A i).den : Int) ∣ (cden A : Int) := Int.natCast_dvd_natCast.mpr (cden_dvd hlt')
      have x := zexact_ok (canon (cden A : Int)) (canon ((cfq A i).den : Int)) ((sz_canon _).mono (by rw [zl_nat]; omega)) ((sz_canon _).mono (by rw [zl_nat]; omega)) (by rw [iv_canon]; have := (cfq A i).den_nz; omega) (by rw [iv_canon, iv_canon]; exact hdv)
      rw [iv_canon, iv_canon] at x
      have zd := zl_div hdv
      rw [zl_nat] at zd
      have w := zmul_ok (canon (cfq A i).num) (canon ((cden A : Int) / ((cfq A i).den : Int))) ((sz_canon _).mono (by omega)) ((sz_canon _).mono (by omega))
      rw [iv_canon, iv_canon, ← clr_get hlt'] at w
      simp (disch := omega) only [wk, tis, Int.reduceNe, Int.reduceEq, Int.reduceLT, Int.reduceLE, Int.reduceAdd, Int.reduceSub, Int.reduceNeg, Int.reduceMul, Int.reduceToNat, Nat.reduceSub, Nat.reduceMul, Nat.reduceLeDiff, Nat.reduceAdd, Nat.reduceLT, Nat.reduceEqDiff, reduceCtorEq, ↓reduceIte, rqs, natsr_len, natsr_at, natsr_snoc, natsr_app, natsr_rows, natsr_nil, hF, hq, hcq, e, e2, e3]
      refine ⟨tmps_by (by kernel_rfl), ?_⟩
      refine call_by (n1) (by first | rfl | (simp only [tocvs, tocv, hF, hq, hcq, e, e2, e3]; rfl) | (simp only [tocvs, tocv, toboxes, tobox, updH_at, Nat.reduceEqDiff, ↓reduceIte, hF, hq, hcq, e, e2, e3]; rfl)) (by simp) ?_
      simp (disch := omega) only [wk, tis, Int.reduceNe, Int.reduceEq, Int.reduceLT, Int.reduceLE, Int.reduceAdd, Int.reduceSub, Int.reduceNeg, Int.reduceMul, Int.reduceToNat, Nat.reduceSub, Nat.reduceMul, Nat.reduceLeDiff, Nat.reduceAdd, Nat.reduceLT, Nat.reduceEqDiff, reduceCtorEq, ↓reduceIte, rqs, natsr_len, natsr_at, natsr_snoc, natsr_app, natsr_rows, natsr_nil, hF, hq, hcq, e, e2, e3]
      refine call_by (n2) (by first | rfl | (simp only [tocvs, tocv, hF, hq, hcq, e, e2, e3]; rfl) | (simp only [tocvs, tocv, toboxes, tobox, updH_at, Nat.reduceEqDiff, ↓reduceIte, hF, hq, hcq, e, e2, e3]; rfl)) (by simp) ?_
      simp (disch := omega) only [wk, tis, Int.reduceNe, Int.reduceEq, Int.reduceLT, Int.reduceLE, Int.reduceAdd, Int.reduceSub, Int.reduceNeg, Int.reduceMul, Int.reduceToNat, Nat.reduceSub, Nat.reduceMul, Nat.reduceLeDiff, Nat.reduceAdd, Nat.reduceLT, Nat.reduceEqDiff, reduceCtorEq, ↓reduceIte, rqs, natsr_len, natsr_at, natsr_snoc, natsr_app, natsr_rows, natsr_nil, hF, hq, hcq, e, e2, e3]
      refine call_by (x) (by first | rfl | (simp only [tocvs, tocv, hF, hq, hcq, e, e2, e3]; rfl) | (simp only [tocvs, tocv, toboxes, tobox, updH_at, Nat.reduceEqDiff, ↓reduceIte, hF, hq, hcq, e, e2, e3]; rfl)) (by simp) ?_
      simp (disch := omega) only [wk, tis, Int.reduceNe, Int.reduceEq, Int.reduceLT, Int.reduceLE, Int.reduceAdd, Int.reduceSub, Int.reduceNeg, Int.reduceMul, Int.reduceToNat, Nat.reduceSub, Nat.reduceMul, Nat.reduceLeDiff, Nat.reduceAdd, Nat.reduceLT, Nat.reduceEqDiff, reduceCtorEq, ↓reduceIte, rqs, natsr_len, natsr_at, natsr_snoc, natsr_app, natsr_rows, natsr_nil, hF, hq, hcq, e, e2, e3]
      first | exact log_by (by kernel_rfl) | refine ⟨log_by (by kernel_rfl), ?_⟩
      refine call_by (w) (by first | rfl | (simp only [tocvs, tocv, hF, hq, hcq, e, e2, e3]; rfl) | (simp only [tocvs, tocv, toboxes, tobox, updH_at, Nat.reduceEqDiff, ↓reduceIte, hF, hq, hcq, e, e2, e3]; rfl)) (by simp) ?_
      simp (disch := omega) only [wk, tis, Int.reduceNe, Int.reduceEq, Int.reduceLT, Int.reduceLE, Int.reduceAdd, Int.reduceSub, Int.reduceNeg, Int.reduceMul, Int.reduceToNat, Nat.reduceSub, Nat.reduceMul, Nat.reduceLeDiff, Nat.reduceAdd, Nat.reduceLT, Nat.reduceEqDiff, reduceCtorEq, ↓reduceIte, rqs, natsr_len, natsr_at, natsr_snoc, natsr_app, natsr_rows, natsr_nil, hF, hq, hcq, e, e2, e3]
      have et := takez_snoc (q := clr A) (i := i) (by omega)
      refine ⟨⟨i + 1, st + 1, by omega, ?_⟩, by omega⟩
      rw [et, List.map_append]
      (repeat' apply And.intro) <;> first | rfl | omega
    · have hie : i = A.length := by omega
      subst hie
      rw [List.take_of_length_le (by omega)] at hF
      simp (disch := omega) only [wk, tis, Int.reduceNe, Int.reduceEq, Int.reduceLT, Int.reduceLE, Int.reduceAdd, Int.reduceSub, Int.reduceNeg, Int.reduceMul, Int.reduceToNat, Nat.reduceSub, Nat.reduceMul, Nat.reduceLeDiff, Nat.reduceAdd, Nat.reduceLT, Nat.reduceEqDiff, reduceCtorEq, ↓reduceIte, rqs, natsr_len, natsr_at, natsr_snoc, natsr_app, natsr_rows, natsr_nil, hF]
      try rfl
end Go.Proofs.YtcjnacpekbhhcaaGreat

namespace Go.Proofs.YtcjnacpekbhhcaaGreat
open Go Go.Proofs Go.AL
set_option linter.unusedSimpArgs false
set_option linter.unusedVariables false

/-! ### Over a number -/
def divl (L : List Int) (D : Int) : List Rat := L.map fun c : Int => (c : Rat) / (D : Rat)
theorem divl_len (L : List Int) (D : Int) : (divl L D).length = L.length := List.length_map _
theorem zero_divr (x : Rat) : (0 : Rat) / x = 0 := by rw [Rat.div_def, Rat.zero_mul]
theorem cfq_divl (L : List Int) (D : Int) (k : Nat) : cfq (divl L D) k = (cf L k : Rat) / (D : Rat) := by
  unfold divl cfq cf
  rw [List.getD_eq_getElem?_getD, List.getD_eq_getElem?_getD, List.getElem?_map]
  cases L[k]? with
  | none => simp only [Option.map_none, Option.getD_none]; rw [Rat.intCast_zero, zero_divr]
  | some x => rfl
theorem qz_divn {c : Int} {d M : Nat} (hd : d ≠ 0) (hc : zl c ≤ M) (hw : (wd d).length ≤ M) : qz ((c : Rat) / (((d : Nat) : Int) : Rat)) ≤ M := by
  rw [Rat.intCast_natCast, ← Rat.mkRat_eq_div]
  exact qz_mk hd hc hw
theorem QB.divl {n M : Nat} {L : List Int} {d : Nat} (h : PB n M L) (hd : d ≠ 0) (hw : (wd d).length ≤ M) : QB n M (divl L (d : Int)) := .of (by rw [divl_len]; exact h.1) fun i => by
  rw [cfq_divl]
  exact qz_divn hd (h.cf i) hw

theorem qover_ok (L : List Int) (d e : Nat) (hL : PB (2 ^ 31) (2 ^ 37) L) (hd : (wd d).length ≤ 2 ^ 35) (he : (wd e).length ≤ 2 ^ 35) (hd0 : d ≠ 0) (he0 : e ≠ 0) : AC Tryz.prog 73 [cw (L.map canon), cl (wd d), cl (wd e)] none [cqp (divl L ((d * e : Nat) : Int)), ci 0] := by
  have hl := hL.1
  have hq : (L.map canon).length = L.length := List.length_map _
  have hrl := divl_len L ((d * e : Nat) : Int)
  have n1 := znat_ok false d (by omega)
  have n2 := znat_ok false e (by omega)
  rw [sgf] at n1 n2
  have m := zmul_ok (canon (d : Int)) (canon (e : Int)) ((sz_canon _).mono (by rw [zl_nat]; omega)) ((sz_canon _).mono (by rw [zl_nat]; omega))
  rw [iv_canon, iv_canon, ← Int.natCast_mul] at m
  have hde : d * e ≠ 0 := Nat.mul_ne_zero hd0 he0
  have hw : (wd (d * e)).length ≤ 2 ^ 35 + 2 ^ 35 := wd_len2 hd he
  have hR : QB (2 ^ 40) (2 ^ 38) (divl L ((d * e : Nat) : Int)) := (QB.divl hL hde (by omega)).mono (by omega) (by omega)
  refine AC.by_walk (rs := [.tmp 6, .tmp 7]) ords Tryz.func73 (by rfl) (by rfl) (by rfl) (by rfl) (by rfl) ?_
  simp (disch := omega) only [wk, tis, Int.reduceNe, Int.reduceEq, Int.reduceLT, Int.reduceLE, Int.reduceAdd, Int.reduceSub, Int.reduceNeg, Int.reduceMul, Int.reduceToNat, Nat.reduceSub, Nat.reduceMul, Nat.reduceLeDiff, Nat.reduceAdd, Nat.reduceLT, Nat.reduceEqDiff, reduceCtorEq, ↓reduceIte, rqs]
  refine call_by (n1) (by rfl) (by simp) ?_
  simp (disch := omega) only [wk, tis, Int.reduceNe, Int.reduceEq, Int.reduceLT, Int.reduceLE, Int.reduceAdd, Int.reduceSub, Int.reduceNeg, Int.reduceMul, Int.reduceToNat, Nat.reduceSub, Nat.reduceMul, Nat.reduceLeDiff, Nat.reduceAdd, Nat.reduceLT, Nat.reduceEqDiff, reduceCtorEq, ↓reduceIte, rqs]
  refine call_by (n2) (by rfl) (by simp) ?_
  simp (disch := omega) only [wk, tis, Int.reduceNe, Int.reduceEq, Int.reduceLT, Int.reduceLE, Int.reduceAdd, Int.reduceSub, Int.reduceNeg, Int.reduceMul, Int.reduceToNat, Nat.reduceSub, Nat.reduceMul, Nat.reduceLeDiff, Nat.reduceAdd, Nat.reduceLT, Nat.reduceEqDiff, reduceCtorEq, ↓reduceIte, rqs]
  refine call_by (m) (by rfl) (by simp) ?_
  simp (disch := omega) only [wk, tis, Int.reduceNe, Int.reduceEq, Int.reduceLT, Int.reduceLE, Int.reduceAdd, Int.reduceSub, Int.reduceNeg, Int.reduceMul, Int.reduceToNat, Nat.reduceSub, Nat.reduceMul, Nat.reduceLeDiff, Nat.reduceAdd, Nat.reduceLT, Nat.reduceEqDiff, reduceCtorEq, ↓reduceIte, rqs]
  refine aloop_nil 9 9 31 3 (by simp (disch := omega) only [wk, tis, Int.reduceNe, Int.reduceEq, Int.reduceLT, Int.reduceLE, Int.reduceAdd, Int.reduceSub, Int.reduceNeg, Int.reduceMul, Int.reduceToNat, Nat.reduceSub, Nat.reduceMul, Nat.reduceLeDiff, Nat.reduceAdd, Nat.reduceLT, Nat.reduceEqDiff, reduceCtorEq, ↓reduceIte, rqs]) (fun f H => ∃ (i st st8 : Nat), i ≤ L.length ∧ f 21 = .iv (.int .i64 i) ∧ f 19 = .iv (.sl (raws (L.map canon))) ∧ f 20 = .iv (.int .i64 L.length) ∧ f 8 = .hp 8 st8 0 0 ∧ H 8 = .blk false st8 29 2 [prow (canon ((d * e : Nat) : Int))] ∧ f 9 = .hs 9 st ∧ H 9 = .blk false st 31 3 (rats (((divl L ((d * e : Nat) : Int)).take i).map crat))) (fun f H => (L.length - intAt f 21).toNat) ?_ ?_
  · refine ⟨0, 1, 1, by omega, ?_⟩
    simp (disch := omega) only [wk, tis, Int.reduceNe, Int.reduceEq, Int.reduceLT, Int.reduceLE, Int.reduceAdd, Int.reduceSub, Int.reduceNeg, Int.reduceMul, Int.reduceToNat, Nat.reduceSub, Nat.reduceMul, Nat.reduceLeDiff, Nat.reduceAdd, Nat.reduceLT, Nat.reduceEqDiff, reduceCtorEq, ↓reduceIte, rqs, ghostF, ghostH, hq, List.take_zero, List.map_nil]
  rintro f H ⟨i, st, st8, hi, hF⟩
  rw [intAt_of hF.1]
  simp (disch := omega) only [wk, tis, Int.reduceNe, Int.reduceEq, Int.reduceLT, Int.reduceLE, Int.reduceAdd, Int.reduceSub, Int.reduceNeg, Int.reduceMul, Int.reduceToNat, Nat.reduceSub, Nat.reduceMul, Nat.reduceLeDiff, Nat.reduceAdd, Nat.reduceLT, Nat.reduceEqDiff, reduceCtorEq, ↓reduceIte, rqs, hF]
  refine if_by (fun hlt => ?_) (fun hlt => ?_)
  · have hlt' : i < L.length := by omega
    have hrq : (((divl L ((d * e : Nat) : Int)).take i).map crat).length = i := by rw [List.length_map, List.length_take]; omega
    have e1 := canon_getD L i
    have hz := hL.cf i
    have k := qmake_ok (canon (cf L i)) (canon ((d * e : Nat) : Int)) ((sz_canon _).mono (by omega)) ((sz_canon _).mono (by rw [zl_nat]; omega)) (by rw [iv_canon]; omega)
    rw [iv_canon, iv_canon, ← cfq_divl] at k
    simp (disch := omega) only [wk, tis, Int.reduceNe, Int.reduceEq, Int.reduceLT, Int.reduceLE, Int.reduceAdd, Int.reduceSub, Int.reduceNeg, Int.reduceMul, Int.reduceToNat, Nat.reduceSub, Nat.reduceMul, Nat.reduceLeDiff, Nat.reduceAdd, Nat.reduceLT, Nat.reduceEqDiff, reduceCtorEq, ↓reduceIte, rqs, hF, hq, hrq, e1]
    refine call_by (k) (by first | rfl | (simp only [tocvs, tocv, hF, hq, hrq, e1]; rfl) | (simp only [tocvs, tocv, toboxes, tobox, updH_at, Nat.reduceEqDiff, ↓reduceIte, hF, hq, hrq, e1]; rfl)) (by simp) ?_
    simp (disch := omega) only [wk, tis, Int.reduceNe, Int.reduceEq, Int.reduceLT, Int.reduceLE, Int.reduceAdd, Int.reduceSub, Int.reduceNeg, Int.reduceMul, Int.reduceToNat, Nat.reduceSub, Nat.reduceMul, Nat.reduceLeDiff, Nat.reduceAdd, Nat.reduceLT, Nat.reduceEqDiff, reduceCtorEq, ↓reduceIte, rqs, hF, hq, hrq, e1]
    have et := takeq_snoc (q := divl L ((d * e : Nat) : Int)) (i := i) (by omega)
    refine ⟨⟨i + 1, st + 1, st8, by omega, ?_⟩, by omega⟩
    rw [et, List.map_append]
    (repeat' apply And.intro) <;> first | rfl | omega
  · simp (disch := omega) only [wk, tis, Int.reduceNe, Int.reduceEq, Int.reduceLT, Int.reduceLE, Int.reduceAdd, Int.reduceSub, Int.reduceNeg, Int.reduceMul, Int.reduceToNat, Nat.reduceSub, Nat.reduceMul, Nat.reduceLeDiff, Nat.reduceAdd, Nat.reduceLT, Nat.reduceEqDiff, reduceCtorEq, ↓reduceIte, rqs, hF]
    rw [List.take_of_length_le (by omega)] at hF
    have m := qtrim_own _ hR
    refine call_by (m) (by first | rfl | (simp only [tocvs, tocv, hF]; rfl) | (simp only [tocvs, tocv, toboxes, tobox, updH_at, Nat.reduceEqDiff, ↓reduceIte, hF]; rfl)) (by simp) ?_
    simp (disch := omega) only [wk, tis, Int.reduceNe, Int.reduceEq, Int.reduceLT, Int.reduceLE, Int.reduceAdd, Int.reduceSub, Int.reduceNeg, Int.reduceMul, Int.reduceToNat, Nat.reduceSub, Nat.reduceMul, Nat.reduceLeDiff, Nat.reduceAdd, Nat.reduceLT, Nat.reduceEqDiff, reduceCtorEq, ↓reduceIte, rqs, hF]

/-! ### The product -/
theorem cv_cast (g : Nat → Int) : ∀ (p : List Int) (k : Nat), ((cv p g k : Int) : Rat) = cvq (qp p) (fun j => (g j : Rat)) k
  | [], k => by simp only [cv, qp, List.map_nil, cvq]; rfl
  | x :: xs, 0 => by
    have e : qp (x :: xs) = (x : Rat) :: qp xs := rfl
    rw [e]
    simp only [cv, cvq]
    rw [Int.add_zero, Rat.intCast_mul, Rat.add_zero]
  | x :: xs, k + 1 => by
    have e : qp (x :: xs) = (x : Rat) :: qp xs := rfl
    have ih := cv_cast g xs k
    rw [e]
    simp only [cv, cvq]
    rw [Rat.intCast_add, Rat.intCast_mul, ih]
theorem cfq_qp_pmul (x y : List Int) (k : Nat) : cfq (qp (pmul x y)) k = cfq (mulq (qp x) (qp y)) k := by
  rw [cfq_qp, cf_pmul, cfq_mulq, cv_cast]
  exact cvq_congr _ _ fun j => (cfq_qp y j).symm
theorem pq_clr (A : List Rat) : pq (qp (clr A)) = PQ.C (cden A : Rat) * pq A := PQ.ext fun k => by
  rw [PQ.C_mul_c, pq_c, pq_c, cfq_qp, cf_clr, Rat.mul_comm]
theorem cfq_clear_mul (A B : List Rat) (k : Nat) : cfq (divl (trimz (pmul (clr A) (clr B))) ((cden A * cden B : Nat) : Int)) k = cfq (mulq A B) k := by
  have h1 := natr_ne (cden_ne A)
  have h2 := natr_ne (cden_ne B)
  rw [cfq_divl, cf_trimz, ← cfq_qp, cfq_qp_pmul]
  have e : pq (mulq (qp (clr A)) (qp (clr B))) = PQ.C ((cden A : Rat) * (cden B : Rat)) * pq (mulq A B) := by
    rw [pq_mulq, pq_clr, pq_clr, PQ.C_mul, pq_mulq]
    ac_rfl
  have e2 := congrArg (fun f => PQ.c f k) e
  simp only [PQ.C_mul_c, pq_c] at e2
  rw [e2, Rat.intCast_natCast, Rat.natCast_mul]
  grind
theorem mulq_def (A B : List Rat) : mulq A B = (List.range (A.length + B.length)).map (cvq A (cfq B)) := rfl
/-- .. and its size. -/
theorem QB.mulq {n k M : Nat} {A B : List Rat} (hA : QB n k A) (hB : QB n k B) (hn : n < W) (hM : n * k + k + 1 ≤ M) (hk : 1 ≤ k) : QB (2 * n) (2 * M + 1) (mulq A B) := by
  have pA := hA.clr.mono (n' := n) (k' := M) (Nat.le_refl _) (by omega)
  have pB := hB.clr.mono (n' := n) (k' := M) (Nat.le_refl _) (by omega)
  have pm := (pA.pmul pB hn).trimz
  have c1 := cden_len hA
  have c2 := cden_len hB
  have hw : (wd (cden A * cden B)).length ≤ M + M := wd_len2 (by omega) (by omega)
  have q := QB.divl (pm.mono (n' := n + n) (k' := M + M + 1) (Nat.le_refl _) (by omega)) (Nat.mul_ne_zero (cden_ne A) (cden_ne B)) (by omega)
  refine .of (by simp only [mulq_def, List.length_map, List.length_range]; have := hA.1; have := hB.1; omega) fun i => ?_
  rw [← cfq_clear_mul]
  have := q.cz (by omega) i
  omega
theorem mulq_trim (A B : List Rat) (k : Nat) : cfq (mulq (trimq A) (trimq B)) k = cfq (mulq A B) k := mulq_congr (cfq_trimq A) (cfq_trimq B) k
theorem mulq_nil {A B : List Rat} (h : trimq A = [] ∨ trimq B = []) : cqs (mulq A B) = [] := by
  have hz : ∀ k, cfq (mulq A B) k = 0 := fun k => by
    rw [← mulq_trim]
    rcases h with h | h
    · rw [h, cfq_mulq]; rfl
    · rw [h, cfq_mulq, cvq_none]
  have : tzq (mulq A B) = 0 := tzq_zero_iff.mpr hz
  rw [cqs, show trimq (mulq A B) = [] by rw [trimq, this, List.take_zero]]; rfl

theorem qpmul_ok (p q : List RQ) (n k : Nat) (hp : GQ n k p) (hq : GQ n k q) (hn : n ≤ 2 ^ 28) (hM : n * k + k + 2 ≤ 2 ^ 34) (hk : 1 ≤ k) : AC Tryz.prog 24 [cqw p, cqw q] none [cqp (mulq (qvs p) (qvs q)), ci 0] := by
  have m := qboth_ok p q (hp.mono (by omega) (by omega)) (hq.mono (by omega) (by omega))
  have hA := hp.qb.trimq
  have hB := hq.qb.trimq
  have e : cqp (mulq (qvs p) (qvs q)) = cqp (mulq (trimq (qvs p)) (trimq (qvs q))) := congrArg cqw (cqs_ext fun k => (mulq_trim _ _ k).symm)
  have tA := trimq_trimq (qvs p)
  have tB := trimq_trimq (qvs q)
  rw [e]
  refine AC.by_walk (rs := [.tmp 4, .tmp 5]) ords Tryz.func24 (by rfl) (by rfl) (by rfl) (by rfl) (by rfl) ?_
  simp (disch := omega) only [wk, tis, Int.reduceNe, Int.reduceEq, Int.reduceLT, Int.reduceLE, Int.reduceAdd, Int.reduceSub, Int.reduceNeg, Int.reduceMul, Int.reduceToNat, Nat.reduceSub, Nat.reduceMul, Nat.reduceLeDiff, Nat.reduceAdd, Nat.reduceLT, Nat.reduceEqDiff, reduceCtorEq, ↓reduceIte, rqs]
  refine call_by (m) (by rfl) (by simp) ?_
  simp (disch := omega) only [wk, tis, Int.reduceNe, Int.reduceEq, Int.reduceLT, Int.reduceLE, Int.reduceAdd, Int.reduceSub, Int.reduceNeg, Int.reduceMul, Int.reduceToNat, Nat.reduceSub, Nat.reduceMul, Nat.reduceLeDiff, Nat.reduceAdd, Nat.reduceLT, Nat.reduceEqDiff, reduceCtorEq, ↓reduceIte, rqs]
  unfold cqs
  generalize trimq (qvs p) = A at *
  generalize trimq (qvs q) = B at *
  have hqa : (A.map crat).length = A.length := List.length_map _
  have hqb : (B.map crat).length = B.length := List.length_map _
  by_cases ha : A.length = 0
  · have ha' : ((A.map crat).length : Int) = 0 := by omega
    have hn := mulq_nil (A := A) (B := B) (.inl (by rw [tA]; exact List.length_eq_zero_iff.mp ha))
    rw [show cqp (mulq A B) = cqw [] from congrArg cqw hn]
    simp (disch := omega) only [wk, tis, Int.reduceNe, Int.reduceEq, Int.reduceLT, Int.reduceLE, Int.reduceAdd, Int.reduceSub, Int.reduceNeg, Int.reduceMul, Int.reduceToNat, Nat.reduceSub, Nat.reduceMul, Nat.reduceLeDiff, Nat.reduceAdd, Nat.reduceLT, Nat.reduceEqDiff, reduceCtorEq, ↓reduceIte, rqs, ha']
    try rfl
  have ha' : ¬ ((A.map crat).length : Int) = 0 := by omega
  by_cases hb : B.length = 0
  · have hb' : ((B.map crat).length : Int) = 0 := by omega
    have hn := mulq_nil (A := A) (B := B) (.inr (by rw [tB]; exact List.length_eq_zero_iff.mp hb))
    rw [show cqp (mulq A B) = cqw [] from congrArg cqw hn]
    simp (disch := omega) only [wk, tis, Int.reduceNe, Int.reduceEq, Int.reduceLT, Int.reduceLE, Int.reduceAdd, Int.reduceSub, Int.reduceNeg, Int.reduceMul, Int.reduceToNat, Nat.reduceSub, Nat.reduceMul, Nat.reduceLeDiff, Nat.reduceAdd, Nat.reduceLT, Nat.reduceEqDiff, reduceCtorEq, ↓reduceIte, rqs, ha', hb']
    try rfl
  have hb' : ¬ ((B.map crat).length : Int) = 0 := by omega
  have c1 := qclear_ok (A.map crat) n k hA.gq hn hM
  have c2 := qclear_ok (B.map crat) n k hB.gq hn hM
  rw [qvs_map, tA] at c1
  rw [qvs_map, tB] at c2
  have pA := hA.clr.mono (n' := 2 ^ 30) (k' := 2 ^ 35) (by omega) (by omega)
  have pB := hB.clr.mono (n' := 2 ^ 30) (k' := 2 ^ 35) (by omega) (by omega)
  have z := pmul_ok ((clr A).map canon) ((clr B).map canon) (RP.canon pA) (RP.canon pB)
  rw [pv_canon, pv_canon] at z
  have l1 := cden_len hA
  have l2 := cden_len hB
  have pm := (pA.pmul pB (by decide)).trimz
  have o := qover_ok (trimz (pmul (clr A) (clr B))) (cden A) (cden B) (pm.mono (by omega) (by omega)) (by omega) (by omega) (cden_ne A) (cden_ne B)
  have ee : cqs (divl (trimz (pmul (clr A) (clr B))) ((cden A * cden B : Nat) : Int)) = cqs (mulq A B) := cqs_ext (cfq_clear_mul A B)
  rw [show cqp (divl (trimz (pmul (clr A) (clr B))) ((cden A * cden B : Nat) : Int)) = cqw (cqs (mulq A B)) from congrArg cqw ee] at o
  simp (disch := omega) only [wk, tis, Int.reduceNe, Int.reduceEq, Int.reduceLT, Int.reduceLE, Int.reduceAdd, Int.reduceSub, Int.reduceNeg, Int.reduceMul, Int.reduceToNat, Nat.reduceSub, Nat.reduceMul, Nat.reduceLeDiff, Nat.reduceAdd, Nat.reduceLT, Nat.reduceEqDiff, reduceCtorEq, ↓reduceIte, rqs, ha', hb']
  refine call_by (c1) (by rfl) (by simp) ?_
  simp (disch := omega) only [wk, tis, Int.reduceNe, Int.reduceEq, Int.reduceLT, Int.reduceLE, Int.reduceAdd, Int.reduceSub, Int.reduceNeg, Int.reduceMul, Int.reduceToNat, Nat.reduceSub, Nat.reduceMul, Nat.reduceLeDiff, Nat.reduceAdd, Nat.reduceLT, Nat.reduceEqDiff, reduceCtorEq, ↓reduceIte, rqs]
  refine call_by (c2) (by rfl) (by simp) ?_
  simp (disch := omega) only [wk, tis, Int.reduceNe, Int.reduceEq, Int.reduceLT, Int.reduceLE, Int.reduceAdd, Int.reduceSub, Int.reduceNeg, Int.reduceMul, Int.reduceToNat, Nat.reduceSub, Nat.reduceMul, Nat.reduceLeDiff, Nat.reduceAdd, Nat.reduceLT, Nat.reduceEqDiff, reduceCtorEq, ↓reduceIte, rqs]
  refine call_by (z) (by rfl) (by simp) ?_
  simp (disch := omega) only [wk, tis, Int.reduceNe, Int.reduceEq, Int.reduceLT, Int.reduceLE, Int.reduceAdd, Int.reduceSub, Int.reduceNeg, Int.reduceMul, Int.reduceToNat, Nat.reduceSub, Nat.reduceMul, Nat.reduceLeDiff, Nat.reduceAdd, Nat.reduceLT, Nat.reduceEqDiff, reduceCtorEq, ↓reduceIte, rqs]
  refine call_by (o) (by rfl) (by simp) ?_
  simp (disch := omega) only [wk, tis, Int.reduceNe, Int.reduceEq, Int.reduceLT, Int.reduceLE, Int.reduceAdd, Int.reduceSub, Int.reduceNeg, Int.reduceMul, Int.reduceToNat, Nat.reduceSub, Nat.reduceMul, Nat.reduceLeDiff, Nat.reduceAdd, Nat.reduceLT, Nat.reduceEqDiff, reduceCtorEq, ↓reduceIte, rqs]
  try rfl
end Go.Proofs.YtcjnacpekbhhcaaGreat

namespace Go.Proofs.YtcjnacpekbhhcaaGreat
open Go Go.Proofs Go.AL
set_option linter.unusedSimpArgs false
set_option linter.unusedVariables false

end Go.Proofs.YtcjnacpekbhhcaaGreat

namespace Go.Proofs.YtcjnacpekbhhcaaGreat
open Go Go.Proofs Go.AL
set_option linter.unusedSimpArgs false
set_option linter.unusedVariables false

def rowsAt (f : Fr) (t : Nat) : Nat := match f t with
  | .iv (.sl rows) => rows.length
  | _ => 0

end Go.Proofs.YtcjnacpekbhhcaaGreat
