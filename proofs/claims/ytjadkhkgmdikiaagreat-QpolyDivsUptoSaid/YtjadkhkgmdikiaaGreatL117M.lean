/-
  Contracts of the functions that the law reaches.
-/
import Derived.Test.YtjadkhkgmdikiaaGreatL103M
import Derived.Test.YtjadkhkgmdikiaaGreatAbsT
namespace Go.Proofs.YtjadkhkgmdikiaaGreat
open Go Go.Proofs Go.AL
set_option linter.unusedSimpArgs false
set_option linter.unusedVariables false

theorem readsB_rat {bk : {H : Type} → DataW H → Nat} {P : Program} {w : World} {t : TypeId} (h : ReadsB bk P w (fun c : (RI × (List Nat × Unit)) => prow c.1 ++ ([.sl (lims c.2.1)] ++ [])) (fun N c => Sz N c.1 ∧ ((c.2.1.length ≤ N ∧ Lim c.2.1) ∧ True)) t) : ReadsB bk P w qrow (fun N => SzQ N) t := fun enc sp held fuel cs x N hx hN => by
  obtain ⟨a, f, e⟩ := h enc sp held fuel cs x N hx hN
  exact ⟨(a.1, a.2.1), ⟨f.1, f.2.1⟩, e⟩


end Go.Proofs.YtjadkhkgmdikiaaGreat

namespace Go.Proofs.YtjadkhkgmdikiaaGreat
open Go Go.Proofs Go.AL
set_option linter.unusedSimpArgs false
set_option linter.unusedVariables false

theorem take_min40 {α : Type} (l : List α) : l.take (min (l.length : Int) 40).toNat = l.take 40 := by
  rcases Nat.le_total l.length 40 with h | h
  · rw [List.take_of_length_le (i := 40) h, List.take_of_length_le (by omega)]
  · congr 1; omega
theorem few10_ok (p : List RQ) (hl : p.length ≤ 9223372036854775807) : AC Tryz.prog 31 [cqw p] none [cqw (p.take 40)] := by
  have e := take_min40 p
  refine AC.by_walk (rs := [.tmp 2]) ords Tryz.func31 (by rfl) (by rfl) (by rfl) (by rfl) (by rfl) ?_
  simp (disch := omega) only [wk, tis, Int.reduceNe, Int.reduceEq, Int.reduceLT, Int.reduceLE, Int.reduceAdd, Int.reduceSub, Int.reduceNeg, Int.reduceMul, Int.reduceToNat, Nat.reduceSub, Nat.reduceMul, Nat.reduceLeDiff, Nat.reduceAdd, Nat.reduceLT, Nat.reduceEqDiff, reduceCtorEq, ↓reduceIte, rqs, ilims_len, ilims_at, e]
  try rfl
theorem BQ.few {n k : Nat} {p : List RQ} (h : BQ n k p) : BQ 40 k (p.take 40) := ⟨by rw [List.length_take]; omega, fun r hr => h.2 r (List.mem_of_mem_take hr)⟩

/-! ### Derivative, integral -/
theorem qz_nat1 {i : Nat} (h : i < W) : qz (((i : Nat) : Int) : Rat) ≤ 1 := by
  have h1 := qz_int (i : Int)
  have h2 : zl (i : Int) ≤ 1 := zl_w (by simpa using h)
  omega
theorem derq_len (A : List Rat) : (derq A).length = A.length - 1 := by simp [derq]
theorem derq_trim (A : List Rat) : cqs (derq (trimq A)) = cqs (derq A) := cqs_ext fun k => by rw [cfq_derq, cfq_derq, cfq_trimq]
theorem QB.derq {n k : Nat} {A : List Rat} (h : QB n k A) (hn : n ≤ 2 ^ 40) (hk : 1 ≤ k) : QB n (k + 1) (derq A) := .of (by rw [derq_len]; have := h.1; omega) fun i => by
  by_cases hi : i + 1 < A.length
  · rw [cfq_derq, ← Rat.intCast_natCast]
    have h1 := qz_mul (cfq A (i + 1)) (((i + 1 : Nat) : Int) : Rat)
    have h2 := h.cz hk (i + 1)
    have h3 := qz_nat1 (i := i + 1) (by have := h.1; simp only [W]; omega)
    omega
  · rw [cfq_ge (by rw [derq_len]; omega), qz_zero]; omega

theorem qderiv_ok (p : List RQ) (n k : Nat) (h : GQ n k p) (hn : n ≤ 2 ^ 40) (hk : k ≤ 2 ^ 34) (hk1 : 1 ≤ k) : AC Tryz.prog 64 [cqw p] none [cqp (derq (qvs p)), ci 0] := by
  have nm := qpnorm_ok p (h.mono hn (by omega))
  have hA := h.qb.trimq
  rw [show cqp (derq (qvs p)) = cqp (derq (trimq (qvs p))) from congrArg cqw (derq_trim _).symm]
  refine AC.by_walk (rs := [.tmp 2, .tmp 3]) ords Tryz.func64 (by rfl) (by rfl) (by rfl) (by rfl) (by rfl) ?_
  simp (disch := omega) only [wk, tis, Int.reduceNe, Int.reduceEq, Int.reduceLT, Int.reduceLE, Int.reduceAdd, Int.reduceSub, Int.reduceNeg, Int.reduceMul, Int.reduceToNat, Nat.reduceSub, Nat.reduceMul, Nat.reduceLeDiff, Nat.reduceAdd, Nat.reduceLT, Nat.reduceEqDiff, reduceCtorEq, ↓reduceIte, rqs, ilims_len, ilims_at]
  refine call_by (nm) (by rfl) (by simp) ?_
  simp (disch := omega) only [wk, tis, Int.reduceNe, Int.reduceEq, Int.reduceLT, Int.reduceLE, Int.reduceAdd, Int.reduceSub, Int.reduceNeg, Int.reduceMul, Int.reduceToNat, Nat.reduceSub, Nat.reduceMul, Nat.reduceLeDiff, Nat.reduceAdd, Nat.reduceLT, Nat.reduceEqDiff, reduceCtorEq, ↓reduceIte, rqs, ilims_len, ilims_at]
  unfold cqs
  generalize trimq (qvs p) = A at *
  have hAl := hA.1
  have hq : (A.map crat).length = A.length := List.length_map _
  have hdl := derq_len A
  have hD := hA.derq hn hk1
  have t := qtrim_own (derq A) (hD.mono (by omega) (by omega))
  refine aloop_nil 6 6 31 3 (by simp (disch := omega) only [wk, tis, Int.reduceNe, Int.reduceEq, Int.reduceLT, Int.reduceLE, Int.reduceAdd, Int.reduceSub, Int.reduceNeg, Int.reduceMul, Int.reduceToNat, Nat.reduceSub, Nat.reduceMul, Nat.reduceLeDiff, Nat.reduceAdd, Nat.reduceLT, Nat.reduceEqDiff, reduceCtorEq, ↓reduceIte, rqs, ilims_len, ilims_at]) (fun f H => ∃ (i st : Nat), i ≤ A.length - 1 ∧ f 7 = .iv (.int .i64 ((i : Int) + 1)) ∧ f 4 = .iv (.sl (rats (A.map crat))) ∧ f 6 = .hs 6 st ∧ H 6 = .blk false st 31 3 (rats (((derq A).take i).map crat))) (fun f H => (A.length - intAt f 7).toNat) ?_ ?_
  · refine ⟨0, 1, by omega, ?_⟩
    simp (disch := omega) only [wk, tis, Int.reduceNe, Int.reduceEq, Int.reduceLT, Int.reduceLE, Int.reduceAdd, Int.reduceSub, Int.reduceNeg, Int.reduceMul, Int.reduceToNat, Nat.reduceSub, Nat.reduceMul, Nat.reduceLeDiff, Nat.reduceAdd, Nat.reduceLT, Nat.reduceEqDiff, reduceCtorEq, ↓reduceIte, rqs, ilims_len, ilims_at, ghostF, ghostH, List.take_zero, List.map_nil, show ((0 : Nat) : Int) + 1 = 1 from rfl]
  rintro f H ⟨i, st, hi, hF⟩
  rw [intAt_of hF.1]
  simp (disch := omega) only [wk, tis, Int.reduceNe, Int.reduceEq, Int.reduceLT, Int.reduceLE, Int.reduceAdd, Int.reduceSub, Int.reduceNeg, Int.reduceMul, Int.reduceToNat, Nat.reduceSub, Nat.reduceMul, Nat.reduceLeDiff, Nat.reduceAdd, Nat.reduceLT, Nat.reduceEqDiff, reduceCtorEq, ↓reduceIte, rqs, ilims_len, ilims_at, hF]
  refine if_by (fun hlt => ?_) (fun hlt => ?_)
  · rw [hq] at hlt
    have hlt' : i + 1 < A.length := by omega
    have hrq : (((derq A).take i).map crat).length = i := by rw [List.length_map, List.length_take]; omega
    have e := cratq_get hlt'
    have ei : ((i : Int) + 1) = ((i + 1 : Nat) : Int) := by omega
    have o := qof_ok ((i + 1 : Nat) : Int) 1 (by omega) (by omega) (by omega) (by omega) (by omega)
    rw [Rat.intCast_one, show (((i + 1 : Nat) : Int) : Rat) / 1 = (((i + 1 : Nat) : Int) : Rat) by grind] at o
    have z1 := hA.cz hk1 (i + 1)
    have z2 := qz_nat1 (i := i + 1) (by simp only [W]; omega)
    have m := qmul_ok (crat (cfq A (i + 1))) (crat (((i + 1 : Nat) : Int) : Rat)) (szq_crat (by omega)) (szq_crat (by omega)) (nv_crat0 _) (nv_crat0 _)
    rw [qv_crat, qv_crat, show cfq A (i + 1) * (((i + 1 : Nat) : Int) : Rat) = cfq (derq A) i by rw [cfq_derq, Rat.intCast_natCast]] at m
    rw [ei] at hF
    simp (disch := omega) only [wk, tis, Int.reduceNe, Int.reduceEq, Int.reduceLT, Int.reduceLE, Int.reduceAdd, Int.reduceSub, Int.reduceNeg, Int.reduceMul, Int.reduceToNat, Nat.reduceSub, Nat.reduceMul, Nat.reduceLeDiff, Nat.reduceAdd, Nat.reduceLT, Nat.reduceEqDiff, reduceCtorEq, ↓reduceIte, rqs, ilims_len, ilims_at, hF, hq, hrq, e, ei]
    refine call_by (o) (by first | rfl | (simp only [tocvs, tocv, hF, hq, hrq, e, ei]; rfl) | (simp only [tocvs, tocv, toboxes, tobox, updH_at, Nat.reduceEqDiff, ↓reduceIte, hF, hq, hrq, e, ei]; rfl)) (by simp) ?_
    simp (disch := omega) only [wk, tis, Int.reduceNe, Int.reduceEq, Int.reduceLT, Int.reduceLE, Int.reduceAdd, Int.reduceSub, Int.reduceNeg, Int.reduceMul, Int.reduceToNat, Nat.reduceSub, Nat.reduceMul, Nat.reduceLeDiff, Nat.reduceAdd, Nat.reduceLT, Nat.reduceEqDiff, reduceCtorEq, ↓reduceIte, rqs, ilims_len, ilims_at, hF, hq, hrq, e, ei]
    refine ⟨tmps_by (by kernel_rfl), ?_⟩
    refine call_by (m) (by first | rfl | (simp only [tocvs, tocv, hF, hq, hrq, e, ei]; rfl) | (simp only [tocvs, tocv, toboxes, tobox, updH_at, Nat.reduceEqDiff, ↓reduceIte, hF, hq, hrq, e, ei]; rfl)) (by simp) ?_
    simp (disch := omega) only [wk, tis, Int.reduceNe, Int.reduceEq, Int.reduceLT, Int.reduceLE, Int.reduceAdd, Int.reduceSub, Int.reduceNeg, Int.reduceMul, Int.reduceToNat, Nat.reduceSub, Nat.reduceMul, Nat.reduceLeDiff, Nat.reduceAdd, Nat.reduceLT, Nat.reduceEqDiff, reduceCtorEq, ↓reduceIte, rqs, ilims_len, ilims_at, hF, hq, hrq, e, ei]
    first | exact log_by (by kernel_rfl) | refine ⟨log_by (by kernel_rfl), ?_⟩
    have et := takeq_snoc (q := derq A) (i := i) (by omega)
    refine ⟨⟨i + 1, st + 1, by omega, ?_⟩, by omega⟩
    rw [et, List.map_append]
    (repeat' apply And.intro) <;> first | rfl | omega
  · rw [hq] at hlt
    simp (disch := omega) only [wk, tis, Int.reduceNe, Int.reduceEq, Int.reduceLT, Int.reduceLE, Int.reduceAdd, Int.reduceSub, Int.reduceNeg, Int.reduceMul, Int.reduceToNat, Nat.reduceSub, Nat.reduceMul, Nat.reduceLeDiff, Nat.reduceAdd, Nat.reduceLT, Nat.reduceEqDiff, reduceCtorEq, ↓reduceIte, rqs, ilims_len, ilims_at, hF]
    rw [List.take_of_length_le (by omega)] at hF
    refine call_by (t) (by first | rfl | (simp only [tocvs, tocv, hF]; rfl) | (simp only [tocvs, tocv, toboxes, tobox, updH_at, Nat.reduceEqDiff, ↓reduceIte, hF]; rfl)) (by simp) ?_
    simp (disch := omega) only [wk, tis, Int.reduceNe, Int.reduceEq, Int.reduceLT, Int.reduceLE, Int.reduceAdd, Int.reduceSub, Int.reduceNeg, Int.reduceMul, Int.reduceToNat, Nat.reduceSub, Nat.reduceMul, Nat.reduceLeDiff, Nat.reduceAdd, Nat.reduceLT, Nat.reduceEqDiff, reduceCtorEq, ↓reduceIte, rqs, ilims_len, ilims_at, hF]
theorem qderiv_bad (p : List RQ) (h : BQ (2 ^ 40) (2 ^ 38) p) (hg : gd p = false) : AC Tryz.prog 64 [cqw p] none [cqw [], ci 1] := by
  have n := qpnorm_bad p h hg
  refine AC.by_walk (rs := [.tmp 2, .tmp 3]) ords Tryz.func64 (by rfl) (by rfl) (by rfl) (by rfl) (by rfl) ?_
  simp (disch := omega) only [wk, tis, Int.reduceNe, Int.reduceEq, Int.reduceLT, Int.reduceLE, Int.reduceAdd, Int.reduceSub, Int.reduceNeg, Int.reduceMul, Int.reduceToNat, Nat.reduceSub, Nat.reduceMul, Nat.reduceLeDiff, Nat.reduceAdd, Nat.reduceLT, Nat.reduceEqDiff, reduceCtorEq, ↓reduceIte, rqs, ilims_len, ilims_at]
  refine call_by (n) (by rfl) (by simp) ?_
  simp (disch := omega) only [wk, tis, Int.reduceNe, Int.reduceEq, Int.reduceLT, Int.reduceLE, Int.reduceAdd, Int.reduceSub, Int.reduceNeg, Int.reduceMul, Int.reduceToNat, Nat.reduceSub, Nat.reduceMul, Nat.reduceLeDiff, Nat.reduceAdd, Nat.reduceLT, Nat.reduceEqDiff, reduceCtorEq, ↓reduceIte, rqs, ilims_len, ilims_at]
  try rfl

/-- Without a constant term. -/
def intl (A : List Rat) : List Rat := (List.range A.length).map fun i => cfq A i * (1 / (((i + 1 : Nat) : Int) : Rat))
def intq (A : List Rat) : List Rat := if A = [] then [] else 0 :: intl A
theorem intq_def (A : List Rat) : intq A = if A = [] then [] else 0 :: intl A := rfl
theorem intl_len (A : List Rat) : (intl A).length = A.length := by simp [intl]
theorem cfq_intl (A : List Rat) (i : Nat) : cfq (intl A) i = cfq A i * (1 / (((i + 1 : Nat) : Int) : Rat)) := by
  by_cases h : i < A.length
  · rw [intl, cfq, List.getD, List.getElem?_map, List.getElem?_range h]; rfl
  · rw [cfq_ge (by rw [intl_len]; omega), cfq_ge (q := A) (by omega), Rat.zero_mul]
theorem intr_ne (i : Nat) : (((i + 1 : Nat) : Int) : Rat) ≠ 0 := fun h => by have := Rat.intCast_eq_zero_iff.mp h; omega
theorem intq_trim {A : List Rat} (h : trimq A = A) : trimq (intq A) = intq A := by
  unfold intq
  split
  · rfl
  · rename_i hA
    have h0 : A.length ≠ 0 := fun e => hA (List.length_eq_zero_iff.mp e)
    have ht := trimq_full h
    have hp := cfq_tzq_pred (q := A) (by omega)
    rw [ht] at hp
    have hc : cfq (0 :: intl A) A.length ≠ 0 := by
      rw [show A.length = (A.length - 1) + 1 by omega, cfq_cons_succ, cfq_intl]
      intro e
      rcases Rat.mul_eq_zero.mp e with e | e
      · exact hp e
      · have := intr_ne (A.length - 1)
        have h1 : (1 : Rat) / (((A.length - 1 + 1 : Nat) : Int) : Rat) * (((A.length - 1 + 1 : Nat) : Int) : Rat) = 1 := Rat.div_mul_cancel this
        rw [e] at h1
        grind
    have := tzq_spec hc fun k hk => cfq_ge (by rw [List.length_cons, intl_len]; omega)
    rw [trimq, this, List.take_of_length_le (by rw [List.length_cons, intl_len]; omega)]
theorem qz_inv1 {i : Nat} (h : i + 1 < W) : qz (1 / (((i + 1 : Nat) : Int) : Rat)) ≤ 1 := by
  have := qz_divn (c := 1) (d := i + 1) (M := 1) (by omega) (zl_w (by decide)) (wd_w h)
  rwa [Rat.intCast_one] at this
theorem QB.intl {n k : Nat} {A : List Rat} (h : QB n k A) (hn : n ≤ 2 ^ 40) (hk : 1 ≤ k) : QB n (k + 1) (intl A) := .of (by rw [intl_len]; exact h.1) fun i => by
  by_cases hi : i < A.length
  · rw [cfq_intl]
    have h1 := qz_mul (cfq A i) (1 / (((i + 1 : Nat) : Int) : Rat))
    have h2 := h.cz hk i
    have h3 := qz_inv1 (i := i) (by have := h.1; simp only [W]; omega)
    omega
  · rw [cfq_ge (by rw [intl_len]; omega), qz_zero]; omega
theorem QB.intq {n k : Nat} {A : List Rat} (h : QB n k A) (hn : n ≤ 2 ^ 40) (hk : 1 ≤ k) : QB (n + 1) (k + 1) (intq A) := by
  rw [intq_def]
  split
  · exact ⟨Nat.zero_le _, fun c hc => nomatch hc⟩
  · have hi := h.intl hn hk
    refine ⟨by rw [List.length_cons, intl_len]; have := h.1; omega, fun c hc => ?_⟩
    rcases List.mem_cons.1 hc with rfl | hc
    · rw [qz_zero]; omega
    · exact hi.2 c hc

theorem qintegral_ok (p : List RQ) (n k : Nat) (h : GQ n k p) (hn : n ≤ 2 ^ 40) (hk : k ≤ 2 ^ 34) (hk1 : 1 ≤ k) : AC Tryz.prog 65 [cqw p] none [cqp (intq (trimq (qvs p))), ci 0] := by
  have nm := qpnorm_ok p (h.mono hn (by omega))
  have hA := h.qb.trimq
  have tt := trimq_trimq (qvs p)
  refine AC.by_walk (rs := [.tmp 2, .tmp 3]) ords Tryz.func65 (by rfl) (by rfl) (by rfl) (by rfl) (by rfl) ?_
  simp (disch := omega) only [wk, tis, Int.reduceNe, Int.reduceEq, Int.reduceLT, Int.reduceLE, Int.reduceAdd, Int.reduceSub, Int.reduceNeg, Int.reduceMul, Int.reduceToNat, Nat.reduceSub, Nat.reduceMul, Nat.reduceLeDiff, Nat.reduceAdd, Nat.reduceLT, Nat.reduceEqDiff, reduceCtorEq, ↓reduceIte, rqs, ilims_len, ilims_at]
  refine call_by (nm) (by rfl) (by simp) ?_
  simp (disch := omega) only [wk, tis, Int.reduceNe, Int.reduceEq, Int.reduceLT, Int.reduceLE, Int.reduceAdd, Int.reduceSub, Int.reduceNeg, Int.reduceMul, Int.reduceToNat, Nat.reduceSub, Nat.reduceMul, Nat.reduceLeDiff, Nat.reduceAdd, Nat.reduceLT, Nat.reduceEqDiff, reduceCtorEq, ↓reduceIte, rqs, ilims_len, ilims_at]
  unfold cqs
  generalize trimq (qvs p) = A at *
  have hAl := hA.1
  have hq : (A.map crat).length = A.length := List.length_map _
  have hil := intl_len A
  have hI := intq_trim tt
  by_cases h0 : A.length = 0
  · have h0' : ((A.map crat).length : Int) = 0 := by omega
    have e : A = [] := List.length_eq_zero_iff.mp h0
    rw [show cqp (intq A) = cqw [] by rw [e]; rfl]
    simp (disch := omega) only [wk, tis, Int.reduceNe, Int.reduceEq, Int.reduceLT, Int.reduceLE, Int.reduceAdd, Int.reduceSub, Int.reduceNeg, Int.reduceMul, Int.reduceToNat, Nat.reduceSub, Nat.reduceMul, Nat.reduceLeDiff, Nat.reduceAdd, Nat.reduceLT, Nat.reduceEqDiff, reduceCtorEq, ↓reduceIte, rqs, ilims_len, ilims_at, h0']
    try rfl
  · have h0' : ¬ ((A.map crat).length : Int) = 0 := by omega
    have e : intq A = 0 :: intl A := by unfold intq; rw [if_neg (fun e => h0 (by rw [e]; rfl))]
    have e2 : cqp (intq A) = cqw (crat 0 :: (intl A).map crat) := congrArg cqw (by rw [cqs, hI, e]; rfl)
    rw [e2]
    have e3 : [qrow (crat 0)] = rats (crat 0 :: ((intl A).take 0).map crat) := rfl
    simp (disch := omega) only [wk, tis, Int.reduceNe, Int.reduceEq, Int.reduceLT, Int.reduceLE, Int.reduceAdd, Int.reduceSub, Int.reduceNeg, Int.reduceMul, Int.reduceToNat, Nat.reduceSub, Nat.reduceMul, Nat.reduceLeDiff, Nat.reduceAdd, Nat.reduceLT, Nat.reduceEqDiff, reduceCtorEq, ↓reduceIte, rqs, ilims_len, ilims_at, h0']
    refine call_by (qnone_ok) (by first | rfl | (simp only [tocvs, tocv, h0']; rfl) | (simp only [tocvs, tocv, toboxes, tobox, updH_at, Nat.reduceEqDiff, ↓reduceIte, h0']; rfl)) (by simp) ?_
    simp (disch := omega) only [wk, tis, Int.reduceNe, Int.reduceEq, Int.reduceLT, Int.reduceLE, Int.reduceAdd, Int.reduceSub, Int.reduceNeg, Int.reduceMul, Int.reduceToNat, Nat.reduceSub, Nat.reduceMul, Nat.reduceLeDiff, Nat.reduceAdd, Nat.reduceLT, Nat.reduceEqDiff, reduceCtorEq, ↓reduceIte, rqs, ilims_len, ilims_at, h0']
    simp (disch := omega) only [wk, tis, Int.reduceNe, Int.reduceEq, Int.reduceLT, Int.reduceLE, Int.reduceAdd, Int.reduceSub, Int.reduceNeg, Int.reduceMul, Int.reduceToNat, Nat.reduceSub, Nat.reduceMul, Nat.reduceLeDiff, Nat.reduceAdd, Nat.reduceLT, Nat.reduceEqDiff, reduceCtorEq, ↓reduceIte, rqs, ilims_len, ilims_at, e3]
    refine aloop_by (fun f H => ∃ (i st : Nat), i ≤ A.length ∧ f 30 = .iv (.int .i64 i) ∧ f 28 = .iv (.sl (rats (A.map crat))) ∧ f 29 = .iv (.int .i64 A.length) ∧ f 6 = .hs 27 st ∧ H 27 = .blk false st 31 3 (rats (crat 0 :: ((intl A).take i).map crat))) (fun f H => (A.length - intAt f 30).toNat) ?_ ?_
    · refine ⟨0, 1, by omega, ?_⟩
      simp (disch := omega) only [wk, tis, Int.reduceNe, Int.reduceEq, Int.reduceLT, Int.reduceLE, Int.reduceAdd, Int.reduceSub, Int.reduceNeg, Int.reduceMul, Int.reduceToNat, Nat.reduceSub, Nat.reduceMul, Nat.reduceLeDiff, Nat.reduceAdd, Nat.reduceLT, Nat.reduceEqDiff, reduceCtorEq, ↓reduceIte, rqs, ilims_len, ilims_at, hq, e3]
    rintro f H ⟨i, st, hi, hF⟩
    rw [intAt_of hF.1]
    simp (disch := omega) only [wk, tis, Int.reduceNe, Int.reduceEq, Int.reduceLT, Int.reduceLE, Int.reduceAdd, Int.reduceSub, Int.reduceNeg, Int.reduceMul, Int.reduceToNat, Nat.reduceSub, Nat.reduceMul, Nat.reduceLeDiff, Nat.reduceAdd, Nat.reduceLT, Nat.reduceEqDiff, reduceCtorEq, ↓reduceIte, rqs, ilims_len, ilims_at, hF]
    refine if_by (fun hlt => ?_) (fun hlt => ?_)
    · have hlt' : i < A.length := by omega
      have hrq : (crat 0 :: ((intl A).take i).map crat).length = i + 1 := by rw [List.length_cons, List.length_map, List.length_take]; omega
      have e := cratq_get hlt'
      have ei : ((i : Int) + 1) = ((i + 1 : Nat) : Int) := by omega
      have o := qof_ok 1 ((i + 1 : Nat) : Int) (by omega) (by omega) (by omega) (by omega) (by omega)
      rw [Rat.intCast_one] at o
      have z1 := hA.cz hk1 i
      have z2 := qz_inv1 (i := i) (by simp only [W]; omega)
      have m := qmul_ok (crat (cfq A i)) (crat (1 / (((i + 1 : Nat) : Int) : Rat))) (szq_crat (by omega)) (szq_crat (by omega)) (nv_crat0 _) (nv_crat0 _)
      rw [qv_crat, qv_crat, ← cfq_intl] at m
      simp (disch := omega) only [wk, tis, Int.reduceNe, Int.reduceEq, Int.reduceLT, Int.reduceLE, Int.reduceAdd, Int.reduceSub, Int.reduceNeg, Int.reduceMul, Int.reduceToNat, Nat.reduceSub, Nat.reduceMul, Nat.reduceLeDiff, Nat.reduceAdd, Nat.reduceLT, Nat.reduceEqDiff, reduceCtorEq, ↓reduceIte, rqs, ilims_len, ilims_at, hF, hq, hrq, e, ei]
      refine call_by (o) (by first | rfl | (simp only [tocvs, tocv, hF, hq, hrq, e, ei]; rfl) | (simp only [tocvs, tocv, toboxes, tobox, updH_at, Nat.reduceEqDiff, ↓reduceIte, hF, hq, hrq, e, ei]; rfl)) (by simp) ?_
      simp (disch := omega) only [wk, tis, Int.reduceNe, Int.reduceEq, Int.reduceLT, Int.reduceLE, Int.reduceAdd, Int.reduceSub, Int.reduceNeg, Int.reduceMul, Int.reduceToNat, Nat.reduceSub, Nat.reduceMul, Nat.reduceLeDiff, Nat.reduceAdd, Nat.reduceLT, Nat.reduceEqDiff, reduceCtorEq, ↓reduceIte, rqs, ilims_len, ilims_at, hF, hq, hrq, e, ei]
      refine call_by (m) (by first | rfl | (simp only [tocvs, tocv, hF, hq, hrq, e, ei]; rfl) | (simp only [tocvs, tocv, toboxes, tobox, updH_at, Nat.reduceEqDiff, ↓reduceIte, hF, hq, hrq, e, ei]; rfl)) (by simp) ?_
      simp (disch := omega) only [wk, tis, Int.reduceNe, Int.reduceEq, Int.reduceLT, Int.reduceLE, Int.reduceAdd, Int.reduceSub, Int.reduceNeg, Int.reduceMul, Int.reduceToNat, Nat.reduceSub, Nat.reduceMul, Nat.reduceLeDiff, Nat.reduceAdd, Nat.reduceLT, Nat.reduceEqDiff, reduceCtorEq, ↓reduceIte, rqs, ilims_len, ilims_at, hF, hq, hrq, e, ei]
      have et := takeq_snoc (q := intl A) (i := i) (by omega)
      refine ⟨⟨i + 1, st + 1, by omega, ?_⟩, by omega⟩
      rw [et, List.map_append]
      (repeat' apply And.intro) <;> first | rfl | omega
    · obtain rfl : i = A.length := by omega
      rw [List.take_of_length_le (by omega)] at hF
      simp (disch := omega) only [wk, tis, Int.reduceNe, Int.reduceEq, Int.reduceLT, Int.reduceLE, Int.reduceAdd, Int.reduceSub, Int.reduceNeg, Int.reduceMul, Int.reduceToNat, Nat.reduceSub, Nat.reduceMul, Nat.reduceLeDiff, Nat.reduceAdd, Nat.reduceLT, Nat.reduceEqDiff, reduceCtorEq, ↓reduceIte, rqs, ilims_len, ilims_at, hF]
      try rfl
theorem qintegral_bad (p : List RQ) (h : BQ (2 ^ 40) (2 ^ 38) p) (hg : gd p = false) : AC Tryz.prog 65 [cqw p] none [cqw [], ci 1] := by
  have n := qpnorm_bad p h hg
  refine AC.by_walk (rs := [.tmp 2, .tmp 3]) ords Tryz.func65 (by rfl) (by rfl) (by rfl) (by rfl) (by rfl) ?_
  simp (disch := omega) only [wk, tis, Int.reduceNe, Int.reduceEq, Int.reduceLT, Int.reduceLE, Int.reduceAdd, Int.reduceSub, Int.reduceNeg, Int.reduceMul, Int.reduceToNat, Nat.reduceSub, Nat.reduceMul, Nat.reduceLeDiff, Nat.reduceAdd, Nat.reduceLT, Nat.reduceEqDiff, reduceCtorEq, ↓reduceIte, rqs, ilims_len, ilims_at]
  refine call_by (n) (by rfl) (by simp) ?_
  simp (disch := omega) only [wk, tis, Int.reduceNe, Int.reduceEq, Int.reduceLT, Int.reduceLE, Int.reduceAdd, Int.reduceSub, Int.reduceNeg, Int.reduceMul, Int.reduceToNat, Nat.reduceSub, Nat.reduceMul, Nat.reduceLeDiff, Nat.reduceAdd, Nat.reduceLT, Nat.reduceEqDiff, reduceCtorEq, ↓reduceIte, rqs, ilims_len, ilims_at]
  try rfl

end Go.Proofs.YtjadkhkgmdikiaaGreat

namespace Go.Proofs.YtjadkhkgmdikiaaGreat
open Go Go.Proofs Go.AL
set_option linter.unusedSimpArgs false
set_option linter.unusedVariables false

/-- The sum of p and c times r. -/
def fma (c : Rat) (a b : Rat) : Rat := a + c * b
theorem fma_zero (c : Rat) : fma c 0 0 = 0 := by unfold fma; grind

theorem tplus_ok (p r : List RQ) (c : RQ) (K : Nat) (hp : GQ (2 ^ 30) K p) (hr : GQ (2 ^ 30) K r) (hc : SzQ K c) (h0 : nv c.2 ≠ 0) (hK : K ≤ 2 ^ 33) (hK1 : 1 ≤ K) : AC Tryz.prog 73 [cqw p, cqq c, cqw r] none [cqp (zipq (fma (qv c)) (qvs p) (qvs r))] := by
  have m := tform_ok p (hp.mono (by omega) (by omega))
  have n := tform_ok r (hr.mono (by omega) (by omega))
  have hA := hp.qb.trimq
  have hB := hr.qb.trimq
  have zc := qz_raw hc h0
  have e : cqp (zipq (fma (qv c)) (qvs p) (qvs r)) = cqp (zipq (fma (qv c)) (trimq (qvs p)) (trimq (qvs r))) := congrArg cqw (cqs_ext fun k => by rw [cfq_zipq (fma_zero _), cfq_zipq (fma_zero _), cfq_trimq, cfq_trimq])
  rw [e]
  refine AC.by_walk (rs := [.tmp 6]) ords Tryz.func73 (by rfl) (by rfl) (by rfl) (by rfl) (by rfl) ?_
  simp (disch := omega) only [wk, tis, Int.reduceNe, Int.reduceEq, Int.reduceLT, Int.reduceLE, Int.reduceAdd, Int.reduceSub, Int.reduceNeg, Int.reduceMul, Int.reduceToNat, Nat.reduceSub, Nat.reduceMul, Nat.reduceLeDiff, Nat.reduceAdd, Nat.reduceLT, Nat.reduceEqDiff, reduceCtorEq, ↓reduceIte, rqs]
  refine call_by (m) (by rfl) (by simp) ?_
  simp (disch := omega) only [wk, tis, Int.reduceNe, Int.reduceEq, Int.reduceLT, Int.reduceLE, Int.reduceAdd, Int.reduceSub, Int.reduceNeg, Int.reduceMul, Int.reduceToNat, Nat.reduceSub, Nat.reduceMul, Nat.reduceLeDiff, Nat.reduceAdd, Nat.reduceLT, Nat.reduceEqDiff, reduceCtorEq, ↓reduceIte, rqs]
  refine call_by (n) (by rfl) (by simp) ?_
  simp (disch := omega) only [wk, tis, Int.reduceNe, Int.reduceEq, Int.reduceLT, Int.reduceLE, Int.reduceAdd, Int.reduceSub, Int.reduceNeg, Int.reduceMul, Int.reduceToNat, Nat.reduceSub, Nat.reduceMul, Nat.reduceLeDiff, Nat.reduceAdd, Nat.reduceLT, Nat.reduceEqDiff, reduceCtorEq, ↓reduceIte, rqs]
  unfold cqs
  generalize trimq (qvs p) = A at *
  generalize trimq (qvs r) = B at *
  have hAl := hA.1
  have hBl := hB.1
  have hqa : (A.map crat).length = A.length := List.length_map _
  have hqb : (B.map crat).length = B.length := List.length_map _
  have hRl := zipq_len (fma (qv c)) A B
  have hsz : ∀ i, qz (cfq (zipq (fma (qv c)) A B) i) ≤ 2 ^ 38 := fun i => by
    rw [cfq_zipq (fma_zero _)]
    have h1 := hA.cz hK1 i
    have h2 := hB.cz hK1 i
    have h3 := qz_mul (qv c) (cfq B i)
    have h4 := qz_add (cfq A i) (qv c * cfq B i)
    unfold fma
    omega
  have hR : QB (2 ^ 40) (2 ^ 38) (zipq (fma (qv c)) A B) := .of (by omega) hsz
  have t := tform_ok ((zipq (fma (qv c)) A B).map crat) hR.gq
  rw [qvs_map] at t
  refine aloop_nil 7 7 31 3 (by simp (disch := omega) only [wk, tis, Int.reduceNe, Int.reduceEq, Int.reduceLT, Int.reduceLE, Int.reduceAdd, Int.reduceSub, Int.reduceNeg, Int.reduceMul, Int.reduceToNat, Nat.reduceSub, Nat.reduceMul, Nat.reduceLeDiff, Nat.reduceAdd, Nat.reduceLT, Nat.reduceEqDiff, reduceCtorEq, ↓reduceIte, rqs]) (fun f H => ∃ (i st st4 : Nat), i ≤ max A.length B.length ∧ f 8 = .iv (.int .i64 i) ∧ f 0 = .iv (.sl (rats (A.map crat))) ∧ f 2 = .iv (.sl (rats (B.map crat))) ∧ f 4 = .hp 4 st4 0 0 ∧ H 4 = .blk false st4 31 3 [qrow c] ∧ f 7 = .hs 7 st ∧ H 7 = .blk false st 31 3 (rats (((zipq (fma (qv c)) A B).take i).map crat))) (fun f H => (max A.length B.length - intAt f 8).toNat) ?_ ?_
  · refine ⟨0, 1, 1, by omega, ?_⟩
    simp (disch := omega) only [wk, tis, Int.reduceNe, Int.reduceEq, Int.reduceLT, Int.reduceLE, Int.reduceAdd, Int.reduceSub, Int.reduceNeg, Int.reduceMul, Int.reduceToNat, Nat.reduceSub, Nat.reduceMul, Nat.reduceLeDiff, Nat.reduceAdd, Nat.reduceLT, Nat.reduceEqDiff, reduceCtorEq, ↓reduceIte, rqs, ghostF, ghostH, List.take_zero, List.map_nil]
  rintro f H ⟨i, st, st4, hi, hF⟩
  rw [intAt_of hF.1]
  simp (disch := omega) only [wk, tis, Int.reduceNe, Int.reduceEq, Int.reduceLT, Int.reduceLE, Int.reduceAdd, Int.reduceSub, Int.reduceNeg, Int.reduceMul, Int.reduceToNat, Nat.reduceSub, Nat.reduceMul, Nat.reduceLeDiff, Nat.reduceAdd, Nat.reduceLT, Nat.reduceEqDiff, reduceCtorEq, ↓reduceIte, rqs, hF]
  by_cases ha : i < A.length
  · have ha' : (i : Int) < ((A.map crat).length : Int) := by omega
    simp (disch := omega) only [wk, tis, Int.reduceNe, Int.reduceEq, Int.reduceLT, Int.reduceLE, Int.reduceAdd, Int.reduceSub, Int.reduceNeg, Int.reduceMul, Int.reduceToNat, Nat.reduceSub, Nat.reduceMul, Nat.reduceLeDiff, Nat.reduceAdd, Nat.reduceLT, Nat.reduceEqDiff, reduceCtorEq, ↓reduceIte, rqs, hF, ha']
    have hrq : (((zipq (fma (qv c)) A B).take i).map crat).length = i := by rw [List.length_map, List.length_take]; omega
    have h1 := hA.cz hK1 i
    have h2 := hB.cz hK1 i
    have h3 := qz_mul (qv c) (cfq B i)
    have c1 := tat_nat A i (by omega)
    have c2 := tat_nat B i (by omega)
    have x := htimes_ok c (crat (cfq B i)) (hc.mono (by omega)) (szq_crat (by omega)) h0 (nv_crat0 _)
    rw [qv_crat] at x
    have y := hplus_ok (crat (cfq A i)) (crat (qv c * cfq B i)) (szq_crat (by omega)) (szq_crat (by omega)) (nv_crat0 _) (nv_crat0 _)
    rw [qv_crat, qv_crat, show cfq A i + qv c * cfq B i = cfq (zipq (fma (qv c)) A B) i by rw [cfq_zipq (fma_zero _)]; rfl] at y
    refine ⟨tmps_by (by kernel_rfl), ?_⟩
    refine call_by (c1) (by first | rfl | (simp only [tocvs, tocv, hF, hrq]; rfl) | (simp only [tocvs, tocv, toboxes, tobox, updH_at, Nat.reduceEqDiff, ↓reduceIte, hF, hrq]; rfl)) (by simp) ?_
    simp (disch := omega) only [wk, tis, Int.reduceNe, Int.reduceEq, Int.reduceLT, Int.reduceLE, Int.reduceAdd, Int.reduceSub, Int.reduceNeg, Int.reduceMul, Int.reduceToNat, Nat.reduceSub, Nat.reduceMul, Nat.reduceLeDiff, Nat.reduceAdd, Nat.reduceLT, Nat.reduceEqDiff, reduceCtorEq, ↓reduceIte, rqs, hF, hrq]
    refine call_by (c2) (by first | rfl | (simp only [tocvs, tocv, hF, hrq]; rfl) | (simp only [tocvs, tocv, toboxes, tobox, updH_at, Nat.reduceEqDiff, ↓reduceIte, hF, hrq]; rfl)) (by simp) ?_
    simp (disch := omega) only [wk, tis, Int.reduceNe, Int.reduceEq, Int.reduceLT, Int.reduceLE, Int.reduceAdd, Int.reduceSub, Int.reduceNeg, Int.reduceMul, Int.reduceToNat, Nat.reduceSub, Nat.reduceMul, Nat.reduceLeDiff, Nat.reduceAdd, Nat.reduceLT, Nat.reduceEqDiff, reduceCtorEq, ↓reduceIte, rqs, hF, hrq]
    refine call_by (x) (by first | rfl | (simp only [tocvs, tocv, hF, hrq]; rfl) | (simp only [tocvs, tocv, toboxes, tobox, updH_at, Nat.reduceEqDiff, ↓reduceIte, hF, hrq]; rfl)) (by simp) ?_
    simp (disch := omega) only [wk, tis, Int.reduceNe, Int.reduceEq, Int.reduceLT, Int.reduceLE, Int.reduceAdd, Int.reduceSub, Int.reduceNeg, Int.reduceMul, Int.reduceToNat, Nat.reduceSub, Nat.reduceMul, Nat.reduceLeDiff, Nat.reduceAdd, Nat.reduceLT, Nat.reduceEqDiff, reduceCtorEq, ↓reduceIte, rqs, hF, hrq]
    refine call_by (y) (by first | rfl | (simp only [tocvs, tocv, hF, hrq]; rfl) | (simp only [tocvs, tocv, toboxes, tobox, updH_at, Nat.reduceEqDiff, ↓reduceIte, hF, hrq]; rfl)) (by simp) ?_
    simp (disch := omega) only [wk, tis, Int.reduceNe, Int.reduceEq, Int.reduceLT, Int.reduceLE, Int.reduceAdd, Int.reduceSub, Int.reduceNeg, Int.reduceMul, Int.reduceToNat, Nat.reduceSub, Nat.reduceMul, Nat.reduceLeDiff, Nat.reduceAdd, Nat.reduceLT, Nat.reduceEqDiff, reduceCtorEq, ↓reduceIte, rqs, hF, hrq]
    first | exact log_by (by kernel_rfl) | refine ⟨log_by (by kernel_rfl), ?_⟩
    have et := takeq_snoc (q := zipq (fma (qv c)) A B) (i := i) (by omega)
    refine ⟨⟨i + 1, st + 1, st4, by omega, ?_⟩, by omega⟩
    rw [et, List.map_append]
    (repeat' apply And.intro) <;> first | rfl | omega
  · have ha' : ¬ (i : Int) < ((A.map crat).length : Int) := by omega
    by_cases hb : i < B.length
    · have hb' : (i : Int) < ((B.map crat).length : Int) := by omega
      simp (disch := omega) only [wk, tis, Int.reduceNe, Int.reduceEq, Int.reduceLT, Int.reduceLE, Int.reduceAdd, Int.reduceSub, Int.reduceNeg, Int.reduceMul, Int.reduceToNat, Nat.reduceSub, Nat.reduceMul, Nat.reduceLeDiff, Nat.reduceAdd, Nat.reduceLT, Nat.reduceEqDiff, reduceCtorEq, ↓reduceIte, rqs, hF, ha', hb']
      have hrq : (((zipq (fma (qv c)) A B).take i).map crat).length = i := by rw [List.length_map, List.length_take]; omega
      have h1 := hA.cz hK1 i
      have h2 := hB.cz hK1 i
      have h3 := qz_mul (qv c) (cfq B i)
      have c1 := tat_nat A i (by omega)
      have c2 := tat_nat B i (by omega)
      have x := htimes_ok c (crat (cfq B i)) (hc.mono (by omega)) (szq_crat (by omega)) h0 (nv_crat0 _)
      rw [qv_crat] at x
      have y := hplus_ok (crat (cfq A i)) (crat (qv c * cfq B i)) (szq_crat (by omega)) (szq_crat (by omega)) (nv_crat0 _) (nv_crat0 _)
      rw [qv_crat, qv_crat, show cfq A i + qv c * cfq B i = cfq (zipq (fma (qv c)) A B) i by rw [cfq_zipq (fma_zero _)]; rfl] at y
      refine ⟨tmps_by (by kernel_rfl), ?_⟩
      refine call_by (c1) (by first | rfl | (simp only [tocvs, tocv, hF, hrq]; rfl) | (simp only [tocvs, tocv, toboxes, tobox, updH_at, Nat.reduceEqDiff, ↓reduceIte, hF, hrq]; rfl)) (by simp) ?_
      simp (disch := omega) only [wk, tis, Int.reduceNe, Int.reduceEq, Int.reduceLT, Int.reduceLE, Int.reduceAdd, Int.reduceSub, Int.reduceNeg, Int.reduceMul, Int.reduceToNat, Nat.reduceSub, Nat.reduceMul, Nat.reduceLeDiff, Nat.reduceAdd, Nat.reduceLT, Nat.reduceEqDiff, reduceCtorEq, ↓reduceIte, rqs, hF, hrq]
      refine call_by (c2) (by first | rfl | (simp only [tocvs, tocv, hF, hrq]; rfl) | (simp only [tocvs, tocv, toboxes, tobox, updH_at, Nat.reduceEqDiff, ↓reduceIte, hF, hrq]; rfl)) (by simp) ?_
      simp (disch := omega) only [wk, tis, Int.reduceNe, Int.reduceEq, Int.reduceLT, Int.reduceLE, Int.reduceAdd, Int.reduceSub, Int.reduceNeg, Int.reduceMul, Int.reduceToNat, Nat.reduceSub, Nat.reduceMul, Nat.reduceLeDiff, Nat.reduceAdd, Nat.reduceLT, Nat.reduceEqDiff, reduceCtorEq, ↓reduceIte, rqs, hF, hrq]
      refine call_by (x) (by first | rfl | (simp only [tocvs, tocv, hF, hrq]; rfl) | (simp only [tocvs, tocv, toboxes, tobox, updH_at, Nat.reduceEqDiff, ↓reduceIte, hF, hrq]; rfl)) (by simp) ?_
      simp (disch := omega) only [wk, tis, Int.reduceNe, Int.reduceEq, Int.reduceLT, Int.reduceLE, Int.reduceAdd, Int.reduceSub, Int.reduceNeg, Int.reduceMul, Int.reduceToNat, Nat.reduceSub, Nat.reduceMul, Nat.reduceLeDiff, Nat.reduceAdd, Nat.reduceLT, Nat.reduceEqDiff, reduceCtorEq, ↓reduceIte, rqs, hF, hrq]
      refine call_by (y) (by first | rfl | (simp only [tocvs, tocv, hF, hrq]; rfl) | (simp only [tocvs, tocv, toboxes, tobox, updH_at, Nat.reduceEqDiff, ↓reduceIte, hF, hrq]; rfl)) (by simp) ?_
      simp (disch := omega) only [wk, tis, Int.reduceNe, Int.reduceEq, Int.reduceLT, Int.reduceLE, Int.reduceAdd, Int.reduceSub, Int.reduceNeg, Int.reduceMul, Int.reduceToNat, Nat.reduceSub, Nat.reduceMul, Nat.reduceLeDiff, Nat.reduceAdd, Nat.reduceLT, Nat.reduceEqDiff, reduceCtorEq, ↓reduceIte, rqs, hF, hrq]
      first | exact log_by (by kernel_rfl) | refine ⟨log_by (by kernel_rfl), ?_⟩
      have et := takeq_snoc (q := zipq (fma (qv c)) A B) (i := i) (by omega)
      refine ⟨⟨i + 1, st + 1, st4, by omega, ?_⟩, by omega⟩
      rw [et, List.map_append]
      (repeat' apply And.intro) <;> first | rfl | omega
    · have hb' : ¬ (i : Int) < ((B.map crat).length : Int) := by omega
      simp (disch := omega) only [wk, tis, Int.reduceNe, Int.reduceEq, Int.reduceLT, Int.reduceLE, Int.reduceAdd, Int.reduceSub, Int.reduceNeg, Int.reduceMul, Int.reduceToNat, Nat.reduceSub, Nat.reduceMul, Nat.reduceLeDiff, Nat.reduceAdd, Nat.reduceLT, Nat.reduceEqDiff, reduceCtorEq, ↓reduceIte, rqs, hF, ha', hb']
      rw [List.take_of_length_le (by omega)] at hF
      refine call_by (t) (by first | rfl | (simp only [tocvs, tocv, hF]; rfl) | (simp only [tocvs, tocv, toboxes, tobox, updH_at, Nat.reduceEqDiff, ↓reduceIte, hF]; rfl)) (by simp) ?_
      simp (disch := omega) only [wk, tis, Int.reduceNe, Int.reduceEq, Int.reduceLT, Int.reduceLE, Int.reduceAdd, Int.reduceSub, Int.reduceNeg, Int.reduceMul, Int.reduceToNat, Nat.reduceSub, Nat.reduceMul, Nat.reduceLeDiff, Nat.reduceAdd, Nat.reduceLT, Nat.reduceEqDiff, reduceCtorEq, ↓reduceIte, rqs, hF]

end Go.Proofs.YtjadkhkgmdikiaaGreat

namespace Go.Proofs.YtjadkhkgmdikiaaGreat
open Go Go.Proofs Go.AL
set_option linter.unusedSimpArgs false
set_option linter.unusedVariables false

end Go.Proofs.YtjadkhkgmdikiaaGreat

namespace Go.Proofs.YtjadkhkgmdikiaaGreat
open Go Go.Proofs Go.AL
set_option linter.unusedSimpArgs false
set_option linter.unusedVariables false

theorem rats_length (l : List RQ) : (rats l).length = l.length := by simp [rats]
/-- trim, handed a slice of its caller's own: the same slice, shorter. -/
theorem qtrim_t (X : List Rat) (h : QB (2 ^ 40) (2 ^ 38) X) : ACT Tryz.prog 116 [.any] 0 31 3 (rats (X.map crat)) (rats (cqs X)) := by
  have fin : ∀ k, k = tzq X → rats (cqs X) = rats ((X.map crat).take k) := fun k e => by rw [← List.map_take, e]; rfl
  have htl := tzq_le X
  have hl := h.1
  have hq : (X.map crat).length = X.length := List.length_map _
  refine ACT.by_walk (rs := [.tmp 2]) ords Tryz.func116 (by rfl) (by rfl) (by rfl) (by rfl) (by rfl) ?_
  simp (disch := omega) only [wk, tis, Int.reduceNe, Int.reduceEq, Int.reduceLT, Int.reduceLE, Int.reduceAdd, Int.reduceSub, Int.reduceNeg, Int.reduceMul, Int.reduceToNat, Nat.reduceSub, Nat.reduceMul, Nat.reduceLeDiff, Nat.reduceAdd, Nat.reduceLT, Nat.reduceEqDiff, reduceCtorEq, ↓reduceIte, rqs]
  refine aloop_by (fun f H => ∃ k : Nat, k ≤ X.length ∧ f 0 = .hs 0 1 ∧ f 3 = .iv (.int .i64 k) ∧ H 0 = .blk false 1 31 3 (rats (X.map crat)) ∧ tzq (X.take k) = tzq X) (fun f H => (intAt f 3).toNat) ?_ ?_
  · exact ⟨X.length, Nat.le_refl _, by simp (disch := omega) only [wk, tis, Int.reduceNe, Int.reduceEq, Int.reduceLT, Int.reduceLE, Int.reduceAdd, Int.reduceSub, Int.reduceNeg, Int.reduceMul, Int.reduceToNat, Nat.reduceSub, Nat.reduceMul, Nat.reduceLeDiff, Nat.reduceAdd, Nat.reduceLT, Nat.reduceEqDiff, reduceCtorEq, ↓reduceIte, rqs], by simp (disch := omega) only [wk, tis, Int.reduceNe, Int.reduceEq, Int.reduceLT, Int.reduceLE, Int.reduceAdd, Int.reduceSub, Int.reduceNeg, Int.reduceMul, Int.reduceToNat, Nat.reduceSub, Nat.reduceMul, Nat.reduceLeDiff, Nat.reduceAdd, Nat.reduceLT, Nat.reduceEqDiff, reduceCtorEq, ↓reduceIte, rqs, hq], by simp (disch := omega) only [wk, tis, Int.reduceNe, Int.reduceEq, Int.reduceLT, Int.reduceLE, Int.reduceAdd, Int.reduceSub, Int.reduceNeg, Int.reduceMul, Int.reduceToNat, Nat.reduceSub, Nat.reduceMul, Nat.reduceLeDiff, Nat.reduceAdd, Nat.reduceLT, Nat.reduceEqDiff, reduceCtorEq, ↓reduceIte, rqs], by rw [List.take_length]⟩
  rintro f H ⟨k, hk, h0, h3, hh, ht⟩
  rw [intAt_of h3]
  by_cases hc : 0 < (k : Int)
  · have ek : ((k : Int) - 1).toNat = k - 1 := by omega
    have ek' : k = (k - 1) + 1 := by omega
    have e := cratq_get (q := X) (i := k - 1) (by omega)
    have z := qpzero_ok (crat (cfq X (k - 1))) (szq_crat (h.cz (by omega) _)) (nv_crat0 _)
    rw [qv_crat] at z
    simp (disch := omega) only [wk, tis, Int.reduceNe, Int.reduceEq, Int.reduceLT, Int.reduceLE, Int.reduceAdd, Int.reduceSub, Int.reduceNeg, Int.reduceMul, Int.reduceToNat, Nat.reduceSub, Nat.reduceMul, Nat.reduceLeDiff, Nat.reduceAdd, Nat.reduceLT, Nat.reduceEqDiff, reduceCtorEq, ↓reduceIte, rqs, h0, h3, hh, hc, ek, hq, e]
    refine call_by (z) (by first | rfl | (simp only [tocvs, tocv, h0, h3, hh, hc]; rfl) | (simp only [tocvs, tocv, toboxes, tobox, updH_at, Nat.reduceEqDiff, ↓reduceIte, h0, h3, hh, hc]; rfl)) (by simp) ?_
    simp (disch := omega) only [wk, tis, Int.reduceNe, Int.reduceEq, Int.reduceLT, Int.reduceLE, Int.reduceAdd, Int.reduceSub, Int.reduceNeg, Int.reduceMul, Int.reduceToNat, Nat.reduceSub, Nat.reduceMul, Nat.reduceLeDiff, Nat.reduceAdd, Nat.reduceLT, Nat.reduceEqDiff, reduceCtorEq, ↓reduceIte, rqs, h0, h3, hh, hc]
    by_cases hz : cfq X (k - 1) = 0
    · simp (disch := omega) only [wk, tis, Int.reduceNe, Int.reduceEq, Int.reduceLT, Int.reduceLE, Int.reduceAdd, Int.reduceSub, Int.reduceNeg, Int.reduceMul, Int.reduceToNat, Nat.reduceSub, Nat.reduceMul, Nat.reduceLeDiff, Nat.reduceAdd, Nat.reduceLT, Nat.reduceEqDiff, reduceCtorEq, ↓reduceIte, rqs, h0, h3, hh, hz]
      refine ⟨⟨k - 1, by omega, by omega, ?_⟩, by omega⟩
      rw [← tzq_take_zero (k := k - 1) (by omega) hz, ← ek', ht]
    · simp (disch := omega) only [wk, tis, Int.reduceNe, Int.reduceEq, Int.reduceLT, Int.reduceLE, Int.reduceAdd, Int.reduceSub, Int.reduceNeg, Int.reduceMul, Int.reduceToNat, Nat.reduceSub, Nat.reduceMul, Nat.reduceLeDiff, Nat.reduceAdd, Nat.reduceLT, Nat.reduceEqDiff, reduceCtorEq, ↓reduceIte, rqs, h0, h3, hh, hz]
      have hk : k = tzq X := by
        have := tzq_full (q := X) (k := k - 1) (by omega) hz
        rw [← ek', ht] at this; exact this.symm
      refine ⟨by omega, fin k hk⟩
  · have hk : k = tzq X := by
      obtain rfl : k = 0 := by omega
      rw [← ht]; rfl
    simp (disch := omega) only [wk, tis, Int.reduceNe, Int.reduceEq, Int.reduceLT, Int.reduceLE, Int.reduceAdd, Int.reduceSub, Int.reduceNeg, Int.reduceMul, Int.reduceToNat, Nat.reduceSub, Nat.reduceMul, Nat.reduceLeDiff, Nat.reduceAdd, Nat.reduceLT, Nat.reduceEqDiff, reduceCtorEq, ↓reduceIte, rqs, h0, h3, hh, hc]
    refine ⟨by omega, fin k hk⟩

theorem qpnorm_own (p : List RQ) (h : GQ (2 ^ 40) (2 ^ 38) p) : AC Tryz.prog 43 [cqw p] (some (0, 31, 3, rats (cqs (qvs p)))) [cqp (qvs p), ci 0] := by
  have t := qtrim_t (qvs p) h.qb
  refine AC.by_walk (rs := [.tmp 2, .tmp 3]) ords Tryz.func43 (by rfl) (by rfl) (by rfl) (by rfl) (by rfl) ?_
  have hl := h.1
  simp (disch := omega) only [wk, tis, Int.reduceNe, Int.reduceEq, Int.reduceLT, Int.reduceLE, Int.reduceAdd, Int.reduceSub, Int.reduceNeg, Int.reduceMul, Int.reduceToNat, Nat.reduceSub, Nat.reduceMul, Nat.reduceLeDiff, Nat.reduceAdd, Nat.reduceLT, Nat.reduceEqDiff, reduceCtorEq, ↓reduceIte, rqs]
  refine aloop_nil 4 4 31 3 (by simp (disch := omega) only [wk, tis, Int.reduceNe, Int.reduceEq, Int.reduceLT, Int.reduceLE, Int.reduceAdd, Int.reduceSub, Int.reduceNeg, Int.reduceMul, Int.reduceToNat, Nat.reduceSub, Nat.reduceMul, Nat.reduceLeDiff, Nat.reduceAdd, Nat.reduceLT, Nat.reduceEqDiff, reduceCtorEq, ↓reduceIte, rqs]) (fun f H => ∃ (i st : Nat), i ≤ p.length ∧ f 11 = .iv (.int .i64 i) ∧ f 9 = .iv (.sl (rats p)) ∧ f 10 = .iv (.int .i64 p.length) ∧ f 4 = .hs 4 st ∧ H 4 = .blk false st 31 3 (rats (((qvs p).take i).map crat))) (fun f H => (p.length - intAt f 11).toNat) ?_ ?_
  · refine ⟨0, 1, by omega, ?_⟩
    simp (disch := omega) only [wk, tis, Int.reduceNe, Int.reduceEq, Int.reduceLT, Int.reduceLE, Int.reduceAdd, Int.reduceSub, Int.reduceNeg, Int.reduceMul, Int.reduceToNat, Nat.reduceSub, Nat.reduceMul, Nat.reduceLeDiff, Nat.reduceAdd, Nat.reduceLT, Nat.reduceEqDiff, reduceCtorEq, ↓reduceIte, rqs, ghostF, ghostH, List.take_zero, List.map_nil]
  rintro f H ⟨i, st, hi, hF⟩
  rw [intAt_of hF.1]
  simp (disch := omega) only [wk, tis, Int.reduceNe, Int.reduceEq, Int.reduceLT, Int.reduceLE, Int.reduceAdd, Int.reduceSub, Int.reduceNeg, Int.reduceMul, Int.reduceToNat, Nat.reduceSub, Nat.reduceMul, Nat.reduceLeDiff, Nat.reduceAdd, Nat.reduceLT, Nat.reduceEqDiff, reduceCtorEq, ↓reduceIte, rqs, hF]
  refine if_by (fun hlt => ?_) (fun hlt => ?_)
  · have hlt' : i < p.length := by omega
    have hq : (((qvs p).take i).map crat).length = i := by rw [List.length_map, List.length_take, qvs_len]; omega
    have m := qnorm_ok (p.getD i q0) (h.get hlt') (h.den hlt')
    rw [← cfq_qvs] at m
    simp (disch := omega) only [wk, tis, Int.reduceNe, Int.reduceEq, Int.reduceLT, Int.reduceLE, Int.reduceAdd, Int.reduceSub, Int.reduceNeg, Int.reduceMul, Int.reduceToNat, Nat.reduceSub, Nat.reduceMul, Nat.reduceLeDiff, Nat.reduceAdd, Nat.reduceLT, Nat.reduceEqDiff, reduceCtorEq, ↓reduceIte, rqs, hF, hq]
    refine call_by (m) (by first | rfl | (simp only [tocvs, tocv, hF, hq]; rfl) | (simp only [tocvs, tocv, toboxes, tobox, updH_at, Nat.reduceEqDiff, ↓reduceIte, hF, hq]; rfl)) (by simp) ?_
    simp (disch := omega) only [wk, tis, Int.reduceNe, Int.reduceEq, Int.reduceLT, Int.reduceLE, Int.reduceAdd, Int.reduceSub, Int.reduceNeg, Int.reduceMul, Int.reduceToNat, Nat.reduceSub, Nat.reduceMul, Nat.reduceLeDiff, Nat.reduceAdd, Nat.reduceLT, Nat.reduceEqDiff, reduceCtorEq, ↓reduceIte, rqs, hF, hq]
    have e := takeq_snoc (q := qvs p) (i := i) (by rw [qvs_len]; omega)
    refine ⟨⟨i + 1, st + 1, by omega, ?_⟩, by omega⟩
    rw [e, List.map_append]
    (repeat' apply And.intro) <;> first | rfl | omega
  · simp (disch := omega) only [wk, tis, Int.reduceNe, Int.reduceEq, Int.reduceLT, Int.reduceLE, Int.reduceAdd, Int.reduceSub, Int.reduceNeg, Int.reduceMul, Int.reduceToNat, Nat.reduceSub, Nat.reduceMul, Nat.reduceLeDiff, Nat.reduceAdd, Nat.reduceLT, Nat.reduceEqDiff, reduceCtorEq, ↓reduceIte, rqs, hF]
    rw [List.take_of_length_le (by rw [qvs_len]; omega)] at hF
    refine callt_by (t) (by first | rfl | (simp (disch := omega) only [wk, tis, Int.reduceNe, Int.reduceEq, Int.reduceLT, Int.reduceLE, Int.reduceAdd, Int.reduceSub, Int.reduceNeg, Int.reduceMul, Int.reduceToNat, Nat.reduceSub, Nat.reduceMul, Nat.reduceLeDiff, Nat.reduceAdd, Nat.reduceLT, Nat.reduceEqDiff, reduceCtorEq, ↓reduceIte, rqs, hF]; done)) (by first | rfl | (simp (disch := omega) only [wk, tis, Int.reduceNe, Int.reduceEq, Int.reduceLT, Int.reduceLE, Int.reduceAdd, Int.reduceSub, Int.reduceNeg, Int.reduceMul, Int.reduceToNat, Nat.reduceSub, Nat.reduceMul, Nat.reduceLeDiff, Nat.reduceAdd, Nat.reduceLT, Nat.reduceEqDiff, reduceCtorEq, ↓reduceIte, rqs, hF]; done)) (by first | rfl | (simp only [tocvs, tocv, List.set_cons_zero, List.set_cons_succ, hF]; rfl)) (by simp) (by simp) ?_
    simp (disch := omega) only [wk, tis, Int.reduceNe, Int.reduceEq, Int.reduceLT, Int.reduceLE, Int.reduceAdd, Int.reduceSub, Int.reduceNeg, Int.reduceMul, Int.reduceToNat, Nat.reduceSub, Nat.reduceMul, Nat.reduceLeDiff, Nat.reduceAdd, Nat.reduceLT, Nat.reduceEqDiff, reduceCtorEq, ↓reduceIte, rqs, hF]

theorem qboth_own (p q : List RQ) (hp : GQ (2 ^ 40) (2 ^ 38) p) (hq : GQ (2 ^ 40) (2 ^ 38) q) : AC Tryz.prog 117 [cqw p, cqw q] (some (0, 31, 3, rats (cqs (qvs p)))) [cqp (qvs p), cqp (qvs q), ci 0] := by
  have m := qpnorm_own p hp
  have n := qpnorm_ok q hq
  refine AC.by_walk (rs := [.tmp 4, .tmp 5, .tmp 6]) ords Tryz.func117 (by rfl) (by rfl) (by rfl) (by rfl) (by rfl) ?_
  simp (disch := omega) only [wk, tis, Int.reduceNe, Int.reduceEq, Int.reduceLT, Int.reduceLE, Int.reduceAdd, Int.reduceSub, Int.reduceNeg, Int.reduceMul, Int.reduceToNat, Nat.reduceSub, Nat.reduceMul, Nat.reduceLeDiff, Nat.reduceAdd, Nat.reduceLT, Nat.reduceEqDiff, reduceCtorEq, ↓reduceIte, rqs]
  refine call_by (m) (by rfl) (by simp) ?_
  simp (disch := omega) only [wk, tis, Int.reduceNe, Int.reduceEq, Int.reduceLT, Int.reduceLE, Int.reduceAdd, Int.reduceSub, Int.reduceNeg, Int.reduceMul, Int.reduceToNat, Nat.reduceSub, Nat.reduceMul, Nat.reduceLeDiff, Nat.reduceAdd, Nat.reduceLT, Nat.reduceEqDiff, reduceCtorEq, ↓reduceIte, rqs]
  refine call_by (n) (by rfl) (by simp) ?_
  simp (disch := omega) only [wk, tis, Int.reduceNe, Int.reduceEq, Int.reduceLT, Int.reduceLE, Int.reduceAdd, Int.reduceSub, Int.reduceNeg, Int.reduceMul, Int.reduceToNat, Nat.reduceSub, Nat.reduceMul, Nat.reduceLeDiff, Nat.reduceAdd, Nat.reduceLT, Nat.reduceEqDiff, reduceCtorEq, ↓reduceIte, rqs]
  try rfl
end Go.Proofs.YtjadkhkgmdikiaaGreat

namespace Go.Proofs.YtjadkhkgmdikiaaGreat
open Go Go.Proofs Go.AL
set_option linter.unusedSimpArgs false
set_option linter.unusedVariables false

/-! ### Division over the rationals -/
/-- c x^n. -/
def upq (c : Rat) (n : Nat) : List Rat := List.replicate n 0 ++ [c]
theorem upq_len (c : Rat) (n : Nat) : (upq c n).length = n + 1 := by simp [upq]
theorem upq_succ (c : Rat) (n : Nat) : upq c (n + 1) = 0 :: upq c n := rfl
theorem cfq_upq (c : Rat) : ∀ n k, cfq (upq c n) k = if k = n then c else 0
  | 0, 0 => rfl
  | 0, k + 1 => by rw [if_neg (by omega)]; exact cfq_ge (by rw [upq_len]; omega)
  | n + 1, 0 => by rw [if_neg (by omega)]; rfl
  | n + 1, k + 1 => by
    rw [upq_succ, cfq_cons_succ, cfq_upq c n k]
    by_cases h : k = n
    · rw [if_pos h, if_pos (by omega)]
    · rw [if_neg h, if_neg (by omega)]
theorem cvq_upq (c : Rat) (g : Nat → Rat) : ∀ n k, cvq (upq c n) g k = if n ≤ k then c * g (k - n) else 0
  | 0, k => by
    rw [if_pos (Nat.zero_le _), show upq c 0 = [c] from rfl, cvq_cons]
    cases k with
    | zero => simp only [qshift, Nat.sub_zero]; grind
    | succ k => simp only [qshift, Nat.sub_zero, cvq]; grind
  | n + 1, 0 => by
    rw [if_neg (by omega), upq_succ, cvq_cons]
    simp only [qshift]; grind
  | n + 1, k + 1 => by
    rw [upq_succ, cvq_cons, qshift, cvq_upq c g n k]
    by_cases h : n ≤ k
    · rw [if_pos h, if_pos (by omega), Nat.add_sub_add_right]; grind
    · rw [if_neg h, if_neg (by omega)]; grind
theorem cfq_mul_upq (c : Rat) (n : Nat) (B : List Rat) (k : Nat) : cfq (mulq (upq c n) B) k = if n ≤ k then c * cfq B (k - n) else 0 := by
  rw [cfq_mulq, cvq_upq]

/-- The quotient of the leading coefficients. -/
def dc (A B : List Rat) : Rat := cfq A (A.length - 1) / cfq B (B.length - 1)
/-- One step of the division. -/
def dn1 (A B : List Rat) : List Rat := trimq (zipq (fma (-1)) A (mulq (upq (dc A B) (A.length - B.length)) B))
theorem cfq_dn1 (A B : List Rat) (k : Nat) : cfq (dn1 A B) k = cfq A k - if A.length - B.length ≤ k then dc A B * cfq B (k - (A.length - B.length)) else 0 := by
  rw [dn1, cfq_trimq, cfq_zipq (fma_zero _), cfq_mul_upq]
  unfold fma
  grind
theorem tzq_low {q : List Rat} {n : Nat} (h : ∀ k, n ≤ k → cfq q k = 0) : tzq q ≤ n := by
  rcases Nat.lt_or_ge n (tzq q) with h1 | h1
  · exact absurd (h (tzq q - 1) (by omega)) (cfq_tzq_pred (by omega))
  · exact h1
theorem dn1_len {A B : List Rat} (h0 : B.length ≠ 0) (hb : cfq B (B.length - 1) ≠ 0) (hl : B.length ≤ A.length) : (dn1 A B).length < A.length := by
  have : (dn1 A B).length = tzq (dn1 A B) := by
    have := trimq_len (dn1 A B)
    rwa [show trimq (dn1 A B) = dn1 A B from trimq_trimq _] at this
  have h1 := tzq_low (q := dn1 A B) (n := A.length - 1) fun k hk => by
    rw [cfq_dn1, if_pos (by omega)]
    by_cases hk2 : k = A.length - 1
    · rw [hk2, show A.length - 1 - (A.length - B.length) = B.length - 1 by omega]
      have := Rat.div_mul_cancel (a := cfq A (A.length - 1)) hb
      unfold dc
      grind
    · rw [cfq_ge (q := A) (by omega), cfq_ge (q := B) (by omega)]; grind
  omega

/-- What is left after k steps. -/
def dit (A B : List Rat) : Nat → List Rat
  | 0 => A
  | k + 1 => dn1 (dit A B k) B
/-- .. and the quotient so far. -/
def dqu (A B : List Rat) : Nat → List Rat
  | 0 => []
  | k + 1 => zipq (fma 1) (dqu A B k) (upq (dc (dit A B k) B) ((dit A B k).length - B.length))
theorem dit_trim {A B : List Rat} (h : trimq A = A) : ∀ k, trimq (dit A B k) = dit A B k
  | 0 => h
  | k + 1 => trimq_trimq _
theorem dit_len {A B : List Rat} (h0 : B.length ≠ 0) (hb : cfq B (B.length - 1) ≠ 0) : ∀ k, (∀ j, j < k → B.length ≤ (dit A B j).length) → (dit A B k).length + k ≤ A.length
  | 0, _ => Nat.le_refl _
  | k + 1, h => by
    have h1 := dit_len h0 hb k fun j hj => h j (by omega)
    have h2 := dn1_len h0 hb (h k (by omega))
    rw [dit]; omega
theorem dit_end (A : List Rat) {B : List Rat} (h0 : B.length ≠ 0) (hb : cfq B (B.length - 1) ≠ 0) : ∃ n, (dit A B n).length < B.length ∧ (∀ j, j < n → B.length ≤ (dit A B j).length) ∧ n ≤ A.length := by
  have e : ∃ n, (dit A B n).length < B.length := by
    by_cases hn : ∃ n, (dit A B n).length < B.length
    · exact hn
    · have := dit_len (A := A) h0 hb (A.length + 1) fun j _ => Nat.le_of_not_lt fun hj => hn ⟨j, hj⟩
      omega
  obtain ⟨n, hn, hj⟩ := first_of e
  have hj' : ∀ j, j < n → B.length ≤ (dit A B j).length := fun j hjn => Nat.le_of_not_lt (hj j hjn)
  have := dit_len h0 hb n hj'
  exact ⟨n, hn, hj', by omega⟩
theorem cfq_dqu_succ (A B : List Rat) (k j : Nat) : cfq (dqu A B (k + 1)) j = cfq (dqu A B k) j + if j = (dit A B k).length - B.length then dc (dit A B k) B else 0 := by
  rw [dqu, cfq_zipq (fma_zero _), cfq_upq]
  unfold fma
  grind
/-- The quotient so far has no coefficient so low. -/
theorem dqu_low {A B : List Rat} (h0 : B.length ≠ 0) (hb : cfq B (B.length - 1) ≠ 0) : ∀ k, (∀ j, j < k → B.length ≤ (dit A B j).length) → ∀ j, j + B.length ≤ (dit A B k).length → cfq (dqu A B k) j = 0
  | 0, _, j, _ => cfq_nil j
  | k + 1, h, j, hj => by
    have h2 := dn1_len h0 hb (h k (by omega))
    rw [dit] at hj
    rw [cfq_dqu_succ, if_neg (by omega), dqu_low h0 hb k (fun i hi => h i (by omega)) j (by omega)]
    grind
theorem dqu_len {A B : List Rat} (h0 : B.length ≠ 0) (hb : cfq B (B.length - 1) ≠ 0) : ∀ k, (∀ j, j < k → B.length ≤ (dit A B j).length) → (dqu A B k).length ≤ A.length + 1 - B.length
  | 0, _ => Nat.zero_le _
  | k + 1, h => by
    have h1 := dqu_len h0 hb k fun j hj => h j (by omega)
    have h2 := dit_len h0 hb k fun j hj => h j (by omega)
    have h3 := h k (by omega)
    rw [dqu, zipq_len, upq_len]
    omega

/-! ### Sizes -/
theorem natAbs_cast (m : Int) : (m.natAbs : Rat) = if m < 0 then -(m : Rat) else (m : Rat) := by
  split
  · rw [← Rat.intCast_natCast, ← Rat.intCast_neg]; congr 1; omega
  · rw [← Rat.intCast_natCast]; congr 1; omega
theorem CD.divstep {D M N e : Nat} {x t b y : Rat} {m w : Int} (hD : D ≠ 0) (hm : m ≠ 0) (he : e ≠ 0) (hx : CD D M x) (ht : CD D M t) (hb : b * (e : Rat) = (m : Rat)) (hy : y * (e : Rat) = (w : Rat)) (zm : zl m ≤ N) (zw : zl w ≤ N) : CD (D * m.natAbs) (M + N + 1) (x - t / b * y) := by
  obtain ⟨z, e1, hz⟩ := hx
  obtain ⟨u, e2, hu⟩ := ht
  have h1 := natr_ne hD
  have h2 : (m : Rat) ≠ 0 := fun h => hm (Rat.intCast_eq_zero_iff.mp h)
  have h3 := natr_ne he
  have hb0 : b ≠ 0 := fun h => h2 (by rw [← hb, h, Rat.zero_mul])
  have z1 := zl_mul z m
  have z2 := zl_mul u w
  have e3 : x - t / b * y = ((z : Rat) * (m : Rat) - (u : Rat) * (w : Rat)) / ((D : Rat) * (m : Rat)) := by
    rw [e1, e2, ← hb, ← hy]
    grind
  by_cases hs : m < 0
  · refine ⟨u * w - z * m, ?_, ?_⟩
    · rw [e3, Rat.natCast_mul, natAbs_cast, if_pos hs, Rat.intCast_sub, Rat.intCast_mul, Rat.intCast_mul]
      grind
    · have := zl_add (u * w) (-(z * m))
      rw [zl_neg, ← Int.sub_eq_add_neg] at this
      omega
  · refine ⟨z * m - u * w, ?_, ?_⟩
    · rw [e3, Rat.natCast_mul, natAbs_cast, if_neg hs, Rat.intCast_sub, Rat.intCast_mul, Rat.intCast_mul]
    · have := zl_add (z * m) (-(u * w))
      rw [zl_neg, ← Int.sub_eq_add_neg] at this
      omega
theorem CD.cf {D n M : Nat} {q : List Rat} (h : CB D n M q) (k : Nat) : CD D M (cfq q k) := by
  by_cases hk : k < q.length
  · rw [cfq_lt hk]; exact h.c _ (List.getElem_mem hk)
  · rw [cfq_ge (by omega)]; exact CD.zero _ _
theorem dn1_cb {D n M N : Nat} {A B : List Rat} (hA : CB D n M A) (hB : PB n N (clr B)) (h0 : B.length ≠ 0) (hb : cfq B (B.length - 1) ≠ 0) (hl : B.length ≤ A.length) : ∃ E, CB E n (M + N + 1) (dn1 A B) := by
  have hm : cf (clr B) (B.length - 1) ≠ 0 := fun e => hb (clr_zero.mp e)
  have hcb : ∀ k, cfq B k * (cden B : Rat) = (cf (clr B) k : Rat) := fun k => (cf_clr B k).symm
  have hl2 := dn1_len h0 hb hl
  refine ⟨D * (cf (clr B) (B.length - 1)).natAbs, Nat.mul_ne_zero hA.d (by omega), ?_, by have := hA.l; omega, fun c hc => ?_⟩
  · have h1 := AL.wd_mul_len D (cf (clr B) (B.length - 1)).natAbs
    have h2 := hA.w
    have h3 := hB.cf (B.length - 1)
    unfold zl at h3
    omega
  · obtain ⟨i, hi, rfl⟩ := List.getElem_of_mem hc
    rw [← cfq_lt hi, cfq_dn1]
    split
    · exact CD.divstep hA.d hm (cden_ne B) (CD.cf hA _) (CD.cf hA _) (hcb _) (hcb _) (hB.cf _) (hB.cf _)
    · have := (CD.cf hA i).up hA.d (E := (cf (clr B) (B.length - 1)).natAbs) (V := N) (by omega) (hB.cf _)
      rw [show cfq A i - 0 = cfq A i by grind]
      exact this.mono (by omega)
theorem dit_cb {D n M N : Nat} {A B : List Rat} (hA : CB D n M A) (hB : PB n N (clr B)) (h0 : B.length ≠ 0) (hb : cfq B (B.length - 1) ≠ 0) : ∀ k, (∀ j, j < k → B.length ≤ (dit A B j).length) → ∃ E, CB E n (M + k * (N + 1)) (dit A B k)
  | 0, _ => ⟨D, by rw [Nat.zero_mul]; exact hA⟩
  | k + 1, h => by
    obtain ⟨E, hE⟩ := dit_cb hA hB h0 hb k fun j hj => h j (by omega)
    obtain ⟨F, hF'⟩ := dn1_cb hE hB h0 hb (h k (by omega))
    exact ⟨F, hF'.mono (Nat.le_refl _) (by rw [Nat.succ_mul]; omega)⟩
theorem qz_inv (q : Rat) : qz (1 / q) ≤ qz q := by
  by_cases h : q.num = 0
  · have : q = 0 := Rat.num_eq_zero.mp h
    rw [this, show (1 : Rat) / 0 = 0 by decide +kernel]
    exact Nat.le_refl _
  · have h1 : (q.num : Rat) ≠ 0 := fun e => h (Rat.intCast_eq_zero_iff.mp e)
    have h2 := natr_ne q.den_nz
    have e : (1 : Rat) / q = ((q.den : Int) : Rat) / (q.num : Rat) := by
      have h3 : q = (q.num : Rat) / (q.den : Rat) := by rw [← Rat.mkRat_eq_div]; exact (Rat.mkRat_self q).symm
      rw [Rat.intCast_natCast]
      conv => lhs; rw [h3]
      grind
    have hp := qz_parts q
    rw [e, ← mk_div h]
    refine qz_mk (by omega) ?_ ?_
    · split
      · rw [zl_neg, zl_nat]; exact hp.2
      · rw [zl_nat]; exact hp.2
    · exact hp.1
theorem qz_div (p q : Rat) : qz (p / q) ≤ qz p + qz q := by
  have h1 := qz_mul p (1 / q)
  have h2 := qz_inv q
  rw [show p * (1 / q) = p / q by rw [Rat.div_def, Rat.div_def, Rat.one_mul]] at h1
  omega
end Go.Proofs.YtjadkhkgmdikiaaGreat

namespace Go.Proofs.YtjadkhkgmdikiaaGreat
open Go Go.Proofs Go.AL
set_option linter.unusedSimpArgs false
set_option linter.unusedVariables false

theorem set_crat {X Y : List Rat} {i : Nat} {c : Rat} (hl : X.length = Y.length) (hc : cfq Y i = c) (ho : ∀ j, j < Y.length → j ≠ i → cfq Y j = cfq X j) : (X.map crat).set i (crat c) = Y.map crat := by
  rw [← List.map_set]
  congr 1
  refine List.ext_getElem (by rw [List.length_set, hl]) fun j h1 h2 => ?_
  rw [List.getElem_set]
  split
  · rename_i e; subst e; rw [← hc, cfq_lt h2]
  · rename_i e
    have := ho j h2 (fun h => e h.symm)
    rw [cfq_lt h2, cfq_lt (by rw [List.length_set] at h1; exact h1)] at this
    exact this.symm
/-- The first N coefficients. -/
def padq (N : Nat) (Q : List Rat) : List Rat := (List.range N).map (cfq Q)
theorem padq_len (N : Nat) (Q : List Rat) : (padq N Q).length = N := by simp [padq]
theorem cfq_padq {N : Nat} {Q : List Rat} {k : Nat} (h : k < N) : cfq (padq N Q) k = cfq Q k := by
  simp only [padq, cfq, List.getD, List.getElem?_map, List.getElem?_range h, Option.map_some, Option.getD_some]
theorem padq_all {N : Nat} {Q : List Rat} (h : Q.length ≤ N) (k : Nat) : cfq (padq N Q) k = cfq Q k := by
  by_cases hk : k < N
  · exact cfq_padq hk
  · rw [cfq_ge (by rw [padq_len]; omega), cfq_ge (by omega)]
theorem padq_nil (N : Nat) : padq N [] = List.replicate N 0 := by
  refine List.ext_getElem (by rw [padq_len, List.length_replicate]) fun j h1 h2 => ?_
  rw [← cfq_lt h1, cfq_padq (by rwa [padq_len] at h1), cfq_nil, List.getElem_replicate]
/-- i coefficients of the divisor's multiple are taken away. -/
def subp (A B : List Rat) (c : Rat) (s i : Nat) : List Rat := (List.range A.length).map fun k => if s ≤ k ∧ k < s + i then cfq A k - c * cfq B (k - s) else cfq A k
theorem subp_len (A B : List Rat) (c : Rat) (s i : Nat) : (subp A B c s i).length = A.length := by simp [subp]
theorem cfq_subp {A B : List Rat} {c : Rat} {s i : Nat} (h : s + i ≤ A.length) (k : Nat) : cfq (subp A B c s i) k = if s ≤ k ∧ k < s + i then cfq A k - c * cfq B (k - s) else cfq A k := by
  by_cases hk : k < A.length
  · simp only [subp, cfq, List.getD, List.getElem?_map, List.getElem?_range hk, Option.map_some, Option.getD_some]
  · rw [cfq_ge (by rw [subp_len]; omega), if_neg (by omega), cfq_ge (by omega)]
theorem subp_zero (A B : List Rat) (c : Rat) {s : Nat} (h : s ≤ A.length) : subp A B c s 0 = A := by
  refine List.ext_getElem (subp_len ..) fun j h1 h2 => ?_
  rw [← cfq_lt h1, cfq_subp (by omega), if_neg (by omega), cfq_lt h2]
theorem subp_set {A B : List Rat} {c : Rat} {s i : Nat} (h : s + (i + 1) ≤ A.length) : ((subp A B c s i).map crat).set (s + i) (crat (cfq A (s + i) - c * cfq B i)) = (subp A B c s (i + 1)).map crat := by
  refine set_crat (by rw [subp_len, subp_len]) ?_ fun j hj hne => ?_
  · rw [cfq_subp h, if_pos ⟨by omega, by omega⟩, Nat.add_sub_cancel_left]
  · rw [cfq_subp h, cfq_subp (by omega)]
    by_cases h1 : s ≤ j ∧ j < s + i
    · rw [if_pos h1, if_pos ⟨h1.1, by omega⟩]
    · rw [if_neg h1, if_neg (by omega)]
theorem subp_end {A B : List Rat} (h : B.length ≤ A.length) : cqs (subp A B (dc A B) (A.length - B.length) B.length) = (dn1 A B).map crat := by
  have e : trimq (subp A B (dc A B) (A.length - B.length) B.length) = dn1 A B := by
    have h1 := trimq_trimq (zipq (fma (-1)) A (mulq (upq (dc A B) (A.length - B.length)) B))
    rw [← show trimq (dn1 A B) = dn1 A B from h1]
    refine trimq_ext fun k => ?_
    rw [cfq_subp (by omega), cfq_dn1]
    by_cases h1 : A.length - B.length ≤ k
    · by_cases h2 : k < A.length - B.length + B.length
      · rw [if_pos ⟨h1, h2⟩, if_pos h1]
      · rw [if_neg (by omega), if_pos h1, cfq_ge (q := B) (by omega)]; grind
    · rw [if_neg (by omega), if_neg h1]; grind
  rw [cqs, e]
theorem dqu_set {A B : List Rat} {N k : Nat} (hs : (dit A B k).length - B.length < N) (h0 : cfq (dqu A B k) ((dit A B k).length - B.length) = 0) : ((padq N (dqu A B k)).map crat).set ((dit A B k).length - B.length) (crat (dc (dit A B k) B)) = (padq N (dqu A B (k + 1))).map crat := by
  refine set_crat (by rw [padq_len, padq_len]) ?_ fun j hj hne => ?_
  · rw [cfq_padq hs, cfq_dqu_succ, if_pos rfl, h0]; grind
  · rw [padq_len] at hj
    rw [cfq_padq hj, cfq_padq hj, cfq_dqu_succ, if_neg hne]; grind

/-- What a division of A by B that ends after n steps is known by. -/
structure DV (A B : List Rat) (n K : Nat) : Prop where
  la : A.length ≤ 2 ^ 28
  lb : B.length ≤ 2 ^ 28
  h0 : B.length ≠ 0
  hb : cfq B (B.length - 1) ≠ 0
  ta : trimq A = A
  tb : trimq B = B
  en : (dit A B n).length < B.length
  hj : ∀ j, j < n → B.length ≤ (dit A B j).length
  za : ∀ k, k ≤ n → ∀ i, qz (cfq (dit A B k) i) ≤ K
  zb : ∀ i, qz (cfq B i) ≤ K
  k1 : 1 ≤ K
  k2 : K ≤ 2 ^ 31

theorem dqu_size {A B : List Rat} {K n : Nat} (h0 : B.length ≠ 0) (hb : cfq B (B.length - 1) ≠ 0) (za : ∀ k, k ≤ n → ∀ i, qz (cfq (dit A B k) i) ≤ K) (zb : ∀ i, qz (cfq B i) ≤ K) (k1 : 1 ≤ K) : ∀ k, k ≤ n → (∀ j, j < k → B.length ≤ (dit A B j).length) → ∀ j, qz (cfq (dqu A B k) j) ≤ K + K
  | 0, _, _, j => by rw [dqu, cfq_nil, qz_zero]; omega
  | k + 1, hk, h, j => by
    have ih := dqu_size h0 hb za zb k1 k (by omega) (fun i hi => h i (by omega)) j
    rw [cfq_dqu_succ]
    by_cases hj : j = (dit A B k).length - B.length
    · have hl := h k (by omega)
      rw [if_pos hj, dqu_low h0 hb k (fun i hi => h i (by omega)) j (by omega), Rat.zero_add]
      have h1 := qz_div (cfq (dit A B k) ((dit A B k).length - 1)) (cfq B (B.length - 1))
      have h2 := za k (by omega) ((dit A B k).length - 1)
      have h3 := zb (B.length - 1)
      unfold dc
      omega
    · rw [if_neg hj, Rat.add_zero]
      exact ih

def hrows : HC → Nat
  | .blk _ _ _ _ rows => rows.length
  | .none => 0
theorem hrows_blk (fz : Bool) (st e sz : Nat) (rows : List (List IV)) : hrows (.blk fz st e sz rows) = rows.length := rfl

set_option maxHeartbeats 1000000 in
theorem qdiv_ok (p q : List RQ) (hp : GQ (2 ^ 30) (2 ^ 32) p) (hq : GQ (2 ^ 30) (2 ^ 32) q) (n K : Nat) (v : DV (trimq (qvs p)) (trimq (qvs q)) n K) : AC Tryz.prog 67 [cqw p, cqw q] none [cqp (dqu (trimq (qvs p)) (trimq (qvs q)) n), cqw ((dit (trimq (qvs p)) (trimq (qvs q)) n).map crat), ci 0] := by
  have m := qboth_own p q (hp.mono (by omega) (by omega)) (hq.mono (by omega) (by omega))
  refine AC.by_walk (rs := [.tmp 4, .tmp 5, .tmp 6]) ords Tryz.func67 (by rfl) (by rfl) (by rfl) (by rfl) (by rfl) ?_
  simp (disch := omega) only [wk, tis, Int.reduceNe, Int.reduceEq, Int.reduceLT, Int.reduceLE, Int.reduceAdd, Int.reduceSub, Int.reduceNeg, Int.reduceMul, Int.reduceToNat, Nat.reduceSub, Nat.reduceMul, Nat.reduceLeDiff, Nat.reduceAdd, Nat.reduceLT, Nat.reduceEqDiff, reduceCtorEq, ↓reduceIte, rqs]
  refine call_by (m) (by rfl) (by simp) ?_
  simp (disch := omega) only [wk, tis, Int.reduceNe, Int.reduceEq, Int.reduceLT, Int.reduceLE, Int.reduceAdd, Int.reduceSub, Int.reduceNeg, Int.reduceMul, Int.reduceToNat, Nat.reduceSub, Nat.reduceMul, Nat.reduceLeDiff, Nat.reduceAdd, Nat.reduceLT, Nat.reduceEqDiff, reduceCtorEq, ↓reduceIte, rqs]
  unfold cqs
  generalize trimq (qvs p) = A at *
  generalize trimq (qvs q) = B at *
  obtain ⟨la, lb, h0, hb, ta, tb, en, hj, za, zb, k1, k2⟩ := v
  have hqa : (A.map crat).length = A.length := List.length_map _
  have hqb : (B.map crat).length = B.length := List.length_map _
  have hb0 : ¬ (B.length : Int) = 0 := by omega
  obtain ⟨N, hN⟩ : ∃ N, N = A.length + 1 - B.length := ⟨_, rfl⟩
  have hNI : max ((A.length : Int) - (B.length : Int) + 1) 0 = (N : Int) := by omega
  simp (disch := omega) only [wk, tis, Int.reduceNe, Int.reduceEq, Int.reduceLT, Int.reduceLE, Int.reduceAdd, Int.reduceSub, Int.reduceNeg, Int.reduceMul, Int.reduceToNat, Nat.reduceSub, Nat.reduceMul, Nat.reduceLeDiff, Nat.reduceAdd, Nat.reduceLT, Nat.reduceEqDiff, reduceCtorEq, ↓reduceIte, rqs, hqa, hqb, hb0, hNI]
  refine aloop_nil 10 10 31 3 (by simp (disch := omega) only [wk, tis, Int.reduceNe, Int.reduceEq, Int.reduceLT, Int.reduceLE, Int.reduceAdd, Int.reduceSub, Int.reduceNeg, Int.reduceMul, Int.reduceToNat, Nat.reduceSub, Nat.reduceMul, Nat.reduceLeDiff, Nat.reduceAdd, Nat.reduceLT, Nat.reduceEqDiff, reduceCtorEq, ↓reduceIte, rqs]) (fun f H => ∃ (i sr st : Nat), i ≤ N ∧ f 40 = .iv (.int .i64 i) ∧ f 39 = .iv (.int .i64 N) ∧ f 7 = .hs 21 sr ∧ f 8 = .iv (.sl (rats (B.map crat))) ∧ H 21 = .blk false sr 31 3 (rats (A.map crat)) ∧ f 10 = .hs 10 st ∧ H 10 = .blk false st 31 3 (rats ((List.replicate i (0 : Rat)).map crat))) (fun f H => (N - intAt f 40).toNat) ?_ ?_
  · refine ⟨0, 1, 1, by omega, ?_⟩
    simp (disch := omega) only [wk, tis, Int.reduceNe, Int.reduceEq, Int.reduceLT, Int.reduceLE, Int.reduceAdd, Int.reduceSub, Int.reduceNeg, Int.reduceMul, Int.reduceToNat, Nat.reduceSub, Nat.reduceMul, Nat.reduceLeDiff, Nat.reduceAdd, Nat.reduceLT, Nat.reduceEqDiff, reduceCtorEq, ↓reduceIte, rqs, ghostF, ghostH, hqa, hqb, hNI, List.replicate_zero, List.map_nil]
  rintro f H ⟨i, sr, st, hi, hF⟩
  rw [intAt_of hF.1]
  simp (disch := omega) only [wk, tis, Int.reduceNe, Int.reduceEq, Int.reduceLT, Int.reduceLE, Int.reduceAdd, Int.reduceSub, Int.reduceNeg, Int.reduceMul, Int.reduceToNat, Nat.reduceSub, Nat.reduceMul, Nat.reduceLeDiff, Nat.reduceAdd, Nat.reduceLT, Nat.reduceEqDiff, reduceCtorEq, ↓reduceIte, rqs, hF]
  refine if_by (fun hlt => ?_) (fun hlt => ?_)
  · have hrq : ((List.replicate i (0 : Rat)).map crat).length = i := by simp
    simp (disch := omega) only [wk, tis, Int.reduceNe, Int.reduceEq, Int.reduceLT, Int.reduceLE, Int.reduceAdd, Int.reduceSub, Int.reduceNeg, Int.reduceMul, Int.reduceToNat, Nat.reduceSub, Nat.reduceMul, Nat.reduceLeDiff, Nat.reduceAdd, Nat.reduceLT, Nat.reduceEqDiff, reduceCtorEq, ↓reduceIte, rqs, hF, hrq]
    refine call_by (qnone_ok) (by first | rfl | (simp only [tocvs, tocv, hF, hrq]; rfl) | (simp only [tocvs, tocv, toboxes, tobox, updH_at, Nat.reduceEqDiff, ↓reduceIte, hF, hrq]; rfl)) (by simp) ?_
    simp (disch := omega) only [wk, tis, Int.reduceNe, Int.reduceEq, Int.reduceLT, Int.reduceLE, Int.reduceAdd, Int.reduceSub, Int.reduceNeg, Int.reduceMul, Int.reduceToNat, Nat.reduceSub, Nat.reduceMul, Nat.reduceLeDiff, Nat.reduceAdd, Nat.reduceLT, Nat.reduceEqDiff, reduceCtorEq, ↓reduceIte, rqs, hF, hrq]
    refine ⟨⟨i + 1, sr, st + 1, by omega, ?_⟩, by omega⟩
    rw [List.replicate_succ', List.map_append]
    (repeat' apply And.intro) <;> first | rfl | omega
  obtain rfl : i = N := by omega
  rw [← padq_nil] at hF
  simp (disch := omega) only [wk, tis, Int.reduceNe, Int.reduceEq, Int.reduceLT, Int.reduceLE, Int.reduceAdd, Int.reduceSub, Int.reduceNeg, Int.reduceMul, Int.reduceToNat, Nat.reduceSub, Nat.reduceMul, Nat.reduceLeDiff, Nat.reduceAdd, Nat.reduceLT, Nat.reduceEqDiff, reduceCtorEq, ↓reduceIte, rqs, hF]
  refine aloop_by (fun f H => ∃ k sr sq : Nat, k ≤ n ∧ f 7 = .hs 21 sr ∧ f 8 = .iv (.sl (rats (B.map crat))) ∧ f 10 = .hs 10 sq ∧ H 21 = .blk false sr 31 3 (rats ((dit A B k).map crat)) ∧ H 10 = .blk false sq 31 3 (rats ((padq i (dqu A B k)).map crat))) (fun f H => hrows (H 21)) ?_ ?_
  · exact ⟨0, sr, st, Nat.zero_le _, by simp (disch := omega) only [wk, tis, Int.reduceNe, Int.reduceEq, Int.reduceLT, Int.reduceLE, Int.reduceAdd, Int.reduceSub, Int.reduceNeg, Int.reduceMul, Int.reduceToNat, Nat.reduceSub, Nat.reduceMul, Nat.reduceLeDiff, Nat.reduceAdd, Nat.reduceLT, Nat.reduceEqDiff, reduceCtorEq, ↓reduceIte, rqs, hF], by simp (disch := omega) only [wk, tis, Int.reduceNe, Int.reduceEq, Int.reduceLT, Int.reduceLE, Int.reduceAdd, Int.reduceSub, Int.reduceNeg, Int.reduceMul, Int.reduceToNat, Nat.reduceSub, Nat.reduceMul, Nat.reduceLeDiff, Nat.reduceAdd, Nat.reduceLT, Nat.reduceEqDiff, reduceCtorEq, ↓reduceIte, rqs, hF], by simp (disch := omega) only [wk, tis, Int.reduceNe, Int.reduceEq, Int.reduceLT, Int.reduceLE, Int.reduceAdd, Int.reduceSub, Int.reduceNeg, Int.reduceMul, Int.reduceToNat, Nat.reduceSub, Nat.reduceMul, Nat.reduceLeDiff, Nat.reduceAdd, Nat.reduceLT, Nat.reduceEqDiff, reduceCtorEq, ↓reduceIte, rqs, hF], hF.2.2.2.2.1, hF.2.2.2.2.2.2⟩
  rintro f H ⟨k, sr, sq, hk, h7, h8, h10, hH1, hH2⟩
  have hql : ((dit A B k).map crat).length = (dit A B k).length := List.length_map _
  rw [show hrows (H 21) = (dit A B k).length by rw [hH1, hrows_blk, rats_length, hql]]
  by_cases hge : B.length ≤ (dit A B k).length
  · have hkn : k < n := Nat.lt_of_le_of_ne hk fun e => by rw [e] at hge; omega
    have hl1 := dit_len h0 hb k fun j hjk => hj j (by omega)
    have hlow := dqu_low h0 hb k (fun j hjk => hj j (by omega)) ((dit A B k).length - B.length) (by omega)
    have hset := dqu_set (N := i) (k := k) (A := A) (B := B) (by omega) hlow
    have hend := subp_end hge
    have hdn := dn1_len h0 hb hge
    have zx := za k hk
    have zx1 := za (k + 1) hkn
    rw [show dit A B (k + 1) = dn1 (dit A B k) B from rfl] at zx1
    have hdit : dit A B (k + 1) = dn1 (dit A B k) B := rfl
    generalize hQ' : dqu A B (k + 1) = Q' at *
    generalize hXX : dit A B k = X at *
    generalize dqu A B k = Q at *
    obtain ⟨s, hs⟩ : ∃ s, s = X.length - B.length := ⟨_, rfl⟩
    rw [← hs] at hset hend
    have zc := qz_div (cfq X (X.length - 1)) (cfq B (B.length - 1))
    have zc1 := zx (X.length - 1)
    have zc2 := zb (B.length - 1)
    have mq := qquo_ok (crat (cfq X (X.length - 1))) (crat (cfq B (B.length - 1))) (szq_crat (by omega)) (szq_crat (by omega)) (nv_crat0 _) (nv_crat0 _) (by rw [iv_crat]; exact fun e => hb (Rat.num_eq_zero.mp e))
    rw [qv_crat, qv_crat, show cfq X (X.length - 1) / cfq B (B.length - 1) = dc X B from rfl] at mq
    rw [show cfq X (X.length - 1) / cfq B (B.length - 1) = dc X B from rfl] at zc
    have hge' : (B.length : Int) ≤ (X.length : Int) := by omega
    have e1 : (X.length : Int) - 1 = ((X.length - 1 : Nat) : Int) := by omega
    have e2 : (B.length : Int) - 1 = ((B.length - 1 : Nat) : Int) := by omega
    have e3 : (X.length : Int) - (B.length : Int) = (s : Int) := by omega
    have g1 := cratq_get (q := X) (i := X.length - 1) (by omega)
    have g2 := cratq_get (q := B) (i := B.length - 1) (by omega)
    have hs0 := subp_zero X B (dc X B) (s := s) (by omega)
    simp (disch := omega) only [wk, tis, Int.reduceNe, Int.reduceEq, Int.reduceLT, Int.reduceLE, Int.reduceAdd, Int.reduceSub, Int.reduceNeg, Int.reduceMul, Int.reduceToNat, Nat.reduceSub, Nat.reduceMul, Nat.reduceLeDiff, Nat.reduceAdd, Nat.reduceLT, Nat.reduceEqDiff, reduceCtorEq, ↓reduceIte, rqs, h7, h8, h10, hH1, hH2, hql, hqb, hge', e1, e2, e3, g1, g2]
    refine ⟨tmps_by (by kernel_rfl), ?_⟩
    refine call_by (mq) (by first | rfl | (simp only [tocvs, tocv, h7, h8, h10, hH1, hH2, hql, hqb, hge', e1, e2, e3, g1, g2]; rfl) | (simp only [tocvs, tocv, toboxes, tobox, updH_at, Nat.reduceEqDiff, ↓reduceIte, h7, h8, h10, hH1, hH2, hql, hqb, hge', e1, e2, e3, g1, g2]; rfl)) (by simp) ?_
    simp (disch := omega) only [wk, tis, Int.reduceNe, Int.reduceEq, Int.reduceLT, Int.reduceLE, Int.reduceAdd, Int.reduceSub, Int.reduceNeg, Int.reduceMul, Int.reduceToNat, Nat.reduceSub, Nat.reduceMul, Nat.reduceLeDiff, Nat.reduceAdd, Nat.reduceLT, Nat.reduceEqDiff, reduceCtorEq, ↓reduceIte, rqs, h7, h8, h10, hH1, hH2, hql, hqb, hge', e1, e2, e3, g1, g2]
    first | exact log_by (by kernel_rfl) | refine ⟨log_by (by kernel_rfl), ?_⟩
    refine aloop_by (fun f H => ∃ (j sc : Nat), j ≤ B.length ∧ f 75 = .iv (.int .i64 j) ∧ f 74 = .iv (.int .i64 B.length) ∧ f 73 = .iv (.sl (rats (B.map crat))) ∧ f 8 = .iv (.sl (rats (B.map crat))) ∧ f 7 = .hs 21 sr ∧ f 10 = .hs 10 sq ∧ f 11 = .iv (.int .i64 s) ∧ f 12 = .hp 12 sc 0 0 ∧ H 12 = .blk false sc 31 3 [qrow (crat (dc X B))] ∧ H 21 = .blk false sr 31 3 (rats ((subp X B (dc X B) s j).map crat)) ∧ H 10 = .blk false sq 31 3 (rats ((padq i Q).map crat))) (fun f H => (B.length - intAt f 75).toNat) ?_ ?_
    · refine ⟨0, (H 12).stamp + 1, by omega, ?_⟩
      simp (disch := omega) only [wk, tis, Int.reduceNe, Int.reduceEq, Int.reduceLT, Int.reduceLE, Int.reduceAdd, Int.reduceSub, Int.reduceNeg, Int.reduceMul, Int.reduceToNat, Nat.reduceSub, Nat.reduceMul, Nat.reduceLeDiff, Nat.reduceAdd, Nat.reduceLT, Nat.reduceEqDiff, reduceCtorEq, ↓reduceIte, rqs, h7, h8, h10, hH1, hH2, hql, hqb, hs0]
    rintro f H ⟨j, sc, hjl, hF⟩
    rw [intAt_of hF.1]
    simp (disch := omega) only [wk, tis, Int.reduceNe, Int.reduceEq, Int.reduceLT, Int.reduceLE, Int.reduceAdd, Int.reduceSub, Int.reduceNeg, Int.reduceMul, Int.reduceToNat, Nat.reduceSub, Nat.reduceMul, Nat.reduceLeDiff, Nat.reduceAdd, Nat.reduceLT, Nat.reduceEqDiff, reduceCtorEq, ↓reduceIte, rqs, hF]
    refine if_by (fun hlt => ?_) (fun hlt => ?_)
    · have hlt' : j < B.length := by omega
      have hsl : ((subp X B (dc X B) s j).map crat).length = X.length := by rw [List.length_map, subp_len]
      have e4 : (s : Int) + (j : Int) = ((s + j : Nat) : Int) := by omega
      have g3 := cratq_get hlt'
      have g4 := cratq_get (q := subp X B (dc X B) s j) (i := s + j) (by rw [subp_len]; omega)
      rw [cfq_subp (by omega), if_neg (by omega)] at g4
      have zj := zb j
      have zs := zx (s + j)
      have zm := qz_mul (dc X B) (cfq B j)
      have mm := qmul_ok (crat (dc X B)) (crat (cfq B j)) (szq_crat (by omega)) (szq_crat (by omega)) (nv_crat0 _) (nv_crat0 _)
      have ms := qsub_ok (crat (cfq X (s + j))) (crat (dc X B * cfq B j)) (szq_crat (by omega)) (szq_crat (by omega)) (nv_crat0 _) (nv_crat0 _)
      rw [qv_crat, qv_crat] at mm ms
      have hst := subp_set (A := X) (B := B) (c := dc X B) (s := s) (i := j) (by omega)
      simp (disch := omega) only [wk, tis, Int.reduceNe, Int.reduceEq, Int.reduceLT, Int.reduceLE, Int.reduceAdd, Int.reduceSub, Int.reduceNeg, Int.reduceMul, Int.reduceToNat, Nat.reduceSub, Nat.reduceMul, Nat.reduceLeDiff, Nat.reduceAdd, Nat.reduceLT, Nat.reduceEqDiff, reduceCtorEq, ↓reduceIte, rqs, hF, hqb, hsl, e4, g3, g4]
      refine call_by (mm) (by first | rfl | (simp only [tocvs, tocv, hF, hqb, hsl, e4, g3, g4]; rfl) | (simp only [tocvs, tocv, toboxes, tobox, updH_at, Nat.reduceEqDiff, ↓reduceIte, hF, hqb, hsl, e4, g3, g4]; rfl)) (by simp) ?_
      simp (disch := omega) only [wk, tis, Int.reduceNe, Int.reduceEq, Int.reduceLT, Int.reduceLE, Int.reduceAdd, Int.reduceSub, Int.reduceNeg, Int.reduceMul, Int.reduceToNat, Nat.reduceSub, Nat.reduceMul, Nat.reduceLeDiff, Nat.reduceAdd, Nat.reduceLT, Nat.reduceEqDiff, reduceCtorEq, ↓reduceIte, rqs, hF, hqb, hsl, e4, g3, g4]
      refine ⟨tmps_by (by kernel_rfl), ?_⟩
      refine call_by (ms) (by first | rfl | (simp only [tocvs, tocv, hF, hqb, hsl, e4, g3, g4]; rfl) | (simp only [tocvs, tocv, toboxes, tobox, updH_at, Nat.reduceEqDiff, ↓reduceIte, hF, hqb, hsl, e4, g3, g4]; rfl)) (by simp) ?_
      simp (disch := omega) only [wk, tis, Int.reduceNe, Int.reduceEq, Int.reduceLT, Int.reduceLE, Int.reduceAdd, Int.reduceSub, Int.reduceNeg, Int.reduceMul, Int.reduceToNat, Nat.reduceSub, Nat.reduceMul, Nat.reduceLeDiff, Nat.reduceAdd, Nat.reduceLT, Nat.reduceEqDiff, reduceCtorEq, ↓reduceIte, rqs, hF, hqb, hsl, e4, g3, g4]
      first | exact log_by (by kernel_rfl) | refine ⟨log_by (by kernel_rfl), ?_⟩
      simp (disch := omega) only [wk, tis, Int.reduceNe, Int.reduceEq, Int.reduceLT, Int.reduceLE, Int.reduceAdd, Int.reduceSub, Int.reduceNeg, Int.reduceMul, Int.reduceToNat, Nat.reduceSub, Nat.reduceMul, Nat.reduceLeDiff, Nat.reduceAdd, Nat.reduceLT, Nat.reduceEqDiff, reduceCtorEq, ↓reduceIte, rqs, hF, hst]
      refine ⟨⟨j + 1, sc, by omega, ?_⟩, by omega⟩
      (repeat' apply And.intro) <;> first | rfl | omega
    · obtain rfl : j = B.length := by omega
      have hpl : ((padq i Q).map crat).length = i := by rw [List.length_map, padq_len]
      have hsq : QB (2 ^ 40) (2 ^ 38) (subp X B (dc X B) s B.length) := .of (by rw [subp_len]; omega) fun a => by
        rw [cfq_subp (by omega)]
        have z1 := zx a
        have z2 := zb (a - s)
        have z3 := qz_mul (dc X B) (cfq B (a - s))
        have z4 := qz_sub (cfq X a) (dc X B * cfq B (a - s))
        split <;> omega
      have tt := qtrim_t _ hsq
      rw [hend] at tt
      have hql2 : ((dn1 X B).map crat).length = (dn1 X B).length := List.length_map _
      simp (disch := omega) only [wk, tis, Int.reduceNe, Int.reduceEq, Int.reduceLT, Int.reduceLE, Int.reduceAdd, Int.reduceSub, Int.reduceNeg, Int.reduceMul, Int.reduceToNat, Nat.reduceSub, Nat.reduceMul, Nat.reduceLeDiff, Nat.reduceAdd, Nat.reduceLT, Nat.reduceEqDiff, reduceCtorEq, ↓reduceIte, rqs, hF, hpl, hset]
      refine callt_by (tt) (by first | rfl | (simp (disch := omega) only [wk, tis, Int.reduceNe, Int.reduceEq, Int.reduceLT, Int.reduceLE, Int.reduceAdd, Int.reduceSub, Int.reduceNeg, Int.reduceMul, Int.reduceToNat, Nat.reduceSub, Nat.reduceMul, Nat.reduceLeDiff, Nat.reduceAdd, Nat.reduceLT, Nat.reduceEqDiff, reduceCtorEq, ↓reduceIte, rqs, hF, hpl, hset]; done)) (by first | rfl | (simp (disch := omega) only [wk, tis, Int.reduceNe, Int.reduceEq, Int.reduceLT, Int.reduceLE, Int.reduceAdd, Int.reduceSub, Int.reduceNeg, Int.reduceMul, Int.reduceToNat, Nat.reduceSub, Nat.reduceMul, Nat.reduceLeDiff, Nat.reduceAdd, Nat.reduceLT, Nat.reduceEqDiff, reduceCtorEq, ↓reduceIte, rqs, hF, hpl, hset]; done)) (by first | rfl | (simp only [tocvs, tocv, List.set_cons_zero, List.set_cons_succ, hF, hpl, hset]; rfl)) (by simp) (by simp) ?_
      simp (disch := omega) only [wk, tis, Int.reduceNe, Int.reduceEq, Int.reduceLT, Int.reduceLE, Int.reduceAdd, Int.reduceSub, Int.reduceNeg, Int.reduceMul, Int.reduceToNat, Nat.reduceSub, Nat.reduceMul, Nat.reduceLeDiff, Nat.reduceAdd, Nat.reduceLT, Nat.reduceEqDiff, reduceCtorEq, ↓reduceIte, rqs, hF, hpl, hset]
      simp (disch := omega) only [wk, tis, Int.reduceNe, Int.reduceEq, Int.reduceLT, Int.reduceLE, Int.reduceAdd, Int.reduceSub, Int.reduceNeg, Int.reduceMul, Int.reduceToNat, Nat.reduceSub, Nat.reduceMul, Nat.reduceLeDiff, Nat.reduceAdd, Nat.reduceLT, Nat.reduceEqDiff, reduceCtorEq, ↓reduceIte, rqs, hrows_blk, rats_length, hql2]
      refine ⟨⟨k + 1, sr + 1, sq, hkn, ?_⟩, hdn⟩
      rw [hdit, hQ']
      (repeat' apply And.intro) <;> first | rfl | omega
  · obtain rfl : k = n := by
      rcases Nat.lt_or_ge k n with h | h
      · exact absurd (hj k h) hge
      · omega
    have hge' : ¬ (B.length : Int) ≤ ((dit A B k).length : Int) := by omega
    have dl := dqu_len h0 hb k hj
    have hpl : ((padq i (dqu A B k)).map crat).length = i := by rw [List.length_map, padq_len]
    have zd := dqu_size h0 hb za zb k1 k (Nat.le_refl _) hj
    have tq := qtrim_own (padq i (dqu A B k)) (.of (by rw [padq_len]; omega) fun a => by
      rw [padq_all (by omega)]
      have := zd a
      omega)
    rw [show cqp (padq i (dqu A B k)) = cqp (dqu A B k) from congrArg cqw (cqs_ext (padq_all (by omega)))] at tq
    simp (disch := omega) only [wk, tis, Int.reduceNe, Int.reduceEq, Int.reduceLT, Int.reduceLE, Int.reduceAdd, Int.reduceSub, Int.reduceNeg, Int.reduceMul, Int.reduceToNat, Nat.reduceSub, Nat.reduceMul, Nat.reduceLeDiff, Nat.reduceAdd, Nat.reduceLT, Nat.reduceEqDiff, reduceCtorEq, ↓reduceIte, rqs, h7, h8, h10, hH1, hH2, hql, hqb, hge']
    refine call_by (tq) (by first | rfl | (simp only [tocvs, tocv, h7, h8, h10, hH1, hH2, hql, hqb, hge', hpl]; rfl) | (simp only [tocvs, tocv, toboxes, tobox, updH_at, Nat.reduceEqDiff, ↓reduceIte, h7, h8, h10, hH1, hH2, hql, hqb, hge', hpl]; rfl)) (by simp) ?_
    simp (disch := omega) only [wk, tis, Int.reduceNe, Int.reduceEq, Int.reduceLT, Int.reduceLE, Int.reduceAdd, Int.reduceSub, Int.reduceNeg, Int.reduceMul, Int.reduceToNat, Nat.reduceSub, Nat.reduceMul, Nat.reduceLeDiff, Nat.reduceAdd, Nat.reduceLT, Nat.reduceEqDiff, reduceCtorEq, ↓reduceIte, rqs, h7, h8, h10, hH1, hH2, hql, hqb, hge', hpl]
    try rfl
end Go.Proofs.YtjadkhkgmdikiaaGreat

namespace Go.Proofs.YtjadkhkgmdikiaaGreat
open Go Go.Proofs Go.AL
set_option linter.unusedSimpArgs false
set_option linter.unusedVariables false

theorem qdiv_bad (p q : List RQ) (hp : BQ (2 ^ 40) (2 ^ 38) p) (hq : BQ (2 ^ 40) (2 ^ 38) q) (h : gd p = false ∨ gd q = false) : AC Tryz.prog 67 [cqw p, cqw q] none [cqw [], cqw [], ci 1] := by
  have m := qboth_bad p q hp hq h
  refine AC.by_walk (rs := [.tmp 4, .tmp 5, .tmp 6]) ords Tryz.func67 (by rfl) (by rfl) (by rfl) (by rfl) (by rfl) ?_
  simp (disch := omega) only [wk, tis, Int.reduceNe, Int.reduceEq, Int.reduceLT, Int.reduceLE, Int.reduceAdd, Int.reduceSub, Int.reduceNeg, Int.reduceMul, Int.reduceToNat, Nat.reduceSub, Nat.reduceMul, Nat.reduceLeDiff, Nat.reduceAdd, Nat.reduceLT, Nat.reduceEqDiff, reduceCtorEq, ↓reduceIte, rqs]
  refine call_by (m) (by rfl) (by simp) ?_
  simp (disch := omega) only [wk, tis, Int.reduceNe, Int.reduceEq, Int.reduceLT, Int.reduceLE, Int.reduceAdd, Int.reduceSub, Int.reduceNeg, Int.reduceMul, Int.reduceToNat, Nat.reduceSub, Nat.reduceMul, Nat.reduceLeDiff, Nat.reduceAdd, Nat.reduceLT, Nat.reduceEqDiff, reduceCtorEq, ↓reduceIte, rqs]
  try rfl
theorem qdiv_zero (p q : List RQ) (hp : GQ (2 ^ 40) (2 ^ 38) p) (hq : GQ (2 ^ 40) (2 ^ 38) q) (h : trimq (qvs q) = []) : AC Tryz.prog 67 [cqw p, cqw q] none [cqw [], cqw [], ci 1] := by
  have m := qboth_ok p q hp hq
  rw [show cqp (qvs q) = cqw [] from congrArg cqw (by rw [cqs, h]; rfl)] at m
  refine AC.by_walk (rs := [.tmp 4, .tmp 5, .tmp 6]) ords Tryz.func67 (by rfl) (by rfl) (by rfl) (by rfl) (by rfl) ?_
  simp (disch := omega) only [wk, tis, Int.reduceNe, Int.reduceEq, Int.reduceLT, Int.reduceLE, Int.reduceAdd, Int.reduceSub, Int.reduceNeg, Int.reduceMul, Int.reduceToNat, Nat.reduceSub, Nat.reduceMul, Nat.reduceLeDiff, Nat.reduceAdd, Nat.reduceLT, Nat.reduceEqDiff, reduceCtorEq, ↓reduceIte, rqs]
  refine call_by (m) (by rfl) (by simp) ?_
  simp (disch := omega) only [wk, tis, Int.reduceNe, Int.reduceEq, Int.reduceLT, Int.reduceLE, Int.reduceAdd, Int.reduceSub, Int.reduceNeg, Int.reduceMul, Int.reduceToNat, Nat.reduceSub, Nat.reduceMul, Nat.reduceLeDiff, Nat.reduceAdd, Nat.reduceLT, Nat.reduceEqDiff, reduceCtorEq, ↓reduceIte, rqs]
  try rfl

theorem cvq_take_all {g : Nat → Rat} (A : List Rat) (k : Nat) : cvq (A.take (k + 1)) g k = cvq A g k := by
  have h : ∀ m, cvq (A.take (k + 1 + m)) g k = cvq (A.take (k + 1)) g k := fun m => by
    induction m with
    | zero => rfl
    | succ m ih => rw [← Nat.add_assoc, cvq_take_succ, ih, if_neg (by omega), Rat.add_zero]
  rw [← h A.length, List.take_of_length_le (by omega)]
theorem mulq_len (A B : List Rat) : (mulq A B).length = A.length + B.length := by simp [mulq]

set_option maxHeartbeats 1000000 in
theorem ttimes_ok (p r : List RQ) (K : Nat) (hp : GQ (2 ^ 30) K p) (hr : GQ (2 ^ 30) K r) (hK : K ≤ 2 ^ 33) (hK1 : 1 ≤ K) (hz : ∀ i k, qz (cvq ((trimq (qvs p)).take i) (cfq (trimq (qvs r))) k) ≤ 2 ^ 34) : AC Tryz.prog 131 [cqw p, cqw r] none [cqp (mulq (qvs p) (qvs r))] := by
  have m := tform_ok p (hp.mono (by omega) (by omega))
  have n := tform_ok r (hr.mono (by omega) (by omega))
  have hA := hp.qb.trimq
  have hB := hr.qb.trimq
  have z0 := hP_ok 0 1 (by omega) (by omega) (by omega) (by omega)
  rw [show ((0 : Int) : Rat) / ((1 : Nat) : Rat) = 0 by decide +kernel] at z0
  have e : cqp (mulq (qvs p) (qvs r)) = cqp (mulq (trimq (qvs p)) (trimq (qvs r))) := congrArg cqw (cqs_ext fun k => (mulq_trim _ _ k).symm)
  rw [e]
  refine AC.by_walk (rs := [.tmp 4]) ords Tryz.func131 (by rfl) (by rfl) (by rfl) (by rfl) (by rfl) ?_
  simp (disch := omega) only [wk, tis, Int.reduceNe, Int.reduceEq, Int.reduceLT, Int.reduceLE, Int.reduceAdd, Int.reduceSub, Int.reduceNeg, Int.reduceMul, Int.reduceToNat, Nat.reduceSub, Nat.reduceMul, Nat.reduceLeDiff, Nat.reduceAdd, Nat.reduceLT, Nat.reduceEqDiff, reduceCtorEq, ↓reduceIte, rqs]
  refine call_by (m) (by rfl) (by simp) ?_
  simp (disch := omega) only [wk, tis, Int.reduceNe, Int.reduceEq, Int.reduceLT, Int.reduceLE, Int.reduceAdd, Int.reduceSub, Int.reduceNeg, Int.reduceMul, Int.reduceToNat, Nat.reduceSub, Nat.reduceMul, Nat.reduceLeDiff, Nat.reduceAdd, Nat.reduceLT, Nat.reduceEqDiff, reduceCtorEq, ↓reduceIte, rqs]
  refine call_by (n) (by rfl) (by simp) ?_
  simp (disch := omega) only [wk, tis, Int.reduceNe, Int.reduceEq, Int.reduceLT, Int.reduceLE, Int.reduceAdd, Int.reduceSub, Int.reduceNeg, Int.reduceMul, Int.reduceToNat, Nat.reduceSub, Nat.reduceMul, Nat.reduceLeDiff, Nat.reduceAdd, Nat.reduceLT, Nat.reduceEqDiff, reduceCtorEq, ↓reduceIte, rqs]
  unfold cqs
  generalize trimq (qvs p) = A at *
  generalize trimq (qvs r) = B at *
  have hAl := hA.1
  have hBl := hB.1
  have hqa : (A.map crat).length = A.length := List.length_map _
  have hqb : (B.map crat).length = B.length := List.length_map _
  have hml := mulq_len A B
  have hR : QB (2 ^ 40) (2 ^ 38) ((mulq A B).take (A.length + B.length - 1)) := ⟨by rw [List.length_take]; omega, fun c hc => by
    obtain ⟨i, hi, rfl⟩ := List.getElem_of_mem (List.mem_of_mem_take hc)
    rw [← cfq_lt hi, cfq_mulq, ← cvq_take_all]
    have := hz (i + 1) i
    omega⟩
  have t := tform_ok (((mulq A B).take (A.length + B.length - 1)).map crat) hR.gq
  rw [qvs_map, show cqp ((mulq A B).take (A.length + B.length - 1)) = cqp (mulq A B) from congrArg cqw (cqs_ext fun k => by
    by_cases hk : k < A.length + B.length - 1
    · rw [cfq_lt (by rw [List.length_take]; omega), cfq_lt (by omega), List.getElem_take]
    · rw [cfq_ge (by rw [List.length_take]; omega), cfq_mulq, cvq_zero (n := B.length) A (fun j hj => cfq_ge hj) (by omega)])] at t
  refine aloop_nil 5 5 31 3 (by simp (disch := omega) only [wk, tis, Int.reduceNe, Int.reduceEq, Int.reduceLT, Int.reduceLE, Int.reduceAdd, Int.reduceSub, Int.reduceNeg, Int.reduceMul, Int.reduceToNat, Nat.reduceSub, Nat.reduceMul, Nat.reduceLeDiff, Nat.reduceAdd, Nat.reduceLT, Nat.reduceEqDiff, reduceCtorEq, ↓reduceIte, rqs]) (fun f H => ∃ (k st : Nat), k ≤ A.length + B.length - 1 ∧ f 6 = .iv (.int .i64 k) ∧ f 0 = .iv (.sl (rats (A.map crat))) ∧ f 1 = .iv (.sl (rats (B.map crat))) ∧ f 5 = .hs 5 st ∧ H 5 = .blk false st 31 3 (rats (((mulq A B).take k).map crat))) (fun f H => (A.length + B.length - intAt f 6).toNat) ?_ ?_
  · refine ⟨0, 1, by omega, ?_⟩
    simp (disch := omega) only [wk, tis, Int.reduceNe, Int.reduceEq, Int.reduceLT, Int.reduceLE, Int.reduceAdd, Int.reduceSub, Int.reduceNeg, Int.reduceMul, Int.reduceToNat, Nat.reduceSub, Nat.reduceMul, Nat.reduceLeDiff, Nat.reduceAdd, Nat.reduceLT, Nat.reduceEqDiff, reduceCtorEq, ↓reduceIte, rqs, ghostF, ghostH, List.take_zero, List.map_nil]
  rintro f H ⟨k, st, hk, hF⟩
  rw [intAt_of hF.1]
  simp (disch := omega) only [wk, tis, Int.reduceNe, Int.reduceEq, Int.reduceLT, Int.reduceLE, Int.reduceAdd, Int.reduceSub, Int.reduceNeg, Int.reduceMul, Int.reduceToNat, Nat.reduceSub, Nat.reduceMul, Nat.reduceLeDiff, Nat.reduceAdd, Nat.reduceLT, Nat.reduceEqDiff, reduceCtorEq, ↓reduceIte, rqs, hF]
  by_cases hlt : k < A.length + B.length - 1
  · have hlt' : (k : Int) < (A.length : Int) + (B.length : Int) - 1 := by omega
    simp (disch := omega) only [wk, tis, Int.reduceNe, Int.reduceEq, Int.reduceLT, Int.reduceLE, Int.reduceAdd, Int.reduceSub, Int.reduceNeg, Int.reduceMul, Int.reduceToNat, Nat.reduceSub, Nat.reduceMul, Nat.reduceLeDiff, Nat.reduceAdd, Nat.reduceLT, Nat.reduceEqDiff, reduceCtorEq, ↓reduceIte, rqs, hF, hqa, hqb, hlt']
    refine call_by (z0) (by first | rfl | (simp only [tocvs, tocv, hF, hqa, hqb]; rfl) | (simp only [tocvs, tocv, toboxes, tobox, updH_at, Nat.reduceEqDiff, ↓reduceIte, hF, hqa, hqb]; rfl)) (by simp) ?_
    simp (disch := omega) only [wk, tis, Int.reduceNe, Int.reduceEq, Int.reduceLT, Int.reduceLE, Int.reduceAdd, Int.reduceSub, Int.reduceNeg, Int.reduceMul, Int.reduceToNat, Nat.reduceSub, Nat.reduceMul, Nat.reduceLeDiff, Nat.reduceAdd, Nat.reduceLT, Nat.reduceEqDiff, reduceCtorEq, ↓reduceIte, rqs, hF, hqa, hqb]
    refine aloop_by (fun f H => ∃ (i s7 : Nat), i ≤ k + 1 ∧ f 8 = .iv (.int .i64 i) ∧ f 6 = .iv (.int .i64 k) ∧ f 0 = .iv (.sl (rats (A.map crat))) ∧ f 1 = .iv (.sl (rats (B.map crat))) ∧ f 5 = .hs 5 st ∧ H 5 = .blk false st 31 3 (rats (((mulq A B).take k).map crat)) ∧ f 7 = .hp 7 s7 0 0 ∧ H 7 = .blk false s7 31 3 [qrow (crat (cvq (A.take i) (cfq B) k))]) (fun f H => (k + 1 - intAt f 8).toNat) ?_ ?_
    · refine ⟨0, (H 7).stamp + 1, by omega, ?_⟩
      simp (disch := omega) only [wk, tis, Int.reduceNe, Int.reduceEq, Int.reduceLT, Int.reduceLE, Int.reduceAdd, Int.reduceSub, Int.reduceNeg, Int.reduceMul, Int.reduceToNat, Nat.reduceSub, Nat.reduceMul, Nat.reduceLeDiff, Nat.reduceAdd, Nat.reduceLT, Nat.reduceEqDiff, reduceCtorEq, ↓reduceIte, rqs, hF, show crat (cvq (A.take 0) (cfq B) k) = crat 0 from rfl]
    rintro f H ⟨i, s7, hi, hF⟩
    rw [intAt_of hF.1]
    simp (disch := omega) only [wk, tis, Int.reduceNe, Int.reduceEq, Int.reduceLT, Int.reduceLE, Int.reduceAdd, Int.reduceSub, Int.reduceNeg, Int.reduceMul, Int.reduceToNat, Nat.reduceSub, Nat.reduceMul, Nat.reduceLeDiff, Nat.reduceAdd, Nat.reduceLT, Nat.reduceEqDiff, reduceCtorEq, ↓reduceIte, rqs, hF]
    by_cases hik : i ≤ k
    · have hik' : (i : Int) ≤ (k : Int) := by omega
      have es := cvq_take_succ (g := cfq B) A i k
      rw [if_pos hik] at es
      by_cases h1 : i < A.length
      · have h1' : (i : Int) < (A.length : Int) := by omega
        have e1 : (k : Int) - (i : Int) = ((k - i : Nat) : Int) := by omega
        by_cases h2 : k - i < B.length
        · have h2' : ((k - i : Nat) : Int) < (B.length : Int) := by omega
          have g1 := cratq_get h1
          have g2 := cratq_get h2
          have y1 := hA.cz hK1 i
          have y2 := hB.cz hK1 (k - i)
          have y3 := hz i k
          have y4 := qz_mul (cfq A i) (cfq B (k - i))
          have x := htimes_ok (crat (cfq A i)) (crat (cfq B (k - i))) (szq_crat (by omega)) (szq_crat (by omega)) (nv_crat0 _) (nv_crat0 _)
          have y := hplus_ok (crat (cvq (A.take i) (cfq B) k)) (crat (cfq A i * cfq B (k - i))) (szq_crat (by omega)) (szq_crat (by omega)) (nv_crat0 _) (nv_crat0 _)
          rw [qv_crat, qv_crat] at x y
          rw [← es] at y
          simp (disch := omega) only [wk, tis, Int.reduceNe, Int.reduceEq, Int.reduceLT, Int.reduceLE, Int.reduceAdd, Int.reduceSub, Int.reduceNeg, Int.reduceMul, Int.reduceToNat, Nat.reduceSub, Nat.reduceMul, Nat.reduceLeDiff, Nat.reduceAdd, Nat.reduceLT, Nat.reduceEqDiff, reduceCtorEq, ↓reduceIte, rqs, hF, hqa, hqb, hik', h1', e1, h2', g1, g2]
          refine ⟨tmps_by (by kernel_rfl), ?_⟩
          refine call_by (x) (by first | rfl | (simp only [tocvs, tocv, hF, hqa, hqb, g1, g2]; rfl) | (simp only [tocvs, tocv, toboxes, tobox, updH_at, Nat.reduceEqDiff, ↓reduceIte, hF, hqa, hqb, g1, g2]; rfl)) (by simp) ?_
          simp (disch := omega) only [wk, tis, Int.reduceNe, Int.reduceEq, Int.reduceLT, Int.reduceLE, Int.reduceAdd, Int.reduceSub, Int.reduceNeg, Int.reduceMul, Int.reduceToNat, Nat.reduceSub, Nat.reduceMul, Nat.reduceLeDiff, Nat.reduceAdd, Nat.reduceLT, Nat.reduceEqDiff, reduceCtorEq, ↓reduceIte, rqs, hF, hqa, hqb, g1, g2]
          refine call_by (y) (by first | rfl | (simp only [tocvs, tocv, hF, hqa, hqb, g1, g2]; rfl) | (simp only [tocvs, tocv, toboxes, tobox, updH_at, Nat.reduceEqDiff, ↓reduceIte, hF, hqa, hqb, g1, g2]; rfl)) (by simp) ?_
          simp (disch := omega) only [wk, tis, Int.reduceNe, Int.reduceEq, Int.reduceLT, Int.reduceLE, Int.reduceAdd, Int.reduceSub, Int.reduceNeg, Int.reduceMul, Int.reduceToNat, Nat.reduceSub, Nat.reduceMul, Nat.reduceLeDiff, Nat.reduceAdd, Nat.reduceLT, Nat.reduceEqDiff, reduceCtorEq, ↓reduceIte, rqs, hF, hqa, hqb, g1, g2]
          first | exact log_by (by kernel_rfl) | refine ⟨log_by (by kernel_rfl), ?_⟩
          refine ⟨⟨i + 1, s7, by omega, ?_⟩, by omega⟩
          (repeat' apply And.intro) <;> first | rfl | omega
        · have h2' : ¬ ((k - i : Nat) : Int) < (B.length : Int) := by omega
          rw [cfq_ge (q := B) (by omega), Rat.mul_zero, Rat.add_zero] at es
          simp (disch := omega) only [wk, tis, Int.reduceNe, Int.reduceEq, Int.reduceLT, Int.reduceLE, Int.reduceAdd, Int.reduceSub, Int.reduceNeg, Int.reduceMul, Int.reduceToNat, Nat.reduceSub, Nat.reduceMul, Nat.reduceLeDiff, Nat.reduceAdd, Nat.reduceLT, Nat.reduceEqDiff, reduceCtorEq, ↓reduceIte, rqs, hF, hqa, hqb, hik', h1', e1, h2']
          refine ⟨⟨i + 1, s7, by omega, ?_⟩, by omega⟩
          rw [es]
          (repeat' apply And.intro) <;> first | rfl | omega
      · have h1' : ¬ (i : Int) < (A.length : Int) := by omega
        rw [cfq_ge (q := A) (by omega), Rat.zero_mul, Rat.add_zero] at es
        simp (disch := omega) only [wk, tis, Int.reduceNe, Int.reduceEq, Int.reduceLT, Int.reduceLE, Int.reduceAdd, Int.reduceSub, Int.reduceNeg, Int.reduceMul, Int.reduceToNat, Nat.reduceSub, Nat.reduceMul, Nat.reduceLeDiff, Nat.reduceAdd, Nat.reduceLT, Nat.reduceEqDiff, reduceCtorEq, ↓reduceIte, rqs, hF, hqa, hqb, hik', h1']
        refine ⟨⟨i + 1, s7, by omega, ?_⟩, by omega⟩
        rw [es]
        (repeat' apply And.intro) <;> first | rfl | omega
    · have hik' : ¬ (i : Int) ≤ (k : Int) := by omega
      obtain rfl : i = k + 1 := by omega
      rw [cvq_take_all, ← cfq_mulq] at hF
      have hrq : (((mulq A B).take k).map crat).length = k := by rw [List.length_map, List.length_take]; omega
      have et := takeq_snoc (q := mulq A B) (i := k) (by omega)
      simp (disch := omega) only [wk, tis, Int.reduceNe, Int.reduceEq, Int.reduceLT, Int.reduceLE, Int.reduceAdd, Int.reduceSub, Int.reduceNeg, Int.reduceMul, Int.reduceToNat, Nat.reduceSub, Nat.reduceMul, Nat.reduceLeDiff, Nat.reduceAdd, Nat.reduceLT, Nat.reduceEqDiff, reduceCtorEq, ↓reduceIte, rqs, hF, hik', hrq]
      refine ⟨⟨k + 1, st + 1, by omega, ?_⟩, by omega⟩
      rw [et, List.map_append]
      (repeat' apply And.intro) <;> first | rfl | omega
  · have hlt' : ¬ (k : Int) < (A.length : Int) + (B.length : Int) - 1 := by omega
    obtain rfl : k = A.length + B.length - 1 := by omega
    simp (disch := omega) only [wk, tis, Int.reduceNe, Int.reduceEq, Int.reduceLT, Int.reduceLE, Int.reduceAdd, Int.reduceSub, Int.reduceNeg, Int.reduceMul, Int.reduceToNat, Nat.reduceSub, Nat.reduceMul, Nat.reduceLeDiff, Nat.reduceAdd, Nat.reduceLT, Nat.reduceEqDiff, reduceCtorEq, ↓reduceIte, rqs, hF, hqa, hqb, hlt']
    refine call_by (t) (by first | rfl | (simp only [tocvs, tocv, hF]; rfl) | (simp only [tocvs, tocv, toboxes, tobox, updH_at, Nat.reduceEqDiff, ↓reduceIte, hF]; rfl)) (by simp) ?_
    simp (disch := omega) only [wk, tis, Int.reduceNe, Int.reduceEq, Int.reduceLT, Int.reduceLE, Int.reduceAdd, Int.reduceSub, Int.reduceNeg, Int.reduceMul, Int.reduceToNat, Nat.reduceSub, Nat.reduceMul, Nat.reduceLeDiff, Nat.reduceAdd, Nat.reduceLT, Nat.reduceEqDiff, reduceCtorEq, ↓reduceIte, rqs, hF]
end Go.Proofs.YtjadkhkgmdikiaaGreat

namespace Go.Proofs.YtjadkhkgmdikiaaGreat
open Go Go.Proofs Go.AL
set_option linter.unusedSimpArgs false
set_option linter.unusedVariables false

/-! ### The document's derivative and integral -/
theorem derq_trimmed {A : List Rat} (h : trimq A = A) : trimq (derq A) = derq A := by
  have hd := derq_len A
  by_cases h0 : A.length ≤ 1
  · have e : derq A = [] := List.length_eq_zero_iff.mp (by omega)
    rw [e]; rfl
  · have ht := trimq_full h
    have hp := cfq_tzq_pred (q := A) (by omega)
    rw [ht] at hp
    have hc : cfq (derq A) (A.length - 2) ≠ 0 := by
      rw [cfq_derq, show A.length - 2 + 1 = A.length - 1 by omega]
      intro e
      rcases Rat.mul_eq_zero.mp e with e | e
      · exact hp e
      · exact natr_ne (n := A.length - 1) (by omega) e
    have := tzq_spec hc fun k hk => cfq_ge (by omega)
    rw [trimq, this, List.take_of_length_le (by omega)]

theorem tderiv_ok (p : List RQ) (n k : Nat) (h : GQ n k p) (hn : n ≤ 2 ^ 40) (hk : k ≤ 2 ^ 34) (hk1 : 1 ≤ k) : AC Tryz.prog 70 [cqw p] none [cqp (derq (qvs p))] := by
  have nm := tform_ok p (h.mono hn (by omega))
  have hA := h.qb.trimq
  have dt := derq_trimmed (trimq_trimq (qvs p))
  rw [show cqp (derq (qvs p)) = cqp (derq (trimq (qvs p))) from congrArg cqw (derq_trim _).symm, show cqp (derq (trimq (qvs p))) = cqw ((derq (trimq (qvs p))).map crat) from congrArg cqw (by rw [cqs, dt])]
  refine AC.by_walk (rs := [.tmp 2]) ords Tryz.func70 (by rfl) (by rfl) (by rfl) (by rfl) (by rfl) ?_
  simp (disch := omega) only [wk, tis, Int.reduceNe, Int.reduceEq, Int.reduceLT, Int.reduceLE, Int.reduceAdd, Int.reduceSub, Int.reduceNeg, Int.reduceMul, Int.reduceToNat, Nat.reduceSub, Nat.reduceMul, Nat.reduceLeDiff, Nat.reduceAdd, Nat.reduceLT, Nat.reduceEqDiff, reduceCtorEq, ↓reduceIte, rqs]
  refine call_by (nm) (by rfl) (by simp) ?_
  simp (disch := omega) only [wk, tis, Int.reduceNe, Int.reduceEq, Int.reduceLT, Int.reduceLE, Int.reduceAdd, Int.reduceSub, Int.reduceNeg, Int.reduceMul, Int.reduceToNat, Nat.reduceSub, Nat.reduceMul, Nat.reduceLeDiff, Nat.reduceAdd, Nat.reduceLT, Nat.reduceEqDiff, reduceCtorEq, ↓reduceIte, rqs]
  unfold cqs
  generalize trimq (qvs p) = A at *
  have hAl := hA.1
  have hq : (A.map crat).length = A.length := List.length_map _
  have hdl := derq_len A
  refine aloop_nil 3 3 31 3 (by simp (disch := omega) only [wk, tis, Int.reduceNe, Int.reduceEq, Int.reduceLT, Int.reduceLE, Int.reduceAdd, Int.reduceSub, Int.reduceNeg, Int.reduceMul, Int.reduceToNat, Nat.reduceSub, Nat.reduceMul, Nat.reduceLeDiff, Nat.reduceAdd, Nat.reduceLT, Nat.reduceEqDiff, reduceCtorEq, ↓reduceIte, rqs]) (fun f H => ∃ (i st : Nat), i ≤ A.length - 1 ∧ f 4 = .iv (.int .i64 ((i : Int) + 1)) ∧ f 0 = .iv (.sl (rats (A.map crat))) ∧ f 3 = .hs 3 st ∧ H 3 = .blk false st 31 3 (rats (((derq A).take i).map crat))) (fun f H => (A.length - intAt f 4).toNat) ?_ ?_
  · refine ⟨0, 1, by omega, ?_⟩
    simp (disch := omega) only [wk, tis, Int.reduceNe, Int.reduceEq, Int.reduceLT, Int.reduceLE, Int.reduceAdd, Int.reduceSub, Int.reduceNeg, Int.reduceMul, Int.reduceToNat, Nat.reduceSub, Nat.reduceMul, Nat.reduceLeDiff, Nat.reduceAdd, Nat.reduceLT, Nat.reduceEqDiff, reduceCtorEq, ↓reduceIte, rqs, ghostF, ghostH, List.take_zero, List.map_nil, show ((0 : Nat) : Int) + 1 = 1 from rfl]
  rintro f H ⟨i, st, hi, hF⟩
  rw [intAt_of hF.1]
  simp (disch := omega) only [wk, tis, Int.reduceNe, Int.reduceEq, Int.reduceLT, Int.reduceLE, Int.reduceAdd, Int.reduceSub, Int.reduceNeg, Int.reduceMul, Int.reduceToNat, Nat.reduceSub, Nat.reduceMul, Nat.reduceLeDiff, Nat.reduceAdd, Nat.reduceLT, Nat.reduceEqDiff, reduceCtorEq, ↓reduceIte, rqs, hF]
  refine if_by (fun hlt => ?_) (fun hlt => ?_)
  · rw [hq] at hlt
    have hlt' : i + 1 < A.length := by omega
    have hrq : (((derq A).take i).map crat).length = i := by rw [List.length_map, List.length_take]; omega
    have e := cratq_get hlt'
    have ei : ((i : Int) + 1) = ((i + 1 : Nat) : Int) := by omega
    have o := hP_ok ((i + 1 : Nat) : Int) 1 (by omega) (by omega) (by omega) (by omega)
    rw [show ((1 : Nat) : Rat) = 1 from rfl, show (((i + 1 : Nat) : Int) : Rat) / 1 = (((i + 1 : Nat) : Int) : Rat) by grind] at o
    have z1 := hA.cz hk1 (i + 1)
    have z2 := qz_nat1 (i := i + 1) (by simp only [W]; omega)
    have m := htimes_ok (crat (cfq A (i + 1))) (crat (((i + 1 : Nat) : Int) : Rat)) (szq_crat (by omega)) (szq_crat (by omega)) (nv_crat0 _) (nv_crat0 _)
    rw [qv_crat, qv_crat, show cfq A (i + 1) * (((i + 1 : Nat) : Int) : Rat) = cfq (derq A) i by rw [cfq_derq, Rat.intCast_natCast]] at m
    rw [ei] at hF
    simp (disch := omega) only [wk, tis, Int.reduceNe, Int.reduceEq, Int.reduceLT, Int.reduceLE, Int.reduceAdd, Int.reduceSub, Int.reduceNeg, Int.reduceMul, Int.reduceToNat, Nat.reduceSub, Nat.reduceMul, Nat.reduceLeDiff, Nat.reduceAdd, Nat.reduceLT, Nat.reduceEqDiff, reduceCtorEq, ↓reduceIte, rqs, hF, hq, hrq, e, ei]
    refine ⟨tmps_by (by kernel_rfl), ?_⟩
    refine call_by (o) (by first | rfl | (simp only [tocvs, tocv, hF, hq, hrq, e, ei]; rfl) | (simp only [tocvs, tocv, toboxes, tobox, updH_at, Nat.reduceEqDiff, ↓reduceIte, hF, hq, hrq, e, ei]; rfl)) (by simp) ?_
    simp (disch := omega) only [wk, tis, Int.reduceNe, Int.reduceEq, Int.reduceLT, Int.reduceLE, Int.reduceAdd, Int.reduceSub, Int.reduceNeg, Int.reduceMul, Int.reduceToNat, Nat.reduceSub, Nat.reduceMul, Nat.reduceLeDiff, Nat.reduceAdd, Nat.reduceLT, Nat.reduceEqDiff, reduceCtorEq, ↓reduceIte, rqs, hF, hq, hrq, e, ei]
    refine call_by (m) (by first | rfl | (simp only [tocvs, tocv, hF, hq, hrq, e, ei]; rfl) | (simp only [tocvs, tocv, toboxes, tobox, updH_at, Nat.reduceEqDiff, ↓reduceIte, hF, hq, hrq, e, ei]; rfl)) (by simp) ?_
    simp (disch := omega) only [wk, tis, Int.reduceNe, Int.reduceEq, Int.reduceLT, Int.reduceLE, Int.reduceAdd, Int.reduceSub, Int.reduceNeg, Int.reduceMul, Int.reduceToNat, Nat.reduceSub, Nat.reduceMul, Nat.reduceLeDiff, Nat.reduceAdd, Nat.reduceLT, Nat.reduceEqDiff, reduceCtorEq, ↓reduceIte, rqs, hF, hq, hrq, e, ei]
    first | exact log_by (by kernel_rfl) | refine ⟨log_by (by kernel_rfl), ?_⟩
    have et := takeq_snoc (q := derq A) (i := i) (by omega)
    refine ⟨⟨i + 1, st + 1, by omega, ?_⟩, by omega⟩
    rw [et, List.map_append]
    (repeat' apply And.intro) <;> first | rfl | omega
  · rw [hq] at hlt
    rw [List.take_of_length_le (by omega)] at hF
    simp (disch := omega) only [wk, tis, Int.reduceNe, Int.reduceEq, Int.reduceLT, Int.reduceLE, Int.reduceAdd, Int.reduceSub, Int.reduceNeg, Int.reduceMul, Int.reduceToNat, Nat.reduceSub, Nat.reduceMul, Nat.reduceLeDiff, Nat.reduceAdd, Nat.reduceLT, Nat.reduceEqDiff, reduceCtorEq, ↓reduceIte, rqs, hF]
    try rfl

theorem tintegral_ok (p : List RQ) (n k : Nat) (h : GQ n k p) (hn : n ≤ 2 ^ 38) (hk : k ≤ 2 ^ 34) (hk1 : 1 ≤ k) : AC Tryz.prog 71 [cqw p] none [cqp (intq (trimq (qvs p)))] := by
  have nm := tform_ok p (h.mono (by omega) (by omega))
  have hA := h.qb.trimq
  have z0 := hP_ok 0 1 (by omega) (by omega) (by omega) (by omega)
  rw [show ((0 : Int) : Rat) / ((1 : Nat) : Rat) = 0 by decide +kernel] at z0
  refine AC.by_walk (rs := [.tmp 2]) ords Tryz.func71 (by rfl) (by rfl) (by rfl) (by rfl) (by rfl) ?_
  simp (disch := omega) only [wk, tis, Int.reduceNe, Int.reduceEq, Int.reduceLT, Int.reduceLE, Int.reduceAdd, Int.reduceSub, Int.reduceNeg, Int.reduceMul, Int.reduceToNat, Nat.reduceSub, Nat.reduceMul, Nat.reduceLeDiff, Nat.reduceAdd, Nat.reduceLT, Nat.reduceEqDiff, reduceCtorEq, ↓reduceIte, rqs]
  refine call_by (nm) (by rfl) (by simp) ?_
  simp (disch := omega) only [wk, tis, Int.reduceNe, Int.reduceEq, Int.reduceLT, Int.reduceLE, Int.reduceAdd, Int.reduceSub, Int.reduceNeg, Int.reduceMul, Int.reduceToNat, Nat.reduceSub, Nat.reduceMul, Nat.reduceLeDiff, Nat.reduceAdd, Nat.reduceLT, Nat.reduceEqDiff, reduceCtorEq, ↓reduceIte, rqs]
  unfold cqs
  generalize trimq (qvs p) = A at *
  have hAl := hA.1
  have hq : (A.map crat).length = A.length := List.length_map _
  have hil := intl_len A
  have hI : QB (2 ^ 40) (2 ^ 38) (0 :: intl A) := by
    have hi := hA.intl (by omega) hk1
    refine ⟨by rw [List.length_cons]; omega, fun c hc => ?_⟩
    rcases List.mem_cons.1 hc with rfl | hc
    · rw [qz_zero]; omega
    · have := hi.2 c hc
      omega
  have t := tform_ok ((0 :: intl A).map crat) hI.gq
  rw [qvs_map, show cqp (0 :: intl A) = cqp (intq A) from congrArg cqw (cqs_ext fun k => by
    unfold intq
    split
    · rename_i e
      rw [e]
      cases k <;> rfl
    · rfl)] at t
  have e3 : [qrow (crat 0)] = rats (crat 0 :: ((intl A).take 0).map crat) := rfl
  refine call_by (z0) (by rfl) (by simp) ?_
  simp (disch := omega) only [wk, tis, Int.reduceNe, Int.reduceEq, Int.reduceLT, Int.reduceLE, Int.reduceAdd, Int.reduceSub, Int.reduceNeg, Int.reduceMul, Int.reduceToNat, Nat.reduceSub, Nat.reduceMul, Nat.reduceLeDiff, Nat.reduceAdd, Nat.reduceLT, Nat.reduceEqDiff, reduceCtorEq, ↓reduceIte, rqs]
  simp (disch := omega) only [wk, tis, Int.reduceNe, Int.reduceEq, Int.reduceLT, Int.reduceLE, Int.reduceAdd, Int.reduceSub, Int.reduceNeg, Int.reduceMul, Int.reduceToNat, Nat.reduceSub, Nat.reduceMul, Nat.reduceLeDiff, Nat.reduceAdd, Nat.reduceLT, Nat.reduceEqDiff, reduceCtorEq, ↓reduceIte, rqs, e3]
  refine aloop_by (fun f H => ∃ (i st : Nat), i ≤ A.length ∧ f 4 = .iv (.int .i64 i) ∧ f 0 = .iv (.sl (rats (A.map crat))) ∧ f 3 = .hs 8 st ∧ H 8 = .blk false st 31 3 (rats (crat 0 :: ((intl A).take i).map crat))) (fun f H => (A.length - intAt f 4).toNat) ?_ ?_
  · refine ⟨0, 1, by omega, ?_⟩
    simp (disch := omega) only [wk, tis, Int.reduceNe, Int.reduceEq, Int.reduceLT, Int.reduceLE, Int.reduceAdd, Int.reduceSub, Int.reduceNeg, Int.reduceMul, Int.reduceToNat, Nat.reduceSub, Nat.reduceMul, Nat.reduceLeDiff, Nat.reduceAdd, Nat.reduceLT, Nat.reduceEqDiff, reduceCtorEq, ↓reduceIte, rqs, hq, e3]
  rintro f H ⟨i, st, hi, hF⟩
  rw [intAt_of hF.1]
  simp (disch := omega) only [wk, tis, Int.reduceNe, Int.reduceEq, Int.reduceLT, Int.reduceLE, Int.reduceAdd, Int.reduceSub, Int.reduceNeg, Int.reduceMul, Int.reduceToNat, Nat.reduceSub, Nat.reduceMul, Nat.reduceLeDiff, Nat.reduceAdd, Nat.reduceLT, Nat.reduceEqDiff, reduceCtorEq, ↓reduceIte, rqs, hF]
  refine if_by (fun hlt => ?_) (fun hlt => ?_)
  · have hlt' : i < A.length := by omega
    have hrq : (crat 0 :: ((intl A).take i).map crat).length = i + 1 := by rw [List.length_cons, List.length_map, List.length_take]; omega
    have e := cratq_get hlt'
    have ei : ((i : Int) + 1) = ((i + 1 : Nat) : Int) := by omega
    have o := hP_ok 1 (i + 1) (by omega) (by omega) (by omega) (by omega)
    rw [Rat.intCast_one, show (1 : Rat) / ((i + 1 : Nat) : Rat) = 1 / (((i + 1 : Nat) : Int) : Rat) by rw [Rat.intCast_natCast]] at o
    have z1 := hA.cz hk1 i
    have z2 := qz_inv1 (i := i) (by simp only [W]; omega)
    have m := htimes_ok (crat (cfq A i)) (crat (1 / (((i + 1 : Nat) : Int) : Rat))) (szq_crat (by omega)) (szq_crat (by omega)) (nv_crat0 _) (nv_crat0 _)
    rw [qv_crat, qv_crat, ← cfq_intl] at m
    simp (disch := omega) only [wk, tis, Int.reduceNe, Int.reduceEq, Int.reduceLT, Int.reduceLE, Int.reduceAdd, Int.reduceSub, Int.reduceNeg, Int.reduceMul, Int.reduceToNat, Nat.reduceSub, Nat.reduceMul, Nat.reduceLeDiff, Nat.reduceAdd, Nat.reduceLT, Nat.reduceEqDiff, reduceCtorEq, ↓reduceIte, rqs, hF, hq, hrq, e, ei]
    refine ⟨tmps_by (by kernel_rfl), ?_⟩
    refine call_by (o) (by first | rfl | (simp only [tocvs, tocv, hF, hq, hrq, e, ei]; rfl) | (simp only [tocvs, tocv, toboxes, tobox, updH_at, Nat.reduceEqDiff, ↓reduceIte, hF, hq, hrq, e, ei]; rfl)) (by simp) ?_
    simp (disch := omega) only [wk, tis, Int.reduceNe, Int.reduceEq, Int.reduceLT, Int.reduceLE, Int.reduceAdd, Int.reduceSub, Int.reduceNeg, Int.reduceMul, Int.reduceToNat, Nat.reduceSub, Nat.reduceMul, Nat.reduceLeDiff, Nat.reduceAdd, Nat.reduceLT, Nat.reduceEqDiff, reduceCtorEq, ↓reduceIte, rqs, hF, hq, hrq, e, ei]
    refine call_by (m) (by first | rfl | (simp only [tocvs, tocv, hF, hq, hrq, e, ei]; rfl) | (simp only [tocvs, tocv, toboxes, tobox, updH_at, Nat.reduceEqDiff, ↓reduceIte, hF, hq, hrq, e, ei]; rfl)) (by simp) ?_
    simp (disch := omega) only [wk, tis, Int.reduceNe, Int.reduceEq, Int.reduceLT, Int.reduceLE, Int.reduceAdd, Int.reduceSub, Int.reduceNeg, Int.reduceMul, Int.reduceToNat, Nat.reduceSub, Nat.reduceMul, Nat.reduceLeDiff, Nat.reduceAdd, Nat.reduceLT, Nat.reduceEqDiff, reduceCtorEq, ↓reduceIte, rqs, hF, hq, hrq, e, ei]
    first | exact log_by (by kernel_rfl) | refine ⟨log_by (by kernel_rfl), ?_⟩
    have et := takeq_snoc (q := intl A) (i := i) (by omega)
    refine ⟨⟨i + 1, st + 1, by omega, ?_⟩, by omega⟩
    rw [et, List.map_append]
    (repeat' apply And.intro) <;> first | rfl | omega
  · obtain rfl : i = A.length := by omega
    rw [List.take_of_length_le (by omega)] at hF
    simp (disch := omega) only [wk, tis, Int.reduceNe, Int.reduceEq, Int.reduceLT, Int.reduceLE, Int.reduceAdd, Int.reduceSub, Int.reduceNeg, Int.reduceMul, Int.reduceToNat, Nat.reduceSub, Nat.reduceMul, Nat.reduceLeDiff, Nat.reduceAdd, Nat.reduceLT, Nat.reduceEqDiff, reduceCtorEq, ↓reduceIte, rqs, hF]
    refine call_by (t) (by first | rfl | (simp only [tocvs, tocv, hF]; rfl) | (simp only [tocvs, tocv, toboxes, tobox, updH_at, Nat.reduceEqDiff, ↓reduceIte, hF]; rfl)) (by simp) ?_
    simp (disch := omega) only [wk, tis, Int.reduceNe, Int.reduceEq, Int.reduceLT, Int.reduceLE, Int.reduceAdd, Int.reduceSub, Int.reduceNeg, Int.reduceMul, Int.reduceToNat, Nat.reduceSub, Nat.reduceMul, Nat.reduceLeDiff, Nat.reduceAdd, Nat.reduceLT, Nat.reduceEqDiff, reduceCtorEq, ↓reduceIte, rqs, hF]

theorem tis_ok {l : List RQ} (h : BQ (2 ^ 40) (2 ^ 40) l) : AC Tryz.prog 72 [cqw l, ci 0, cb true, cqw l] none [cb true] := by
  have s := tsame_self h
  refine AC.by_walk (rs := [.tmp 8]) ords Tryz.func72 (by rfl) (by rfl) (by rfl) (by rfl) (by rfl) ?_
  simp (disch := omega) only [wk, tis, Int.reduceNe, Int.reduceEq, Int.reduceLT, Int.reduceLE, Int.reduceAdd, Int.reduceSub, Int.reduceNeg, Int.reduceMul, Int.reduceToNat, Nat.reduceSub, Nat.reduceMul, Nat.reduceLeDiff, Nat.reduceAdd, Nat.reduceLT, Nat.reduceEqDiff, reduceCtorEq, ↓reduceIte, rqs]
  refine call_by (s) (by rfl) (by simp) ?_
  simp (disch := omega) only [wk, tis, Int.reduceNe, Int.reduceEq, Int.reduceLT, Int.reduceLE, Int.reduceAdd, Int.reduceSub, Int.reduceNeg, Int.reduceMul, Int.reduceToNat, Nat.reduceSub, Nat.reduceMul, Nat.reduceLeDiff, Nat.reduceAdd, Nat.reduceLT, Nat.reduceEqDiff, reduceCtorEq, ↓reduceIte, rqs]
  try rfl
end Go.Proofs.YtjadkhkgmdikiaaGreat

namespace Go.Proofs.YtjadkhkgmdikiaaGreat
open Go Go.Proofs Go.AL
set_option linter.unusedSimpArgs false
set_option linter.unusedVariables false

/-! ### Powers with exponent 1 -/
theorem mone_ok : AC Tryz.prog 194 [] none [cl [1]] := by
  refine AC.by_walk (rs := [.tmp 0]) ords Tryz.func194 (by rfl) (by rfl) (by rfl) (by rfl) (by rfl) ?_
  simp (disch := omega) only [wk, tis, Int.reduceNe, Int.reduceEq, Int.reduceLT, Int.reduceLE, Int.reduceAdd, Int.reduceSub, Int.reduceNeg, Int.reduceMul, Int.reduceToNat, Nat.reduceSub, Nat.reduceMul, Nat.reduceLeDiff, Nat.reduceAdd, Nat.reduceLT, Nat.reduceEqDiff, reduceCtorEq, ↓reduceIte, rqs]
  try rfl
theorem mbound1_ok : AC Tryz.prog 193 [ci 1, ci 10000] none [ci 0] := by
  refine AC.by_walk (rs := [.tmp 4]) ords Tryz.func193 (by rfl) (by rfl) (by rfl) (by rfl) (by rfl) ?_
  simp (disch := omega) only [wk, tis, Int.reduceNe, Int.reduceEq, Int.reduceLT, Int.reduceLE, Int.reduceAdd, Int.reduceSub, Int.reduceNeg, Int.reduceMul, Int.reduceToNat, Nat.reduceSub, Nat.reduceMul, Nat.reduceLeDiff, Nat.reduceAdd, Nat.reduceLT, Nat.reduceEqDiff, reduceCtorEq, ↓reduceIte, rqs]
  try rfl
theorem lim_one : Lim [1] := by intro x hx; simp at hx; subst hx; decide
theorem mpow1_ok (l : List Nat) (h : Lim l) (hl : l.length ≤ 2 ^ 36) : AC Tryz.prog 170 [cl l, ci 1] none [cl (wd (nv l)), ci 0] := by
  have nm := norm_ok l h (by omega)
  have hw : (wd (nv l)).length ≤ 2 ^ 36 := nt_zl ⟨hl, h⟩
  have mm := mmul_ok [1] (wd (nv l)) lim_one (lim_wd _) (by simp) hw
  rw [nv_wd, show nv [1] = 1 from rfl, Nat.one_mul] at mm
  refine AC.by_walk (rs := [.tmp 4, .tmp 5]) ords Tryz.func170 (by rfl) (by rfl) (by rfl) (by rfl) (by rfl) ?_
  simp (disch := omega) only [wk, tis, Int.reduceNe, Int.reduceEq, Int.reduceLT, Int.reduceLE, Int.reduceAdd, Int.reduceSub, Int.reduceNeg, Int.reduceMul, Int.reduceToNat, Nat.reduceSub, Nat.reduceMul, Nat.reduceLeDiff, Nat.reduceAdd, Nat.reduceLT, Nat.reduceEqDiff, reduceCtorEq, ↓reduceIte, rqs]
  refine call_by (mbound1_ok) (by rfl) (by simp) ?_
  simp (disch := omega) only [wk, tis, Int.reduceNe, Int.reduceEq, Int.reduceLT, Int.reduceLE, Int.reduceAdd, Int.reduceSub, Int.reduceNeg, Int.reduceMul, Int.reduceToNat, Nat.reduceSub, Nat.reduceMul, Nat.reduceLeDiff, Nat.reduceAdd, Nat.reduceLT, Nat.reduceEqDiff, reduceCtorEq, ↓reduceIte, rqs]
  refine call_by (mone_ok) (by rfl) (by simp) ?_
  simp (disch := omega) only [wk, tis, Int.reduceNe, Int.reduceEq, Int.reduceLT, Int.reduceLE, Int.reduceAdd, Int.reduceSub, Int.reduceNeg, Int.reduceMul, Int.reduceToNat, Nat.reduceSub, Nat.reduceMul, Nat.reduceLeDiff, Nat.reduceAdd, Nat.reduceLT, Nat.reduceEqDiff, reduceCtorEq, ↓reduceIte, rqs]
  refine call_by (nm) (by rfl) (by simp) ?_
  simp (disch := omega) only [wk, tis, Int.reduceNe, Int.reduceEq, Int.reduceLT, Int.reduceLE, Int.reduceAdd, Int.reduceSub, Int.reduceNeg, Int.reduceMul, Int.reduceToNat, Nat.reduceSub, Nat.reduceMul, Nat.reduceLeDiff, Nat.reduceAdd, Nat.reduceLT, Nat.reduceEqDiff, reduceCtorEq, ↓reduceIte, rqs]
  refine aloop_by (fun f H => ∃ (i : Nat) (m : List Nat), i ≤ 1 ∧ (i = 0 → m = wd (nv l)) ∧ (i = 1 → m = [1]) ∧ f 1 = .iv (.int .i64 i) ∧ f 7 = .iv (.sl (lims m)) ∧ f 8 = .iv (.sl (lims (wd (nv l))))) (fun f H => (intAt f 1).toNat) ?_ ?_
  · refine ⟨1, [1], by omega, by omega, fun _ => rfl, ?_⟩
    simp (disch := omega) only [wk, tis, Int.reduceNe, Int.reduceEq, Int.reduceLT, Int.reduceLE, Int.reduceAdd, Int.reduceSub, Int.reduceNeg, Int.reduceMul, Int.reduceToNat, Nat.reduceSub, Nat.reduceMul, Nat.reduceLeDiff, Nat.reduceAdd, Nat.reduceLT, Nat.reduceEqDiff, reduceCtorEq, ↓reduceIte, rqs, show ((1 : Nat) : Int) = 1 from rfl]
  rintro f H ⟨i, m, hi, hm0, hm1, hF⟩
  rw [intAt_of hF.1]
  simp (disch := omega) only [wk, tis, Int.reduceNe, Int.reduceEq, Int.reduceLT, Int.reduceLE, Int.reduceAdd, Int.reduceSub, Int.reduceNeg, Int.reduceMul, Int.reduceToNat, Nat.reduceSub, Nat.reduceMul, Nat.reduceLeDiff, Nat.reduceAdd, Nat.reduceLT, Nat.reduceEqDiff, reduceCtorEq, ↓reduceIte, rqs, hF]
  refine if_by (fun hlt => ?_) (fun hlt => ?_)
  · obtain rfl : i = 1 := by omega
    rw [hm1 rfl, show ((1 : Nat) : Int) = 1 from rfl] at hF
    simp (disch := omega) only [wk, tis, Int.reduceNe, Int.reduceEq, Int.reduceLT, Int.reduceLE, Int.reduceAdd, Int.reduceSub, Int.reduceNeg, Int.reduceMul, Int.reduceToNat, Nat.reduceSub, Nat.reduceMul, Nat.reduceLeDiff, Nat.reduceAdd, Nat.reduceLT, Nat.reduceEqDiff, reduceCtorEq, ↓reduceIte, rqs, hF, show Int.tmod 1 2 = 1 from rfl, show Int.tdiv 1 2 = 0 from rfl]
    refine call_by (mm) (by first | rfl | (simp only [tocvs, tocv, hF, show Int.tmod 1 2 = 1 from rfl, show Int.tdiv 1 2 = 0 from rfl]; rfl) | (simp only [tocvs, tocv, toboxes, tobox, updH_at, Nat.reduceEqDiff, ↓reduceIte, hF, show Int.tmod 1 2 = 1 from rfl, show Int.tdiv 1 2 = 0 from rfl]; rfl)) (by simp) ?_
    simp (disch := omega) only [wk, tis, Int.reduceNe, Int.reduceEq, Int.reduceLT, Int.reduceLE, Int.reduceAdd, Int.reduceSub, Int.reduceNeg, Int.reduceMul, Int.reduceToNat, Nat.reduceSub, Nat.reduceMul, Nat.reduceLeDiff, Nat.reduceAdd, Nat.reduceLT, Nat.reduceEqDiff, reduceCtorEq, ↓reduceIte, rqs, hF, show Int.tmod 1 2 = 1 from rfl, show Int.tdiv 1 2 = 0 from rfl]
    refine ⟨0, _, by omega, fun _ => rfl, by omega, ?_⟩
    (repeat' apply And.intro) <;> first | rfl | omega
  · obtain rfl : i = 0 := by omega
    rw [hm0 rfl] at hF
    simp (disch := omega) only [wk, tis, Int.reduceNe, Int.reduceEq, Int.reduceLT, Int.reduceLE, Int.reduceAdd, Int.reduceSub, Int.reduceNeg, Int.reduceMul, Int.reduceToNat, Nat.reduceSub, Nat.reduceMul, Nat.reduceLeDiff, Nat.reduceAdd, Nat.reduceLT, Nat.reduceEqDiff, reduceCtorEq, ↓reduceIte, rqs, hF]
    try rfl
theorem zpow1_ok (s : Bool) (l : List Nat) (h : Lim l) (hl : l.length ≤ 2 ^ 36) : AC Tryz.prog 169 [cr (s, l), ci 1] none [cz (iv (s, l)), ci 0] := by
  have nm := norm_ok l h (by omega)
  have o1 := nof_ok 1 (by decide)
  rw [show wd 1 = [1] by decide +kernel] at o1
  have hw : (wd (nv l)).length ≤ 2 ^ 36 := nt_zl ⟨hl, h⟩
  have mm := mmul_ok [1] (wd (nv l)) lim_one (lim_wd _) (by simp) hw
  rw [nv_wd, show nv [1] = 1 from rfl, Nat.one_mul] at mm
  have zo := zof_ok s (nv l)
  have hshr : Int.fdiv 1 (2 ^ min 1 IntKind.i64.bits) = 0 := by decide
  have hand : IntKind.i64.wrap ↑(BitVec.ofInt IntKind.i64.bits 1 &&& BitVec.ofInt IntKind.i64.bits 1).toNat = 1 := by decide
  refine AC.by_walk (rs := [.cell 4 29, .tmp 5]) ords Tryz.func169 (by rfl) (by rfl) (by rfl) (by rfl) (by rfl) ?_
  simp (disch := omega) only [wk, tis, Int.reduceNe, Int.reduceEq, Int.reduceLT, Int.reduceLE, Int.reduceAdd, Int.reduceSub, Int.reduceNeg, Int.reduceMul, Int.reduceToNat, Nat.reduceSub, Nat.reduceMul, Nat.reduceLeDiff, Nat.reduceAdd, Nat.reduceLT, Nat.reduceEqDiff, reduceCtorEq, ↓reduceIte, rqs]
  refine ⟨tmps_by (by kernel_rfl), ?_⟩
  refine call_by (o1) (by rfl) (by simp) ?_
  simp (disch := omega) only [wk, tis, Int.reduceNe, Int.reduceEq, Int.reduceLT, Int.reduceLE, Int.reduceAdd, Int.reduceSub, Int.reduceNeg, Int.reduceMul, Int.reduceToNat, Nat.reduceSub, Nat.reduceMul, Nat.reduceLeDiff, Nat.reduceAdd, Nat.reduceLT, Nat.reduceEqDiff, reduceCtorEq, ↓reduceIte, rqs]
  refine call_by (nm) (by rfl) (by simp) ?_
  simp (disch := omega) only [wk, tis, Int.reduceNe, Int.reduceEq, Int.reduceLT, Int.reduceLE, Int.reduceAdd, Int.reduceSub, Int.reduceNeg, Int.reduceMul, Int.reduceToNat, Nat.reduceSub, Nat.reduceMul, Nat.reduceLeDiff, Nat.reduceAdd, Nat.reduceLT, Nat.reduceEqDiff, reduceCtorEq, ↓reduceIte, rqs]
  first | exact log_by (by kernel_rfl) | refine ⟨log_by (by kernel_rfl), ?_⟩
  refine aloop_by (fun f H => ∃ (i s2 s4 : Nat) (m : List Nat), i ≤ 1 ∧ (i = 0 → m = wd (nv l)) ∧ (i = 1 → m = [1]) ∧ f 8 = .iv (.int .i64 i) ∧ f 6 = .iv (.sl (lims m)) ∧ f 7 = .iv (.sl (lims (wd (nv l)))) ∧ f 1 = .iv (.int .i64 1) ∧ f 2 = .hp 2 s2 0 0 ∧ H 2 = .blk false s2 29 2 [prow (s, l)] ∧ f 4 = .hp 4 s4 0 0 ∧ H 4 = .blk false s4 29 2 [[.bool false, .sl []]]) (fun f H => (intAt f 8).toNat) ?_ ?_
  · refine ⟨1, 1, 1, [1], by omega, by omega, fun _ => rfl, ?_⟩
    simp (disch := omega) only [wk, tis, Int.reduceNe, Int.reduceEq, Int.reduceLT, Int.reduceLE, Int.reduceAdd, Int.reduceSub, Int.reduceNeg, Int.reduceMul, Int.reduceToNat, Nat.reduceSub, Nat.reduceMul, Nat.reduceLeDiff, Nat.reduceAdd, Nat.reduceLT, Nat.reduceEqDiff, reduceCtorEq, ↓reduceIte, rqs, show ((1 : Nat) : Int) = 1 from rfl]
  rintro f H ⟨i, s2, s4, m, hi, hm0, hm1, hF⟩
  rw [intAt_of hF.1]
  simp (disch := omega) only [wk, tis, Int.reduceNe, Int.reduceEq, Int.reduceLT, Int.reduceLE, Int.reduceAdd, Int.reduceSub, Int.reduceNeg, Int.reduceMul, Int.reduceToNat, Nat.reduceSub, Nat.reduceMul, Nat.reduceLeDiff, Nat.reduceAdd, Nat.reduceLT, Nat.reduceEqDiff, reduceCtorEq, ↓reduceIte, rqs, hF]
  refine if_by (fun hlt => ?_) (fun hlt => ?_)
  · obtain rfl : i = 1 := by omega
    rw [hm1 rfl, show ((1 : Nat) : Int) = 1 from rfl] at hF
    simp (disch := omega) only [wk, tis, Int.reduceNe, Int.reduceEq, Int.reduceLT, Int.reduceLE, Int.reduceAdd, Int.reduceSub, Int.reduceNeg, Int.reduceMul, Int.reduceToNat, Nat.reduceSub, Nat.reduceMul, Nat.reduceLeDiff, Nat.reduceAdd, Nat.reduceLT, Nat.reduceEqDiff, reduceCtorEq, ↓reduceIte, rqs, hF, hand, hshr]
    refine call_by (mm) (by first | rfl | (simp only [tocvs, tocv, hF, hand, hshr]; rfl) | (simp only [tocvs, tocv, toboxes, tobox, updH_at, Nat.reduceEqDiff, ↓reduceIte, hF, hand, hshr]; rfl)) (by simp) ?_
    simp (disch := omega) only [wk, tis, Int.reduceNe, Int.reduceEq, Int.reduceLT, Int.reduceLE, Int.reduceAdd, Int.reduceSub, Int.reduceNeg, Int.reduceMul, Int.reduceToNat, Nat.reduceSub, Nat.reduceMul, Nat.reduceLeDiff, Nat.reduceAdd, Nat.reduceLT, Nat.reduceEqDiff, reduceCtorEq, ↓reduceIte, rqs, hF, hand, hshr]
    refine ⟨0, s2, s4, _, by omega, fun _ => rfl, by omega, ?_⟩
    (repeat' apply And.intro) <;> first | rfl | omega
  · obtain rfl : i = 0 := by omega
    rw [hm0 rfl] at hF
    cases s with
    | false =>
      simp (disch := omega) only [wk, tis, Int.reduceNe, Int.reduceEq, Int.reduceLT, Int.reduceLE, Int.reduceAdd, Int.reduceSub, Int.reduceNeg, Int.reduceMul, Int.reduceToNat, Nat.reduceSub, Nat.reduceMul, Nat.reduceLeDiff, Nat.reduceAdd, Nat.reduceLT, Nat.reduceEqDiff, reduceCtorEq, ↓reduceIte, rqs, hF]
      refine call_by (zo) (by first | rfl | (simp only [tocvs, tocv, hF, hand]; rfl) | (simp only [tocvs, tocv, toboxes, tobox, updH_at, Nat.reduceEqDiff, ↓reduceIte, hF, hand]; rfl)) (by simp) ?_
      simp (disch := omega) only [wk, tis, Int.reduceNe, Int.reduceEq, Int.reduceLT, Int.reduceLE, Int.reduceAdd, Int.reduceSub, Int.reduceNeg, Int.reduceMul, Int.reduceToNat, Nat.reduceSub, Nat.reduceMul, Nat.reduceLeDiff, Nat.reduceAdd, Nat.reduceLT, Nat.reduceEqDiff, reduceCtorEq, ↓reduceIte, rqs, hF, hand]
      try rfl
    | true =>
      simp (disch := omega) only [wk, tis, Int.reduceNe, Int.reduceEq, Int.reduceLT, Int.reduceLE, Int.reduceAdd, Int.reduceSub, Int.reduceNeg, Int.reduceMul, Int.reduceToNat, Nat.reduceSub, Nat.reduceMul, Nat.reduceLeDiff, Nat.reduceAdd, Nat.reduceLT, Nat.reduceEqDiff, reduceCtorEq, ↓reduceIte, rqs, hF, hand]
      refine call_by (zo) (by first | rfl | (simp only [tocvs, tocv, hF, hand]; rfl) | (simp only [tocvs, tocv, toboxes, tobox, updH_at, Nat.reduceEqDiff, ↓reduceIte, hF, hand]; rfl)) (by simp) ?_
      simp (disch := omega) only [wk, tis, Int.reduceNe, Int.reduceEq, Int.reduceLT, Int.reduceLE, Int.reduceAdd, Int.reduceSub, Int.reduceNeg, Int.reduceMul, Int.reduceToNat, Nat.reduceSub, Nat.reduceMul, Nat.reduceLeDiff, Nat.reduceAdd, Nat.reduceLT, Nat.reduceEqDiff, reduceCtorEq, ↓reduceIte, rqs, hF, hand]
      try rfl
end Go.Proofs.YtjadkhkgmdikiaaGreat

namespace Go.Proofs.YtjadkhkgmdikiaaGreat
open Go Go.Proofs Go.AL
set_option linter.unusedSimpArgs false
set_option linter.unusedVariables false

/-! ### Scale -/
theorem qsc1_ok (a b : Rat) (c : RQ) (K : Nat) (ha : qz a ≤ K) (hc : SzQ K c) (h0 : nv c.2 ≠ 0) (hK : K ≤ 2 ^ 35) : AC Tryz.prog 171 [cqz a, cqz b, .box (qrow c)] none [cqz (a * qv c), ci 0] := by
  have m := qmul_ok (crat a) c (szq_crat (by omega)) (hc.mono hK) (nv_crat0 _) h0
  rw [qv_crat] at m
  refine AC.by_walk (rs := [.cell 5 31, .tmp 6]) ords Tryz.func171 (by rfl) (by rfl) (by rfl) (by rfl) (by rfl) ?_
  simp (disch := omega) only [wk, tis, Int.reduceNe, Int.reduceEq, Int.reduceLT, Int.reduceLE, Int.reduceAdd, Int.reduceSub, Int.reduceNeg, Int.reduceMul, Int.reduceToNat, Nat.reduceSub, Nat.reduceMul, Nat.reduceLeDiff, Nat.reduceAdd, Nat.reduceLT, Nat.reduceEqDiff, reduceCtorEq, ↓reduceIte, rqs, List.map_cons, List.map_nil]
  refine call_by (m) (by first | rfl | (simp only [tocvs, tocv, List.map_cons, List.map_nil]; rfl) | (simp only [tocvs, tocv, toboxes, tobox, updH_at, Nat.reduceEqDiff, ↓reduceIte, List.map_cons, List.map_nil]; rfl)) (by simp) ?_
  simp (disch := omega) only [wk, tis, Int.reduceNe, Int.reduceEq, Int.reduceLT, Int.reduceLE, Int.reduceAdd, Int.reduceSub, Int.reduceNeg, Int.reduceMul, Int.reduceToNat, Nat.reduceSub, Nat.reduceMul, Nat.reduceLeDiff, Nat.reduceAdd, Nat.reduceLT, Nat.reduceEqDiff, reduceCtorEq, ↓reduceIte, rqs, List.map_cons, List.map_nil]
  try rfl
theorem qeach1_ok (p q : List RQ) (g : Nat) (row : List IV) (F : Rat → Rat → Rat) (K : Nat) (hp : GQ (2 ^ 30) K p) (hq : GQ (2 ^ 30) K q) (hK : K ≤ 2 ^ 35) (hK1 : 1 ≤ K) (hF0 : F 0 0 = 0) (hs : ∀ a b, qz a ≤ K → qz b ≤ K → qz (F a b) ≤ 2 ^ 38)
    (hop : ∀ a b, qz a ≤ K → qz b ≤ K → AC Tryz.prog g [cqz a, cqz b, .box row] none [cqz (F a b), ci 0]) : AC Tryz.prog 120 [cqw p, cqw q, .fn g [row]] none [cqp (zipq F (qvs p) (qvs q)), ci 0] := by
  have m := qboth_ok p q (hp.mono (by omega) (by omega)) (hq.mono (by omega) (by omega))
  have hA := hp.qb.trimq
  have hB := hq.qb.trimq
  have e : cqp (zipq F (qvs p) (qvs q)) = cqp (zipq F (trimq (qvs p)) (trimq (qvs q))) := congrArg cqw (cqs_ext fun k => by rw [cfq_zipq hF0, cfq_zipq hF0, cfq_trimq, cfq_trimq])
  rw [e]
  refine AC.by_walk (rs := [.tmp 6, .tmp 7]) ords Tryz.func120 (by rfl) (by rfl) (by rfl) (by rfl) (by rfl) ?_
  simp (disch := omega) only [wk, tis, Int.reduceNe, Int.reduceEq, Int.reduceLT, Int.reduceLE, Int.reduceAdd, Int.reduceSub, Int.reduceNeg, Int.reduceMul, Int.reduceToNat, Nat.reduceSub, Nat.reduceMul, Nat.reduceLeDiff, Nat.reduceAdd, Nat.reduceLT, Nat.reduceEqDiff, reduceCtorEq, ↓reduceIte, rqs, List.map_cons, List.map_nil]
  refine call_by (m) (by first | rfl | (simp only [tocvs, tocv, List.map_cons, List.map_nil]; rfl) | (simp only [tocvs, tocv, toboxes, tobox, updH_at, Nat.reduceEqDiff, ↓reduceIte, List.map_cons, List.map_nil]; rfl)) (by simp) ?_
  simp (disch := omega) only [wk, tis, Int.reduceNe, Int.reduceEq, Int.reduceLT, Int.reduceLE, Int.reduceAdd, Int.reduceSub, Int.reduceNeg, Int.reduceMul, Int.reduceToNat, Nat.reduceSub, Nat.reduceMul, Nat.reduceLeDiff, Nat.reduceAdd, Nat.reduceLT, Nat.reduceEqDiff, reduceCtorEq, ↓reduceIte, rqs, List.map_cons, List.map_nil]
  unfold cqs
  generalize trimq (qvs p) = A at *
  generalize trimq (qvs q) = B at *
  have hAl := hA.1
  have hBl := hB.1
  have hqa : (A.map crat).length = A.length := List.length_map _
  have hqb : (B.map crat).length = B.length := List.length_map _
  have hRl := zipq_len F A B
  have hR : QB (2 ^ 40) (2 ^ 38) (zipq F A B) := .of (by omega) fun i => by rw [cfq_zipq hF0]; exact hs _ _ (hA.cz hK1 i) (hB.cz hK1 i)
  obtain ⟨n, hn⟩ : ∃ n, n = max A.length B.length := ⟨_, rfl⟩
  have hnI : max (A.length : Int) (B.length : Int) = (n : Int) := by omega
  rw [← hn] at hRl
  simp (disch := omega) only [wk, tis, Int.reduceNe, Int.reduceEq, Int.reduceLT, Int.reduceLE, Int.reduceAdd, Int.reduceSub, Int.reduceNeg, Int.reduceMul, Int.reduceToNat, Nat.reduceSub, Nat.reduceMul, Nat.reduceLeDiff, Nat.reduceAdd, Nat.reduceLT, Nat.reduceEqDiff, reduceCtorEq, ↓reduceIte, rqs, hqa, hqb, hnI]
  refine aloop_nil 11 11 31 3 (by simp (disch := omega) only [wk, tis, Int.reduceNe, Int.reduceEq, Int.reduceLT, Int.reduceLE, Int.reduceAdd, Int.reduceSub, Int.reduceNeg, Int.reduceMul, Int.reduceToNat, Nat.reduceSub, Nat.reduceMul, Nat.reduceLeDiff, Nat.reduceAdd, Nat.reduceLT, Nat.reduceEqDiff, reduceCtorEq, ↓reduceIte, rqs]) (fun f H => ∃ (i st : Nat), i ≤ n ∧ f 30 = .iv (.int .i64 i) ∧ f 29 = .iv (.int .i64 n) ∧ f 8 = .iv (.sl (rats (A.map crat))) ∧ f 9 = .iv (.sl (rats (B.map crat))) ∧ f 2 = .fn g [.ip row] ∧ f 11 = .hs 11 st ∧ H 11 = .blk false st 31 3 (rats (((zipq F A B).take i).map crat))) (fun f H => (n - intAt f 30).toNat) ?_ ?_
  · refine ⟨0, 1, by omega, ?_⟩
    simp (disch := omega) only [wk, tis, Int.reduceNe, Int.reduceEq, Int.reduceLT, Int.reduceLE, Int.reduceAdd, Int.reduceSub, Int.reduceNeg, Int.reduceMul, Int.reduceToNat, Nat.reduceSub, Nat.reduceMul, Nat.reduceLeDiff, Nat.reduceAdd, Nat.reduceLT, Nat.reduceEqDiff, reduceCtorEq, ↓reduceIte, rqs, ghostF, ghostH, List.take_zero, List.map_nil, List.map_cons, hqa, hqb, hnI]
  rintro f H ⟨i, st, hi, hF⟩
  rw [intAt_of hF.1]
  simp (disch := omega) only [wk, tis, Int.reduceNe, Int.reduceEq, Int.reduceLT, Int.reduceLE, Int.reduceAdd, Int.reduceSub, Int.reduceNeg, Int.reduceMul, Int.reduceToNat, Nat.reduceSub, Nat.reduceMul, Nat.reduceLeDiff, Nat.reduceAdd, Nat.reduceLT, Nat.reduceEqDiff, reduceCtorEq, ↓reduceIte, rqs, hF]
  refine if_by (fun hlt => ?_) (fun hlt => ?_)
  · have hq : (((zipq F A B).take i).map crat).length = i := by rw [List.length_map, List.length_take]; omega
    have c1 := qcoef_nat A i (hA.mono (by omega) (by omega))
    have c2 := qcoef_nat B i (hB.mono (by omega) (by omega))
    have o := hop (cfq A i) (cfq B i) (hA.cz hK1 i) (hB.cz hK1 i)
    simp (disch := omega) only [wk, tis, Int.reduceNe, Int.reduceEq, Int.reduceLT, Int.reduceLE, Int.reduceAdd, Int.reduceSub, Int.reduceNeg, Int.reduceMul, Int.reduceToNat, Nat.reduceSub, Nat.reduceMul, Nat.reduceLeDiff, Nat.reduceAdd, Nat.reduceLT, Nat.reduceEqDiff, reduceCtorEq, ↓reduceIte, rqs, hF, hq]
    refine call_by (c1) (by first | rfl | (simp only [tocvs, tocv, hF, hq]; rfl) | (simp only [tocvs, tocv, toboxes, tobox, updH_at, Nat.reduceEqDiff, ↓reduceIte, hF, hq]; rfl)) (by simp) ?_
    simp (disch := omega) only [wk, tis, Int.reduceNe, Int.reduceEq, Int.reduceLT, Int.reduceLE, Int.reduceAdd, Int.reduceSub, Int.reduceNeg, Int.reduceMul, Int.reduceToNat, Nat.reduceSub, Nat.reduceMul, Nat.reduceLeDiff, Nat.reduceAdd, Nat.reduceLT, Nat.reduceEqDiff, reduceCtorEq, ↓reduceIte, rqs, hF, hq]
    refine call_by (c2) (by first | rfl | (simp only [tocvs, tocv, hF, hq]; rfl) | (simp only [tocvs, tocv, toboxes, tobox, updH_at, Nat.reduceEqDiff, ↓reduceIte, hF, hq]; rfl)) (by simp) ?_
    simp (disch := omega) only [wk, tis, Int.reduceNe, Int.reduceEq, Int.reduceLT, Int.reduceLE, Int.reduceAdd, Int.reduceSub, Int.reduceNeg, Int.reduceMul, Int.reduceToNat, Nat.reduceSub, Nat.reduceMul, Nat.reduceLeDiff, Nat.reduceAdd, Nat.reduceLT, Nat.reduceEqDiff, reduceCtorEq, ↓reduceIte, rqs, hF, hq]
    refine call_by (o) (by first | rfl | (simp only [tocvs, tocv, hF, hq]; rfl) | (simp only [tocvs, tocv, toboxes, tobox, updH_at, Nat.reduceEqDiff, ↓reduceIte, hF, hq]; rfl)) (by simp) ?_
    simp (disch := omega) only [wk, tis, Int.reduceNe, Int.reduceEq, Int.reduceLT, Int.reduceLE, Int.reduceAdd, Int.reduceSub, Int.reduceNeg, Int.reduceMul, Int.reduceToNat, Nat.reduceSub, Nat.reduceMul, Nat.reduceLeDiff, Nat.reduceAdd, Nat.reduceLT, Nat.reduceEqDiff, reduceCtorEq, ↓reduceIte, rqs, hF, hq]
    have e := takeq_snoc (q := zipq F A B) (i := i) (by omega)
    rw [cfq_zipq hF0] at e
    refine ⟨⟨i + 1, st + 1, by omega, ?_⟩, by omega⟩
    rw [e, List.map_append]
    (repeat' apply And.intro) <;> first | rfl | omega
  · simp (disch := omega) only [wk, tis, Int.reduceNe, Int.reduceEq, Int.reduceLT, Int.reduceLE, Int.reduceAdd, Int.reduceSub, Int.reduceNeg, Int.reduceMul, Int.reduceToNat, Nat.reduceSub, Nat.reduceMul, Nat.reduceLeDiff, Nat.reduceAdd, Nat.reduceLT, Nat.reduceEqDiff, reduceCtorEq, ↓reduceIte, rqs, hF]
    rw [List.take_of_length_le (by omega)] at hF
    have m := qtrim_own (zipq F A B) hR
    refine call_by (m) (by first | rfl | (simp only [tocvs, tocv, hF]; rfl) | (simp only [tocvs, tocv, toboxes, tobox, updH_at, Nat.reduceEqDiff, ↓reduceIte, hF]; rfl)) (by simp) ?_
    simp (disch := omega) only [wk, tis, Int.reduceNe, Int.reduceEq, Int.reduceLT, Int.reduceLE, Int.reduceAdd, Int.reduceSub, Int.reduceNeg, Int.reduceMul, Int.reduceToNat, Nat.reduceSub, Nat.reduceMul, Nat.reduceLeDiff, Nat.reduceAdd, Nat.reduceLT, Nat.reduceEqDiff, reduceCtorEq, ↓reduceIte, rqs, hF]
theorem qscale_ok (p : List RQ) (c : RQ) (K : Nat) (hp : GQ (2 ^ 30) K p) (hc : SzQ K c) (h0 : nv c.2 ≠ 0) (hK : K ≤ 2 ^ 35) (hK1 : 1 ≤ K) : AC Tryz.prog 133 [cqw p, cqq c] none [cqp (sclq (qv c) (qvs p)), ci 0] := by
  have k := qcheck_good c ⟨Nat.le_trans hc.2.1 (by omega), hc.2.2⟩ h0
  have zc := qz_raw hc h0
  have m := qeach1_ok p [] 171 (qrow c) (fun a _ => a * qv c) K hp ⟨Nat.zero_le _, fun r hr => nomatch hr⟩ hK hK1 (Rat.zero_mul _) (fun a b ha hb => by have := qz_mul a (qv c); omega) (fun a b ha hb => qsc1_ok a b c K ha hc h0 hK)
  rw [show cqp (zipq (fun a _ => a * qv c) (qvs p) (qvs [])) = cqp (sclq (qv c) (qvs p)) from congrArg cqw (cqs_ext fun j => by rw [cfq_zipq (F := fun a _ => a * qv c) (Rat.zero_mul _), cfq_sclq])] at m
  refine AC.by_walk (rs := [.tmp 4, .tmp 5]) ords Tryz.func133 (by rfl) (by rfl) (by rfl) (by rfl) (by rfl) ?_
  simp (disch := omega) only [wk, tis, Int.reduceNe, Int.reduceEq, Int.reduceLT, Int.reduceLE, Int.reduceAdd, Int.reduceSub, Int.reduceNeg, Int.reduceMul, Int.reduceToNat, Nat.reduceSub, Nat.reduceMul, Nat.reduceLeDiff, Nat.reduceAdd, Nat.reduceLT, Nat.reduceEqDiff, reduceCtorEq, ↓reduceIte, rqs]
  refine call_by (k) (by rfl) (by simp) ?_
  simp (disch := omega) only [wk, tis, Int.reduceNe, Int.reduceEq, Int.reduceLT, Int.reduceLE, Int.reduceAdd, Int.reduceSub, Int.reduceNeg, Int.reduceMul, Int.reduceToNat, Nat.reduceSub, Nat.reduceMul, Nat.reduceLeDiff, Nat.reduceAdd, Nat.reduceLT, Nat.reduceEqDiff, reduceCtorEq, ↓reduceIte, rqs]
  refine call_by (m) (by first | rfl | (simp only [tocvs, tocv, List.map_nil]; rfl) | (simp only [tocvs, tocv, toboxes, tobox, updH_at, Nat.reduceEqDiff, ↓reduceIte, List.map_nil]; rfl)) (by simp) ?_
  simp (disch := omega) only [wk, tis, Int.reduceNe, Int.reduceEq, Int.reduceLT, Int.reduceLE, Int.reduceAdd, Int.reduceSub, Int.reduceNeg, Int.reduceMul, Int.reduceToNat, Nat.reduceSub, Nat.reduceMul, Nat.reduceLeDiff, Nat.reduceAdd, Nat.reduceLT, Nat.reduceEqDiff, reduceCtorEq, ↓reduceIte, rqs, List.map_nil]
  try rfl
end Go.Proofs.YtjadkhkgmdikiaaGreat

namespace Go.Proofs.YtjadkhkgmdikiaaGreat
open Go Go.Proofs Go.AL
set_option linter.unusedSimpArgs false
set_option linter.unusedVariables false

theorem inv_parts {q : Rat} (h : q ≠ 0) : ((q.den : Int) : Rat) / (q.num : Rat) = 1 / q := by
  have hn : q.num ≠ 0 := fun e => h (Rat.num_eq_zero.mp e)
  have h1 : (q.num : Rat) ≠ 0 := fun e => hn (Rat.intCast_eq_zero_iff.mp e)
  have h2 := natr_ne q.den_nz
  have h3 : q = (q.num : Rat) / (q.den : Rat) := by rw [← Rat.mkRat_eq_div]; exact (Rat.mkRat_self q).symm
  rw [Rat.intCast_natCast]
  conv => rhs; rw [h3]
  grind
theorem qpow_ok (q : Rat) (h0 : q ≠ 0) (hz : qz q ≤ 2 ^ 34) : AC Tryz.prog 132 [cqz q, ci (-1)] none [cqz (1 / q), ci 0] := by
  have hp := qz_parts q
  have hn : q.num ≠ 0 := fun e => h0 (Rat.num_eq_zero.mp e)
  have qn := qnorm_ok (crat q) (szq_crat (by omega)) (nv_crat0 _)
  rw [qv_crat] at qn
  have mp := mpow1_ok (wd q.den) (lim_wd _) (by omega)
  rw [nv_wd] at mp
  have zp := zpow1_ok (canon q.num).1 (canon q.num).2 (lim_wd _) (by have := hp.1; unfold zl at this; show (wd q.num.natAbs).length ≤ _; omega)
  rw [show ((canon q.num).1, (canon q.num).2) = canon q.num from rfl, iv_canon] at zp
  have zn := znat_ok false q.den (by omega)
  rw [sgf] at zn
  have mk := qmake_ok (canon (q.den : Int)) (canon q.num) ((sz_canon _).mono (by rw [zl_nat]; omega)) ((sz_canon _).mono (by omega)) (by rw [iv_canon]; exact hn)
  rw [iv_canon, iv_canon, inv_parts h0] at mk
  refine AC.by_walk (rs := [.cell 4 31, .tmp 5]) ords Tryz.func132 (by rfl) (by rfl) (by rfl) (by rfl) (by rfl) ?_
  simp (disch := omega) only [wk, tis, Int.reduceNe, Int.reduceEq, Int.reduceLT, Int.reduceLE, Int.reduceAdd, Int.reduceSub, Int.reduceNeg, Int.reduceMul, Int.reduceToNat, Nat.reduceSub, Nat.reduceMul, Nat.reduceLeDiff, Nat.reduceAdd, Nat.reduceLT, Nat.reduceEqDiff, reduceCtorEq, ↓reduceIte, rqs]
  refine call_by (qn) (by rfl) (by simp) ?_
  simp (disch := omega) only [wk, tis, Int.reduceNe, Int.reduceEq, Int.reduceLT, Int.reduceLE, Int.reduceAdd, Int.reduceSub, Int.reduceNeg, Int.reduceMul, Int.reduceToNat, Nat.reduceSub, Nat.reduceMul, Nat.reduceLeDiff, Nat.reduceAdd, Nat.reduceLT, Nat.reduceEqDiff, reduceCtorEq, ↓reduceIte, rqs]
  refine call_by (mp) (by rfl) (by simp) ?_
  simp (disch := omega) only [wk, tis, Int.reduceNe, Int.reduceEq, Int.reduceLT, Int.reduceLE, Int.reduceAdd, Int.reduceSub, Int.reduceNeg, Int.reduceMul, Int.reduceToNat, Nat.reduceSub, Nat.reduceMul, Nat.reduceLeDiff, Nat.reduceAdd, Nat.reduceLT, Nat.reduceEqDiff, reduceCtorEq, ↓reduceIte, rqs]
  refine call_by (zp) (by rfl) (by simp) ?_
  simp (disch := omega) only [wk, tis, Int.reduceNe, Int.reduceEq, Int.reduceLT, Int.reduceLE, Int.reduceAdd, Int.reduceSub, Int.reduceNeg, Int.reduceMul, Int.reduceToNat, Nat.reduceSub, Nat.reduceMul, Nat.reduceLeDiff, Nat.reduceAdd, Nat.reduceLT, Nat.reduceEqDiff, reduceCtorEq, ↓reduceIte, rqs]
  refine ⟨tmps_by (by kernel_rfl), ?_⟩
  refine call_by (zn) (by rfl) (by simp) ?_
  simp (disch := omega) only [wk, tis, Int.reduceNe, Int.reduceEq, Int.reduceLT, Int.reduceLE, Int.reduceAdd, Int.reduceSub, Int.reduceNeg, Int.reduceMul, Int.reduceToNat, Nat.reduceSub, Nat.reduceMul, Nat.reduceLeDiff, Nat.reduceAdd, Nat.reduceLT, Nat.reduceEqDiff, reduceCtorEq, ↓reduceIte, rqs]
  refine call_by (mk) (by rfl) (by simp) ?_
  simp (disch := omega) only [wk, tis, Int.reduceNe, Int.reduceEq, Int.reduceLT, Int.reduceLE, Int.reduceAdd, Int.reduceSub, Int.reduceNeg, Int.reduceMul, Int.reduceToNat, Nat.reduceSub, Nat.reduceMul, Nat.reduceLeDiff, Nat.reduceAdd, Nat.reduceLT, Nat.reduceEqDiff, reduceCtorEq, ↓reduceIte, rqs]
  first | exact log_by (by kernel_rfl) | refine ⟨log_by (by kernel_rfl), ?_⟩
  try rfl

theorem qmonic_ok (p : List RQ) (k : Nat) (hp : GQ (2 ^ 30) k p) (hk : k ≤ 2 ^ 34) (hk1 : 1 ≤ k) (h0 : (trimq (qvs p)).length ≠ 0) : AC Tryz.prog 69 [cqw p] none [cqp (sclq (1 / cfq (trimq (qvs p)) ((trimq (qvs p)).length - 1)) (trimq (qvs p))), ci 0] := by
  have nm := qpnorm_ok p (hp.mono (by omega) (by omega))
  have hA := hp.qb.trimq
  have tt := trimq_trimq (qvs p)
  refine AC.by_walk (rs := [.tmp 2, .tmp 3]) ords Tryz.func69 (by rfl) (by rfl) (by rfl) (by rfl) (by rfl) ?_
  simp (disch := omega) only [wk, tis, Int.reduceNe, Int.reduceEq, Int.reduceLT, Int.reduceLE, Int.reduceAdd, Int.reduceSub, Int.reduceNeg, Int.reduceMul, Int.reduceToNat, Nat.reduceSub, Nat.reduceMul, Nat.reduceLeDiff, Nat.reduceAdd, Nat.reduceLT, Nat.reduceEqDiff, reduceCtorEq, ↓reduceIte, rqs]
  refine call_by (nm) (by rfl) (by simp) ?_
  simp (disch := omega) only [wk, tis, Int.reduceNe, Int.reduceEq, Int.reduceLT, Int.reduceLE, Int.reduceAdd, Int.reduceSub, Int.reduceNeg, Int.reduceMul, Int.reduceToNat, Nat.reduceSub, Nat.reduceMul, Nat.reduceLeDiff, Nat.reduceAdd, Nat.reduceLT, Nat.reduceEqDiff, reduceCtorEq, ↓reduceIte, rqs]
  unfold cqs
  generalize trimq (qvs p) = A at *
  have hAl := hA.1
  have hq : (A.map crat).length = A.length := List.length_map _
  have h0' : ¬ (A.length : Int) = 0 := by omega
  have e1 : (A.length : Int) - 1 = ((A.length - 1 : Nat) : Int) := by omega
  have g := cratq_get (q := A) (i := A.length - 1) (by omega)
  have ht := trimq_full tt
  have hne := cfq_tzq_pred (q := A) (by omega)
  rw [ht] at hne
  have zt := hA.cz hk1 (A.length - 1)
  have zi := qz_inv (cfq A (A.length - 1))
  have pw := qpow_ok (cfq A (A.length - 1)) hne (by omega)
  have sc := qscale_ok (A.map crat) (crat (1 / cfq A (A.length - 1))) k hA.gq (szq_crat (by omega)) (nv_crat0 _) (by omega) hk1
  rw [qv_crat, qvs_map] at sc
  simp (disch := omega) only [wk, tis, Int.reduceNe, Int.reduceEq, Int.reduceLT, Int.reduceLE, Int.reduceAdd, Int.reduceSub, Int.reduceNeg, Int.reduceMul, Int.reduceToNat, Nat.reduceSub, Nat.reduceMul, Nat.reduceLeDiff, Nat.reduceAdd, Nat.reduceLT, Nat.reduceEqDiff, reduceCtorEq, ↓reduceIte, rqs, hq, h0', e1, g]
  refine call_by (pw) (by first | rfl | (simp only [tocvs, tocv, hq, h0', e1, g]; rfl) | (simp only [tocvs, tocv, toboxes, tobox, updH_at, Nat.reduceEqDiff, ↓reduceIte, hq, h0', e1, g]; rfl)) (by simp) ?_
  simp (disch := omega) only [wk, tis, Int.reduceNe, Int.reduceEq, Int.reduceLT, Int.reduceLE, Int.reduceAdd, Int.reduceSub, Int.reduceNeg, Int.reduceMul, Int.reduceToNat, Nat.reduceSub, Nat.reduceMul, Nat.reduceLeDiff, Nat.reduceAdd, Nat.reduceLT, Nat.reduceEqDiff, reduceCtorEq, ↓reduceIte, rqs, hq, h0', e1, g]
  refine call_by (sc) (by first | rfl | (simp only [tocvs, tocv, hq, h0', e1, g]; rfl) | (simp only [tocvs, tocv, toboxes, tobox, updH_at, Nat.reduceEqDiff, ↓reduceIte, hq, h0', e1, g]; rfl)) (by simp) ?_
  simp (disch := omega) only [wk, tis, Int.reduceNe, Int.reduceEq, Int.reduceLT, Int.reduceLE, Int.reduceAdd, Int.reduceSub, Int.reduceNeg, Int.reduceMul, Int.reduceToNat, Nat.reduceSub, Nat.reduceMul, Nat.reduceLeDiff, Nat.reduceAdd, Nat.reduceLT, Nat.reduceEqDiff, reduceCtorEq, ↓reduceIte, rqs, hq, h0', e1, g]
  try rfl
theorem qmonic_zero (p : List RQ) (hp : GQ (2 ^ 40) (2 ^ 38) p) (h0 : trimq (qvs p) = []) : AC Tryz.prog 69 [cqw p] none [cqw [], ci 1] := by
  have nm := qpnorm_ok p hp
  rw [show cqp (qvs p) = cqw [] from congrArg cqw (by rw [cqs, h0]; rfl)] at nm
  refine AC.by_walk (rs := [.tmp 2, .tmp 3]) ords Tryz.func69 (by rfl) (by rfl) (by rfl) (by rfl) (by rfl) ?_
  simp (disch := omega) only [wk, tis, Int.reduceNe, Int.reduceEq, Int.reduceLT, Int.reduceLE, Int.reduceAdd, Int.reduceSub, Int.reduceNeg, Int.reduceMul, Int.reduceToNat, Nat.reduceSub, Nat.reduceMul, Nat.reduceLeDiff, Nat.reduceAdd, Nat.reduceLT, Nat.reduceEqDiff, reduceCtorEq, ↓reduceIte, rqs]
  refine call_by (nm) (by rfl) (by simp) ?_
  simp (disch := omega) only [wk, tis, Int.reduceNe, Int.reduceEq, Int.reduceLT, Int.reduceLE, Int.reduceAdd, Int.reduceSub, Int.reduceNeg, Int.reduceMul, Int.reduceToNat, Nat.reduceSub, Nat.reduceMul, Nat.reduceLeDiff, Nat.reduceAdd, Nat.reduceLT, Nat.reduceEqDiff, reduceCtorEq, ↓reduceIte, rqs]
  try rfl
theorem qmonic_bad (p : List RQ) (h : BQ (2 ^ 40) (2 ^ 38) p) (hg : gd p = false) : AC Tryz.prog 69 [cqw p] none [cqw [], ci 1] := by
  have nm := qpnorm_bad p h hg
  refine AC.by_walk (rs := [.tmp 2, .tmp 3]) ords Tryz.func69 (by rfl) (by rfl) (by rfl) (by rfl) (by rfl) ?_
  simp (disch := omega) only [wk, tis, Int.reduceNe, Int.reduceEq, Int.reduceLT, Int.reduceLE, Int.reduceAdd, Int.reduceSub, Int.reduceNeg, Int.reduceMul, Int.reduceToNat, Nat.reduceSub, Nat.reduceMul, Nat.reduceLeDiff, Nat.reduceAdd, Nat.reduceLT, Nat.reduceEqDiff, reduceCtorEq, ↓reduceIte, rqs]
  refine call_by (nm) (by rfl) (by simp) ?_
  simp (disch := omega) only [wk, tis, Int.reduceNe, Int.reduceEq, Int.reduceLT, Int.reduceLE, Int.reduceAdd, Int.reduceSub, Int.reduceNeg, Int.reduceMul, Int.reduceToNat, Nat.reduceSub, Nat.reduceMul, Nat.reduceLeDiff, Nat.reduceAdd, Nat.reduceLT, Nat.reduceEqDiff, reduceCtorEq, ↓reduceIte, rqs]
  try rfl
end Go.Proofs.YtjadkhkgmdikiaaGreat

namespace Go.Proofs.YtjadkhkgmdikiaaGreat
open Go Go.Proofs Go.AL
set_option linter.unusedSimpArgs false
set_option linter.unusedVariables false

theorem hminus_ok : AC Tryz.prog 48 [ci (-1), ci 1] none [cqz (-1)] := by
  have m := hP_ok (-1) 1 (by omega) (by omega) (by omega) (by omega)
  rwa [show ((-1 : Int) : Rat) / ((1 : Nat) : Rat) = -1 by decide +kernel] at m
theorem upq_trim {c : Rat} (h : c ≠ 0) (s : Nat) : trimq (upq c s) = upq c s := by
  have := tzq_spec (q := upq c s) (n := s) (by rw [cfq_upq, if_pos rfl]; exact h) fun k hk => by rw [cfq_upq, if_neg (by omega)]
  rw [trimq, this, List.take_of_length_le (by rw [upq_len]; omega)]
theorem upq_take (c : Rat) (s i : Nat) (g : Nat → Rat) (k : Nat) : cvq ((upq c s).take i) g k = if s < i then (if s ≤ k then c * g (k - s) else 0) else 0 := by
  by_cases h : s < i
  · rw [if_pos h, List.take_of_length_le (by rw [upq_len]; omega), cvq_upq]
  · rw [if_neg h]
    have e : (upq c s).take i = List.replicate i 0 := by
      rw [upq, List.take_append_of_le_length (by rw [List.length_replicate]; omega), List.take_replicate, Nat.min_eq_left (by omega)]
    rw [e]
    clear e h
    induction i generalizing k with
    | zero => rfl
    | succ i ih =>
      rw [List.replicate_succ, cvq_cons]
      cases k with
      | zero => simp only [qshift]; grind
      | succ k => rw [qshift, ih]; grind
theorem rep_upq (c : Rat) (s : Nat) : (List.replicate s (0 : Rat)).map crat ++ [crat c] = (upq c s).map crat := by rw [upq, List.map_append]; rfl

set_option maxHeartbeats 1000000 in
theorem tquo_ok (p r : List RQ) (hp : GQ (2 ^ 30) (2 ^ 32) p) (hr : GQ (2 ^ 30) (2 ^ 32) r) (n K : Nat) (v : DV (trimq (qvs p)) (trimq (qvs r)) n K) : AC Tryz.prog 68 [cqw p, cqw r] none [cqp (dqu (trimq (qvs p)) (trimq (qvs r)) n), cqw ((dit (trimq (qvs p)) (trimq (qvs r)) n).map crat)] := by
  have m := tform_ok p (hp.mono (by omega) (by omega))
  have m2 := tform_ok r (hr.mono (by omega) (by omega))
  have z0 := hP_ok 0 1 (by omega) (by omega) (by omega) (by omega)
  rw [show ((0 : Int) : Rat) / ((1 : Nat) : Rat) = 0 by decide +kernel] at z0
  refine AC.by_walk (rs := [.tmp 4, .tmp 5]) ords Tryz.func68 (by rfl) (by rfl) (by rfl) (by rfl) (by rfl) ?_
  simp (disch := omega) only [wk, tis, Int.reduceNe, Int.reduceEq, Int.reduceLT, Int.reduceLE, Int.reduceAdd, Int.reduceSub, Int.reduceNeg, Int.reduceMul, Int.reduceToNat, Nat.reduceSub, Nat.reduceMul, Nat.reduceLeDiff, Nat.reduceAdd, Nat.reduceLT, Nat.reduceEqDiff, reduceCtorEq, ↓reduceIte, rqs]
  refine call_by (m) (by rfl) (by simp) ?_
  simp (disch := omega) only [wk, tis, Int.reduceNe, Int.reduceEq, Int.reduceLT, Int.reduceLE, Int.reduceAdd, Int.reduceSub, Int.reduceNeg, Int.reduceMul, Int.reduceToNat, Nat.reduceSub, Nat.reduceMul, Nat.reduceLeDiff, Nat.reduceAdd, Nat.reduceLT, Nat.reduceEqDiff, reduceCtorEq, ↓reduceIte, rqs]
  refine call_by (m2) (by rfl) (by simp) ?_
  simp (disch := omega) only [wk, tis, Int.reduceNe, Int.reduceEq, Int.reduceLT, Int.reduceLE, Int.reduceAdd, Int.reduceSub, Int.reduceNeg, Int.reduceMul, Int.reduceToNat, Nat.reduceSub, Nat.reduceMul, Nat.reduceLeDiff, Nat.reduceAdd, Nat.reduceLT, Nat.reduceEqDiff, reduceCtorEq, ↓reduceIte, rqs]
  unfold cqs
  generalize trimq (qvs p) = A at *
  generalize trimq (qvs r) = B at *
  obtain ⟨la, lb, h0, hb, ta, tb, en, hj, za, zb, k1, k2⟩ := v
  have hqb : (B.map crat).length = B.length := List.length_map _
  refine aloop_w (.nilv 6 (by simp (disch := omega) only [wk, tis, Int.reduceNe, Int.reduceEq, Int.reduceLT, Int.reduceLE, Int.reduceAdd, Int.reduceSub, Int.reduceNeg, Int.reduceMul, Int.reduceToNat, Nat.reduceSub, Nat.reduceMul, Nat.reduceLeDiff, Nat.reduceAdd, Nat.reduceLT, Nat.reduceEqDiff, reduceCtorEq, ↓reduceIte, rqs]) (.refl _ _)) (fun f H => ∃ k : Nat, k ≤ n ∧ f 0 = .iv (.sl (rats ((dit A B k).map crat))) ∧ f 1 = .iv (.sl (rats (B.map crat))) ∧ f 6 = .iv (.sl (rats (cqs (dqu A B k))))) (fun f H => match f 0 with | .iv (.sl l) => l.length | _ => 0) ?_ ?_
  · exact ⟨0, Nat.zero_le _, by simp (disch := omega) only [wk, tis, Int.reduceNe, Int.reduceEq, Int.reduceLT, Int.reduceLE, Int.reduceAdd, Int.reduceSub, Int.reduceNeg, Int.reduceMul, Int.reduceToNat, Nat.reduceSub, Nat.reduceMul, Nat.reduceLeDiff, Nat.reduceAdd, Nat.reduceLT, Nat.reduceEqDiff, reduceCtorEq, ↓reduceIte, rqs]; rfl, by simp (disch := omega) only [wk, tis, Int.reduceNe, Int.reduceEq, Int.reduceLT, Int.reduceLE, Int.reduceAdd, Int.reduceSub, Int.reduceNeg, Int.reduceMul, Int.reduceToNat, Nat.reduceSub, Nat.reduceMul, Nat.reduceLeDiff, Nat.reduceAdd, Nat.reduceLT, Nat.reduceEqDiff, reduceCtorEq, ↓reduceIte, rqs], by simp (disch := omega) only [wk, tis, Int.reduceNe, Int.reduceEq, Int.reduceLT, Int.reduceLE, Int.reduceAdd, Int.reduceSub, Int.reduceNeg, Int.reduceMul, Int.reduceToNat, Nat.reduceSub, Nat.reduceMul, Nat.reduceLeDiff, Nat.reduceAdd, Nat.reduceLT, Nat.reduceEqDiff, reduceCtorEq, ↓reduceIte, rqs]; rfl⟩
  rintro f H ⟨k, hk, g0, g1, g6⟩
  have hql : ((dit A B k).map crat).length = (dit A B k).length := List.length_map _
  have hmu : (match f 0 with | .iv (.sl l) => l.length | _ => 0) = (dit A B k).length := by rw [g0]; simp only []; rw [rats_length, hql]
  rw [hmu]
  by_cases hge : B.length ≤ (dit A B k).length
  · have hkn : k < n := Nat.lt_of_le_of_ne hk fun e => by rw [e] at hge; omega
    have hl1 := dit_len h0 hb k fun j hjk => hj j (by omega)
    have ll := dqu_len h0 hb k fun j hjk => hj j (by omega)
    have hdn := dn1_len h0 hb hge
    have zx := za k hk
    have zq := dqu_size h0 hb za zb k1 k hk fun j hjk => hj j (by omega)
    have hdit : dit A B (k + 1) = dn1 (dit A B k) B := rfl
    have htx := dit_trim (B := B) ta k
    have hdq : dqu A B (k + 1) = zipq (fma 1) (dqu A B k) (upq (dc (dit A B k) B) ((dit A B k).length - B.length)) := rfl
    generalize hQ' : dqu A B (k + 1) = Q' at *
    generalize hXX : dit A B k = X at *
    generalize dqu A B k = Q at *
    obtain ⟨s, hs⟩ : ∃ s, s = X.length - B.length := ⟨_, rfl⟩
    rw [← hs] at hdq
    have zc := qz_div (cfq X (X.length - 1)) (cfq B (B.length - 1))
    have zc1 := zx (X.length - 1)
    have zc2 := zb (B.length - 1)
    have mq := hover_ok (crat (cfq X (X.length - 1))) (crat (cfq B (B.length - 1))) (szq_crat (by omega)) (szq_crat (by omega)) (nv_crat0 _) (nv_crat0 _) (by rw [iv_crat]; exact fun e => hb (Rat.num_eq_zero.mp e))
    rw [qv_crat, qv_crat, show cfq X (X.length - 1) / cfq B (B.length - 1) = dc X B from rfl] at mq
    rw [show cfq X (X.length - 1) / cfq B (B.length - 1) = dc X B from rfl] at zc
    have hc0 : dc X B ≠ 0 := by
      have ht := trimq_full htx
      have h1 := cfq_tzq_pred (q := X) (by omega)
      rw [ht] at h1
      intro e
      have h2 := Rat.div_mul_cancel (a := cfq X (X.length - 1)) hb
      rw [show cfq X (X.length - 1) / cfq B (B.length - 1) = dc X B from rfl, e, Rat.zero_mul] at h2
      exact h1 h2.symm
    have hU : QB (2 ^ 30) (2 * K) (upq (dc X B) s) := .of (by rw [upq_len]; omega) fun i => by
      rw [cfq_upq]
      split
      · omega
      · rw [qz_zero]; omega
    have hQB : QB (2 ^ 30) (2 * K) Q := .of (by omega) fun i => by have := zq i; omega
    have hXB : QB (2 ^ 30) K X := .of (by omega) zx
    have hBB : QB (2 ^ 30) K B := .of (by omega) zb
    have p1 := tplus_ok (cqs Q) ((upq (dc X B) s).map crat) (crat 1) (2 * K) hQB.gqs hU.gq (szq_crat (by rw [qz_one]; omega)) (nv_crat0 _) (by omega) (by omega)
    rw [qv_crat, qvs_cqs, qvs_map, show cqp (zipq (fma 1) (trimq Q) (upq (dc X B) s)) = cqw (cqs Q') from congrArg cqw (cqs_ext fun j => by rw [hdq, cfq_zipq (fma_zero _), cfq_zipq (fma_zero _), cfq_trimq])] at p1
    have hzc : ∀ k, qz (dc X B * cfq B k) ≤ 3 * K := fun k => by
      have h1 := qz_mul (dc X B) (cfq B k)
      have h2 := zb k
      omega
    have tt := ttimes_ok ((upq (dc X B) s).map crat) (B.map crat) (2 * K) hU.gq (hBB.mono (Nat.le_refl _) (by omega)).gq (by omega) (by omega) (by
      intro i k
      rw [qvs_map, qvs_map, upq_trim hc0, tb, upq_take]
      have := hzc (k - s)
      split
      · split
        · omega
        · rw [qz_zero]; omega
      · rw [qz_zero]; omega)
    rw [qvs_map, qvs_map] at tt
    have hMB : QB (2 ^ 30) (4 * K) (mulq (upq (dc X B) s) B) := .of (by rw [mulq_len, upq_len]; omega) fun i => by
      rw [cfq_mul_upq]
      have := hzc (i - s)
      split
      · omega
      · rw [qz_zero]; omega
    have p2 := tplus_ok (X.map crat) (cqs (mulq (upq (dc X B) s) B)) (crat (-1)) (4 * K) (hXB.mono (Nat.le_refl _) (by omega)).gq hMB.gqs (szq_crat (by rw [qz_neg, qz_one]; omega)) (nv_crat0 _) (by omega) (by omega)
    rw [qv_crat, qvs_cqs, qvs_map, show cqp (zipq (fma (-1)) X (trimq (mulq (upq (dc X B) s) B))) = cqw ((dn1 X B).map crat) from congrArg cqw (by
      rw [cqs]
      congr 1
      rw [dn1, ← hs]
      exact trimq_ext fun j => by rw [cfq_zipq (fma_zero _), cfq_zipq (fma_zero _), cfq_trimq])] at p2
    have hge' : (B.length : Int) ≤ (X.length : Int) := by omega
    have e1 : (X.length : Int) - 1 = ((X.length - 1 : Nat) : Int) := by omega
    have e2 : (B.length : Int) - 1 = ((B.length - 1 : Nat) : Int) := by omega
    have e3 : (X.length : Int) - (B.length : Int) = (s : Int) := by omega
    have e5 : (s : Int) + 1 = ((s + 1 : Nat) : Int) := by omega
    have c1 := cratq_get (q := X) (i := X.length - 1) (by omega)
    have c2 := cratq_get (q := B) (i := B.length - 1) (by omega)
    simp (disch := omega) only [wk, tis, Int.reduceNe, Int.reduceEq, Int.reduceLT, Int.reduceLE, Int.reduceAdd, Int.reduceSub, Int.reduceNeg, Int.reduceMul, Int.reduceToNat, Nat.reduceSub, Nat.reduceMul, Nat.reduceLeDiff, Nat.reduceAdd, Nat.reduceLT, Nat.reduceEqDiff, reduceCtorEq, ↓reduceIte, rqs, g0, g1, g6, hql, hqb, hge', e1, e2, e3, c1, c2]
    refine ⟨tmps_by (by kernel_rfl), ?_⟩
    refine call_by (mq) (by first | rfl | (simp only [tocvs, tocv, g0, g1, g6, hql, hqb, hge', e1, e2, e3, c1, c2]; rfl) | (simp only [tocvs, tocv, toboxes, tobox, updH_at, Nat.reduceEqDiff, ↓reduceIte, g0, g1, g6, hql, hqb, hge', e1, e2, e3, c1, c2]; rfl)) (by simp) ?_
    simp (disch := omega) only [wk, tis, Int.reduceNe, Int.reduceEq, Int.reduceLT, Int.reduceLE, Int.reduceAdd, Int.reduceSub, Int.reduceNeg, Int.reduceMul, Int.reduceToNat, Nat.reduceSub, Nat.reduceMul, Nat.reduceLeDiff, Nat.reduceAdd, Nat.reduceLT, Nat.reduceEqDiff, reduceCtorEq, ↓reduceIte, rqs, g0, g1, g6, hql, hqb, hge', e1, e2, e3, c1, c2]
    first | exact log_by (by kernel_rfl) | refine ⟨log_by (by kernel_rfl), ?_⟩
    simp (disch := omega) only [wk, tis, Int.reduceNe, Int.reduceEq, Int.reduceLT, Int.reduceLE, Int.reduceAdd, Int.reduceSub, Int.reduceNeg, Int.reduceMul, Int.reduceToNat, Nat.reduceSub, Nat.reduceMul, Nat.reduceLeDiff, Nat.reduceAdd, Nat.reduceLT, Nat.reduceEqDiff, reduceCtorEq, ↓reduceIte, rqs, g0, g1, g6, hql, hqb, e3, e5]
    refine aloop_by (fun f H => ∃ (i st sc : Nat), i ≤ s ∧ f 9 = .iv (.int .i64 i) ∧ f 0 = .iv (.sl (rats (X.map crat))) ∧ f 1 = .iv (.sl (rats (B.map crat))) ∧ f 6 = .iv (.sl (rats (cqs Q))) ∧ f 7 = .hp 7 sc 0 0 ∧ H 7 = .blk false sc 31 3 [qrow (crat (dc X B))] ∧ f 8 = .hs 38 st ∧ H 38 = .blk false st 31 3 (rats ((List.replicate i (0 : Rat)).map crat))) (fun f H => (s - intAt f 9).toNat) ?_ ?_
    · refine ⟨0, (H 38).stamp + 1, (H 7).stamp + 1, by omega, ?_⟩
      simp (disch := omega) only [wk, tis, Int.reduceNe, Int.reduceEq, Int.reduceLT, Int.reduceLE, Int.reduceAdd, Int.reduceSub, Int.reduceNeg, Int.reduceMul, Int.reduceToNat, Nat.reduceSub, Nat.reduceMul, Nat.reduceLeDiff, Nat.reduceAdd, Nat.reduceLT, Nat.reduceEqDiff, reduceCtorEq, ↓reduceIte, rqs, g0, g1, g6, hql, hqb, e3, List.replicate_zero, List.map_nil]
    rintro f H ⟨i, st, sc, hi, hF⟩
    rw [intAt_of hF.1]
    simp (disch := omega) only [wk, tis, Int.reduceNe, Int.reduceEq, Int.reduceLT, Int.reduceLE, Int.reduceAdd, Int.reduceSub, Int.reduceNeg, Int.reduceMul, Int.reduceToNat, Nat.reduceSub, Nat.reduceMul, Nat.reduceLeDiff, Nat.reduceAdd, Nat.reduceLT, Nat.reduceEqDiff, reduceCtorEq, ↓reduceIte, rqs, hF]
    have hrq : ((List.replicate i (0 : Rat)).map crat).length = i := by simp
    refine if_by (fun hlt => ?_) (fun hlt => ?_)
    · simp (disch := omega) only [wk, tis, Int.reduceNe, Int.reduceEq, Int.reduceLT, Int.reduceLE, Int.reduceAdd, Int.reduceSub, Int.reduceNeg, Int.reduceMul, Int.reduceToNat, Nat.reduceSub, Nat.reduceMul, Nat.reduceLeDiff, Nat.reduceAdd, Nat.reduceLT, Nat.reduceEqDiff, reduceCtorEq, ↓reduceIte, rqs, hF, hrq]
      refine call_by (z0) (by first | rfl | (simp only [tocvs, tocv, hF, hrq]; rfl) | (simp only [tocvs, tocv, toboxes, tobox, updH_at, Nat.reduceEqDiff, ↓reduceIte, hF, hrq]; rfl)) (by simp) ?_
      simp (disch := omega) only [wk, tis, Int.reduceNe, Int.reduceEq, Int.reduceLT, Int.reduceLE, Int.reduceAdd, Int.reduceSub, Int.reduceNeg, Int.reduceMul, Int.reduceToNat, Nat.reduceSub, Nat.reduceMul, Nat.reduceLeDiff, Nat.reduceAdd, Nat.reduceLT, Nat.reduceEqDiff, reduceCtorEq, ↓reduceIte, rqs, hF, hrq]
      refine ⟨⟨i + 1, st + 1, sc, by omega, ?_⟩, by omega⟩
      rw [List.replicate_succ', List.map_append]
      (repeat' apply And.intro) <;> first | rfl | omega
    · obtain rfl : i = s := by omega
      have hup := rep_upq (dc X B) i
      simp (disch := omega) only [wk, tis, Int.reduceNe, Int.reduceEq, Int.reduceLT, Int.reduceLE, Int.reduceAdd, Int.reduceSub, Int.reduceNeg, Int.reduceMul, Int.reduceToNat, Nat.reduceSub, Nat.reduceMul, Nat.reduceLeDiff, Nat.reduceAdd, Nat.reduceLT, Nat.reduceEqDiff, reduceCtorEq, ↓reduceIte, rqs, hF, hrq, hup]
      refine call_by (hone_ok) (by first | rfl | (simp only [tocvs, tocv, hF, hrq, hup]; rfl) | (simp only [tocvs, tocv, toboxes, tobox, updH_at, Nat.reduceEqDiff, ↓reduceIte, hF, hrq, hup]; rfl)) (by simp) ?_
      simp (disch := omega) only [wk, tis, Int.reduceNe, Int.reduceEq, Int.reduceLT, Int.reduceLE, Int.reduceAdd, Int.reduceSub, Int.reduceNeg, Int.reduceMul, Int.reduceToNat, Nat.reduceSub, Nat.reduceMul, Nat.reduceLeDiff, Nat.reduceAdd, Nat.reduceLT, Nat.reduceEqDiff, reduceCtorEq, ↓reduceIte, rqs, hF, hrq, hup]
      refine call_by (p1) (by first | rfl | (simp only [tocvs, tocv, hF, hrq, hup]; rfl) | (simp only [tocvs, tocv, toboxes, tobox, updH_at, Nat.reduceEqDiff, ↓reduceIte, hF, hrq, hup]; rfl)) (by simp) ?_
      simp (disch := omega) only [wk, tis, Int.reduceNe, Int.reduceEq, Int.reduceLT, Int.reduceLE, Int.reduceAdd, Int.reduceSub, Int.reduceNeg, Int.reduceMul, Int.reduceToNat, Nat.reduceSub, Nat.reduceMul, Nat.reduceLeDiff, Nat.reduceAdd, Nat.reduceLT, Nat.reduceEqDiff, reduceCtorEq, ↓reduceIte, rqs, hF, hrq, hup]
      refine call_by (hminus_ok) (by first | rfl | (simp only [tocvs, tocv, hF, hrq, hup]; rfl) | (simp only [tocvs, tocv, toboxes, tobox, updH_at, Nat.reduceEqDiff, ↓reduceIte, hF, hrq, hup]; rfl)) (by simp) ?_
      simp (disch := omega) only [wk, tis, Int.reduceNe, Int.reduceEq, Int.reduceLT, Int.reduceLE, Int.reduceAdd, Int.reduceSub, Int.reduceNeg, Int.reduceMul, Int.reduceToNat, Nat.reduceSub, Nat.reduceMul, Nat.reduceLeDiff, Nat.reduceAdd, Nat.reduceLT, Nat.reduceEqDiff, reduceCtorEq, ↓reduceIte, rqs, hF, hrq, hup]
      refine call_by (tt) (by first | rfl | (simp only [tocvs, tocv, hF, hrq, hup]; rfl) | (simp only [tocvs, tocv, toboxes, tobox, updH_at, Nat.reduceEqDiff, ↓reduceIte, hF, hrq, hup]; rfl)) (by simp) ?_
      simp (disch := omega) only [wk, tis, Int.reduceNe, Int.reduceEq, Int.reduceLT, Int.reduceLE, Int.reduceAdd, Int.reduceSub, Int.reduceNeg, Int.reduceMul, Int.reduceToNat, Nat.reduceSub, Nat.reduceMul, Nat.reduceLeDiff, Nat.reduceAdd, Nat.reduceLT, Nat.reduceEqDiff, reduceCtorEq, ↓reduceIte, rqs, hF, hrq, hup]
      refine call_by (p2) (by first | rfl | (simp only [tocvs, tocv, hF, hrq, hup]; rfl) | (simp only [tocvs, tocv, toboxes, tobox, updH_at, Nat.reduceEqDiff, ↓reduceIte, hF, hrq, hup]; rfl)) (by simp) ?_
      simp (disch := omega) only [wk, tis, Int.reduceNe, Int.reduceEq, Int.reduceLT, Int.reduceLE, Int.reduceAdd, Int.reduceSub, Int.reduceNeg, Int.reduceMul, Int.reduceToNat, Nat.reduceSub, Nat.reduceMul, Nat.reduceLeDiff, Nat.reduceAdd, Nat.reduceLT, Nat.reduceEqDiff, reduceCtorEq, ↓reduceIte, rqs, hF, hrq, hup]
      refine ⟨⟨k + 1, hkn, ?_⟩, ?_⟩
      · rw [hdit, hQ']
        (repeat' apply And.intro) <;> first | rfl | omega
      · rw [List.length_map]
        exact hdn
  · obtain rfl : k = n := by
      rcases Nat.lt_or_ge k n with h | h
      · exact absurd (hj k h) hge
      · omega
    have hge' : ¬ (B.length : Int) ≤ ((dit A B k).length : Int) := by omega
    simp (disch := omega) only [wk, tis, Int.reduceNe, Int.reduceEq, Int.reduceLT, Int.reduceLE, Int.reduceAdd, Int.reduceSub, Int.reduceNeg, Int.reduceMul, Int.reduceToNat, Nat.reduceSub, Nat.reduceMul, Nat.reduceLeDiff, Nat.reduceAdd, Nat.reduceLT, Nat.reduceEqDiff, reduceCtorEq, ↓reduceIte, rqs, g0, g1, g6, hql, hqb, hge']
    try rfl
end Go.Proofs.YtjadkhkgmdikiaaGreat
