/-
  Contracts of the functions that the law reaches.
-/
import Derived.Test.YtcjnacpekbhhcaaGreatL98M
import Derived.Test.YtcjnacpekbhhcaaGreatAbsT
namespace Go.Proofs.YtcjnacpekbhhcaaGreat
open Go Go.Proofs Go.AL
set_option linter.unusedSimpArgs false
set_option linter.unusedVariables false

theorem readsB_rat {bk : {H : Type} → DataW H → Nat} {P : Program} {w : World} {t : TypeId} (h : ReadsB bk P w (fun c : (RI × (List Nat × Unit)) => prow c.1 ++ ([.sl (lims c.2.1)] ++ [])) (fun N c => Sz N c.1 ∧ ((c.2.1.length ≤ N ∧ Lim c.2.1) ∧ True)) t) : ReadsB bk P w qrow (fun N => SzQ N) t := fun enc sp held fuel cs x N hx hN => by
  obtain ⟨a, f, e⟩ := h enc sp held fuel cs x N hx hN
  exact ⟨(a.1, a.2.1), ⟨f.1, f.2.1⟩, e⟩


end Go.Proofs.YtcjnacpekbhhcaaGreat

namespace Go.Proofs.YtcjnacpekbhhcaaGreat
open Go Go.Proofs Go.AL
set_option linter.unusedSimpArgs false
set_option linter.unusedVariables false

theorem take_min40 {α : Type} (l : List α) : l.take (min (l.length : Int) 40).toNat = l.take 40 := by
  rcases Nat.le_total l.length 40 with h | h
  · rw [List.take_of_length_le (i := 40) h, List.take_of_length_le (by omega)]
  · congr 1; omega
theorem few10_ok (p : List RQ) (hl : p.length ≤ 9223372036854775807) : AC Tryz.prog 20 [cqw p] none [cqw (p.take 40)] := by
  have e := take_min40 p
  refine AC.by_walk (rs := [.tmp 2]) ords Tryz.func20 (by rfl) (by rfl) (by rfl) (by rfl) (by rfl) ?_
  simp (disch := omega) only [wk, tis, Int.reduceNe, Int.reduceEq, Int.reduceLT, Int.reduceLE, Int.reduceAdd, Int.reduceSub, Int.reduceNeg, Int.reduceMul, Int.reduceToNat, Nat.reduceSub, Nat.reduceMul, Nat.reduceLeDiff, Nat.reduceAdd, Nat.reduceLT, Nat.reduceEqDiff, reduceCtorEq, ↓reduceIte, rqs, ilims_len, ilims_at, e]
  try rfl
theorem BQ.few {n k : Nat} {p : List RQ} (h : BQ n k p) : BQ 40 k (p.take 40) := ⟨by rw [List.length_take]; omega, fun r hr => h.2 r (List.mem_of_mem_take hr)⟩

theorem pq_cqs (X : List Rat) : pq (qvs (cqs X)) = pq X := by rw [qvs_cqs, pq_trimq]
theorem cqs_pq {X Y : List Rat} (h : pq X = pq Y) : cqs X = cqs Y := cqs_ext (pq_eq h)
theorem qpadd_g {p q : List RQ} {K : Nat} {X Y : List Rat} (hp : GQ (2 ^ 30) K p) (hq : GQ (2 ^ 30) K q) (hK : K ≤ 2 ^ 35) (hK1 : 1 ≤ K) (ex : pq (qvs p) = pq X) (ey : pq (qvs q) = pq Y) : AC Tryz.prog 25 [cqw p, cqw q] none [cqp (addq X Y), ci 0] := by
  have h := qpadd_ok p q K hp hq hK hK1
  rwa [show cqp (addq (qvs p) (qvs q)) = cqp (addq X Y) from congrArg cqw (cqs_pq (by rw [pq_addq, pq_addq, ex, ey]))] at h
theorem all0_ok (n : Nat) (hn : n ≤ 100) : AC Tryz.prog 27 [cis (List.replicate n 0)] none [cb true] := by
  have hq : (List.replicate n (0 : Int)).length = n := List.length_replicate ..
  refine AC.by_walk (rs := [.tmp 2]) ords Tryz.func27 (by rfl) (by rfl) (by rfl) (by rfl) (by rfl) ?_
  simp (disch := omega) only [wk, tis, Int.reduceNe, Int.reduceEq, Int.reduceLT, Int.reduceLE, Int.reduceAdd, Int.reduceSub, Int.reduceNeg, Int.reduceMul, Int.reduceToNat, Nat.reduceSub, Nat.reduceMul, Nat.reduceLeDiff, Nat.reduceAdd, Nat.reduceLT, Nat.reduceEqDiff, reduceCtorEq, ↓reduceIte, rqs, ilims_len, ilims_at]
  refine aloop_by (fun f H => ∃ (i : Nat), i ≤ n ∧ f 3 = .iv (.int .i64 i) ∧ f 0 = .iv (.sl (ilims (List.replicate n 0)))) (fun f H => (n - intAt f 3).toNat) ?_ ?_
  · refine ⟨0, by omega, ?_⟩
    simp (disch := omega) only [wk, tis, Int.reduceNe, Int.reduceEq, Int.reduceLT, Int.reduceLE, Int.reduceAdd, Int.reduceSub, Int.reduceNeg, Int.reduceMul, Int.reduceToNat, Nat.reduceSub, Nat.reduceMul, Nat.reduceLeDiff, Nat.reduceAdd, Nat.reduceLT, Nat.reduceEqDiff, reduceCtorEq, ↓reduceIte, rqs, ilims_len, ilims_at]
  rintro f H ⟨i, hi, hF⟩
  rw [intAt_of hF.1]
  simp (disch := omega) only [wk, tis, Int.reduceNe, Int.reduceEq, Int.reduceLT, Int.reduceLE, Int.reduceAdd, Int.reduceSub, Int.reduceNeg, Int.reduceMul, Int.reduceToNat, Nat.reduceSub, Nat.reduceMul, Nat.reduceLeDiff, Nat.reduceAdd, Nat.reduceLT, Nat.reduceEqDiff, reduceCtorEq, ↓reduceIte, rqs, ilims_len, ilims_at, hF]
  refine if_by (fun hlt => ?_) (fun hlt => ?_)
  · have hlt' : i < n := by omega
    have e : (List.replicate n (0 : Int)).getD i 0 = 0 := by simp [List.getD, hlt']
    simp (disch := omega) only [wk, tis, Int.reduceNe, Int.reduceEq, Int.reduceLT, Int.reduceLE, Int.reduceAdd, Int.reduceSub, Int.reduceNeg, Int.reduceMul, Int.reduceToNat, Nat.reduceSub, Nat.reduceMul, Nat.reduceLeDiff, Nat.reduceAdd, Nat.reduceLT, Nat.reduceEqDiff, reduceCtorEq, ↓reduceIte, rqs, ilims_len, ilims_at, hF, hq, e]
    exact ⟨⟨i + 1, by omega, by omega⟩, by omega⟩
  · simp (disch := omega) only [wk, tis, Int.reduceNe, Int.reduceEq, Int.reduceLT, Int.reduceLE, Int.reduceAdd, Int.reduceSub, Int.reduceNeg, Int.reduceMul, Int.reduceToNat, Nat.reduceSub, Nat.reduceMul, Nat.reduceLeDiff, Nat.reduceAdd, Nat.reduceLT, Nat.reduceEqDiff, reduceCtorEq, ↓reduceIte, rqs, ilims_len, ilims_at, hF, hq]
end Go.Proofs.YtcjnacpekbhhcaaGreat

namespace Go.Proofs.YtcjnacpekbhhcaaGreat
open Go Go.Proofs Go.AL
set_option linter.unusedSimpArgs false
set_option linter.unusedVariables false

theorem qp_len (P : List Int) : (qp P).length = P.length := by simp [qp]
theorem tzq_qp (P : List Int) : tzq (qp P) = tz P := by
  rcases Nat.eq_zero_or_pos (tz P) with h | h
  · rw [h]
    exact tzq_zero_iff.mpr fun k => by rw [cfq_qp, tz_zero_iff.mp h k]; rfl
  · have := tzq_spec (q := qp P) (n := tz P - 1) (by
      rw [cfq_qp]
      exact fun e => cf_tz_pred (q := P) (by omega) (Rat.intCast_eq_zero_iff.mp e)) fun k hk => by rw [cfq_qp, cf_ge_tz P (by omega)]; rfl
    omega
theorem qp_trim (P : List Int) : trimq (qp P) = qp (trimz P) := by rw [trimq, tzq_qp, trimz, qp, qp, List.map_take]
theorem qof10_ok (p : List RI) (h : RP (2 ^ 40) (2 ^ 38) p) : AC Tryz.prog 32 [cw p] none [cqp (qp (pv p))] := by
  have n := pnorm_ok p (h.mono (by omega) (by omega))
  have m := nof_ok 1 (by decide)
  rw [show wd 1 = [1] by decide +kernel] at m
  rw [show cqp (qp (pv p)) = cqw ((qp (trimz (pv p))).map crat) from congrArg cqw (by rw [cqs, qp_trim])]
  refine AC.by_walk (rs := [.tmp 2]) ords Tryz.func32 (by rfl) (by rfl) (by rfl) (by rfl) (by rfl) ?_
  simp (disch := omega) only [wk, tis, Int.reduceNe, Int.reduceEq, Int.reduceLT, Int.reduceLE, Int.reduceAdd, Int.reduceSub, Int.reduceNeg, Int.reduceMul, Int.reduceToNat, Nat.reduceSub, Nat.reduceMul, Nat.reduceLeDiff, Nat.reduceAdd, Nat.reduceLT, Nat.reduceEqDiff, reduceCtorEq, ↓reduceIte, rqs]
  refine call_by (n) (by rfl) (by simp) ?_
  simp (disch := omega) only [wk, tis, Int.reduceNe, Int.reduceEq, Int.reduceLT, Int.reduceLE, Int.reduceAdd, Int.reduceSub, Int.reduceNeg, Int.reduceMul, Int.reduceToNat, Nat.reduceSub, Nat.reduceMul, Nat.reduceLeDiff, Nat.reduceAdd, Nat.reduceLT, Nat.reduceEqDiff, reduceCtorEq, ↓reduceIte, rqs]
  unfold cpoly
  have hAl : (trimz (pv p)).length ≤ 2 ^ 40 := h.pv.trimz.1
  generalize trimz (pv p) = A at *
  have hq : (A.map canon).length = A.length := List.length_map _
  have hql := qp_len A
  simp (disch := omega) only [wk, tis, Int.reduceNe, Int.reduceEq, Int.reduceLT, Int.reduceLE, Int.reduceAdd, Int.reduceSub, Int.reduceNeg, Int.reduceMul, Int.reduceToNat, Nat.reduceSub, Nat.reduceMul, Nat.reduceLeDiff, Nat.reduceAdd, Nat.reduceLT, Nat.reduceEqDiff, reduceCtorEq, ↓reduceIte, rqs, hq]
  refine aloop_nil 3 3 31 3 (by simp (disch := omega) only [wk, tis, Int.reduceNe, Int.reduceEq, Int.reduceLT, Int.reduceLE, Int.reduceAdd, Int.reduceSub, Int.reduceNeg, Int.reduceMul, Int.reduceToNat, Nat.reduceSub, Nat.reduceMul, Nat.reduceLeDiff, Nat.reduceAdd, Nat.reduceLT, Nat.reduceEqDiff, reduceCtorEq, ↓reduceIte, rqs]) (fun f H => ∃ (i st : Nat), i ≤ A.length ∧ f 9 = .iv (.int .i64 i) ∧ f 7 = .iv (.sl (raws (A.map canon))) ∧ f 8 = .iv (.int .i64 A.length) ∧ f 3 = .hs 3 st ∧ H 3 = .blk false st 31 3 (rats (((qp A).take i).map crat))) (fun f H => (A.length - intAt f 9).toNat) ?_ ?_
  · refine ⟨0, 1, by omega, ?_⟩
    simp (disch := omega) only [wk, tis, Int.reduceNe, Int.reduceEq, Int.reduceLT, Int.reduceLE, Int.reduceAdd, Int.reduceSub, Int.reduceNeg, Int.reduceMul, Int.reduceToNat, Nat.reduceSub, Nat.reduceMul, Nat.reduceLeDiff, Nat.reduceAdd, Nat.reduceLT, Nat.reduceEqDiff, reduceCtorEq, ↓reduceIte, rqs, ghostF, ghostH, hq, List.take_zero, List.map_nil]
  rintro f H ⟨i, st, hi, hF⟩
  rw [intAt_of hF.1]
  simp (disch := omega) only [wk, tis, Int.reduceNe, Int.reduceEq, Int.reduceLT, Int.reduceLE, Int.reduceAdd, Int.reduceSub, Int.reduceNeg, Int.reduceMul, Int.reduceToNat, Nat.reduceSub, Nat.reduceMul, Nat.reduceLeDiff, Nat.reduceAdd, Nat.reduceLT, Nat.reduceEqDiff, reduceCtorEq, ↓reduceIte, rqs, hF]
  refine if_by (fun hlt => ?_) (fun hlt => ?_)
  · have hlt' : i < A.length := by omega
    have hrq : (((qp A).take i).map crat).length = i := by rw [List.length_map, List.length_take]; omega
    have e1 := canon_getD A i
    have hrow : [IV.bool (canon (cf A i)).1, IV.sl (lims (canon (cf A i)).2), IV.sl (lims [1])] = qrow (crat (cf A i : Rat)) := by rw [crat_int]
    simp (disch := omega) only [wk, tis, Int.reduceNe, Int.reduceEq, Int.reduceLT, Int.reduceLE, Int.reduceAdd, Int.reduceSub, Int.reduceNeg, Int.reduceMul, Int.reduceToNat, Nat.reduceSub, Nat.reduceMul, Nat.reduceLeDiff, Nat.reduceAdd, Nat.reduceLT, Nat.reduceEqDiff, reduceCtorEq, ↓reduceIte, rqs, hF, hq, hrq, e1]
    refine ⟨tmps_by (by kernel_rfl), ?_⟩
    refine call_by (m) (by first | rfl | (simp only [tocvs, tocv, hF, hq, hrq, e1, hrow]; rfl) | (simp only [tocvs, tocv, toboxes, tobox, updH_at, Nat.reduceEqDiff, ↓reduceIte, hF, hq, hrq, e1, hrow]; rfl)) (by simp) ?_
    simp (disch := omega) only [wk, tis, Int.reduceNe, Int.reduceEq, Int.reduceLT, Int.reduceLE, Int.reduceAdd, Int.reduceSub, Int.reduceNeg, Int.reduceMul, Int.reduceToNat, Nat.reduceSub, Nat.reduceMul, Nat.reduceLeDiff, Nat.reduceAdd, Nat.reduceLT, Nat.reduceEqDiff, reduceCtorEq, ↓reduceIte, rqs, hF, hq, hrq, e1, hrow]
    first | exact log_by (by kernel_rfl) | refine ⟨log_by (by kernel_rfl), ?_⟩
    have et := takeq_snoc (q := qp A) (i := i) (by omega)
    rw [cfq_qp] at et
    refine ⟨⟨i + 1, st + 1, by omega, ?_⟩, by omega⟩
    rw [et, List.map_append, show rats (((qp A).take i).map crat ++ List.map crat [((cf A i : Int) : Rat)]) = rats (((qp A).take i).map crat) ++ [[IV.bool (canon (cf A i)).1, IV.sl (lims (canon (cf A i)).2), IV.sl (lims [1])]] by rw [hrow]; exact List.map_append]
    (repeat' apply And.intro) <;> first | rfl | omega
  · rw [List.take_of_length_le (l := qp A) (by omega)] at hF
    simp (disch := omega) only [wk, tis, Int.reduceNe, Int.reduceEq, Int.reduceLT, Int.reduceLE, Int.reduceAdd, Int.reduceSub, Int.reduceNeg, Int.reduceMul, Int.reduceToNat, Nat.reduceSub, Nat.reduceMul, Nat.reduceLeDiff, Nat.reduceAdd, Nat.reduceLT, Nat.reduceEqDiff, reduceCtorEq, ↓reduceIte, rqs, hF]
    try rfl

/-- The sum of p and c times r. -/
def fma (c : Rat) (a b : Rat) : Rat := a + c * b
theorem fma_zero (c : Rat) : fma c 0 0 = 0 := by unfold fma; grind

end Go.Proofs.YtcjnacpekbhhcaaGreat

namespace Go.Proofs.YtcjnacpekbhhcaaGreat
open Go Go.Proofs Go.AL
set_option linter.unusedSimpArgs false
set_option linter.unusedVariables false

/-- The content, over the rationals. -/
def partq (A : List Rat) : Rat := (cont (clr A) : Rat) / (((cden A : Nat) : Int) : Rat)
theorem cont_clr_ne {A : List Rat} (h : trimq A = A) (h0 : A.length ≠ 0) : cont (clr A) ≠ 0 := by
  have ht := trimq_full h
  have hp := cfq_tzq_pred (q := A) (by omega)
  intro e
  have hg : gz (clr A) = 0 := by rw [← cont_natAbs, e]; rfl
  have hd := gz_dvd (clr A) (tzq A - 1)
  rw [hg] at hd
  exact hp (clr_zero.mp (Int.zero_dvd.mp hd))
theorem zl_cont' {n k : Nat} {q : List Int} (h : PB n k q) : zl (cont q) ≤ k := by
  unfold zl
  rw [cont_natAbs]
  have := gz_len (p := q.map canon) (RP.canon h)
  rwa [pv_canon] at this
theorem qpart_ok (p : List RQ) (n k : Nat) (hp : GQ n k p) (hn : n ≤ 2 ^ 28) (hM : n * k + k + 2 ≤ 2 ^ 32) : AC Tryz.prog 30 [cqw p] none [cqz (partq (trimq (qvs p))), cp (prim (clr (trimq (qvs p)))), ci 0] := by
  have c := qclear_ok p n k hp hn (by omega)
  have hA := hp.qb.trimq
  have hB := hA.clr
  have rc := RP.canon hB
  have ct := pcontent_ok ((clr (trimq (qvs p))).map canon) (rc.mono (by omega) (by omega))
  have pr := pprim_ok ((clr (trimq (qvs p))).map canon) (rc.mono (by omega) (by omega))
  rw [pv_canon] at ct pr
  have hl := cden_len hA
  have hd0 := cden_ne (trimq (qvs p))
  have nt := znat_ok false (cden (trimq (qvs p))) (by omega)
  rw [sgf] at nt
  have zc := zl_cont' hB
  have mk := qmake_ok (canon (cont (clr (trimq (qvs p))))) (canon ((cden (trimq (qvs p)) : Nat) : Int)) ((sz_canon _).mono (by omega)) ((sz_canon _).mono (by rw [zl_nat]; omega)) (by rw [iv_canon]; omega)
  rw [iv_canon, iv_canon] at mk
  rw [show cqz (partq (trimq (qvs p))) = cqz ((cont (clr (trimq (qvs p))) : Rat) / (((cden (trimq (qvs p)) : Nat) : Int) : Rat)) from rfl]
  refine AC.by_walk (rs := [.cell 2 31, .tmp 3, .tmp 4]) ords Tryz.func30 (by rfl) (by rfl) (by rfl) (by rfl) (by rfl) ?_
  simp (disch := omega) only [wk, tis, Int.reduceNe, Int.reduceEq, Int.reduceLT, Int.reduceLE, Int.reduceAdd, Int.reduceSub, Int.reduceNeg, Int.reduceMul, Int.reduceToNat, Nat.reduceSub, Nat.reduceMul, Nat.reduceLeDiff, Nat.reduceAdd, Nat.reduceLT, Nat.reduceEqDiff, reduceCtorEq, ↓reduceIte, rqs]
  refine call_by (c) (by rfl) (by simp) ?_
  simp (disch := omega) only [wk, tis, Int.reduceNe, Int.reduceEq, Int.reduceLT, Int.reduceLE, Int.reduceAdd, Int.reduceSub, Int.reduceNeg, Int.reduceMul, Int.reduceToNat, Nat.reduceSub, Nat.reduceMul, Nat.reduceLeDiff, Nat.reduceAdd, Nat.reduceLT, Nat.reduceEqDiff, reduceCtorEq, ↓reduceIte, rqs]
  refine call_by (ct) (by rfl) (by simp) ?_
  simp (disch := omega) only [wk, tis, Int.reduceNe, Int.reduceEq, Int.reduceLT, Int.reduceLE, Int.reduceAdd, Int.reduceSub, Int.reduceNeg, Int.reduceMul, Int.reduceToNat, Nat.reduceSub, Nat.reduceMul, Nat.reduceLeDiff, Nat.reduceAdd, Nat.reduceLT, Nat.reduceEqDiff, reduceCtorEq, ↓reduceIte, rqs]
  refine call_by (nt) (by rfl) (by simp) ?_
  simp (disch := omega) only [wk, tis, Int.reduceNe, Int.reduceEq, Int.reduceLT, Int.reduceLE, Int.reduceAdd, Int.reduceSub, Int.reduceNeg, Int.reduceMul, Int.reduceToNat, Nat.reduceSub, Nat.reduceMul, Nat.reduceLeDiff, Nat.reduceAdd, Nat.reduceLT, Nat.reduceEqDiff, reduceCtorEq, ↓reduceIte, rqs]
  refine call_by (mk) (by rfl) (by simp) ?_
  simp (disch := omega) only [wk, tis, Int.reduceNe, Int.reduceEq, Int.reduceLT, Int.reduceLE, Int.reduceAdd, Int.reduceSub, Int.reduceNeg, Int.reduceMul, Int.reduceToNat, Nat.reduceSub, Nat.reduceMul, Nat.reduceLeDiff, Nat.reduceAdd, Nat.reduceLT, Nat.reduceEqDiff, reduceCtorEq, ↓reduceIte, rqs]
  refine ⟨tmps_by (by kernel_rfl), ?_⟩
  refine call_by (pr) (by rfl) (by simp) ?_
  simp (disch := omega) only [wk, tis, Int.reduceNe, Int.reduceEq, Int.reduceLT, Int.reduceLE, Int.reduceAdd, Int.reduceSub, Int.reduceNeg, Int.reduceMul, Int.reduceToNat, Nat.reduceSub, Nat.reduceMul, Nat.reduceLeDiff, Nat.reduceAdd, Nat.reduceLT, Nat.reduceEqDiff, reduceCtorEq, ↓reduceIte, rqs]
  first | exact log_by (by kernel_rfl) | refine ⟨log_by (by kernel_rfl), ?_⟩
  try rfl
theorem zsame_self {p : List RI} (h : RP (2 ^ 40) (2 ^ 43) p) : AC Tryz.prog 37 [cw p, cw p] none [cb true] := by
  have := zsame_ok p p h h
  rwa [decide_eq_true rfl] at this

end Go.Proofs.YtcjnacpekbhhcaaGreat

namespace Go.Proofs.YtcjnacpekbhhcaaGreat
open Go Go.Proofs Go.AL
set_option linter.unusedSimpArgs false
set_option linter.unusedVariables false

theorem rats_length (l : List RQ) : (rats l).length = l.length := by simp [rats]
/-- trim, handed a slice of its caller's own: the same slice, shorter. -/
theorem qtrim_t (X : List Rat) (h : QB (2 ^ 40) (2 ^ 38) X) : ACT Tryz.prog 72 [.any] 0 31 3 (rats (X.map crat)) (rats (cqs X)) := by
  have fin : ∀ k, k = tzq X → rats (cqs X) = rats ((X.map crat).take k) := fun k e => by rw [← List.map_take, e]; rfl
  have htl := tzq_le X
  have hl := h.1
  have hq : (X.map crat).length = X.length := List.length_map _
  refine ACT.by_walk (rs := [.tmp 2]) ords Tryz.func72 (by rfl) (by rfl) (by rfl) (by rfl) (by rfl) ?_
  simp (disch := omega) only [wk, tis, Int.reduceNe, Int.reduceEq, Int.reduceLT, Int.reduceLE, Int.reduceAdd, Int.reduceSub, Int.reduceNeg, Int.reduceMul, Int.reduceToNat, Nat.reduceSub, Nat.reduceMul, Nat.reduceLeDiff, Nat.reduceAdd, Nat.reduceLT, Nat.reduceEqDiff, reduceCtorEq, ↓reduceIte, rqs]
  refine aloop_by (fun f H => ∃ k : Nat, k ≤ X.length ∧ f 0 = .hs 0 1 ∧ f 3 = .iv (.int .i64 k) ∧ H 0 = .blk false 1 31 3 (rats (X.map crat)) ∧ tzq (X.take k) = tzq X) (fun f H => (intAt f 3).toNat) ?_ ?_
  · exact ⟨X.length, Nat.le_refl _, by simp (disch := omega) only [wk, tis, Int.reduceNe, Int.reduceEq, Int.reduceLT, Int.reduceLE, Int.reduceAdd, Int.reduceSub, Int.reduceNeg, Int.reduceMul, Int.reduceToNat, Nat.reduceSub, Nat.reduceMul, Nat.reduceLeDiff, Nat.reduceAdd, Nat.reduceLT, Nat.reduceEqDiff, reduceCtorEq, ↓reduceIte, rqs], by simp (disch := omega) only [wk, tis, Int.reduceNe, Int.reduceEq, Int.reduceLT, Int.reduceLE, Int.reduceAdd, Int.reduceSub, Int.reduceNeg, Int.reduceMul, Int.reduceToNat, Nat.reduceSub, Nat.reduceMul, Nat.reduceLeDiff, Nat.reduceAdd, Nat.reduceLT, Nat.reduceEqDiff, reduceCtorEq, ↓reduceIte, rqs, hq], by simp (disch := omega) only [wk, tis, Int.reduceNe, Int.reduceEq, Int.reduceLT, Int.reduceLE, Int.reduceAdd, Int.reduceSub, Int.reduceNeg, Int.reduceMul, Int.reduceToNat, Nat.reduceSub, Nat.reduceMul, Nat.reduceLeDiff, Nat.reduceAdd, Nat.reduceLT, Nat.reduceEqDiff, reduceCtorEq, ↓reduceIte, rqs], by rw [List.take_length]⟩
  rintro f H ⟨k, hk, h0, h3, hh, ht⟩
  rw [intAt_of h3]
  by_cases hc : 0 < (k : Int)
  · have ek : ((k : Int) - 1).toNat = k - 1 := by omega
    have ek' : k = (k - 1) + 1 := by omega
    have e := cratq_get (q := X) (i := k - 1) (by omega)
    have z := qpzero_ok (crat (cfq X (k - 1))) (szq_crat (h.cz (by omega) _)) (nv_crat0 _)
    rw [qv_crat] at z
    simp (disch := omega) only [wk, tis, Int.reduceNe, Int.reduceEq, Int.reduceLT, Int.reduceLE, Int.reduceAdd, Int.reduceSub, Int.reduceNeg, Int.reduceMul, Int.reduceToNat, Nat.reduceSub, Nat.reduceMul, Nat.reduceLeDiff, Nat.reduceAdd, Nat.reduceLT, Nat.reduceEqDiff, reduceCtorEq, ↓reduceIte, rqs, h0, h3, hh, hc, ek, hq, e]
    refine call_by (z) (by first | rfl | (simp only [tocvs, tocv, h0, h3, hh, hc]; rfl) | (simp only [tocvs, tocv, toboxes, tobox, updH_at, Nat.reduceEqDiff, ↓reduceIte, h0, h3, hh, hc]; rfl)) (by simp) ?_
    simp (disch := omega) only [wk, tis, Int.reduceNe, Int.reduceEq, Int.reduceLT, Int.reduceLE, Int.reduceAdd, Int.reduceSub, Int.reduceNeg, Int.reduceMul, Int.reduceToNat, Nat.reduceSub, Nat.reduceMul, Nat.reduceLeDiff, Nat.reduceAdd, Nat.reduceLT, Nat.reduceEqDiff, reduceCtorEq, ↓reduceIte, rqs, h0, h3, hh, hc]
    by_cases hz : cfq X (k - 1) = 0
    · simp (disch := omega) only [wk, tis, Int.reduceNe, Int.reduceEq, Int.reduceLT, Int.reduceLE, Int.reduceAdd, Int.reduceSub, Int.reduceNeg, Int.reduceMul, Int.reduceToNat, Nat.reduceSub, Nat.reduceMul, Nat.reduceLeDiff, Nat.reduceAdd, Nat.reduceLT, Nat.reduceEqDiff, reduceCtorEq, ↓reduceIte, rqs, h0, h3, hh, hz]
      refine ⟨⟨k - 1, by omega, by omega, ?_⟩, by omega⟩
      rw [← tzq_take_zero (k := k - 1) (by omega) hz, ← ek', ht]
    · simp (disch := omega) only [wk, tis, Int.reduceNe, Int.reduceEq, Int.reduceLT, Int.reduceLE, Int.reduceAdd, Int.reduceSub, Int.reduceNeg, Int.reduceMul, Int.reduceToNat, Nat.reduceSub, Nat.reduceMul, Nat.reduceLeDiff, Nat.reduceAdd, Nat.reduceLT, Nat.reduceEqDiff, reduceCtorEq, ↓reduceIte, rqs, h0, h3, hh, hz]
      have hk : k = tzq X := by
        have := tzq_full (q := X) (k := k - 1) (by omega) hz
        rw [← ek', ht] at this; exact this.symm
      refine ⟨by omega, fin k hk⟩
  · have hk : k = tzq X := by
      obtain rfl : k = 0 := by omega
      rw [← ht]; rfl
    simp (disch := omega) only [wk, tis, Int.reduceNe, Int.reduceEq, Int.reduceLT, Int.reduceLE, Int.reduceAdd, Int.reduceSub, Int.reduceNeg, Int.reduceMul, Int.reduceToNat, Nat.reduceSub, Nat.reduceMul, Nat.reduceLeDiff, Nat.reduceAdd, Nat.reduceLT, Nat.reduceEqDiff, reduceCtorEq, ↓reduceIte, rqs, h0, h3, hh, hc]
    refine ⟨by omega, fin k hk⟩

theorem qpnorm_own (p : List RQ) (h : GQ (2 ^ 40) (2 ^ 38) p) : AC Tryz.prog 26 [cqw p] (some (0, 31, 3, rats (cqs (qvs p)))) [cqp (qvs p), ci 0] := by
  have t := qtrim_t (qvs p) h.qb
  refine AC.by_walk (rs := [.tmp 2, .tmp 3]) ords Tryz.func26 (by rfl) (by rfl) (by rfl) (by rfl) (by rfl) ?_
  have hl := h.1
  simp (disch := omega) only [wk, tis, Int.reduceNe, Int.reduceEq, Int.reduceLT, Int.reduceLE, Int.reduceAdd, Int.reduceSub, Int.reduceNeg, Int.reduceMul, Int.reduceToNat, Nat.reduceSub, Nat.reduceMul, Nat.reduceLeDiff, Nat.reduceAdd, Nat.reduceLT, Nat.reduceEqDiff, reduceCtorEq, ↓reduceIte, rqs]
  refine aloop_nil 4 4 31 3 (by simp (disch := omega) only [wk, tis, Int.reduceNe, Int.reduceEq, Int.reduceLT, Int.reduceLE, Int.reduceAdd, Int.reduceSub, Int.reduceNeg, Int.reduceMul, Int.reduceToNat, Nat.reduceSub, Nat.reduceMul, Nat.reduceLeDiff, Nat.reduceAdd, Nat.reduceLT, Nat.reduceEqDiff, reduceCtorEq, ↓reduceIte, rqs]) (fun f H => ∃ (i st : Nat), i ≤ p.length ∧ f 11 = .iv (.int .i64 i) ∧ f 9 = .iv (.sl (rats p)) ∧ f 10 = .iv (.int .i64 p.length) ∧ f 4 = .hs 4 st ∧ H 4 = .blk false st 31 3 (rats (((qvs p).take i).map crat))) (fun f H => (p.length - intAt f 11).toNat) ?_ ?_
  · refine ⟨0, 1, by omega, ?_⟩
    simp (disch := omega) only [wk, tis, Int.reduceNe, Int.reduceEq, Int.reduceLT, Int.reduceLE, Int.reduceAdd, Int.reduceSub, Int.reduceNeg, Int.reduceMul, Int.reduceToNat, Nat.reduceSub, Nat.reduceMul, Nat.reduceLeDiff, Nat.reduceAdd, Nat.reduceLT, Nat.reduceEqDiff, reduceCtorEq, ↓reduceIte, rqs, ghostF, ghostH, List.take_zero, List.map_nil]
  rintro f H ⟨i, st, hi, hF⟩
  rw [intAt_of hF.1]
  simp (disch := omega) only [wk, tis, Int.reduceNe, Int.reduceEq, Int.reduceLT, Int.reduceLE, Int.reduceAdd, Int.reduceSub, Int.reduceNeg, Int.reduceMul, Int.reduceToNat, Nat.reduceSub, Nat.reduceMul, Nat.reduceLeDiff, Nat.reduceAdd, Nat.reduceLT, Nat.reduceEqDiff, reduceCtorEq, ↓reduceIte, rqs, hF]
  refine if_by (fun hlt => ?_) (fun hlt => ?_)
  · have hlt' : i < p.length := by omega
    have hq : (((qvs p).take i).map crat).length = i := by rw [List.length_map, List.length_take, qvs_len]; omega
    have m := qnorm_ok (p.getD i q0) (h.get hlt') (h.den hlt')
    rw [← cfq_qvs] at m
    simp (disch := omega) only [wk, tis, Int.reduceNe, Int.reduceEq, Int.reduceLT, Int.reduceLE, Int.reduceAdd, Int.reduceSub, Int.reduceNeg, Int.reduceMul, Int.reduceToNat, Nat.reduceSub, Nat.reduceMul, Nat.reduceLeDiff, Nat.reduceAdd, Nat.reduceLT, Nat.reduceEqDiff, reduceCtorEq, ↓reduceIte, rqs, hF, hq]
    refine call_by (m) (by first | rfl | (simp only [tocvs, tocv, hF, hq]; rfl) | (simp only [tocvs, tocv, toboxes, tobox, updH_at, Nat.reduceEqDiff, ↓reduceIte, hF, hq]; rfl)) (by simp) ?_
    simp (disch := omega) only [wk, tis, Int.reduceNe, Int.reduceEq, Int.reduceLT, Int.reduceLE, Int.reduceAdd, Int.reduceSub, Int.reduceNeg, Int.reduceMul, Int.reduceToNat, Nat.reduceSub, Nat.reduceMul, Nat.reduceLeDiff, Nat.reduceAdd, Nat.reduceLT, Nat.reduceEqDiff, reduceCtorEq, ↓reduceIte, rqs, hF, hq]
    have e := takeq_snoc (q := qvs p) (i := i) (by rw [qvs_len]; omega)
    refine ⟨⟨i + 1, st + 1, by omega, ?_⟩, by omega⟩
    rw [e, List.map_append]
    (repeat' apply And.intro) <;> first | rfl | omega
  · simp (disch := omega) only [wk, tis, Int.reduceNe, Int.reduceEq, Int.reduceLT, Int.reduceLE, Int.reduceAdd, Int.reduceSub, Int.reduceNeg, Int.reduceMul, Int.reduceToNat, Nat.reduceSub, Nat.reduceMul, Nat.reduceLeDiff, Nat.reduceAdd, Nat.reduceLT, Nat.reduceEqDiff, reduceCtorEq, ↓reduceIte, rqs, hF]
    rw [List.take_of_length_le (by rw [qvs_len]; omega)] at hF
    refine callt_by (t) (by first | rfl | (simp (disch := omega) only [wk, tis, Int.reduceNe, Int.reduceEq, Int.reduceLT, Int.reduceLE, Int.reduceAdd, Int.reduceSub, Int.reduceNeg, Int.reduceMul, Int.reduceToNat, Nat.reduceSub, Nat.reduceMul, Nat.reduceLeDiff, Nat.reduceAdd, Nat.reduceLT, Nat.reduceEqDiff, reduceCtorEq, ↓reduceIte, rqs, hF]; done)) (by first | rfl | (simp (disch := omega) only [wk, tis, Int.reduceNe, Int.reduceEq, Int.reduceLT, Int.reduceLE, Int.reduceAdd, Int.reduceSub, Int.reduceNeg, Int.reduceMul, Int.reduceToNat, Nat.reduceSub, Nat.reduceMul, Nat.reduceLeDiff, Nat.reduceAdd, Nat.reduceLT, Nat.reduceEqDiff, reduceCtorEq, ↓reduceIte, rqs, hF]; done)) (by first | rfl | (simp only [tocvs, tocv, List.set_cons_zero, List.set_cons_succ, hF]; rfl)) (by simp) (by simp) ?_
    simp (disch := omega) only [wk, tis, Int.reduceNe, Int.reduceEq, Int.reduceLT, Int.reduceLE, Int.reduceAdd, Int.reduceSub, Int.reduceNeg, Int.reduceMul, Int.reduceToNat, Nat.reduceSub, Nat.reduceMul, Nat.reduceLeDiff, Nat.reduceAdd, Nat.reduceLT, Nat.reduceEqDiff, reduceCtorEq, ↓reduceIte, rqs, hF]

theorem qboth_own (p q : List RQ) (hp : GQ (2 ^ 40) (2 ^ 38) p) (hq : GQ (2 ^ 40) (2 ^ 38) q) : AC Tryz.prog 69 [cqw p, cqw q] (some (0, 31, 3, rats (cqs (qvs p)))) [cqp (qvs p), cqp (qvs q), ci 0] := by
  have m := qpnorm_own p hp
  have n := qpnorm_ok q hq
  refine AC.by_walk (rs := [.tmp 4, .tmp 5, .tmp 6]) ords Tryz.func69 (by rfl) (by rfl) (by rfl) (by rfl) (by rfl) ?_
  simp (disch := omega) only [wk, tis, Int.reduceNe, Int.reduceEq, Int.reduceLT, Int.reduceLE, Int.reduceAdd, Int.reduceSub, Int.reduceNeg, Int.reduceMul, Int.reduceToNat, Nat.reduceSub, Nat.reduceMul, Nat.reduceLeDiff, Nat.reduceAdd, Nat.reduceLT, Nat.reduceEqDiff, reduceCtorEq, ↓reduceIte, rqs]
  refine call_by (m) (by rfl) (by simp) ?_
  simp (disch := omega) only [wk, tis, Int.reduceNe, Int.reduceEq, Int.reduceLT, Int.reduceLE, Int.reduceAdd, Int.reduceSub, Int.reduceNeg, Int.reduceMul, Int.reduceToNat, Nat.reduceSub, Nat.reduceMul, Nat.reduceLeDiff, Nat.reduceAdd, Nat.reduceLT, Nat.reduceEqDiff, reduceCtorEq, ↓reduceIte, rqs]
  refine call_by (n) (by rfl) (by simp) ?_
  simp (disch := omega) only [wk, tis, Int.reduceNe, Int.reduceEq, Int.reduceLT, Int.reduceLE, Int.reduceAdd, Int.reduceSub, Int.reduceNeg, Int.reduceMul, Int.reduceToNat, Nat.reduceSub, Nat.reduceMul, Nat.reduceLeDiff, Nat.reduceAdd, Nat.reduceLT, Nat.reduceEqDiff, reduceCtorEq, ↓reduceIte, rqs]
  try rfl
end Go.Proofs.YtcjnacpekbhhcaaGreat

namespace Go.Proofs.YtcjnacpekbhhcaaGreat
open Go Go.Proofs Go.AL
set_option linter.unusedSimpArgs false
set_option linter.unusedVariables false

/-! ### Division over the rationals -/
/-- c x^n. -/
def upq (c : Rat) (n : Nat) : List Rat := List.replicate n 0 ++ [c]
theorem upq_len (c : Rat) (n : Nat) : (upq c n).length = n + 1 := by simp [upq]
theorem upq_succ (c : Rat) (n : Nat) : upq c (n + 1) = 0 :: upq c n := rfl
theorem cfq_upq (c : Rat) : ∀ n k, cfq (upq c n) k = if k = n then c else 0
  | 0, 0 => rfl
  | 0, k + 1 => by rw [if_neg (by omega)]; exact cfq_ge (by rw [upq_len]; omega)
  | n + 1, 0 => by rw [if_neg (by omega)]; rfl
  | n + 1, k + 1 => by
    rw [upq_succ, cfq_cons_succ, cfq_upq c n k]
    by_cases h : k = n
    · rw [if_pos h, if_pos (by omega)]
    · rw [if_neg h, if_neg (by omega)]
theorem cvq_upq (c : Rat) (g : Nat → Rat) : ∀ n k, cvq (upq c n) g k = if n ≤ k then c * g (k - n) else 0
  | 0, k => by
    rw [if_pos (Nat.zero_le _), show upq c 0 = [c] from rfl, cvq_cons]
    cases k with
    | zero => simp only [qshift, Nat.sub_zero]; grind
    | succ k => simp only [qshift, Nat.sub_zero, cvq]; grind
  | n + 1, 0 => by
    rw [if_neg (by omega), upq_succ, cvq_cons]
    simp only [qshift]; grind
  | n + 1, k + 1 => by
    rw [upq_succ, cvq_cons, qshift, cvq_upq c g n k]
    by_cases h : n ≤ k
    · rw [if_pos h, if_pos (by omega), Nat.add_sub_add_right]; grind
    · rw [if_neg h, if_neg (by omega)]; grind
theorem cfq_mul_upq (c : Rat) (n : Nat) (B : List Rat) (k : Nat) : cfq (mulq (upq c n) B) k = if n ≤ k then c * cfq B (k - n) else 0 := by
  rw [cfq_mulq, cvq_upq]

/-- The quotient of the leading coefficients. -/
def dc (A B : List Rat) : Rat := cfq A (A.length - 1) / cfq B (B.length - 1)
/-- One step of the division. -/
def dn1 (A B : List Rat) : List Rat := trimq (zipq (fma (-1)) A (mulq (upq (dc A B) (A.length - B.length)) B))
theorem cfq_dn1 (A B : List Rat) (k : Nat) : cfq (dn1 A B) k = cfq A k - if A.length - B.length ≤ k then dc A B * cfq B (k - (A.length - B.length)) else 0 := by
  rw [dn1, cfq_trimq, cfq_zipq (fma_zero _), cfq_mul_upq]
  unfold fma
  grind
theorem tzq_low {q : List Rat} {n : Nat} (h : ∀ k, n ≤ k → cfq q k = 0) : tzq q ≤ n := by
  rcases Nat.lt_or_ge n (tzq q) with h1 | h1
  · exact absurd (h (tzq q - 1) (by omega)) (cfq_tzq_pred (by omega))
  · exact h1
theorem dn1_len {A B : List Rat} (h0 : B.length ≠ 0) (hb : cfq B (B.length - 1) ≠ 0) (hl : B.length ≤ A.length) : (dn1 A B).length < A.length := by
  have : (dn1 A B).length = tzq (dn1 A B) := by
    have := trimq_len (dn1 A B)
    rwa [show trimq (dn1 A B) = dn1 A B from trimq_trimq _] at this
  have h1 := tzq_low (q := dn1 A B) (n := A.length - 1) fun k hk => by
    rw [cfq_dn1, if_pos (by omega)]
    by_cases hk2 : k = A.length - 1
    · rw [hk2, show A.length - 1 - (A.length - B.length) = B.length - 1 by omega]
      have := Rat.div_mul_cancel (a := cfq A (A.length - 1)) hb
      unfold dc
      grind
    · rw [cfq_ge (q := A) (by omega), cfq_ge (q := B) (by omega)]; grind
  omega

/-- What is left after k steps. -/
def dit (A B : List Rat) : Nat → List Rat
  | 0 => A
  | k + 1 => dn1 (dit A B k) B
/-- .. and the quotient so far. -/
def dqu (A B : List Rat) : Nat → List Rat
  | 0 => []
  | k + 1 => zipq (fma 1) (dqu A B k) (upq (dc (dit A B k) B) ((dit A B k).length - B.length))
theorem dit_trim {A B : List Rat} (h : trimq A = A) : ∀ k, trimq (dit A B k) = dit A B k
  | 0 => h
  | k + 1 => trimq_trimq _
theorem dit_len {A B : List Rat} (h0 : B.length ≠ 0) (hb : cfq B (B.length - 1) ≠ 0) : ∀ k, (∀ j, j < k → B.length ≤ (dit A B j).length) → (dit A B k).length + k ≤ A.length
  | 0, _ => Nat.le_refl _
  | k + 1, h => by
    have h1 := dit_len h0 hb k fun j hj => h j (by omega)
    have h2 := dn1_len h0 hb (h k (by omega))
    rw [dit]; omega
theorem dit_end (A : List Rat) {B : List Rat} (h0 : B.length ≠ 0) (hb : cfq B (B.length - 1) ≠ 0) : ∃ n, (dit A B n).length < B.length ∧ (∀ j, j < n → B.length ≤ (dit A B j).length) ∧ n ≤ A.length := by
  have e : ∃ n, (dit A B n).length < B.length := by
    by_cases hn : ∃ n, (dit A B n).length < B.length
    · exact hn
    · have := dit_len (A := A) h0 hb (A.length + 1) fun j _ => Nat.le_of_not_lt fun hj => hn ⟨j, hj⟩
      omega
  obtain ⟨n, hn, hj⟩ := first_of e
  have hj' : ∀ j, j < n → B.length ≤ (dit A B j).length := fun j hjn => Nat.le_of_not_lt (hj j hjn)
  have := dit_len h0 hb n hj'
  exact ⟨n, hn, hj', by omega⟩
theorem cfq_dqu_succ (A B : List Rat) (k j : Nat) : cfq (dqu A B (k + 1)) j = cfq (dqu A B k) j + if j = (dit A B k).length - B.length then dc (dit A B k) B else 0 := by
  rw [dqu, cfq_zipq (fma_zero _), cfq_upq]
  unfold fma
  grind
/-- The quotient so far has no coefficient so low. -/
theorem dqu_low {A B : List Rat} (h0 : B.length ≠ 0) (hb : cfq B (B.length - 1) ≠ 0) : ∀ k, (∀ j, j < k → B.length ≤ (dit A B j).length) → ∀ j, j + B.length ≤ (dit A B k).length → cfq (dqu A B k) j = 0
  | 0, _, j, _ => cfq_nil j
  | k + 1, h, j, hj => by
    have h2 := dn1_len h0 hb (h k (by omega))
    rw [dit] at hj
    rw [cfq_dqu_succ, if_neg (by omega), dqu_low h0 hb k (fun i hi => h i (by omega)) j (by omega)]
    grind
theorem dqu_len {A B : List Rat} (h0 : B.length ≠ 0) (hb : cfq B (B.length - 1) ≠ 0) : ∀ k, (∀ j, j < k → B.length ≤ (dit A B j).length) → (dqu A B k).length ≤ A.length + 1 - B.length
  | 0, _ => Nat.zero_le _
  | k + 1, h => by
    have h1 := dqu_len h0 hb k fun j hj => h j (by omega)
    have h2 := dit_len h0 hb k fun j hj => h j (by omega)
    have h3 := h k (by omega)
    rw [dqu, zipq_len, upq_len]
    omega

/-! ### Sizes -/
theorem natAbs_cast (m : Int) : (m.natAbs : Rat) = if m < 0 then -(m : Rat) else (m : Rat) := by
  split
  · rw [← Rat.intCast_natCast, ← Rat.intCast_neg]; congr 1; omega
  · rw [← Rat.intCast_natCast]; congr 1; omega
theorem CD.divstep {D M N e : Nat} {x t b y : Rat} {m w : Int} (hD : D ≠ 0) (hm : m ≠ 0) (he : e ≠ 0) (hx : CD D M x) (ht : CD D M t) (hb : b * (e : Rat) = (m : Rat)) (hy : y * (e : Rat) = (w : Rat)) (zm : zl m ≤ N) (zw : zl w ≤ N) : CD (D * m.natAbs) (M + N + 1) (x - t / b * y) := by
  obtain ⟨z, e1, hz⟩ := hx
  obtain ⟨u, e2, hu⟩ := ht
  have h1 := natr_ne hD
  have h2 : (m : Rat) ≠ 0 := fun h => hm (Rat.intCast_eq_zero_iff.mp h)
  have h3 := natr_ne he
  have hb0 : b ≠ 0 := fun h => h2 (by rw [← hb, h, Rat.zero_mul])
  have z1 := zl_mul z m
  have z2 := zl_mul u w
  have e3 : x - t / b * y = ((z : Rat) * (m : Rat) - (u : Rat) * (w : Rat)) / ((D : Rat) * (m : Rat)) := by
    rw [e1, e2, ← hb, ← hy]
    grind
  by_cases hs : m < 0
  · refine ⟨u * w - z * m, ?_, ?_⟩
    · rw [e3, Rat.natCast_mul, natAbs_cast, if_pos hs, Rat.intCast_sub, Rat.intCast_mul, Rat.intCast_mul]
      grind
    · have := zl_add (u * w) (-(z * m))
      rw [zl_neg, ← Int.sub_eq_add_neg] at this
      omega
  · refine ⟨z * m - u * w, ?_, ?_⟩
    · rw [e3, Rat.natCast_mul, natAbs_cast, if_neg hs, Rat.intCast_sub, Rat.intCast_mul, Rat.intCast_mul]
    · have := zl_add (z * m) (-(u * w))
      rw [zl_neg, ← Int.sub_eq_add_neg] at this
      omega
theorem CD.cf {D n M : Nat} {q : List Rat} (h : CB D n M q) (k : Nat) : CD D M (cfq q k) := by
  by_cases hk : k < q.length
  · rw [cfq_lt hk]; exact h.c _ (List.getElem_mem hk)
  · rw [cfq_ge (by omega)]; exact CD.zero _ _
theorem dn1_cb {D n M N : Nat} {A B : List Rat} (hA : CB D n M A) (hB : PB n N (clr B)) (h0 : B.length ≠ 0) (hb : cfq B (B.length - 1) ≠ 0) (hl : B.length ≤ A.length) : ∃ E, CB E n (M + N + 1) (dn1 A B) := by
  have hm : cf (clr B) (B.length - 1) ≠ 0 := fun e => hb (clr_zero.mp e)
  have hcb : ∀ k, cfq B k * (cden B : Rat) = (cf (clr B) k : Rat) := fun k => (cf_clr B k).symm
  have hl2 := dn1_len h0 hb hl
  refine ⟨D * (cf (clr B) (B.length - 1)).natAbs, Nat.mul_ne_zero hA.d (by omega), ?_, by have := hA.l; omega, fun c hc => ?_⟩
  · have h1 := AL.wd_mul_len D (cf (clr B) (B.length - 1)).natAbs
    have h2 := hA.w
    have h3 := hB.cf (B.length - 1)
    unfold zl at h3
    omega
  · obtain ⟨i, hi, rfl⟩ := List.getElem_of_mem hc
    rw [← cfq_lt hi, cfq_dn1]
    split
    · exact CD.divstep hA.d hm (cden_ne B) (CD.cf hA _) (CD.cf hA _) (hcb _) (hcb _) (hB.cf _) (hB.cf _)
    · have := (CD.cf hA i).up hA.d (E := (cf (clr B) (B.length - 1)).natAbs) (V := N) (by omega) (hB.cf _)
      rw [show cfq A i - 0 = cfq A i by grind]
      exact this.mono (by omega)
theorem dit_cb {D n M N : Nat} {A B : List Rat} (hA : CB D n M A) (hB : PB n N (clr B)) (h0 : B.length ≠ 0) (hb : cfq B (B.length - 1) ≠ 0) : ∀ k, (∀ j, j < k → B.length ≤ (dit A B j).length) → ∃ E, CB E n (M + k * (N + 1)) (dit A B k)
  | 0, _ => ⟨D, by rw [Nat.zero_mul]; exact hA⟩
  | k + 1, h => by
    obtain ⟨E, hE⟩ := dit_cb hA hB h0 hb k fun j hj => h j (by omega)
    obtain ⟨F, hF'⟩ := dn1_cb hE hB h0 hb (h k (by omega))
    exact ⟨F, hF'.mono (Nat.le_refl _) (by rw [Nat.succ_mul]; omega)⟩
theorem qz_inv (q : Rat) : qz (1 / q) ≤ qz q := by
  by_cases h : q.num = 0
  · have : q = 0 := Rat.num_eq_zero.mp h
    rw [this, show (1 : Rat) / 0 = 0 by decide +kernel]
    exact Nat.le_refl _
  · have h1 : (q.num : Rat) ≠ 0 := fun e => h (Rat.intCast_eq_zero_iff.mp e)
    have h2 := natr_ne q.den_nz
    have e : (1 : Rat) / q = ((q.den : Int) : Rat) / (q.num : Rat) := by
      have h3 : q = (q.num : Rat) / (q.den : Rat) := by rw [← Rat.mkRat_eq_div]; exact (Rat.mkRat_self q).symm
      rw [Rat.intCast_natCast]
      conv => lhs; rw [h3]
      grind
    have hp := qz_parts q
    rw [e, ← mk_div h]
    refine qz_mk (by omega) ?_ ?_
    · split
      · rw [zl_neg, zl_nat]; exact hp.2
      · rw [zl_nat]; exact hp.2
    · exact hp.1
theorem qz_div (p q : Rat) : qz (p / q) ≤ qz p + qz q := by
  have h1 := qz_mul p (1 / q)
  have h2 := qz_inv q
  rw [show p * (1 / q) = p / q by rw [Rat.div_def, Rat.div_def, Rat.one_mul]] at h1
  omega
end Go.Proofs.YtcjnacpekbhhcaaGreat

namespace Go.Proofs.YtcjnacpekbhhcaaGreat
open Go Go.Proofs Go.AL
set_option linter.unusedSimpArgs false
set_option linter.unusedVariables false

theorem set_crat {X Y : List Rat} {i : Nat} {c : Rat} (hl : X.length = Y.length) (hc : cfq Y i = c) (ho : ∀ j, j < Y.length → j ≠ i → cfq Y j = cfq X j) : (X.map crat).set i (crat c) = Y.map crat := by
  rw [← List.map_set]
  congr 1
  refine List.ext_getElem (by rw [List.length_set, hl]) fun j h1 h2 => ?_
  rw [List.getElem_set]
  split
  · rename_i e; subst e; rw [← hc, cfq_lt h2]
  · rename_i e
    have := ho j h2 (fun h => e h.symm)
    rw [cfq_lt h2, cfq_lt (by rw [List.length_set] at h1; exact h1)] at this
    exact this.symm
/-- The first N coefficients. -/
def padq (N : Nat) (Q : List Rat) : List Rat := (List.range N).map (cfq Q)
theorem padq_len (N : Nat) (Q : List Rat) : (padq N Q).length = N := by simp [padq]
theorem cfq_padq {N : Nat} {Q : List Rat} {k : Nat} (h : k < N) : cfq (padq N Q) k = cfq Q k := by
  simp only [padq, cfq, List.getD, List.getElem?_map, List.getElem?_range h, Option.map_some, Option.getD_some]
theorem padq_all {N : Nat} {Q : List Rat} (h : Q.length ≤ N) (k : Nat) : cfq (padq N Q) k = cfq Q k := by
  by_cases hk : k < N
  · exact cfq_padq hk
  · rw [cfq_ge (by rw [padq_len]; omega), cfq_ge (by omega)]
theorem padq_nil (N : Nat) : padq N [] = List.replicate N 0 := by
  refine List.ext_getElem (by rw [padq_len, List.length_replicate]) fun j h1 h2 => ?_
  rw [← cfq_lt h1, cfq_padq (by rwa [padq_len] at h1), cfq_nil, List.getElem_replicate]
/-- i coefficients of the divisor's multiple are taken away. -/
def subp (A B : List Rat) (c : Rat) (s i : Nat) : List Rat := (List.range A.length).map fun k => if s ≤ k ∧ k < s + i then cfq A k - c * cfq B (k - s) else cfq A k
theorem subp_len (A B : List Rat) (c : Rat) (s i : Nat) : (subp A B c s i).length = A.length := by simp [subp]
theorem cfq_subp {A B : List Rat} {c : Rat} {s i : Nat} (h : s + i ≤ A.length) (k : Nat) : cfq (subp A B c s i) k = if s ≤ k ∧ k < s + i then cfq A k - c * cfq B (k - s) else cfq A k := by
  by_cases hk : k < A.length
  · simp only [subp, cfq, List.getD, List.getElem?_map, List.getElem?_range hk, Option.map_some, Option.getD_some]
  · rw [cfq_ge (by rw [subp_len]; omega), if_neg (by omega), cfq_ge (by omega)]
theorem subp_zero (A B : List Rat) (c : Rat) {s : Nat} (h : s ≤ A.length) : subp A B c s 0 = A := by
  refine List.ext_getElem (subp_len ..) fun j h1 h2 => ?_
  rw [← cfq_lt h1, cfq_subp (by omega), if_neg (by omega), cfq_lt h2]
theorem subp_set {A B : List Rat} {c : Rat} {s i : Nat} (h : s + (i + 1) ≤ A.length) : ((subp A B c s i).map crat).set (s + i) (crat (cfq A (s + i) - c * cfq B i)) = (subp A B c s (i + 1)).map crat := by
  refine set_crat (by rw [subp_len, subp_len]) ?_ fun j hj hne => ?_
  · rw [cfq_subp h, if_pos ⟨by omega, by omega⟩, Nat.add_sub_cancel_left]
  · rw [cfq_subp h, cfq_subp (by omega)]
    by_cases h1 : s ≤ j ∧ j < s + i
    · rw [if_pos h1, if_pos ⟨h1.1, by omega⟩]
    · rw [if_neg h1, if_neg (by omega)]
theorem subp_end {A B : List Rat} (h : B.length ≤ A.length) : cqs (subp A B (dc A B) (A.length - B.length) B.length) = (dn1 A B).map crat := by
  have e : trimq (subp A B (dc A B) (A.length - B.length) B.length) = dn1 A B := by
    have h1 := trimq_trimq (zipq (fma (-1)) A (mulq (upq (dc A B) (A.length - B.length)) B))
    rw [← show trimq (dn1 A B) = dn1 A B from h1]
    refine trimq_ext fun k => ?_
    rw [cfq_subp (by omega), cfq_dn1]
    by_cases h1 : A.length - B.length ≤ k
    · by_cases h2 : k < A.length - B.length + B.length
      · rw [if_pos ⟨h1, h2⟩, if_pos h1]
      · rw [if_neg (by omega), if_pos h1, cfq_ge (q := B) (by omega)]; grind
    · rw [if_neg (by omega), if_neg h1]; grind
  rw [cqs, e]
theorem dqu_set {A B : List Rat} {N k : Nat} (hs : (dit A B k).length - B.length < N) (h0 : cfq (dqu A B k) ((dit A B k).length - B.length) = 0) : ((padq N (dqu A B k)).map crat).set ((dit A B k).length - B.length) (crat (dc (dit A B k) B)) = (padq N (dqu A B (k + 1))).map crat := by
  refine set_crat (by rw [padq_len, padq_len]) ?_ fun j hj hne => ?_
  · rw [cfq_padq hs, cfq_dqu_succ, if_pos rfl, h0]; grind
  · rw [padq_len] at hj
    rw [cfq_padq hj, cfq_padq hj, cfq_dqu_succ, if_neg hne]; grind

/-- What a division of A by B that ends after n steps is known by. -/
structure DV (A B : List Rat) (n K : Nat) : Prop where
  la : A.length ≤ 2 ^ 28
  lb : B.length ≤ 2 ^ 28
  h0 : B.length ≠ 0
  hb : cfq B (B.length - 1) ≠ 0
  ta : trimq A = A
  tb : trimq B = B
  en : (dit A B n).length < B.length
  hj : ∀ j, j < n → B.length ≤ (dit A B j).length
  za : ∀ k, k ≤ n → ∀ i, qz (cfq (dit A B k) i) ≤ K
  zb : ∀ i, qz (cfq B i) ≤ K
  k1 : 1 ≤ K
  k2 : K ≤ 2 ^ 32

theorem dqu_size {A B : List Rat} {K n : Nat} (h0 : B.length ≠ 0) (hb : cfq B (B.length - 1) ≠ 0) (za : ∀ k, k ≤ n → ∀ i, qz (cfq (dit A B k) i) ≤ K) (zb : ∀ i, qz (cfq B i) ≤ K) (k1 : 1 ≤ K) : ∀ k, k ≤ n → (∀ j, j < k → B.length ≤ (dit A B j).length) → ∀ j, qz (cfq (dqu A B k) j) ≤ K + K
  | 0, _, _, j => by rw [dqu, cfq_nil, qz_zero]; omega
  | k + 1, hk, h, j => by
    have ih := dqu_size h0 hb za zb k1 k (by omega) (fun i hi => h i (by omega)) j
    rw [cfq_dqu_succ]
    by_cases hj : j = (dit A B k).length - B.length
    · have hl := h k (by omega)
      rw [if_pos hj, dqu_low h0 hb k (fun i hi => h i (by omega)) j (by omega), Rat.zero_add]
      have h1 := qz_div (cfq (dit A B k) ((dit A B k).length - 1)) (cfq B (B.length - 1))
      have h2 := za k (by omega) ((dit A B k).length - 1)
      have h3 := zb (B.length - 1)
      unfold dc
      omega
    · rw [if_neg hj, Rat.add_zero]
      exact ih

def hrows : HC → Nat
  | .blk _ _ _ _ rows => rows.length
  | .none => 0
theorem hrows_blk (fz : Bool) (st e sz : Nat) (rows : List (List IV)) : hrows (.blk fz st e sz rows) = rows.length := rfl

set_option maxHeartbeats 1000000 in
theorem qdiv_ok (p q : List RQ) (hp : GQ (2 ^ 30) (2 ^ 32) p) (hq : GQ (2 ^ 30) (2 ^ 32) q) (n K : Nat) (v : DV (trimq (qvs p)) (trimq (qvs q)) n K) : AC Tryz.prog 23 [cqw p, cqw q] none [cqp (dqu (trimq (qvs p)) (trimq (qvs q)) n), cqw ((dit (trimq (qvs p)) (trimq (qvs q)) n).map crat), ci 0] := by
  have m := qboth_own p q (hp.mono (by omega) (by omega)) (hq.mono (by omega) (by omega))
  refine AC.by_walk (rs := [.tmp 4, .tmp 5, .tmp 6]) ords Tryz.func23 (by rfl) (by rfl) (by rfl) (by rfl) (by rfl) ?_
  simp (disch := omega) only [wk, tis, Int.reduceNe, Int.reduceEq, Int.reduceLT, Int.reduceLE, Int.reduceAdd, Int.reduceSub, Int.reduceNeg, Int.reduceMul, Int.reduceToNat, Nat.reduceSub, Nat.reduceMul, Nat.reduceLeDiff, Nat.reduceAdd, Nat.reduceLT, Nat.reduceEqDiff, reduceCtorEq, ↓reduceIte, rqs]
  refine call_by (m) (by rfl) (by simp) ?_
  simp (disch := omega) only [wk, tis, Int.reduceNe, Int.reduceEq, Int.reduceLT, Int.reduceLE, Int.reduceAdd, Int.reduceSub, Int.reduceNeg, Int.reduceMul, Int.reduceToNat, Nat.reduceSub, Nat.reduceMul, Nat.reduceLeDiff, Nat.reduceAdd, Nat.reduceLT, Nat.reduceEqDiff, reduceCtorEq, ↓reduceIte, rqs]
  unfold cqs
  generalize trimq (qvs p) = A at *
  generalize trimq (qvs q) = B at *
  obtain ⟨la, lb, h0, hb, ta, tb, en, hj, za, zb, k1, k2⟩ := v
  have hqa : (A.map crat).length = A.length := List.length_map _
  have hqb : (B.map crat).length = B.length := List.length_map _
  have hb0 : ¬ (B.length : Int) = 0 := by omega
  obtain ⟨N, hN⟩ : ∃ N, N = A.length + 1 - B.length := ⟨_, rfl⟩
  have hNI : max ((A.length : Int) - (B.length : Int) + 1) 0 = (N : Int) := by omega
  simp (disch := omega) only [wk, tis, Int.reduceNe, Int.reduceEq, Int.reduceLT, Int.reduceLE, Int.reduceAdd, Int.reduceSub, Int.reduceNeg, Int.reduceMul, Int.reduceToNat, Nat.reduceSub, Nat.reduceMul, Nat.reduceLeDiff, Nat.reduceAdd, Nat.reduceLT, Nat.reduceEqDiff, reduceCtorEq, ↓reduceIte, rqs, hqa, hqb, hb0, hNI]
  refine aloop_nil 10 10 31 3 (by simp (disch := omega) only [wk, tis, Int.reduceNe, Int.reduceEq, Int.reduceLT, Int.reduceLE, Int.reduceAdd, Int.reduceSub, Int.reduceNeg, Int.reduceMul, Int.reduceToNat, Nat.reduceSub, Nat.reduceMul, Nat.reduceLeDiff, Nat.reduceAdd, Nat.reduceLT, Nat.reduceEqDiff, reduceCtorEq, ↓reduceIte, rqs]) (fun f H => ∃ (i sr st : Nat), i ≤ N ∧ f 40 = .iv (.int .i64 i) ∧ f 39 = .iv (.int .i64 N) ∧ f 7 = .hs 21 sr ∧ f 8 = .iv (.sl (rats (B.map crat))) ∧ H 21 = .blk false sr 31 3 (rats (A.map crat)) ∧ f 10 = .hs 10 st ∧ H 10 = .blk false st 31 3 (rats ((List.replicate i (0 : Rat)).map crat))) (fun f H => (N - intAt f 40).toNat) ?_ ?_
  · refine ⟨0, 1, 1, by omega, ?_⟩
    simp (disch := omega) only [wk, tis, Int.reduceNe, Int.reduceEq, Int.reduceLT, Int.reduceLE, Int.reduceAdd, Int.reduceSub, Int.reduceNeg, Int.reduceMul, Int.reduceToNat, Nat.reduceSub, Nat.reduceMul, Nat.reduceLeDiff, Nat.reduceAdd, Nat.reduceLT, Nat.reduceEqDiff, reduceCtorEq, ↓reduceIte, rqs, ghostF, ghostH, hqa, hqb, hNI, List.replicate_zero, List.map_nil]
  rintro f H ⟨i, sr, st, hi, hF⟩
  rw [intAt_of hF.1]
  simp (disch := omega) only [wk, tis, Int.reduceNe, Int.reduceEq, Int.reduceLT, Int.reduceLE, Int.reduceAdd, Int.reduceSub, Int.reduceNeg, Int.reduceMul, Int.reduceToNat, Nat.reduceSub, Nat.reduceMul, Nat.reduceLeDiff, Nat.reduceAdd, Nat.reduceLT, Nat.reduceEqDiff, reduceCtorEq, ↓reduceIte, rqs, hF]
  refine if_by (fun hlt => ?_) (fun hlt => ?_)
  · have hrq : ((List.replicate i (0 : Rat)).map crat).length = i := by simp
    simp (disch := omega) only [wk, tis, Int.reduceNe, Int.reduceEq, Int.reduceLT, Int.reduceLE, Int.reduceAdd, Int.reduceSub, Int.reduceNeg, Int.reduceMul, Int.reduceToNat, Nat.reduceSub, Nat.reduceMul, Nat.reduceLeDiff, Nat.reduceAdd, Nat.reduceLT, Nat.reduceEqDiff, reduceCtorEq, ↓reduceIte, rqs, hF, hrq]
    refine call_by (qnone_ok) (by first | rfl | (simp only [tocvs, tocv, hF, hrq]; rfl) | (simp only [tocvs, tocv, toboxes, tobox, updH_at, Nat.reduceEqDiff, ↓reduceIte, hF, hrq]; rfl)) (by simp) ?_
    simp (disch := omega) only [wk, tis, Int.reduceNe, Int.reduceEq, Int.reduceLT, Int.reduceLE, Int.reduceAdd, Int.reduceSub, Int.reduceNeg, Int.reduceMul, Int.reduceToNat, Nat.reduceSub, Nat.reduceMul, Nat.reduceLeDiff, Nat.reduceAdd, Nat.reduceLT, Nat.reduceEqDiff, reduceCtorEq, ↓reduceIte, rqs, hF, hrq]
    refine ⟨⟨i + 1, sr, st + 1, by omega, ?_⟩, by omega⟩
    rw [List.replicate_succ', List.map_append]
    (repeat' apply And.intro) <;> first | rfl | omega
  obtain rfl : i = N := by omega
  rw [← padq_nil] at hF
  simp (disch := omega) only [wk, tis, Int.reduceNe, Int.reduceEq, Int.reduceLT, Int.reduceLE, Int.reduceAdd, Int.reduceSub, Int.reduceNeg, Int.reduceMul, Int.reduceToNat, Nat.reduceSub, Nat.reduceMul, Nat.reduceLeDiff, Nat.reduceAdd, Nat.reduceLT, Nat.reduceEqDiff, reduceCtorEq, ↓reduceIte, rqs, hF]
  refine aloop_by (fun f H => ∃ k sr sq : Nat, k ≤ n ∧ f 7 = .hs 21 sr ∧ f 8 = .iv (.sl (rats (B.map crat))) ∧ f 10 = .hs 10 sq ∧ H 21 = .blk false sr 31 3 (rats ((dit A B k).map crat)) ∧ H 10 = .blk false sq 31 3 (rats ((padq i (dqu A B k)).map crat))) (fun f H => hrows (H 21)) ?_ ?_
  · exact ⟨0, sr, st, Nat.zero_le _, by simp (disch := omega) only [wk, tis, Int.reduceNe, Int.reduceEq, Int.reduceLT, Int.reduceLE, Int.reduceAdd, Int.reduceSub, Int.reduceNeg, Int.reduceMul, Int.reduceToNat, Nat.reduceSub, Nat.reduceMul, Nat.reduceLeDiff, Nat.reduceAdd, Nat.reduceLT, Nat.reduceEqDiff, reduceCtorEq, ↓reduceIte, rqs, hF], by simp (disch := omega) only [wk, tis, Int.reduceNe, Int.reduceEq, Int.reduceLT, Int.reduceLE, Int.reduceAdd, Int.reduceSub, Int.reduceNeg, Int.reduceMul, Int.reduceToNat, Nat.reduceSub, Nat.reduceMul, Nat.reduceLeDiff, Nat.reduceAdd, Nat.reduceLT, Nat.reduceEqDiff, reduceCtorEq, ↓reduceIte, rqs, hF], by simp (disch := omega) only [wk, tis, Int.reduceNe, Int.reduceEq, Int.reduceLT, Int.reduceLE, Int.reduceAdd, Int.reduceSub, Int.reduceNeg, Int.reduceMul, Int.reduceToNat, Nat.reduceSub, Nat.reduceMul, Nat.reduceLeDiff, Nat.reduceAdd, Nat.reduceLT, Nat.reduceEqDiff, reduceCtorEq, ↓reduceIte, rqs, hF], hF.2.2.2.2.1, hF.2.2.2.2.2.2⟩
  rintro f H ⟨k, sr, sq, hk, h7, h8, h10, hH1, hH2⟩
  have hql : ((dit A B k).map crat).length = (dit A B k).length := List.length_map _
  rw [show hrows (H 21) = (dit A B k).length by rw [hH1, hrows_blk, rats_length, hql]]
  by_cases hge : B.length ≤ (dit A B k).length
  · have hkn : k < n := Nat.lt_of_le_of_ne hk fun e => by rw [e] at hge; omega
    have hl1 := dit_len h0 hb k fun j hjk => hj j (by omega)
    have hlow := dqu_low h0 hb k (fun j hjk => hj j (by omega)) ((dit A B k).length - B.length) (by omega)
    have hset := dqu_set (N := i) (k := k) (A := A) (B := B) (by omega) hlow
    have hend := subp_end hge
    have hdn := dn1_len h0 hb hge
    have zx := za k hk
    have zx1 := za (k + 1) hkn
    rw [show dit A B (k + 1) = dn1 (dit A B k) B from rfl] at zx1
    have hdit : dit A B (k + 1) = dn1 (dit A B k) B := rfl
    generalize hQ' : dqu A B (k + 1) = Q' at *
    generalize hXX : dit A B k = X at *
    generalize dqu A B k = Q at *
    obtain ⟨s, hs⟩ : ∃ s, s = X.length - B.length := ⟨_, rfl⟩
    rw [← hs] at hset hend
    have zc := qz_div (cfq X (X.length - 1)) (cfq B (B.length - 1))
    have zc1 := zx (X.length - 1)
    have zc2 := zb (B.length - 1)
    have mq := qquo_ok (crat (cfq X (X.length - 1))) (crat (cfq B (B.length - 1))) (szq_crat (by omega)) (szq_crat (by omega)) (nv_crat0 _) (nv_crat0 _) (by rw [iv_crat]; exact fun e => hb (Rat.num_eq_zero.mp e))
    rw [qv_crat, qv_crat, show cfq X (X.length - 1) / cfq B (B.length - 1) = dc X B from rfl] at mq
    rw [show cfq X (X.length - 1) / cfq B (B.length - 1) = dc X B from rfl] at zc
    have hge' : (B.length : Int) ≤ (X.length : Int) := by omega
    have e1 : (X.length : Int) - 1 = ((X.length - 1 : Nat) : Int) := by omega
    have e2 : (B.length : Int) - 1 = ((B.length - 1 : Nat) : Int) := by omega
    have e3 : (X.length : Int) - (B.length : Int) = (s : Int) := by omega
    have g1 := cratq_get (q := X) (i := X.length - 1) (by omega)
    have g2 := cratq_get (q := B) (i := B.length - 1) (by omega)
    have hs0 := subp_zero X B (dc X B) (s := s) (by omega)
    simp (disch := omega) only [wk, tis, Int.reduceNe, Int.reduceEq, Int.reduceLT, Int.reduceLE, Int.reduceAdd, Int.reduceSub, Int.reduceNeg, Int.reduceMul, Int.reduceToNat, Nat.reduceSub, Nat.reduceMul, Nat.reduceLeDiff, Nat.reduceAdd, Nat.reduceLT, Nat.reduceEqDiff, reduceCtorEq, ↓reduceIte, rqs, h7, h8, h10, hH1, hH2, hql, hqb, hge', e1, e2, e3, g1, g2]
    refine ⟨tmps_by (by kernel_rfl), ?_⟩
    refine call_by (mq) (by first | rfl | (simp only [tocvs, tocv, h7, h8, h10, hH1, hH2, hql, hqb, hge', e1, e2, e3, g1, g2]; rfl) | (simp only [tocvs, tocv, toboxes, tobox, updH_at, Nat.reduceEqDiff, ↓reduceIte, h7, h8, h10, hH1, hH2, hql, hqb, hge', e1, e2, e3, g1, g2]; rfl)) (by simp) ?_
    simp (disch := omega) only [wk, tis, Int.reduceNe, Int.reduceEq, Int.reduceLT, Int.reduceLE, Int.reduceAdd, Int.reduceSub, Int.reduceNeg, Int.reduceMul, Int.reduceToNat, Nat.reduceSub, Nat.reduceMul, Nat.reduceLeDiff, Nat.reduceAdd, Nat.reduceLT, Nat.reduceEqDiff, reduceCtorEq, ↓reduceIte, rqs, h7, h8, h10, hH1, hH2, hql, hqb, hge', e1, e2, e3, g1, g2]
    first | exact log_by (by kernel_rfl) | refine ⟨log_by (by kernel_rfl), ?_⟩
    refine aloop_by (fun f H => ∃ (j sc : Nat), j ≤ B.length ∧ f 75 = .iv (.int .i64 j) ∧ f 74 = .iv (.int .i64 B.length) ∧ f 73 = .iv (.sl (rats (B.map crat))) ∧ f 8 = .iv (.sl (rats (B.map crat))) ∧ f 7 = .hs 21 sr ∧ f 10 = .hs 10 sq ∧ f 11 = .iv (.int .i64 s) ∧ f 12 = .hp 12 sc 0 0 ∧ H 12 = .blk false sc 31 3 [qrow (crat (dc X B))] ∧ H 21 = .blk false sr 31 3 (rats ((subp X B (dc X B) s j).map crat)) ∧ H 10 = .blk false sq 31 3 (rats ((padq i Q).map crat))) (fun f H => (B.length - intAt f 75).toNat) ?_ ?_
    · refine ⟨0, (H 12).stamp + 1, by omega, ?_⟩
      simp (disch := omega) only [wk, tis, Int.reduceNe, Int.reduceEq, Int.reduceLT, Int.reduceLE, Int.reduceAdd, Int.reduceSub, Int.reduceNeg, Int.reduceMul, Int.reduceToNat, Nat.reduceSub, Nat.reduceMul, Nat.reduceLeDiff, Nat.reduceAdd, Nat.reduceLT, Nat.reduceEqDiff, reduceCtorEq, ↓reduceIte, rqs, h7, h8, h10, hH1, hH2, hql, hqb, hs0]
    rintro f H ⟨j, sc, hjl, hF⟩
    rw [intAt_of hF.1]
    simp (disch := omega) only [wk, tis, Int.reduceNe, Int.reduceEq, Int.reduceLT, Int.reduceLE, Int.reduceAdd, Int.reduceSub, Int.reduceNeg, Int.reduceMul, Int.reduceToNat, Nat.reduceSub, Nat.reduceMul, Nat.reduceLeDiff, Nat.reduceAdd, Nat.reduceLT, Nat.reduceEqDiff, reduceCtorEq, ↓reduceIte, rqs, hF]
    refine if_by (fun hlt => ?_) (fun hlt => ?_)
    · have hlt' : j < B.length := by omega
      have hsl : ((subp X B (dc X B) s j).map crat).length = X.length := by rw [List.length_map, subp_len]
      have e4 : (s : Int) + (j : Int) = ((s + j : Nat) : Int) := by omega
      have g3 := cratq_get hlt'
      have g4 := cratq_get (q := subp X B (dc X B) s j) (i := s + j) (by rw [subp_len]; omega)
      rw [cfq_subp (by omega), if_neg (by omega)] at g4
      have zj := zb j
      have zs := zx (s + j)
      have zm := qz_mul (dc X B) (cfq B j)
      have mm := qmul_ok (crat (dc X B)) (crat (cfq B j)) (szq_crat (by omega)) (szq_crat (by omega)) (nv_crat0 _) (nv_crat0 _)
      have ms := qsub_ok (crat (cfq X (s + j))) (crat (dc X B * cfq B j)) (szq_crat (by omega)) (szq_crat (by omega)) (nv_crat0 _) (nv_crat0 _)
      rw [qv_crat, qv_crat] at mm ms
      have hst := subp_set (A := X) (B := B) (c := dc X B) (s := s) (i := j) (by omega)
      simp (disch := omega) only [wk, tis, Int.reduceNe, Int.reduceEq, Int.reduceLT, Int.reduceLE, Int.reduceAdd, Int.reduceSub, Int.reduceNeg, Int.reduceMul, Int.reduceToNat, Nat.reduceSub, Nat.reduceMul, Nat.reduceLeDiff, Nat.reduceAdd, Nat.reduceLT, Nat.reduceEqDiff, reduceCtorEq, ↓reduceIte, rqs, hF, hqb, hsl, e4, g3, g4]
      refine call_by (mm) (by first | rfl | (simp only [tocvs, tocv, hF, hqb, hsl, e4, g3, g4]; rfl) | (simp only [tocvs, tocv, toboxes, tobox, updH_at, Nat.reduceEqDiff, ↓reduceIte, hF, hqb, hsl, e4, g3, g4]; rfl)) (by simp) ?_
      simp (disch := omega) only [wk, tis, Int.reduceNe, Int.reduceEq, Int.reduceLT, Int.reduceLE, Int.reduceAdd, Int.reduceSub, Int.reduceNeg, Int.reduceMul, Int.reduceToNat, Nat.reduceSub, Nat.reduceMul, Nat.reduceLeDiff, Nat.reduceAdd, Nat.reduceLT, Nat.reduceEqDiff, reduceCtorEq, ↓reduceIte, rqs, hF, hqb, hsl, e4, g3, g4]
      refine ⟨tmps_by (by kernel_rfl), ?_⟩
      refine call_by (ms) (by first | rfl | (simp only [tocvs, tocv, hF, hqb, hsl, e4, g3, g4]; rfl) | (simp only [tocvs, tocv, toboxes, tobox, updH_at, Nat.reduceEqDiff, ↓reduceIte, hF, hqb, hsl, e4, g3, g4]; rfl)) (by simp) ?_
      simp (disch := omega) only [wk, tis, Int.reduceNe, Int.reduceEq, Int.reduceLT, Int.reduceLE, Int.reduceAdd, Int.reduceSub, Int.reduceNeg, Int.reduceMul, Int.reduceToNat, Nat.reduceSub, Nat.reduceMul, Nat.reduceLeDiff, Nat.reduceAdd, Nat.reduceLT, Nat.reduceEqDiff, reduceCtorEq, ↓reduceIte, rqs, hF, hqb, hsl, e4, g3, g4]
      first | exact log_by (by kernel_rfl) | refine ⟨log_by (by kernel_rfl), ?_⟩
      simp (disch := omega) only [wk, tis, Int.reduceNe, Int.reduceEq, Int.reduceLT, Int.reduceLE, Int.reduceAdd, Int.reduceSub, Int.reduceNeg, Int.reduceMul, Int.reduceToNat, Nat.reduceSub, Nat.reduceMul, Nat.reduceLeDiff, Nat.reduceAdd, Nat.reduceLT, Nat.reduceEqDiff, reduceCtorEq, ↓reduceIte, rqs, hF, hst]
      refine ⟨⟨j + 1, sc, by omega, ?_⟩, by omega⟩
      (repeat' apply And.intro) <;> first | rfl | omega
    · obtain rfl : j = B.length := by omega
      have hpl : ((padq i Q).map crat).length = i := by rw [List.length_map, padq_len]
      have hsq : QB (2 ^ 40) (2 ^ 38) (subp X B (dc X B) s B.length) := .of (by rw [subp_len]; omega) fun a => by
        rw [cfq_subp (by omega)]
        have z1 := zx a
        have z2 := zb (a - s)
        have z3 := qz_mul (dc X B) (cfq B (a - s))
        have z4 := qz_sub (cfq X a) (dc X B * cfq B (a - s))
        split <;> omega
      have tt := qtrim_t _ hsq
      rw [hend] at tt
      have hql2 : ((dn1 X B).map crat).length = (dn1 X B).length := List.length_map _
      simp (disch := omega) only [wk, tis, Int.reduceNe, Int.reduceEq, Int.reduceLT, Int.reduceLE, Int.reduceAdd, Int.reduceSub, Int.reduceNeg, Int.reduceMul, Int.reduceToNat, Nat.reduceSub, Nat.reduceMul, Nat.reduceLeDiff, Nat.reduceAdd, Nat.reduceLT, Nat.reduceEqDiff, reduceCtorEq, ↓reduceIte, rqs, hF, hpl, hset]
      refine callt_by (tt) (by first | rfl | (simp (disch := omega) only [wk, tis, Int.reduceNe, Int.reduceEq, Int.reduceLT, Int.reduceLE, Int.reduceAdd, Int.reduceSub, Int.reduceNeg, Int.reduceMul, Int.reduceToNat, Nat.reduceSub, Nat.reduceMul, Nat.reduceLeDiff, Nat.reduceAdd, Nat.reduceLT, Nat.reduceEqDiff, reduceCtorEq, ↓reduceIte, rqs, hF, hpl, hset]; done)) (by first | rfl | (simp (disch := omega) only [wk, tis, Int.reduceNe, Int.reduceEq, Int.reduceLT, Int.reduceLE, Int.reduceAdd, Int.reduceSub, Int.reduceNeg, Int.reduceMul, Int.reduceToNat, Nat.reduceSub, Nat.reduceMul, Nat.reduceLeDiff, Nat.reduceAdd, Nat.reduceLT, Nat.reduceEqDiff, reduceCtorEq, ↓reduceIte, rqs, hF, hpl, hset]; done)) (by first | rfl | (simp only [tocvs, tocv, List.set_cons_zero, List.set_cons_succ, hF, hpl, hset]; rfl)) (by simp) (by simp) ?_
      simp (disch := omega) only [wk, tis, Int.reduceNe, Int.reduceEq, Int.reduceLT, Int.reduceLE, Int.reduceAdd, Int.reduceSub, Int.reduceNeg, Int.reduceMul, Int.reduceToNat, Nat.reduceSub, Nat.reduceMul, Nat.reduceLeDiff, Nat.reduceAdd, Nat.reduceLT, Nat.reduceEqDiff, reduceCtorEq, ↓reduceIte, rqs, hF, hpl, hset]
      simp (disch := omega) only [wk, tis, Int.reduceNe, Int.reduceEq, Int.reduceLT, Int.reduceLE, Int.reduceAdd, Int.reduceSub, Int.reduceNeg, Int.reduceMul, Int.reduceToNat, Nat.reduceSub, Nat.reduceMul, Nat.reduceLeDiff, Nat.reduceAdd, Nat.reduceLT, Nat.reduceEqDiff, reduceCtorEq, ↓reduceIte, rqs, hrows_blk, rats_length, hql2]
      refine ⟨⟨k + 1, sr + 1, sq, hkn, ?_⟩, hdn⟩
      rw [hdit, hQ']
      (repeat' apply And.intro) <;> first | rfl | omega
  · obtain rfl : k = n := by
      rcases Nat.lt_or_ge k n with h | h
      · exact absurd (hj k h) hge
      · omega
    have hge' : ¬ (B.length : Int) ≤ ((dit A B k).length : Int) := by omega
    have dl := dqu_len h0 hb k hj
    have hpl : ((padq i (dqu A B k)).map crat).length = i := by rw [List.length_map, padq_len]
    have zd := dqu_size h0 hb za zb k1 k (Nat.le_refl _) hj
    have tq := qtrim_own (padq i (dqu A B k)) (.of (by rw [padq_len]; omega) fun a => by
      rw [padq_all (by omega)]
      have := zd a
      omega)
    rw [show cqp (padq i (dqu A B k)) = cqp (dqu A B k) from congrArg cqw (cqs_ext (padq_all (by omega)))] at tq
    simp (disch := omega) only [wk, tis, Int.reduceNe, Int.reduceEq, Int.reduceLT, Int.reduceLE, Int.reduceAdd, Int.reduceSub, Int.reduceNeg, Int.reduceMul, Int.reduceToNat, Nat.reduceSub, Nat.reduceMul, Nat.reduceLeDiff, Nat.reduceAdd, Nat.reduceLT, Nat.reduceEqDiff, reduceCtorEq, ↓reduceIte, rqs, h7, h8, h10, hH1, hH2, hql, hqb, hge']
    refine call_by (tq) (by first | rfl | (simp only [tocvs, tocv, h7, h8, h10, hH1, hH2, hql, hqb, hge', hpl]; rfl) | (simp only [tocvs, tocv, toboxes, tobox, updH_at, Nat.reduceEqDiff, ↓reduceIte, h7, h8, h10, hH1, hH2, hql, hqb, hge', hpl]; rfl)) (by simp) ?_
    simp (disch := omega) only [wk, tis, Int.reduceNe, Int.reduceEq, Int.reduceLT, Int.reduceLE, Int.reduceAdd, Int.reduceSub, Int.reduceNeg, Int.reduceMul, Int.reduceToNat, Nat.reduceSub, Nat.reduceMul, Nat.reduceLeDiff, Nat.reduceAdd, Nat.reduceLT, Nat.reduceEqDiff, reduceCtorEq, ↓reduceIte, rqs, h7, h8, h10, hH1, hH2, hql, hqb, hge', hpl]
    try rfl
end Go.Proofs.YtcjnacpekbhhcaaGreat

namespace Go.Proofs.YtcjnacpekbhhcaaGreat
open Go Go.Proofs Go.AL
set_option linter.unusedSimpArgs false
set_option linter.unusedVariables false

theorem qdiv_bad (p q : List RQ) (hp : BQ (2 ^ 40) (2 ^ 38) p) (hq : BQ (2 ^ 40) (2 ^ 38) q) (h : gd p = false ∨ gd q = false) : AC Tryz.prog 23 [cqw p, cqw q] none [cqw [], cqw [], ci 1] := by
  have m := qboth_bad p q hp hq h
  refine AC.by_walk (rs := [.tmp 4, .tmp 5, .tmp 6]) ords Tryz.func23 (by rfl) (by rfl) (by rfl) (by rfl) (by rfl) ?_
  simp (disch := omega) only [wk, tis, Int.reduceNe, Int.reduceEq, Int.reduceLT, Int.reduceLE, Int.reduceAdd, Int.reduceSub, Int.reduceNeg, Int.reduceMul, Int.reduceToNat, Nat.reduceSub, Nat.reduceMul, Nat.reduceLeDiff, Nat.reduceAdd, Nat.reduceLT, Nat.reduceEqDiff, reduceCtorEq, ↓reduceIte, rqs]
  refine call_by (m) (by rfl) (by simp) ?_
  simp (disch := omega) only [wk, tis, Int.reduceNe, Int.reduceEq, Int.reduceLT, Int.reduceLE, Int.reduceAdd, Int.reduceSub, Int.reduceNeg, Int.reduceMul, Int.reduceToNat, Nat.reduceSub, Nat.reduceMul, Nat.reduceLeDiff, Nat.reduceAdd, Nat.reduceLT, Nat.reduceEqDiff, reduceCtorEq, ↓reduceIte, rqs]
  try rfl
theorem qdiv_zero (p q : List RQ) (hp : GQ (2 ^ 40) (2 ^ 38) p) (hq : GQ (2 ^ 40) (2 ^ 38) q) (h : trimq (qvs q) = []) : AC Tryz.prog 23 [cqw p, cqw q] none [cqw [], cqw [], ci 1] := by
  have m := qboth_ok p q hp hq
  rw [show cqp (qvs q) = cqw [] from congrArg cqw (by rw [cqs, h]; rfl)] at m
  refine AC.by_walk (rs := [.tmp 4, .tmp 5, .tmp 6]) ords Tryz.func23 (by rfl) (by rfl) (by rfl) (by rfl) (by rfl) ?_
  simp (disch := omega) only [wk, tis, Int.reduceNe, Int.reduceEq, Int.reduceLT, Int.reduceLE, Int.reduceAdd, Int.reduceSub, Int.reduceNeg, Int.reduceMul, Int.reduceToNat, Nat.reduceSub, Nat.reduceMul, Nat.reduceLeDiff, Nat.reduceAdd, Nat.reduceLT, Nat.reduceEqDiff, reduceCtorEq, ↓reduceIte, rqs]
  refine call_by (m) (by rfl) (by simp) ?_
  simp (disch := omega) only [wk, tis, Int.reduceNe, Int.reduceEq, Int.reduceLT, Int.reduceLE, Int.reduceAdd, Int.reduceSub, Int.reduceNeg, Int.reduceMul, Int.reduceToNat, Nat.reduceSub, Nat.reduceMul, Nat.reduceLeDiff, Nat.reduceAdd, Nat.reduceLT, Nat.reduceEqDiff, reduceCtorEq, ↓reduceIte, rqs]
  try rfl

end Go.Proofs.YtcjnacpekbhhcaaGreat

namespace Go.Proofs.YtcjnacpekbhhcaaGreat
open Go Go.Proofs Go.AL
set_option linter.unusedSimpArgs false
set_option linter.unusedVariables false

end Go.Proofs.YtcjnacpekbhhcaaGreat

namespace Go.Proofs.YtcjnacpekbhhcaaGreat
open Go Go.Proofs Go.AL
set_option linter.unusedSimpArgs false
set_option linter.unusedVariables false

/-! ### Powers with exponent 1 -/
theorem mone_ok : AC Tryz.prog 172 [] none [cl [1]] := by
  refine AC.by_walk (rs := [.tmp 0]) ords Tryz.func172 (by rfl) (by rfl) (by rfl) (by rfl) (by rfl) ?_
  simp (disch := omega) only [wk, tis, Int.reduceNe, Int.reduceEq, Int.reduceLT, Int.reduceLE, Int.reduceAdd, Int.reduceSub, Int.reduceNeg, Int.reduceMul, Int.reduceToNat, Nat.reduceSub, Nat.reduceMul, Nat.reduceLeDiff, Nat.reduceAdd, Nat.reduceLT, Nat.reduceEqDiff, reduceCtorEq, ↓reduceIte, rqs]
  try rfl
theorem mbound1_ok : AC Tryz.prog 171 [ci 1, ci 10000] none [ci 0] := by
  refine AC.by_walk (rs := [.tmp 4]) ords Tryz.func171 (by rfl) (by rfl) (by rfl) (by rfl) (by rfl) ?_
  simp (disch := omega) only [wk, tis, Int.reduceNe, Int.reduceEq, Int.reduceLT, Int.reduceLE, Int.reduceAdd, Int.reduceSub, Int.reduceNeg, Int.reduceMul, Int.reduceToNat, Nat.reduceSub, Nat.reduceMul, Nat.reduceLeDiff, Nat.reduceAdd, Nat.reduceLT, Nat.reduceEqDiff, reduceCtorEq, ↓reduceIte, rqs]
  try rfl
theorem lim_one : Lim [1] := by intro x hx; simp at hx; subst hx; decide
theorem mpow1_ok (l : List Nat) (h : Lim l) (hl : l.length ≤ 2 ^ 36) : AC Tryz.prog 138 [cl l, ci 1] none [cl (wd (nv l)), ci 0] := by
  have nm := norm_ok l h (by omega)
  have hw : (wd (nv l)).length ≤ 2 ^ 36 := nt_zl ⟨hl, h⟩
  have mm := mmul_ok [1] (wd (nv l)) lim_one (lim_wd _) (by simp) hw
  rw [nv_wd, show nv [1] = 1 from rfl, Nat.one_mul] at mm
  refine AC.by_walk (rs := [.tmp 4, .tmp 5]) ords Tryz.func138 (by rfl) (by rfl) (by rfl) (by rfl) (by rfl) ?_
  simp (disch := omega) only [wk, tis, Int.reduceNe, Int.reduceEq, Int.reduceLT, Int.reduceLE, Int.reduceAdd, Int.reduceSub, Int.reduceNeg, Int.reduceMul, Int.reduceToNat, Nat.reduceSub, Nat.reduceMul, Nat.reduceLeDiff, Nat.reduceAdd, Nat.reduceLT, Nat.reduceEqDiff, reduceCtorEq, ↓reduceIte, rqs]
  refine call_by (mbound1_ok) (by rfl) (by simp) ?_
  simp (disch := omega) only [wk, tis, Int.reduceNe, Int.reduceEq, Int.reduceLT, Int.reduceLE, Int.reduceAdd, Int.reduceSub, Int.reduceNeg, Int.reduceMul, Int.reduceToNat, Nat.reduceSub, Nat.reduceMul, Nat.reduceLeDiff, Nat.reduceAdd, Nat.reduceLT, Nat.reduceEqDiff, reduceCtorEq, ↓reduceIte, rqs]
  refine call_by (mone_ok) (by rfl) (by simp) ?_
  simp (disch := omega) only [wk, tis, Int.reduceNe, Int.reduceEq, Int.reduceLT, Int.reduceLE, Int.reduceAdd, Int.reduceSub, Int.reduceNeg, Int.reduceMul, Int.reduceToNat, Nat.reduceSub, Nat.reduceMul, Nat.reduceLeDiff, Nat.reduceAdd, Nat.reduceLT, Nat.reduceEqDiff, reduceCtorEq, ↓reduceIte, rqs]
  refine call_by (nm) (by rfl) (by simp) ?_
  simp (disch := omega) only [wk, tis, Int.reduceNe, Int.reduceEq, Int.reduceLT, Int.reduceLE, Int.reduceAdd, Int.reduceSub, Int.reduceNeg, Int.reduceMul, Int.reduceToNat, Nat.reduceSub, Nat.reduceMul, Nat.reduceLeDiff, Nat.reduceAdd, Nat.reduceLT, Nat.reduceEqDiff, reduceCtorEq, ↓reduceIte, rqs]
  refine aloop_by (fun f H => ∃ (i : Nat) (m : List Nat), i ≤ 1 ∧ (i = 0 → m = wd (nv l)) ∧ (i = 1 → m = [1]) ∧ f 1 = .iv (.int .i64 i) ∧ f 7 = .iv (.sl (lims m)) ∧ f 8 = .iv (.sl (lims (wd (nv l))))) (fun f H => (intAt f 1).toNat) ?_ ?_
  · refine ⟨1, [1], by omega, by omega, fun _ => rfl, ?_⟩
    simp (disch := omega) only [wk, tis, Int.reduceNe, Int.reduceEq, Int.reduceLT, Int.reduceLE, Int.reduceAdd, Int.reduceSub, Int.reduceNeg, Int.reduceMul, Int.reduceToNat, Nat.reduceSub, Nat.reduceMul, Nat.reduceLeDiff, Nat.reduceAdd, Nat.reduceLT, Nat.reduceEqDiff, reduceCtorEq, ↓reduceIte, rqs, show ((1 : Nat) : Int) = 1 from rfl]
  rintro f H ⟨i, m, hi, hm0, hm1, hF⟩
  rw [intAt_of hF.1]
  simp (disch := omega) only [wk, tis, Int.reduceNe, Int.reduceEq, Int.reduceLT, Int.reduceLE, Int.reduceAdd, Int.reduceSub, Int.reduceNeg, Int.reduceMul, Int.reduceToNat, Nat.reduceSub, Nat.reduceMul, Nat.reduceLeDiff, Nat.reduceAdd, Nat.reduceLT, Nat.reduceEqDiff, reduceCtorEq, ↓reduceIte, rqs, hF]
  refine if_by (fun hlt => ?_) (fun hlt => ?_)
  · obtain rfl : i = 1 := by omega
    rw [hm1 rfl, show ((1 : Nat) : Int) = 1 from rfl] at hF
    simp (disch := omega) only [wk, tis, Int.reduceNe, Int.reduceEq, Int.reduceLT, Int.reduceLE, Int.reduceAdd, Int.reduceSub, Int.reduceNeg, Int.reduceMul, Int.reduceToNat, Nat.reduceSub, Nat.reduceMul, Nat.reduceLeDiff, Nat.reduceAdd, Nat.reduceLT, Nat.reduceEqDiff, reduceCtorEq, ↓reduceIte, rqs, hF, show Int.tmod 1 2 = 1 from rfl, show Int.tdiv 1 2 = 0 from rfl]
    refine call_by (mm) (by first | rfl | (simp only [tocvs, tocv, hF, show Int.tmod 1 2 = 1 from rfl, show Int.tdiv 1 2 = 0 from rfl]; rfl) | (simp only [tocvs, tocv, toboxes, tobox, updH_at, Nat.reduceEqDiff, ↓reduceIte, hF, show Int.tmod 1 2 = 1 from rfl, show Int.tdiv 1 2 = 0 from rfl]; rfl)) (by simp) ?_
    simp (disch := omega) only [wk, tis, Int.reduceNe, Int.reduceEq, Int.reduceLT, Int.reduceLE, Int.reduceAdd, Int.reduceSub, Int.reduceNeg, Int.reduceMul, Int.reduceToNat, Nat.reduceSub, Nat.reduceMul, Nat.reduceLeDiff, Nat.reduceAdd, Nat.reduceLT, Nat.reduceEqDiff, reduceCtorEq, ↓reduceIte, rqs, hF, show Int.tmod 1 2 = 1 from rfl, show Int.tdiv 1 2 = 0 from rfl]
    refine ⟨0, _, by omega, fun _ => rfl, by omega, ?_⟩
    (repeat' apply And.intro) <;> first | rfl | omega
  · obtain rfl : i = 0 := by omega
    rw [hm0 rfl] at hF
    simp (disch := omega) only [wk, tis, Int.reduceNe, Int.reduceEq, Int.reduceLT, Int.reduceLE, Int.reduceAdd, Int.reduceSub, Int.reduceNeg, Int.reduceMul, Int.reduceToNat, Nat.reduceSub, Nat.reduceMul, Nat.reduceLeDiff, Nat.reduceAdd, Nat.reduceLT, Nat.reduceEqDiff, reduceCtorEq, ↓reduceIte, rqs, hF]
    try rfl
theorem zpow1_ok (s : Bool) (l : List Nat) (h : Lim l) (hl : l.length ≤ 2 ^ 36) : AC Tryz.prog 137 [cr (s, l), ci 1] none [cz (iv (s, l)), ci 0] := by
  have nm := norm_ok l h (by omega)
  have o1 := nof_ok 1 (by decide)
  rw [show wd 1 = [1] by decide +kernel] at o1
  have hw : (wd (nv l)).length ≤ 2 ^ 36 := nt_zl ⟨hl, h⟩
  have mm := mmul_ok [1] (wd (nv l)) lim_one (lim_wd _) (by simp) hw
  rw [nv_wd, show nv [1] = 1 from rfl, Nat.one_mul] at mm
  have zo := zof_ok s (nv l)
  have hshr : Int.fdiv 1 (2 ^ min 1 IntKind.i64.bits) = 0 := by decide
  have hand : IntKind.i64.wrap ↑(BitVec.ofInt IntKind.i64.bits 1 &&& BitVec.ofInt IntKind.i64.bits 1).toNat = 1 := by decide
  refine AC.by_walk (rs := [.cell 4 29, .tmp 5]) ords Tryz.func137 (by rfl) (by rfl) (by rfl) (by rfl) (by rfl) ?_
  simp (disch := omega) only [wk, tis, Int.reduceNe, Int.reduceEq, Int.reduceLT, Int.reduceLE, Int.reduceAdd, Int.reduceSub, Int.reduceNeg, Int.reduceMul, Int.reduceToNat, Nat.reduceSub, Nat.reduceMul, Nat.reduceLeDiff, Nat.reduceAdd, Nat.reduceLT, Nat.reduceEqDiff, reduceCtorEq, ↓reduceIte, rqs]
  refine ⟨tmps_by (by kernel_rfl), ?_⟩
  refine call_by (o1) (by rfl) (by simp) ?_
  simp (disch := omega) only [wk, tis, Int.reduceNe, Int.reduceEq, Int.reduceLT, Int.reduceLE, Int.reduceAdd, Int.reduceSub, Int.reduceNeg, Int.reduceMul, Int.reduceToNat, Nat.reduceSub, Nat.reduceMul, Nat.reduceLeDiff, Nat.reduceAdd, Nat.reduceLT, Nat.reduceEqDiff, reduceCtorEq, ↓reduceIte, rqs]
  refine call_by (nm) (by rfl) (by simp) ?_
  simp (disch := omega) only [wk, tis, Int.reduceNe, Int.reduceEq, Int.reduceLT, Int.reduceLE, Int.reduceAdd, Int.reduceSub, Int.reduceNeg, Int.reduceMul, Int.reduceToNat, Nat.reduceSub, Nat.reduceMul, Nat.reduceLeDiff, Nat.reduceAdd, Nat.reduceLT, Nat.reduceEqDiff, reduceCtorEq, ↓reduceIte, rqs]
  first | exact log_by (by kernel_rfl) | refine ⟨log_by (by kernel_rfl), ?_⟩
  refine aloop_by (fun f H => ∃ (i s2 s4 : Nat) (m : List Nat), i ≤ 1 ∧ (i = 0 → m = wd (nv l)) ∧ (i = 1 → m = [1]) ∧ f 8 = .iv (.int .i64 i) ∧ f 6 = .iv (.sl (lims m)) ∧ f 7 = .iv (.sl (lims (wd (nv l)))) ∧ f 1 = .iv (.int .i64 1) ∧ f 2 = .hp 2 s2 0 0 ∧ H 2 = .blk false s2 29 2 [prow (s, l)] ∧ f 4 = .hp 4 s4 0 0 ∧ H 4 = .blk false s4 29 2 [[.bool false, .sl []]]) (fun f H => (intAt f 8).toNat) ?_ ?_
  · refine ⟨1, 1, 1, [1], by omega, by omega, fun _ => rfl, ?_⟩
    simp (disch := omega) only [wk, tis, Int.reduceNe, Int.reduceEq, Int.reduceLT, Int.reduceLE, Int.reduceAdd, Int.reduceSub, Int.reduceNeg, Int.reduceMul, Int.reduceToNat, Nat.reduceSub, Nat.reduceMul, Nat.reduceLeDiff, Nat.reduceAdd, Nat.reduceLT, Nat.reduceEqDiff, reduceCtorEq, ↓reduceIte, rqs, show ((1 : Nat) : Int) = 1 from rfl]
  rintro f H ⟨i, s2, s4, m, hi, hm0, hm1, hF⟩
  rw [intAt_of hF.1]
  simp (disch := omega) only [wk, tis, Int.reduceNe, Int.reduceEq, Int.reduceLT, Int.reduceLE, Int.reduceAdd, Int.reduceSub, Int.reduceNeg, Int.reduceMul, Int.reduceToNat, Nat.reduceSub, Nat.reduceMul, Nat.reduceLeDiff, Nat.reduceAdd, Nat.reduceLT, Nat.reduceEqDiff, reduceCtorEq, ↓reduceIte, rqs, hF]
  refine if_by (fun hlt => ?_) (fun hlt => ?_)
  · obtain rfl : i = 1 := by omega
    rw [hm1 rfl, show ((1 : Nat) : Int) = 1 from rfl] at hF
    simp (disch := omega) only [wk, tis, Int.reduceNe, Int.reduceEq, Int.reduceLT, Int.reduceLE, Int.reduceAdd, Int.reduceSub, Int.reduceNeg, Int.reduceMul, Int.reduceToNat, Nat.reduceSub, Nat.reduceMul, Nat.reduceLeDiff, Nat.reduceAdd, Nat.reduceLT, Nat.reduceEqDiff, reduceCtorEq, ↓reduceIte, rqs, hF, hand, hshr]
    refine call_by (mm) (by first | rfl | (simp only [tocvs, tocv, hF, hand, hshr]; rfl) | (simp only [tocvs, tocv, toboxes, tobox, updH_at, Nat.reduceEqDiff, ↓reduceIte, hF, hand, hshr]; rfl)) (by simp) ?_
    simp (disch := omega) only [wk, tis, Int.reduceNe, Int.reduceEq, Int.reduceLT, Int.reduceLE, Int.reduceAdd, Int.reduceSub, Int.reduceNeg, Int.reduceMul, Int.reduceToNat, Nat.reduceSub, Nat.reduceMul, Nat.reduceLeDiff, Nat.reduceAdd, Nat.reduceLT, Nat.reduceEqDiff, reduceCtorEq, ↓reduceIte, rqs, hF, hand, hshr]
    refine ⟨0, s2, s4, _, by omega, fun _ => rfl, by omega, ?_⟩
    (repeat' apply And.intro) <;> first | rfl | omega
  · obtain rfl : i = 0 := by omega
    rw [hm0 rfl] at hF
    cases s with
    | false =>
      simp (disch := omega) only [wk, tis, Int.reduceNe, Int.reduceEq, Int.reduceLT, Int.reduceLE, Int.reduceAdd, Int.reduceSub, Int.reduceNeg, Int.reduceMul, Int.reduceToNat, Nat.reduceSub, Nat.reduceMul, Nat.reduceLeDiff, Nat.reduceAdd, Nat.reduceLT, Nat.reduceEqDiff, reduceCtorEq, ↓reduceIte, rqs, hF]
      refine call_by (zo) (by first | rfl | (simp only [tocvs, tocv, hF, hand]; rfl) | (simp only [tocvs, tocv, toboxes, tobox, updH_at, Nat.reduceEqDiff, ↓reduceIte, hF, hand]; rfl)) (by simp) ?_
      simp (disch := omega) only [wk, tis, Int.reduceNe, Int.reduceEq, Int.reduceLT, Int.reduceLE, Int.reduceAdd, Int.reduceSub, Int.reduceNeg, Int.reduceMul, Int.reduceToNat, Nat.reduceSub, Nat.reduceMul, Nat.reduceLeDiff, Nat.reduceAdd, Nat.reduceLT, Nat.reduceEqDiff, reduceCtorEq, ↓reduceIte, rqs, hF, hand]
      try rfl
    | true =>
      simp (disch := omega) only [wk, tis, Int.reduceNe, Int.reduceEq, Int.reduceLT, Int.reduceLE, Int.reduceAdd, Int.reduceSub, Int.reduceNeg, Int.reduceMul, Int.reduceToNat, Nat.reduceSub, Nat.reduceMul, Nat.reduceLeDiff, Nat.reduceAdd, Nat.reduceLT, Nat.reduceEqDiff, reduceCtorEq, ↓reduceIte, rqs, hF, hand]
      refine call_by (zo) (by first | rfl | (simp only [tocvs, tocv, hF, hand]; rfl) | (simp only [tocvs, tocv, toboxes, tobox, updH_at, Nat.reduceEqDiff, ↓reduceIte, hF, hand]; rfl)) (by simp) ?_
      simp (disch := omega) only [wk, tis, Int.reduceNe, Int.reduceEq, Int.reduceLT, Int.reduceLE, Int.reduceAdd, Int.reduceSub, Int.reduceNeg, Int.reduceMul, Int.reduceToNat, Nat.reduceSub, Nat.reduceMul, Nat.reduceLeDiff, Nat.reduceAdd, Nat.reduceLT, Nat.reduceEqDiff, reduceCtorEq, ↓reduceIte, rqs, hF, hand]
      try rfl
end Go.Proofs.YtcjnacpekbhhcaaGreat

namespace Go.Proofs.YtcjnacpekbhhcaaGreat
open Go Go.Proofs Go.AL
set_option linter.unusedSimpArgs false
set_option linter.unusedVariables false

/-! ### Scale -/
theorem qsc1_ok (a b : Rat) (c : RQ) (K : Nat) (ha : qz a ≤ K) (hc : SzQ K c) (h0 : nv c.2 ≠ 0) (hK : K ≤ 2 ^ 35) : AC Tryz.prog 85 [cqz a, cqz b, .box (qrow c)] none [cqz (a * qv c), ci 0] := by
  have m := qmul_ok (crat a) c (szq_crat (by omega)) (hc.mono hK) (nv_crat0 _) h0
  rw [qv_crat] at m
  refine AC.by_walk (rs := [.cell 5 31, .tmp 6]) ords Tryz.func85 (by rfl) (by rfl) (by rfl) (by rfl) (by rfl) ?_
  simp (disch := omega) only [wk, tis, Int.reduceNe, Int.reduceEq, Int.reduceLT, Int.reduceLE, Int.reduceAdd, Int.reduceSub, Int.reduceNeg, Int.reduceMul, Int.reduceToNat, Nat.reduceSub, Nat.reduceMul, Nat.reduceLeDiff, Nat.reduceAdd, Nat.reduceLT, Nat.reduceEqDiff, reduceCtorEq, ↓reduceIte, rqs, List.map_cons, List.map_nil]
  refine call_by (m) (by first | rfl | (simp only [tocvs, tocv, List.map_cons, List.map_nil]; rfl) | (simp only [tocvs, tocv, toboxes, tobox, updH_at, Nat.reduceEqDiff, ↓reduceIte, List.map_cons, List.map_nil]; rfl)) (by simp) ?_
  simp (disch := omega) only [wk, tis, Int.reduceNe, Int.reduceEq, Int.reduceLT, Int.reduceLE, Int.reduceAdd, Int.reduceSub, Int.reduceNeg, Int.reduceMul, Int.reduceToNat, Nat.reduceSub, Nat.reduceMul, Nat.reduceLeDiff, Nat.reduceAdd, Nat.reduceLT, Nat.reduceEqDiff, reduceCtorEq, ↓reduceIte, rqs, List.map_cons, List.map_nil]
  try rfl
theorem qeach1_ok (p q : List RQ) (g : Nat) (row : List IV) (F : Rat → Rat → Rat) (K : Nat) (hp : GQ (2 ^ 30) K p) (hq : GQ (2 ^ 30) K q) (hK : K ≤ 2 ^ 35) (hK1 : 1 ≤ K) (hF0 : F 0 0 = 0) (hs : ∀ a b, qz a ≤ K → qz b ≤ K → qz (F a b) ≤ 2 ^ 38)
    (hop : ∀ a b, qz a ≤ K → qz b ≤ K → AC Tryz.prog g [cqz a, cqz b, .box row] none [cqz (F a b), ci 0]) : AC Tryz.prog 75 [cqw p, cqw q, .fn g [row]] none [cqp (zipq F (qvs p) (qvs q)), ci 0] := by
  have m := qboth_ok p q (hp.mono (by omega) (by omega)) (hq.mono (by omega) (by omega))
  have hA := hp.qb.trimq
  have hB := hq.qb.trimq
  have e : cqp (zipq F (qvs p) (qvs q)) = cqp (zipq F (trimq (qvs p)) (trimq (qvs q))) := congrArg cqw (cqs_ext fun k => by rw [cfq_zipq hF0, cfq_zipq hF0, cfq_trimq, cfq_trimq])
  rw [e]
  refine AC.by_walk (rs := [.tmp 6, .tmp 7]) ords Tryz.func75 (by rfl) (by rfl) (by rfl) (by rfl) (by rfl) ?_
  simp (disch := omega) only [wk, tis, Int.reduceNe, Int.reduceEq, Int.reduceLT, Int.reduceLE, Int.reduceAdd, Int.reduceSub, Int.reduceNeg, Int.reduceMul, Int.reduceToNat, Nat.reduceSub, Nat.reduceMul, Nat.reduceLeDiff, Nat.reduceAdd, Nat.reduceLT, Nat.reduceEqDiff, reduceCtorEq, ↓reduceIte, rqs, List.map_cons, List.map_nil]
  refine call_by (m) (by first | rfl | (simp only [tocvs, tocv, List.map_cons, List.map_nil]; rfl) | (simp only [tocvs, tocv, toboxes, tobox, updH_at, Nat.reduceEqDiff, ↓reduceIte, List.map_cons, List.map_nil]; rfl)) (by simp) ?_
  simp (disch := omega) only [wk, tis, Int.reduceNe, Int.reduceEq, Int.reduceLT, Int.reduceLE, Int.reduceAdd, Int.reduceSub, Int.reduceNeg, Int.reduceMul, Int.reduceToNat, Nat.reduceSub, Nat.reduceMul, Nat.reduceLeDiff, Nat.reduceAdd, Nat.reduceLT, Nat.reduceEqDiff, reduceCtorEq, ↓reduceIte, rqs, List.map_cons, List.map_nil]
  unfold cqs
  generalize trimq (qvs p) = A at *
  generalize trimq (qvs q) = B at *
  have hAl := hA.1
  have hBl := hB.1
  have hqa : (A.map crat).length = A.length := List.length_map _
  have hqb : (B.map crat).length = B.length := List.length_map _
  have hRl := zipq_len F A B
  have hR : QB (2 ^ 40) (2 ^ 38) (zipq F A B) := .of (by omega) fun i => by rw [cfq_zipq hF0]; exact hs _ _ (hA.cz hK1 i) (hB.cz hK1 i)
  obtain ⟨n, hn⟩ : ∃ n, n = max A.length B.length := ⟨_, rfl⟩
  have hnI : max (A.length : Int) (B.length : Int) = (n : Int) := by omega
  rw [← hn] at hRl
  simp (disch := omega) only [wk, tis, Int.reduceNe, Int.reduceEq, Int.reduceLT, Int.reduceLE, Int.reduceAdd, Int.reduceSub, Int.reduceNeg, Int.reduceMul, Int.reduceToNat, Nat.reduceSub, Nat.reduceMul, Nat.reduceLeDiff, Nat.reduceAdd, Nat.reduceLT, Nat.reduceEqDiff, reduceCtorEq, ↓reduceIte, rqs, hqa, hqb, hnI]
  refine aloop_nil 11 11 31 3 (by simp (disch := omega) only [wk, tis, Int.reduceNe, Int.reduceEq, Int.reduceLT, Int.reduceLE, Int.reduceAdd, Int.reduceSub, Int.reduceNeg, Int.reduceMul, Int.reduceToNat, Nat.reduceSub, Nat.reduceMul, Nat.reduceLeDiff, Nat.reduceAdd, Nat.reduceLT, Nat.reduceEqDiff, reduceCtorEq, ↓reduceIte, rqs]) (fun f H => ∃ (i st : Nat), i ≤ n ∧ f 30 = .iv (.int .i64 i) ∧ f 29 = .iv (.int .i64 n) ∧ f 8 = .iv (.sl (rats (A.map crat))) ∧ f 9 = .iv (.sl (rats (B.map crat))) ∧ f 2 = .fn g [.ip row] ∧ f 11 = .hs 11 st ∧ H 11 = .blk false st 31 3 (rats (((zipq F A B).take i).map crat))) (fun f H => (n - intAt f 30).toNat) ?_ ?_
  · refine ⟨0, 1, by omega, ?_⟩
    simp (disch := omega) only [wk, tis, Int.reduceNe, Int.reduceEq, Int.reduceLT, Int.reduceLE, Int.reduceAdd, Int.reduceSub, Int.reduceNeg, Int.reduceMul, Int.reduceToNat, Nat.reduceSub, Nat.reduceMul, Nat.reduceLeDiff, Nat.reduceAdd, Nat.reduceLT, Nat.reduceEqDiff, reduceCtorEq, ↓reduceIte, rqs, ghostF, ghostH, List.take_zero, List.map_nil, List.map_cons, hqa, hqb, hnI]
  rintro f H ⟨i, st, hi, hF⟩
  rw [intAt_of hF.1]
  simp (disch := omega) only [wk, tis, Int.reduceNe, Int.reduceEq, Int.reduceLT, Int.reduceLE, Int.reduceAdd, Int.reduceSub, Int.reduceNeg, Int.reduceMul, Int.reduceToNat, Nat.reduceSub, Nat.reduceMul, Nat.reduceLeDiff, Nat.reduceAdd, Nat.reduceLT, Nat.reduceEqDiff, reduceCtorEq, ↓reduceIte, rqs, hF]
  refine if_by (fun hlt => ?_) (fun hlt => ?_)
  · have hq : (((zipq F A B).take i).map crat).length = i := by rw [List.length_map, List.length_take]; omega
    have c1 := qcoef_nat A i (hA.mono (by omega) (by omega))
    have c2 := qcoef_nat B i (hB.mono (by omega) (by omega))
    have o := hop (cfq A i) (cfq B i) (hA.cz hK1 i) (hB.cz hK1 i)
    simp (disch := omega) only [wk, tis, Int.reduceNe, Int.reduceEq, Int.reduceLT, Int.reduceLE, Int.reduceAdd, Int.reduceSub, Int.reduceNeg, Int.reduceMul, Int.reduceToNat, Nat.reduceSub, Nat.reduceMul, Nat.reduceLeDiff, Nat.reduceAdd, Nat.reduceLT, Nat.reduceEqDiff, reduceCtorEq, ↓reduceIte, rqs, hF, hq]
    refine call_by (c1) (by first | rfl | (simp only [tocvs, tocv, hF, hq]; rfl) | (simp only [tocvs, tocv, toboxes, tobox, updH_at, Nat.reduceEqDiff, ↓reduceIte, hF, hq]; rfl)) (by simp) ?_
    simp (disch := omega) only [wk, tis, Int.reduceNe, Int.reduceEq, Int.reduceLT, Int.reduceLE, Int.reduceAdd, Int.reduceSub, Int.reduceNeg, Int.reduceMul, Int.reduceToNat, Nat.reduceSub, Nat.reduceMul, Nat.reduceLeDiff, Nat.reduceAdd, Nat.reduceLT, Nat.reduceEqDiff, reduceCtorEq, ↓reduceIte, rqs, hF, hq]
    refine call_by (c2) (by first | rfl | (simp only [tocvs, tocv, hF, hq]; rfl) | (simp only [tocvs, tocv, toboxes, tobox, updH_at, Nat.reduceEqDiff, ↓reduceIte, hF, hq]; rfl)) (by simp) ?_
    simp (disch := omega) only [wk, tis, Int.reduceNe, Int.reduceEq, Int.reduceLT, Int.reduceLE, Int.reduceAdd, Int.reduceSub, Int.reduceNeg, Int.reduceMul, Int.reduceToNat, Nat.reduceSub, Nat.reduceMul, Nat.reduceLeDiff, Nat.reduceAdd, Nat.reduceLT, Nat.reduceEqDiff, reduceCtorEq, ↓reduceIte, rqs, hF, hq]
    refine call_by (o) (by first | rfl | (simp only [tocvs, tocv, hF, hq]; rfl) | (simp only [tocvs, tocv, toboxes, tobox, updH_at, Nat.reduceEqDiff, ↓reduceIte, hF, hq]; rfl)) (by simp) ?_
    simp (disch := omega) only [wk, tis, Int.reduceNe, Int.reduceEq, Int.reduceLT, Int.reduceLE, Int.reduceAdd, Int.reduceSub, Int.reduceNeg, Int.reduceMul, Int.reduceToNat, Nat.reduceSub, Nat.reduceMul, Nat.reduceLeDiff, Nat.reduceAdd, Nat.reduceLT, Nat.reduceEqDiff, reduceCtorEq, ↓reduceIte, rqs, hF, hq]
    have e := takeq_snoc (q := zipq F A B) (i := i) (by omega)
    rw [cfq_zipq hF0] at e
    refine ⟨⟨i + 1, st + 1, by omega, ?_⟩, by omega⟩
    rw [e, List.map_append]
    (repeat' apply And.intro) <;> first | rfl | omega
  · simp (disch := omega) only [wk, tis, Int.reduceNe, Int.reduceEq, Int.reduceLT, Int.reduceLE, Int.reduceAdd, Int.reduceSub, Int.reduceNeg, Int.reduceMul, Int.reduceToNat, Nat.reduceSub, Nat.reduceMul, Nat.reduceLeDiff, Nat.reduceAdd, Nat.reduceLT, Nat.reduceEqDiff, reduceCtorEq, ↓reduceIte, rqs, hF]
    rw [List.take_of_length_le (by omega)] at hF
    have m := qtrim_own (zipq F A B) hR
    refine call_by (m) (by first | rfl | (simp only [tocvs, tocv, hF]; rfl) | (simp only [tocvs, tocv, toboxes, tobox, updH_at, Nat.reduceEqDiff, ↓reduceIte, hF]; rfl)) (by simp) ?_
    simp (disch := omega) only [wk, tis, Int.reduceNe, Int.reduceEq, Int.reduceLT, Int.reduceLE, Int.reduceAdd, Int.reduceSub, Int.reduceNeg, Int.reduceMul, Int.reduceToNat, Nat.reduceSub, Nat.reduceMul, Nat.reduceLeDiff, Nat.reduceAdd, Nat.reduceLT, Nat.reduceEqDiff, reduceCtorEq, ↓reduceIte, rqs, hF]
theorem qscale_ok (p : List RQ) (c : RQ) (K : Nat) (hp : GQ (2 ^ 30) K p) (hc : SzQ K c) (h0 : nv c.2 ≠ 0) (hK : K ≤ 2 ^ 35) (hK1 : 1 ≤ K) : AC Tryz.prog 31 [cqw p, cqq c] none [cqp (sclq (qv c) (qvs p)), ci 0] := by
  have k := qcheck_good c ⟨Nat.le_trans hc.2.1 (by omega), hc.2.2⟩ h0
  have zc := qz_raw hc h0
  have m := qeach1_ok p [] 85 (qrow c) (fun a _ => a * qv c) K hp ⟨Nat.zero_le _, fun r hr => nomatch hr⟩ hK hK1 (Rat.zero_mul _) (fun a b ha hb => by have := qz_mul a (qv c); omega) (fun a b ha hb => qsc1_ok a b c K ha hc h0 hK)
  rw [show cqp (zipq (fun a _ => a * qv c) (qvs p) (qvs [])) = cqp (sclq (qv c) (qvs p)) from congrArg cqw (cqs_ext fun j => by rw [cfq_zipq (F := fun a _ => a * qv c) (Rat.zero_mul _), cfq_sclq])] at m
  refine AC.by_walk (rs := [.tmp 4, .tmp 5]) ords Tryz.func31 (by rfl) (by rfl) (by rfl) (by rfl) (by rfl) ?_
  simp (disch := omega) only [wk, tis, Int.reduceNe, Int.reduceEq, Int.reduceLT, Int.reduceLE, Int.reduceAdd, Int.reduceSub, Int.reduceNeg, Int.reduceMul, Int.reduceToNat, Nat.reduceSub, Nat.reduceMul, Nat.reduceLeDiff, Nat.reduceAdd, Nat.reduceLT, Nat.reduceEqDiff, reduceCtorEq, ↓reduceIte, rqs]
  refine call_by (k) (by rfl) (by simp) ?_
  simp (disch := omega) only [wk, tis, Int.reduceNe, Int.reduceEq, Int.reduceLT, Int.reduceLE, Int.reduceAdd, Int.reduceSub, Int.reduceNeg, Int.reduceMul, Int.reduceToNat, Nat.reduceSub, Nat.reduceMul, Nat.reduceLeDiff, Nat.reduceAdd, Nat.reduceLT, Nat.reduceEqDiff, reduceCtorEq, ↓reduceIte, rqs]
  refine call_by (m) (by first | rfl | (simp only [tocvs, tocv, List.map_nil]; rfl) | (simp only [tocvs, tocv, toboxes, tobox, updH_at, Nat.reduceEqDiff, ↓reduceIte, List.map_nil]; rfl)) (by simp) ?_
  simp (disch := omega) only [wk, tis, Int.reduceNe, Int.reduceEq, Int.reduceLT, Int.reduceLE, Int.reduceAdd, Int.reduceSub, Int.reduceNeg, Int.reduceMul, Int.reduceToNat, Nat.reduceSub, Nat.reduceMul, Nat.reduceLeDiff, Nat.reduceAdd, Nat.reduceLT, Nat.reduceEqDiff, reduceCtorEq, ↓reduceIte, rqs, List.map_nil]
  try rfl
end Go.Proofs.YtcjnacpekbhhcaaGreat

namespace Go.Proofs.YtcjnacpekbhhcaaGreat
open Go Go.Proofs Go.AL
set_option linter.unusedSimpArgs false
set_option linter.unusedVariables false

theorem inv_parts {q : Rat} (h : q ≠ 0) : ((q.den : Int) : Rat) / (q.num : Rat) = 1 / q := by
  have hn : q.num ≠ 0 := fun e => h (Rat.num_eq_zero.mp e)
  have h1 : (q.num : Rat) ≠ 0 := fun e => hn (Rat.intCast_eq_zero_iff.mp e)
  have h2 := natr_ne q.den_nz
  have h3 : q = (q.num : Rat) / (q.den : Rat) := by rw [← Rat.mkRat_eq_div]; exact (Rat.mkRat_self q).symm
  rw [Rat.intCast_natCast]
  conv => rhs; rw [h3]
  grind
theorem qpow_ok (q : Rat) (h0 : q ≠ 0) (hz : qz q ≤ 2 ^ 34) : AC Tryz.prog 88 [cqz q, ci (-1)] none [cqz (1 / q), ci 0] := by
  have hp := qz_parts q
  have hn : q.num ≠ 0 := fun e => h0 (Rat.num_eq_zero.mp e)
  have qn := qnorm_ok (crat q) (szq_crat (by omega)) (nv_crat0 _)
  rw [qv_crat] at qn
  have mp := mpow1_ok (wd q.den) (lim_wd _) (by omega)
  rw [nv_wd] at mp
  have zp := zpow1_ok (canon q.num).1 (canon q.num).2 (lim_wd _) (by have := hp.1; unfold zl at this; show (wd q.num.natAbs).length ≤ _; omega)
  rw [show ((canon q.num).1, (canon q.num).2) = canon q.num from rfl, iv_canon] at zp
  have zn := znat_ok false q.den (by omega)
  rw [sgf] at zn
  have mk := qmake_ok (canon (q.den : Int)) (canon q.num) ((sz_canon _).mono (by rw [zl_nat]; omega)) ((sz_canon _).mono (by omega)) (by rw [iv_canon]; exact hn)
  rw [iv_canon, iv_canon, inv_parts h0] at mk
  refine AC.by_walk (rs := [.cell 4 31, .tmp 5]) ords Tryz.func88 (by rfl) (by rfl) (by rfl) (by rfl) (by rfl) ?_
  simp (disch := omega) only [wk, tis, Int.reduceNe, Int.reduceEq, Int.reduceLT, Int.reduceLE, Int.reduceAdd, Int.reduceSub, Int.reduceNeg, Int.reduceMul, Int.reduceToNat, Nat.reduceSub, Nat.reduceMul, Nat.reduceLeDiff, Nat.reduceAdd, Nat.reduceLT, Nat.reduceEqDiff, reduceCtorEq, ↓reduceIte, rqs]
  refine call_by (qn) (by rfl) (by simp) ?_
  simp (disch := omega) only [wk, tis, Int.reduceNe, Int.reduceEq, Int.reduceLT, Int.reduceLE, Int.reduceAdd, Int.reduceSub, Int.reduceNeg, Int.reduceMul, Int.reduceToNat, Nat.reduceSub, Nat.reduceMul, Nat.reduceLeDiff, Nat.reduceAdd, Nat.reduceLT, Nat.reduceEqDiff, reduceCtorEq, ↓reduceIte, rqs]
  refine call_by (mp) (by rfl) (by simp) ?_
  simp (disch := omega) only [wk, tis, Int.reduceNe, Int.reduceEq, Int.reduceLT, Int.reduceLE, Int.reduceAdd, Int.reduceSub, Int.reduceNeg, Int.reduceMul, Int.reduceToNat, Nat.reduceSub, Nat.reduceMul, Nat.reduceLeDiff, Nat.reduceAdd, Nat.reduceLT, Nat.reduceEqDiff, reduceCtorEq, ↓reduceIte, rqs]
  refine call_by (zp) (by rfl) (by simp) ?_
  simp (disch := omega) only [wk, tis, Int.reduceNe, Int.reduceEq, Int.reduceLT, Int.reduceLE, Int.reduceAdd, Int.reduceSub, Int.reduceNeg, Int.reduceMul, Int.reduceToNat, Nat.reduceSub, Nat.reduceMul, Nat.reduceLeDiff, Nat.reduceAdd, Nat.reduceLT, Nat.reduceEqDiff, reduceCtorEq, ↓reduceIte, rqs]
  refine ⟨tmps_by (by kernel_rfl), ?_⟩
  refine call_by (zn) (by rfl) (by simp) ?_
  simp (disch := omega) only [wk, tis, Int.reduceNe, Int.reduceEq, Int.reduceLT, Int.reduceLE, Int.reduceAdd, Int.reduceSub, Int.reduceNeg, Int.reduceMul, Int.reduceToNat, Nat.reduceSub, Nat.reduceMul, Nat.reduceLeDiff, Nat.reduceAdd, Nat.reduceLT, Nat.reduceEqDiff, reduceCtorEq, ↓reduceIte, rqs]
  refine call_by (mk) (by rfl) (by simp) ?_
  simp (disch := omega) only [wk, tis, Int.reduceNe, Int.reduceEq, Int.reduceLT, Int.reduceLE, Int.reduceAdd, Int.reduceSub, Int.reduceNeg, Int.reduceMul, Int.reduceToNat, Nat.reduceSub, Nat.reduceMul, Nat.reduceLeDiff, Nat.reduceAdd, Nat.reduceLT, Nat.reduceEqDiff, reduceCtorEq, ↓reduceIte, rqs]
  first | exact log_by (by kernel_rfl) | refine ⟨log_by (by kernel_rfl), ?_⟩
  try rfl

theorem qmonic_ok (p : List RQ) (k : Nat) (hp : GQ (2 ^ 30) k p) (hk : k ≤ 2 ^ 34) (hk1 : 1 ≤ k) (h0 : (trimq (qvs p)).length ≠ 0) : AC Tryz.prog 33 [cqw p] none [cqp (sclq (1 / cfq (trimq (qvs p)) ((trimq (qvs p)).length - 1)) (trimq (qvs p))), ci 0] := by
  have nm := qpnorm_ok p (hp.mono (by omega) (by omega))
  have hA := hp.qb.trimq
  have tt := trimq_trimq (qvs p)
  refine AC.by_walk (rs := [.tmp 2, .tmp 3]) ords Tryz.func33 (by rfl) (by rfl) (by rfl) (by rfl) (by rfl) ?_
  simp (disch := omega) only [wk, tis, Int.reduceNe, Int.reduceEq, Int.reduceLT, Int.reduceLE, Int.reduceAdd, Int.reduceSub, Int.reduceNeg, Int.reduceMul, Int.reduceToNat, Nat.reduceSub, Nat.reduceMul, Nat.reduceLeDiff, Nat.reduceAdd, Nat.reduceLT, Nat.reduceEqDiff, reduceCtorEq, ↓reduceIte, rqs]
  refine call_by (nm) (by rfl) (by simp) ?_
  simp (disch := omega) only [wk, tis, Int.reduceNe, Int.reduceEq, Int.reduceLT, Int.reduceLE, Int.reduceAdd, Int.reduceSub, Int.reduceNeg, Int.reduceMul, Int.reduceToNat, Nat.reduceSub, Nat.reduceMul, Nat.reduceLeDiff, Nat.reduceAdd, Nat.reduceLT, Nat.reduceEqDiff, reduceCtorEq, ↓reduceIte, rqs]
  unfold cqs
  generalize trimq (qvs p) = A at *
  have hAl := hA.1
  have hq : (A.map crat).length = A.length := List.length_map _
  have h0' : ¬ (A.length : Int) = 0 := by omega
  have e1 : (A.length : Int) - 1 = ((A.length - 1 : Nat) : Int) := by omega
  have g := cratq_get (q := A) (i := A.length - 1) (by omega)
  have ht := trimq_full tt
  have hne := cfq_tzq_pred (q := A) (by omega)
  rw [ht] at hne
  have zt := hA.cz hk1 (A.length - 1)
  have zi := qz_inv (cfq A (A.length - 1))
  have pw := qpow_ok (cfq A (A.length - 1)) hne (by omega)
  have sc := qscale_ok (A.map crat) (crat (1 / cfq A (A.length - 1))) k hA.gq (szq_crat (by omega)) (nv_crat0 _) (by omega) hk1
  rw [qv_crat, qvs_map] at sc
  simp (disch := omega) only [wk, tis, Int.reduceNe, Int.reduceEq, Int.reduceLT, Int.reduceLE, Int.reduceAdd, Int.reduceSub, Int.reduceNeg, Int.reduceMul, Int.reduceToNat, Nat.reduceSub, Nat.reduceMul, Nat.reduceLeDiff, Nat.reduceAdd, Nat.reduceLT, Nat.reduceEqDiff, reduceCtorEq, ↓reduceIte, rqs, hq, h0', e1, g]
  refine call_by (pw) (by first | rfl | (simp only [tocvs, tocv, hq, h0', e1, g]; rfl) | (simp only [tocvs, tocv, toboxes, tobox, updH_at, Nat.reduceEqDiff, ↓reduceIte, hq, h0', e1, g]; rfl)) (by simp) ?_
  simp (disch := omega) only [wk, tis, Int.reduceNe, Int.reduceEq, Int.reduceLT, Int.reduceLE, Int.reduceAdd, Int.reduceSub, Int.reduceNeg, Int.reduceMul, Int.reduceToNat, Nat.reduceSub, Nat.reduceMul, Nat.reduceLeDiff, Nat.reduceAdd, Nat.reduceLT, Nat.reduceEqDiff, reduceCtorEq, ↓reduceIte, rqs, hq, h0', e1, g]
  refine call_by (sc) (by first | rfl | (simp only [tocvs, tocv, hq, h0', e1, g]; rfl) | (simp only [tocvs, tocv, toboxes, tobox, updH_at, Nat.reduceEqDiff, ↓reduceIte, hq, h0', e1, g]; rfl)) (by simp) ?_
  simp (disch := omega) only [wk, tis, Int.reduceNe, Int.reduceEq, Int.reduceLT, Int.reduceLE, Int.reduceAdd, Int.reduceSub, Int.reduceNeg, Int.reduceMul, Int.reduceToNat, Nat.reduceSub, Nat.reduceMul, Nat.reduceLeDiff, Nat.reduceAdd, Nat.reduceLT, Nat.reduceEqDiff, reduceCtorEq, ↓reduceIte, rqs, hq, h0', e1, g]
  try rfl
end Go.Proofs.YtcjnacpekbhhcaaGreat

namespace Go.Proofs.YtcjnacpekbhhcaaGreat
open Go Go.Proofs Go.AL
set_option linter.unusedSimpArgs false
set_option linter.unusedVariables false

end Go.Proofs.YtcjnacpekbhhcaaGreat

namespace Go.Proofs.YtcjnacpekbhhcaaGreat
open Go Go.Proofs Go.AL
set_option linter.unusedSimpArgs false
set_option linter.unusedVariables false

theorem dv_of {A B : List Rat} (hA : QB 40 (2 ^ 20) A) (hB : QB 40 (2 ^ 20) B) (ta : trimq A = A) (tb : trimq B = B) (h0 : B.length ≠ 0) : ∃ n, DV A B n (2 ^ 31) := by
  have hb : cfq B (B.length - 1) ≠ 0 := by
    have ht := trimq_full tb
    have := cfq_tzq_pred (q := B) (by omega)
    rwa [ht] at this
  obtain ⟨D, hD⟩ := hA.cb
  have hC := hB.clr
  obtain ⟨n, en, hj, hn⟩ := dit_end A h0 hb
  have hn40 : n ≤ 40 := Nat.le_trans hn hA.1
  refine ⟨n, ⟨Nat.le_trans hA.1 (by omega), Nat.le_trans hB.1 (by omega), h0, hb, ta, tb, en, hj, fun k hk i => ?_, fun i => ?_, by omega, by omega⟩⟩
  · obtain ⟨E, hE⟩ := dit_cb hD hC h0 hb k fun j hjk => hj j (by omega)
    have h1 := hE.qb.cz (by omega) i
    have h2 : k * (2 ^ 20 + 40 * 2 ^ 20 + 1 + 1) ≤ 40 * (2 ^ 20 + 40 * 2 ^ 20 + 1 + 1) := Nat.mul_le_mul_right _ (by omega)
    omega
  · have := hB.cz (by omega) i
    omega


end Go.Proofs.YtcjnacpekbhhcaaGreat

namespace Go.Proofs.YtcjnacpekbhhcaaGreat
open Go Go.Proofs Go.AL
set_option linter.unusedSimpArgs false
set_option linter.unusedVariables false

/-! ### What has a common denominator is cleared by it -/
theorem CD.den_dvd {D M : Nat} {q : Rat} (hD : D ≠ 0) (h : CD D M q) : q.den ∣ D := by
  obtain ⟨z, e, hz⟩ := h
  have h1 := natr_ne hD
  have h2 := natr_ne q.den_nz
  have h3 : (q.num : Rat) / (q.den : Rat) = (z : Rat) / (D : Rat) := by
    rw [← e, ← Rat.mkRat_eq_div]; exact Rat.mkRat_self q
  have h4 : (q.num : Rat) * (D : Rat) = (z : Rat) * (q.den : Rat) := by grind
  have h5 : q.num * (D : Int) = z * (q.den : Int) := by
    rw [← Rat.intCast_natCast, ← Rat.intCast_natCast, ← Rat.intCast_mul, ← Rat.intCast_mul] at h4
    exact Rat.intCast_inj.mp h4
  have h6 : q.den ∣ q.num.natAbs * D := ⟨z.natAbs, by
    have := congrArg Int.natAbs h5
    rw [Int.natAbs_mul, Int.natAbs_mul, Int.natAbs_natCast, Int.natAbs_natCast] at this
    rw [this, Nat.mul_comm]⟩
  exact (q.reduced.symm).dvd_of_dvd_mul_left h6
/-- Products over one denominator: the product of both. -/
theorem qsum_cd {D M n : Nat} {f : Nat → Rat} (h : ∀ i, i < n → CD D M (f i)) : CD D (M + n) (qsum n f) := by
  induction n with
  | zero => exact CD.zero _ _
  | succ n ih =>
    have h1 := ih fun i hi => h i (by omega)
    have h2 := h n (by omega)
    exact (h1.add h2).mono (by omega)
theorem lcmL_dvd {D : Nat} : ∀ (l : List Nat) (i : Nat), (∀ x ∈ l, x ∣ D) → lcmL (l.take i) ∣ D
  | l, 0, _ => by rw [List.take_zero]; exact Nat.one_dvd _
  | l, i + 1, h => by
    by_cases hi : i < l.length
    · rw [lcmL_take hi]
      refine Nat.lcm_dvd (lcmL_dvd l i h) (h _ ?_)
      rw [List.getD, List.getElem?_eq_getElem hi, Option.getD_some]
      exact List.getElem_mem hi
    · rw [List.take_of_length_le (by omega), ← List.take_of_length_le (l := l) (i := i) (by omega)]
      exact lcmL_dvd l i h
theorem CB.dens_dvd {D n M : Nat} {A : List Rat} (h : CB D n M A) : ∀ x ∈ dens A, x ∣ D := fun x hx => by
  obtain ⟨c, hc, rfl⟩ := List.mem_map.1 hx
  exact (h.c c hc).den_dvd h.d
theorem CB.lcm_len {D n M : Nat} {A : List Rat} (h : CB D n M A) (i : Nat) : (wd (lcmL ((dens A).take i))).length ≤ M :=
  Nat.le_trans (wd_len_mono (Nat.le_of_dvd (Nat.pos_of_ne_zero h.d) (lcmL_dvd _ i h.dens_dvd))) h.w
theorem CB.cden_dvd {D n M : Nat} {A : List Rat} (h : CB D n M A) : cden A ∣ D := by
  have := lcmL_dvd (dens A) (dens A).length h.dens_dvd
  rwa [List.take_length] at this
theorem CB.cden_len {D n M : Nat} {A : List Rat} (h : CB D n M A) : (wd (cden A)).length ≤ M :=
  Nat.le_trans (wd_len_mono (Nat.le_of_dvd (Nat.pos_of_ne_zero h.d) h.cden_dvd)) h.w
theorem CB.mulq {D E n m M N : Nat} {A B : List Rat} (hA : CB D n M A) (hB : CB E m N B) : CB (D * E) (n + m) (M + N + (n + m)) (mulq A B) where
  d := Nat.mul_ne_zero hA.d hB.d
  w := by
    have h1 := AL.wd_mul_len D E
    have h2 := hA.w
    have h3 := hB.w
    omega
  l := by
    simp only [mulq_def, List.length_map, List.length_range]
    have := hA.l
    have := hB.l
    omega
  c := fun c hc => by
    obtain ⟨k, hk, rfl⟩ := List.getElem_of_mem hc
    have hl : k < n + m := by
      simp only [mulq_def, List.length_map, List.length_range] at hk
      have := hA.l
      have := hB.l
      omega
    rw [← cfq_lt hk, cfq_mulq, PQ.cvq_conv]
    exact (qsum_cd (n := k + 1) (f := fun i => cfq A i * cfq B (k - i)) fun i _ => CD.mul hA.d hB.d (CD.cf hA _) (CD.cf hB _)).mono (by omega)
end Go.Proofs.YtcjnacpekbhhcaaGreat

namespace Go.Proofs.YtcjnacpekbhhcaaGreat
open Go Go.Proofs Go.AL
set_option linter.unusedSimpArgs false
set_option linter.unusedVariables false

/-- Every power to the m-th has a common denominator of bounded length. -/
def PWH (A : List Rat) (m N K : Nat) : Prop := ∀ k, k ≤ m → ∃ D, CB D N K (powq A k)
/-- What a power is known by. -/
structure PWK (A : List Rat) (m N K : Nat) : Prop where
  h : ∀ k, k ≤ m → ∃ D, CB D N K (trimq (powq A k))
theorem PWH.k {A : List Rat} {m N K : Nat} (h : PWH A m N K) : PWK A m N K := ⟨fun k hk => by
  obtain ⟨D, hD⟩ := h k hk
  exact ⟨D, hD.trim⟩⟩
theorem PWK.mono {A : List Rat} {m N K N' K' : Nat} (h : PWK A m N K) (hN : N ≤ N') (hK : K ≤ K') : PWK A m N' K' := ⟨fun k hk => by
  obtain ⟨D, hD⟩ := h.h k hk
  exact ⟨D, hD.mono hN hK⟩⟩
end Go.Proofs.YtcjnacpekbhhcaaGreat

namespace Go.Proofs.YtcjnacpekbhhcaaGreat
open Go Go.Proofs Go.AL
set_option linter.unusedSimpArgs false
set_option linter.unusedVariables false

end Go.Proofs.YtcjnacpekbhhcaaGreat

namespace Go.Proofs.YtcjnacpekbhhcaaGreat
open Go Go.Proofs Go.AL
set_option linter.unusedSimpArgs false
set_option linter.unusedVariables false

/-! ### Products of x - r -/
def lineq (c : Rat) : List Rat := [-c, 1]
def froot (X : List Rat) (b : Nat) : Nat → List Rat
  | 0 => [1]
  | k + 1 => if k = b then froot X b k else mulq (froot X b k) (lineq (cfq X k))
/-! ### Sums over common denominators -/
theorem CB.addq {D E n m M N : Nat} {A B : List Rat} (hA : CB D n M A) (hB : CB E m N B) : CB (D * E) (max n m) (M + N + 1) (addq A B) where
  d := Nat.mul_ne_zero hA.d hB.d
  w := by
    have h1 := AL.wd_mul_len D E
    have h2 := hA.w
    have h3 := hB.w
    omega
  l := by
    simp only [Go.Proofs.YtcjnacpekbhhcaaGreat.addq, List.length_map, List.length_range]
    have := hA.l
    have := hB.l
    omega
  c := fun c hc => by
    obtain ⟨k, hk, rfl⟩ := List.getElem_of_mem hc
    rw [← cfq_lt hk, cfq_addq]
    have h1 := CD.up hA.d hB.d hB.w (CD.cf hA k)
    have h2 := CD.up hB.d hA.d hA.w (CD.cf hB k)
    rw [Nat.mul_comm] at h2
    exact (h1.add h2).mono (by omega)
theorem CB.const {c : Rat} {K : Nat} (h : qz c ≤ K) : CB c.den 1 K [c] where
  d := c.den_nz
  w := Nat.le_trans (qz_parts c).2 h
  l := Nat.le_refl _
  c := fun x hx => by
    rcases List.mem_singleton.1 hx with rfl
    exact (CD.ofRat x).mono (Nat.le_trans (qz_parts x).1 h)

/-! ### Newton's sum -/
def newc (X Y S : List Rat) (k : Nat) : Rat := (cfq Y k - evq S (cfq X k)) / evq (froot X X.length k) (cfq X k)
def news (X Y : List Rat) : Nat → List Rat
  | 0 => []
  | k + 1 => addq (news X Y k) (sclq (newc X Y (news X Y k) k) (froot X X.length k))
end Go.Proofs.YtcjnacpekbhhcaaGreat

namespace Go.Proofs.YtcjnacpekbhhcaaGreat
open Go Go.Proofs Go.AL
set_option linter.unusedSimpArgs false
set_option linter.unusedVariables false

/-! ### Division undoes the product -/
theorem PQ.add_sub (f g : PQ) : f + (g - f) = g := PQ.ext fun k => by rw [PQ.c_add, PQ.c_sub]; grind
theorem pq_dn1 (A B : List Rat) : pq (dn1 A B) = pq A - pq (upq (dc A B) (A.length - B.length)) * pq B := PQ.ext fun k => by
  rw [PQ.c_sub, ← pq_mulq, pq_c, pq_c, pq_c, cfq_dn1, cfq_mul_upq]
theorem pq_dqu (A B : List Rat) (k : Nat) : pq (dqu A B (k + 1)) = pq (dqu A B k) + pq (upq (dc (dit A B k) B) ((dit A B k).length - B.length)) := PQ.ext fun j => by
  rw [PQ.c_add, pq_c, pq_c, pq_c, cfq_dqu_succ, cfq_upq]
/-- The division's equation. -/
theorem pq_dit (A B : List Rat) : ∀ k, pq A = pq (dqu A B k) * pq B + pq (dit A B k)
  | 0 => by rw [dqu, dit, pq_nil, PQ.zero_mul, PQ.zero_add]
  | k + 1 => by rw [pq_dqu, dit, pq_dn1, PQ.add_mul, PQ.add_assoc, PQ.add_sub]; exact pq_dit A B k
theorem div_unique {Q R Q' R' B : List Rat} (h : pq Q * pq B + pq R = pq Q' * pq B + pq R') (hB : tzq B ≠ 0) (hR : tzq R < tzq B) (hR' : tzq R' < tzq B) : pq Q = pq Q' ∧ pq R = pq R' := by
  have hc : ∀ k, cfq (mulq Q B) k + cfq R k = cfq (mulq Q' B) k + cfq R' k := fun k => by
    have := congrArg (fun f => PQ.c f k) h
    simp only [PQ.c_add, ← pq_mulq, pq_c] at this
    exact this
  have hE : ∀ k, cfq (mulq (addq Q (sclq (-1) Q')) B) k = cfq (addq R' (sclq (-1) R)) k := fun k => by
    have e1 : pq (mulq (addq Q (sclq (-1) Q')) B) = pq (mulq Q B) + PQ.C (-1) * pq (mulq Q' B) := by
      rw [pq_mulq, pq_addq, pq_sclq, PQ.add_mul, PQ.mul_assoc, pq_mulq, pq_mulq]
    have e2 := congrArg (fun f => PQ.c f k) e1
    simp only [PQ.c_add, PQ.C_mul_c, pq_c] at e2
    rw [e2, cfq_addq, cfq_sclq]
    have := hc k
    grind
  have hl : tzq (addq R' (sclq (-1) R)) < tzq B := by
    refine Nat.lt_of_le_of_lt (tzq_low (n := max (tzq R) (tzq R')) fun k hk => ?_) (by omega)
    rw [cfq_addq, cfq_sclq, cfq_ge_tzq R (by omega), cfq_ge_tzq R' (by omega)]
    grind
  by_cases h0 : tzq (addq Q (sclq (-1) Q')) = 0
  · have z1 := tzq_zero_iff.mp h0
    have z2 := tzq_zero_iff.mp ((tzq_eq_of_cf hE).symm.trans (tzq_mulq_zero (.inl h0)))
    refine ⟨PQ.ext fun k => ?_, PQ.ext fun k => ?_⟩
    · have := z1 k
      rw [cfq_addq, cfq_sclq] at this
      rw [pq_c, pq_c]
      grind
    · have := z2 k
      rw [cfq_addq, cfq_sclq] at this
      rw [pq_c, pq_c]
      grind
  · have h1 := tzq_mulq h0 hB
    rw [tzq_eq_of_cf hE] at h1
    omega
theorem lead_ne {B : List Rat} (tb : trimq B = B) (h0 : B.length ≠ 0) : cfq B (B.length - 1) ≠ 0 := by
  have ht := trimq_full tb
  have := cfq_tzq_pred (q := B) (by omega)
  rwa [ht] at this
/-- So many steps at most. -/
theorem dit_steps {A B : List Rat} {n s : Nat} (h0 : B.length ≠ 0) (hb : cfq B (B.length - 1) ≠ 0) (hj : ∀ j, j < n → B.length ≤ (dit A B j).length) (hs : A.length + 1 ≤ s + B.length) : n ≤ s := by
  cases n with
  | zero => omega
  | succ n =>
    have h1 := dit_len h0 hb n fun j h => hj j (by omega)
    have h2 := hj n (by omega)
    omega
/-- A division by steps that are counted. -/
theorem dv_steps {A B : List Rat} {D m M N s : Nat} (hA : CB D m M A) (hC : PB m N (clr B)) (hB : QB m M B) (ta : trimq A = A) (tb : trimq B = B) (h0 : B.length ≠ 0) (hs : A.length + 1 ≤ s + B.length) (hm : m ≤ 2 ^ 28) (hK : M + s * (N + 1) ≤ 2 ^ 32) (h1 : 1 ≤ M) : ∃ n, DV A B n (M + s * (N + 1)) := by
  have hb := lead_ne tb h0
  obtain ⟨n, en, hj, _⟩ := dit_end A h0 hb
  have hn := dit_steps h0 hb hj hs
  refine ⟨n, ⟨Nat.le_trans hA.l hm, Nat.le_trans hB.1 hm, h0, hb, ta, tb, en, hj, fun k hk i => ?_, fun i => ?_, by omega, hK⟩⟩
  · obtain ⟨E, hE⟩ := dit_cb hA hC h0 hb k fun j hjk => hj j (by omega)
    have h1 := hE.qb.cz (by omega) i
    have h2 : k * (N + 1) ≤ s * (N + 1) := Nat.mul_le_mul_right _ (by omega)
    omega
  · have := hB.cz h1 i
    omega

/-! ### The parts of a polynomial over the rationals -/
theorem crat_one_over (D : Nat) (hD : D ≠ 0) : qv ((false, [1]), wd D) = 1 / (D : Rat) := by
  rw [qv_eq, nv_wd]
  have : iv (false, [1]) = 1 := by decide
  rw [this]
  rfl
theorem pq_back (B : List Rat) : pq (sclq (1 / (cden B : Rat)) (qp (clr B))) = pq B := by
  rw [pq_sclq, pq_clr, ← PQ.mul_assoc, ← PQ.C_mul]
  have : 1 / (cden B : Rat) * (cden B : Rat) = 1 := Rat.div_mul_cancel (natr_ne (cden_ne B))
  rw [this, PQ.C_one, PQ.one_mul]
theorem pq_again (B : List Rat) : pq (sclq (partq B) (qp (prim (clr B)))) = pq B := PQ.ext fun k => by
  rw [pq_c, pq_c, cfq_sclq, cfq_qp]
  have h1 := cf_clr B k
  have h2 := cf_prim (clr B) k
  have h3 := natr_ne (cden_ne B)
  rw [h2, Rat.intCast_mul] at h1
  unfold partq
  rw [Rat.intCast_natCast]
  grind
theorem pq_monic {B : List Rat} {l : Rat} (h : l ≠ 0) : pq (sclq l (sclq (1 / l) B)) = pq B := PQ.ext fun k => by
  rw [pq_c, pq_c, cfq_sclq, cfq_sclq]; grind
theorem cden_int (q : List Int) : cden (qp q) = 1 := by
  have h : ∀ x ∈ dens (qp q), x ∣ 1 := fun x hx => by
    obtain ⟨c, hc, rfl⟩ := List.mem_map.1 hx
    obtain ⟨z, _, rfl⟩ := List.mem_map.1 hc
    rw [Rat.den_intCast]; exact Nat.dvd_refl 1
  have := lcmL_dvd (dens (qp q)) (dens (qp q)).length h
  rw [List.take_length] at this
  exact Nat.dvd_one.mp this
theorem cf_clr_int (q : List Int) (k : Nat) : cf (clr (qp q)) k = cf q k := by
  have h := cf_clr (qp q) k
  rw [cden_int, cfq_qp, show ((1 : Nat) : Rat) = 1 from rfl, Rat.mul_one] at h
  exact Rat.intCast_inj.mp h
/-- A primitive polynomial's part is itself. -/
theorem part_prim {q : List Int} (h : Prm q) : partq (qp q) = 1 ∧ ∀ k, cf (prim (clr (qp q))) k = cf q k := by
  have hc : ∀ k, cf (clr (qp q)) k = 1 * cf q k := fun k => by rw [cf_clr_int, Int.one_mul]
  refine ⟨?_, fun k => prim_of h (by decide) hc k⟩
  unfold partq
  rw [cont_of h hc, cden_int]
  decide +kernel
theorem prm_part {B : List Rat} (tb : trimq B = B) (h0 : B.length ≠ 0) : Prm (prim (clr B)) := prm_prim (cont_clr_ne tb h0)
/-- Its top coefficient lies above 0. -/
theorem prm_top {q : List Int} (h : Prm q) : (cn q).length ≠ 0 ∧ (cn q).length = tz q ∧ 0 < cf (trimz q) (tz q - 1) := by
  have h1 := lc_ne (q := q) (by rw [h.1]; omega)
  have h2 := h.2
  have e : (cn q).length = tz q := by rw [cn, List.length_map, trimz_len]
  refine ⟨by omega, e, ?_⟩
  rw [cf_trimz]
  exact h2
end Go.Proofs.YtcjnacpekbhhcaaGreat

namespace Go.Proofs.YtcjnacpekbhhcaaGreat
open Go Go.Proofs Go.AL
set_option linter.unusedSimpArgs false
set_option linter.unusedVariables false

theorem six0 : [[IV.int .i64 0], [IV.int .i64 0], [IV.int .i64 0], [IV.int .i64 0], [IV.int .i64 0], [IV.int .i64 0]] = ilims (List.replicate 6 0) := rfl

theorem ilims_rows1 (l : List Int) : (∀ r ∈ ilims l, r.length = 1) ↔ True := by simp [ilims]
theorem range_6 : List.range 6 = [0, 1, 2, 3, 4, 5] := rfl

end Go.Proofs.YtcjnacpekbhhcaaGreat

namespace Go.Proofs.YtcjnacpekbhhcaaGreat
open Go Go.Proofs Go.AL
set_option linter.unusedSimpArgs false
set_option linter.unusedVariables false

theorem five0 : [[IV.int .i64 0], [IV.int .i64 0], [IV.int .i64 0], [IV.int .i64 0], [IV.int .i64 0]] = ilims (List.replicate 5 0) := rfl
theorem range_5 : List.range 5 = [0, 1, 2, 3, 4] := rfl
theorem prm_ext {p q : List Int} (h : ∀ k, cf p k = cf q k) (hq : Prm q) : Prm p := by
  refine ⟨(gz_eq h).trans hq.1, ?_⟩
  have := hq.2
  unfold lc at this ⊢
  rwa [tz_eq_of_cf h, h]
theorem rest_size {n : Nat} (h : n ≤ 40) : 40 * 2 ^ 20 + 2 ^ 20 + 1 + n * (2 ^ 20 + 40 * 2 ^ 20 + 1 + 1) ≤ 2 ^ 30 + 2 ^ 29 + 2 ^ 28 := by
  have e : (2 ^ 20 + 40 * 2 ^ 20 + 1 + 1) = 42991618 := by decide
  rw [e]
  omega

set_option maxRecDepth 100000 in
set_option maxHeartbeats 2000000 in
theorem back10_good (a b c : List RQ) (ha : GQ 40 (2 ^ 20) a) (hb : GQ 40 (2 ^ 20) b) (hc : GQ 40 (2 ^ 20) c) (hb0 : (trimq (qvs b)).length ≠ 0) (p q r : List RQ) (fa : AC Tryz.prog 20 [cqw p] none [cqw a]) (fb : AC Tryz.prog 20 [cqw q] none [cqw b]) (fc : AC Tryz.prog 20 [cqw r] none [cqw c]) : AC Tryz.prog 5 [cqw p, cqw q, cqw r] none [cb true] := by
  have ga := tgood_ok a (ha.bq.mono (by omega) (by omega))
  have gb := tgood_ok b (hb.bq.mono (by omega) (by omega))
  have gc := tgood_ok c (hc.bq.mono (by omega) (by omega))
  rw [ha.gd] at ga
  rw [hb.gd] at gb
  rw [hc.gd] at gc
  have all5 := all0_ok 5 (by omega)
  have all6 := all0_ok 6 (by omega)
  have fb0 := tform_ok b (hb.mono (by omega) (by omega))
  have d1 := fun n K v => qdiv_ok c b (hc.mono (by omega) (by omega)) (hb.mono (by omega) (by omega)) n K v
  have p1 := qpmul_ok a b 40 (2 ^ 20) ha hb (by omega) (by omega) (by omega)
  have n5 := qpnorm_ok a (ha.mono (by omega) (by omega))
  have nb := qpnorm_ok b (hb.mono (by omega) (by omega))
  have cl1 := qclear_ok b 40 (2 ^ 20) hb (by omega) (by omega)
  have pt1 := qpart_ok b 40 (2 ^ 20) hb (by omega) (by omega)
  have mo := qmonic_ok b (2 ^ 20) (hb.mono (by omega) (by omega)) (by omega) (by omega) hb0
  have hA := ha.qb
  have hBq := hb.qb
  have hB := hb.qb.trimq
  have hC := hc.qb.trimq
  have tB := trimq_trimq (qvs b)
  have tC := trimq_trimq (qvs c)
  have eB : pq (trimq (qvs b)) = pq (qvs b) := pq_trimq _
  have sa := tsame_self ((hA.gqs.bq).mono (n' := 2 ^ 40) (k' := 2 ^ 40) (by omega) (by omega))
  have co := fun n => qCoef_ok b n (hb.mono (by omega) (by omega))
  have ecb : cqp (qvs b) = cqw ((trimq (qvs b)).map crat) := rfl
  rw [ecb] at fb0 nb
  -- the first division
  obtain ⟨D0, hD0⟩ := hC.cb
  have hBc := hB.clr
  have hlead := lead_ne tB hb0
  obtain ⟨n1, v1⟩ := dv_of hC hB tC tB hb0
  have d1 := d1 n1 (2 ^ 31) v1
  obtain ⟨E1, hE1⟩ := dit_cb hD0 hBc hb0 hlead n1 v1.hj
  have hn1 : n1 ≤ 40 := by
    have := dit_len hb0 hlead n1 v1.hj
    have := hC.1
    omega
  have hR := hE1.mono (m := 40) (N := 2 ^ 30 + 2 ^ 29 + 2 ^ 28) (Nat.le_refl _) (rest_size hn1)
  have tR := dit_trim (A := trimq (qvs c)) (B := trimq (qvs b)) tC n1
  have lR := v1.en
  generalize dit (trimq (qvs c)) (trimq (qvs b)) n1 = R at *
  generalize dqu (trimq (qvs c)) (trimq (qvs b)) n1 = Q1 at *
  -- the product and the rest
  have hRq : QB 40 (2 ^ 31) R := hR.qb.mono (Nat.le_refl _) (by omega)
  have mS : QB 80 (2 ^ 27) (mulq (qvs a) (qvs b)) := (QB.mulq (n := 40) (k := 2 ^ 20) (M := 41 * 2 ^ 20 + 1) hA hBq (by decide) (by omega) (by omega)).mono (by omega) (by omega)
  have p2 := qpadd_g (p := cqs (mulq (qvs a) (qvs b))) (q := R.map crat) (K := 2 ^ 31) (X := mulq (qvs a) (qvs b)) (Y := R) (mS.gqs.mono (by omega) (by omega)) (hRq.gq.mono (by omega) (by omega)) (by omega) (by omega) (pq_cqs _) (by rw [qvs_map])
  obtain ⟨DA, hDA⟩ := hA.cb
  obtain ⟨DB, hDB⟩ := hBq.cb
  have hP := ((hDA.mulq hDB).addq hR).trim.mono (m := 80) (N := 2 ^ 31) (by omega) (by omega)
  have eP : pq (trimq (addq (mulq (qvs a) (qvs b)) R)) = pq (qvs a) * pq (qvs b) + pq R := by rw [pq_trimq, pq_addq, pq_mulq]
  have tP := trimq_trimq (addq (mulq (qvs a) (qvs b)) R)
  have htB := trimq_full tB
  have htR := trimq_full tR
  have hlP : (trimq (addq (mulq (qvs a) (qvs b)) R)).length + 1 ≤ 40 + (trimq (qvs b)).length := by
    have hbl : tzq (qvs b) = (trimq (qvs b)).length := (trimq_len _).symm
    have hal : tzq (qvs a) ≤ 40 := Nat.le_trans (tzq_le _) hA.1
    rw [trimq_len]
    by_cases h0 : tzq (qvs a) = 0
    · have hz := tzq_zero_iff.mp (tzq_mulq_zero (p := qvs a) (q := qvs b) (.inl h0))
      have := tzq_low (q := addq (mulq (qvs a) (qvs b)) R) (n := R.length) fun k hk => by rw [cfq_addq, hz, cfq_ge hk, Rat.add_zero]
      omega
    · have ht := tzq_mulq h0 (show tzq (qvs b) ≠ 0 by omega)
      have := tzq_low (q := addq (mulq (qvs a) (qvs b)) R) (n := tzq (qvs a) + tzq (qvs b) - 1) fun k hk => by rw [cfq_addq, cfq_ge_tzq (mulq (qvs a) (qvs b)) (by omega), cfq_ge (q := R) (by omega), Rat.add_zero]
      omega
  obtain ⟨n2, v2⟩ := dv_steps (s := 40) hP (hBc.mono (n' := 80) (k' := 2 ^ 20 + 40 * 2 ^ 20 + 1) (by omega) (by omega)) (hB.mono (by omega) (by omega)) tP tB hb0 hlP (by omega) (by omega) (by omega)
  have hPq := hP.qb
  have d2 := qdiv_ok (cqs (addq (mulq (qvs a) (qvs b)) R)) b ((hPq.gq).mono (by omega) (by omega)) (hb.mono (by omega) (by omega)) n2 _ (by rw [qvs_cqs, tP]; exact v2)
  rw [qvs_cqs, tP] at d2
  have hu := div_unique (Q := dqu (trimq (addq (mulq (qvs a) (qvs b)) R)) (trimq (qvs b)) n2) (R := dit (trimq (addq (mulq (qvs a) (qvs b)) R)) (trimq (qvs b)) n2) (Q' := qvs a) (R' := R) (B := trimq (qvs b)) (by rw [← pq_dit, eP, eB]) (by omega) (by rw [trimq_full (dit_trim tP n2), htB]; exact v2.en) (by rw [htR, htB]; exact lR)
  have eR : dit (trimq (addq (mulq (qvs a) (qvs b)) R)) (trimq (qvs b)) n2 = R := by
    have h1 := dit_trim (B := trimq (qvs b)) tP n2
    have h2 := trimq_ext (pq_eq hu.2)
    rw [h1, tR] at h2
    exact h2
  rw [show cqp (dqu (trimq (addq (mulq (qvs a) (qvs b)) R)) (trimq (qvs b)) n2) = cqp (qvs a) from congrArg cqw (cqs_pq hu.1), eR] at d2
  have sR := tsame_self ((hRq.gq.bq).mono (n' := 2 ^ 40) (k' := 2 ^ 40) (by omega) (by omega))
  clear hu eR hlP v2 hP hPq eP tP htR
  have hlt : R.length < (trimq (qvs b)).length := lR
  -- the parts
  have hcl := cden_len hB
  have hcn := cden_ne (trimq (qvs b))
  have hprm := prm_part tB hb0
  have zc := zl_cont' hBc
  have zp : qz (partq (trimq (qvs b))) ≤ 2 ^ 30 := qz_divn hcn (by omega) (by omega)
  have hpb : PB 40 (2 ^ 20 + 40 * 2 ^ 20 + 1) (prim (clr (trimq (qvs b)))) := .of (by unfold prim pdivs; rw [List.length_map]; exact hBc.1) fun i => by
    unfold prim
    rw [cf_pdivs]
    exact Nat.le_trans (zl_div (cont_dvd _ i)) (hBc.cf i)
  have k1 := pq_back (trimq (qvs b))
  have k2 := pq_again (trimq (qvs b))
  have hwq := PB.ofZ hBc (by omega)
  have of1 := qof10_ok ((clr (trimq (qvs b))).map canon) ((RP.canon hBc).mono (by omega) (by omega))
  rw [pv_canon] at of1
  have sc1 := qscale_ok (cqs (qp (clr (trimq (qvs b))))) ((false, [1]), wd (cden (trimq (qvs b)))) (2 ^ 30) (hwq.gqs.mono (by omega) (by omega)) ⟨⟨show (1 : Nat) ≤ 2 ^ 30 by omega, by have := lim_wd 1; rwa [show wd 1 = [1] by decide +kernel] at this⟩, show (wd (cden (trimq (qvs b)))).length ≤ 2 ^ 30 by omega, lim_wd _⟩ (by rw [nv_wd]; exact hcn) (by omega) (by omega)
  rw [show cqp (sclq (qv ((false, [1]), wd (cden (trimq (qvs b))))) (qvs (cqs (qp (clr (trimq (qvs b))))))) = cqw ((trimq (qvs b)).map crat) from congrArg cqw ((cqs_pq (Y := qvs b) (by rw [crat_one_over _ hcn, pq_sclq, pq_cqs, ← pq_sclq, k1, eB])).trans rfl)] at sc1
  have hxq := PB.ofZ hpb (by omega)
  have hcz : canon (cf (prim (clr (trimq (qvs b)))) (tz (prim (clr (trimq (qvs b)))) - 1)) = (false, wd (cf (prim (clr (trimq (qvs b)))) (tz (prim (clr (trimq (qvs b)))) - 1)).natAbs) := by
    have := hprm.2
    unfold lc at this
    unfold canon
    rw [decide_eq_false (by omega)]
  have hpt := prm_top hprm
  generalize prim (clr (trimq (qvs b))) = Q at *
  have of2 := qof10_ok (cn Q) ((rp_cn hpb).mono (by omega) (by omega))
  rw [show pv (cn Q) = trimz Q from pv_canon _, show cw (cn Q) = cp Q from rfl] at of2
  have hxt : QB 40 (2 ^ 20 + 40 * 2 ^ 20 + 1) (qp (trimz Q)) := PB.ofZ hpb.trimz (by omega)
  have sc2 := qscale_ok (cqs (qp (trimz Q))) (crat (partq (trimq (qvs b)))) (2 ^ 30) (hxt.gqs.mono (by omega) (by omega)) (szq_crat zp) (nv_crat0 _) (by omega) (by omega)
  have eqt : pq (qp (trimz Q)) = pq (qp Q) := PQ.ext fun k => by rw [pq_c, pq_c, cfq_qp, cfq_qp, cf_trimz]
  rw [qv_crat, show cqp (sclq (partq (trimq (qvs b))) (qvs (cqs (qp (trimz Q))))) = cqw ((trimq (qvs b)).map crat) from congrArg cqw ((cqs_pq (Y := qvs b) (by rw [pq_sclq, pq_cqs, eqt, ← pq_sclq, k2, eB])).trans rfl)] at sc2
  have pt2 := qpart_ok (cqs (qp (trimz Q))) 40 (2 ^ 20 + 40 * 2 ^ 20 + 1) hxt.gqs (by omega) (by omega)
  have hpq := part_prim (q := trimz Q) (prm_ext (cf_trimz Q) hprm)
  rw [qvs_cqs, trimq_trimq, qp_trim, trimz_trimz, hpq.1, show cp (prim (clr (qp (trimz Q)))) = cp Q from cp_ext fun k => by rw [hpq.2, cf_trimz]] at pt2
  have zs := zsame_self ((rp_cn hpb).mono (n' := 2 ^ 40) (k' := 2 ^ 43) (by omega) (by omega))
  rw [show cw (cn Q) = cp Q from rfl] at zs
  -- the leading coefficient
  have hne := hlead
  have hlz := hB.cz (by omega) ((trimq (qvs b)).length - 1)
  have ecf : ∀ k, cfq (qvs b) k = cfq (trimq (qvs b)) k := fun k => (cfq_trimq _ k).symm
  have e1 : ((trimq (qvs b)).length : Int) - 1 = (((trimq (qvs b)).length - 1 : Nat) : Int) := by omega
  have co1 := co ((trimq (qvs b)).length - 1 : Nat)
  rw [if_neg (by omega), Int.toNat_natCast, ecf] at co1
  have zi := qz_inv (cfq (trimq (qvs b)) ((trimq (qvs b)).length - 1))
  have hM : QB 40 (2 ^ 22) (sclq (1 / cfq (trimq (qvs b)) ((trimq (qvs b)).length - 1)) (trimq (qvs b))) := .of (by simp [sclq]; exact hB.1) fun i => by
    rw [cfq_sclq]
    have h1 := qz_mul (cfq (trimq (qvs b)) i) (1 / cfq (trimq (qvs b)) ((trimq (qvs b)).length - 1))
    have h2 := hB.cz (by omega) i
    omega
  have sc3 := qscale_ok (cqs (sclq (1 / cfq (trimq (qvs b)) ((trimq (qvs b)).length - 1)) (trimq (qvs b)))) (crat (cfq (trimq (qvs b)) ((trimq (qvs b)).length - 1))) (2 ^ 22) (hM.gqs.mono (by omega) (by omega)) (szq_crat (by omega)) (nv_crat0 _) (by omega) (by omega)
  rw [qv_crat, show cqp (sclq (cfq (trimq (qvs b)) ((trimq (qvs b)).length - 1)) (qvs (cqs (sclq (1 / cfq (trimq (qvs b)) ((trimq (qvs b)).length - 1)) (trimq (qvs b)))))) = cqw ((trimq (qvs b)).map crat) from congrArg cqw ((cqs_pq (Y := qvs b) (by rw [pq_sclq, pq_cqs, ← pq_sclq, pq_monic hne, eB])).trans rfl)] at sc3
  have co2 := qCoef_ok (cqs (sclq (1 / cfq (trimq (qvs b)) ((trimq (qvs b)).length - 1)) (trimq (qvs b)))) ((trimq (qvs b)).length - 1 : Nat) (hM.gqs.mono (by omega) (by omega))
  rw [if_neg (by omega), Int.toNat_natCast, qvs_cqs, cfq_trimq (sclq _ _), cfq_sclq, show cfq (trimq (qvs b)) ((trimq (qvs b)).length - 1) * (1 / cfq (trimq (qvs b)) ((trimq (qvs b)).length - 1)) = 1 by grind] at co2
  have hpw : [IV.bool false, IV.sl [[IV.int .u64 1]]] = prow (false, [1]) := rfl
  have hBl : (trimq (qvs b)).length ≤ 40 := hB.1
  have hq0 : ¬ ((tz Q : Nat) : Int) = 0 := by have := hpt.1; have := hpt.2.1; omega
  have eq1 : ((tz Q : Nat) : Int) - 1 = ((tz Q - 1 : Nat) : Int) := by omega
  have htq : tz Q ≤ 40 := Nat.le_trans (tz_le Q) hpb.1
  have ecz : (cpoly Q).getD (tz Q - 1) [] = prow (false, wd (cf (trimz Q) (tz Q - 1)).natAbs) := by
    have h1 : tz Q - 1 < (trimz Q).length := by rw [trimz_len]; have := hpt.1; have := hpt.2.1; omega
    have h2 : canon (cf (trimz Q) (tz Q - 1)) = (false, wd (cf (trimz Q) (tz Q - 1)).natAbs) := by
      unfold canon
      rw [decide_eq_false (by have := hpt.2.2; omega)]
    rw [← h2]
    simp [cpoly, raws, cf, List.getD, h1]
  have s1 := same_self (szq_crat (q := 1) (k := 2 ^ 43) (by rw [qz_one]; omega))
  have sb := tsame_self ((hB.gq.bq).mono (n' := 2 ^ 40) (k' := 2 ^ 40) (by omega) (by omega))
  have hqb : ((trimq (qvs b)).map crat).length = (trimq (qvs b)).length := List.length_map _
  have hqr : (R.map crat).length = R.length := List.length_map _
  have hb0' : ¬ ((trimq (qvs b)).length : Int) = 0 := by omega
  have hlt' : ¬ ((trimq (qvs b)).length : Int) ≤ (R.length : Int) := by omega
  refine AC.by_walk (rs := [.tmp 6]) ords Tryz.func5 (by rfl) (by rfl) (by rfl) (by rfl) (by rfl) ?_
  simp (disch := omega) only [wk, tis, Int.reduceNe, Int.reduceEq, Int.reduceLT, Int.reduceLE, Int.reduceAdd, Int.reduceSub, Int.reduceNeg, Int.reduceMul, Int.reduceToNat, Nat.reduceSub, Nat.reduceMul, Nat.reduceLeDiff, Nat.reduceAdd, Nat.reduceLT, Nat.reduceEqDiff, reduceCtorEq, ↓reduceIte, rqs, cpoly_len]
  refine call_by (known_ok) (by rfl) (by simp) ?_
  simp (disch := omega) only [wk, tis, Int.reduceNe, Int.reduceEq, Int.reduceLT, Int.reduceLE, Int.reduceAdd, Int.reduceSub, Int.reduceNeg, Int.reduceMul, Int.reduceToNat, Nat.reduceSub, Nat.reduceMul, Nat.reduceLeDiff, Nat.reduceAdd, Nat.reduceLT, Nat.reduceEqDiff, reduceCtorEq, ↓reduceIte, rqs, cpoly_len]
  refine call_by (fa) (by rfl) (by simp) ?_
  simp (disch := omega) only [wk, tis, Int.reduceNe, Int.reduceEq, Int.reduceLT, Int.reduceLE, Int.reduceAdd, Int.reduceSub, Int.reduceNeg, Int.reduceMul, Int.reduceToNat, Nat.reduceSub, Nat.reduceMul, Nat.reduceLeDiff, Nat.reduceAdd, Nat.reduceLT, Nat.reduceEqDiff, reduceCtorEq, ↓reduceIte, rqs, cpoly_len]
  refine call_by (fb) (by rfl) (by simp) ?_
  simp (disch := omega) only [wk, tis, Int.reduceNe, Int.reduceEq, Int.reduceLT, Int.reduceLE, Int.reduceAdd, Int.reduceSub, Int.reduceNeg, Int.reduceMul, Int.reduceToNat, Nat.reduceSub, Nat.reduceMul, Nat.reduceLeDiff, Nat.reduceAdd, Nat.reduceLT, Nat.reduceEqDiff, reduceCtorEq, ↓reduceIte, rqs, cpoly_len]
  refine call_by (fc) (by rfl) (by simp) ?_
  simp (disch := omega) only [wk, tis, Int.reduceNe, Int.reduceEq, Int.reduceLT, Int.reduceLE, Int.reduceAdd, Int.reduceSub, Int.reduceNeg, Int.reduceMul, Int.reduceToNat, Nat.reduceSub, Nat.reduceMul, Nat.reduceLeDiff, Nat.reduceAdd, Nat.reduceLT, Nat.reduceEqDiff, reduceCtorEq, ↓reduceIte, rqs, cpoly_len]
  refine call_by (ga) (by rfl) (by simp) ?_
  simp (disch := omega) only [wk, tis, Int.reduceNe, Int.reduceEq, Int.reduceLT, Int.reduceLE, Int.reduceAdd, Int.reduceSub, Int.reduceNeg, Int.reduceMul, Int.reduceToNat, Nat.reduceSub, Nat.reduceMul, Nat.reduceLeDiff, Nat.reduceAdd, Nat.reduceLT, Nat.reduceEqDiff, reduceCtorEq, ↓reduceIte, rqs, cpoly_len]
  refine call_by (gb) (by rfl) (by simp) ?_
  simp (disch := omega) only [wk, tis, Int.reduceNe, Int.reduceEq, Int.reduceLT, Int.reduceLE, Int.reduceAdd, Int.reduceSub, Int.reduceNeg, Int.reduceMul, Int.reduceToNat, Nat.reduceSub, Nat.reduceMul, Nat.reduceLeDiff, Nat.reduceAdd, Nat.reduceLT, Nat.reduceEqDiff, reduceCtorEq, ↓reduceIte, rqs, cpoly_len]
  refine call_by (gc) (by rfl) (by simp) ?_
  simp (disch := omega) only [wk, tis, Int.reduceNe, Int.reduceEq, Int.reduceLT, Int.reduceLE, Int.reduceAdd, Int.reduceSub, Int.reduceNeg, Int.reduceMul, Int.reduceToNat, Nat.reduceSub, Nat.reduceMul, Nat.reduceLeDiff, Nat.reduceAdd, Nat.reduceLT, Nat.reduceEqDiff, reduceCtorEq, ↓reduceIte, rqs, cpoly_len]
  refine call_by (fb0) (by first | rfl | (simp only [tocvs, tocv, hqb, hb0']; rfl) | (simp only [tocvs, tocv, toboxes, tobox, updH_at, Nat.reduceEqDiff, ↓reduceIte, hqb, hb0']; rfl)) (by simp) ?_
  simp (disch := omega) only [wk, tis, Int.reduceNe, Int.reduceEq, Int.reduceLT, Int.reduceLE, Int.reduceAdd, Int.reduceSub, Int.reduceNeg, Int.reduceMul, Int.reduceToNat, Nat.reduceSub, Nat.reduceMul, Nat.reduceLeDiff, Nat.reduceAdd, Nat.reduceLT, Nat.reduceEqDiff, reduceCtorEq, ↓reduceIte, rqs, cpoly_len, hqb, hb0']
  refine call_by (d1) (by rfl) (by simp) ?_
  simp (disch := omega) only [wk, tis, Int.reduceNe, Int.reduceEq, Int.reduceLT, Int.reduceLE, Int.reduceAdd, Int.reduceSub, Int.reduceNeg, Int.reduceMul, Int.reduceToNat, Nat.reduceSub, Nat.reduceMul, Nat.reduceLeDiff, Nat.reduceAdd, Nat.reduceLT, Nat.reduceEqDiff, reduceCtorEq, ↓reduceIte, rqs, cpoly_len]
  refine call_by (p1) (by rfl) (by simp) ?_
  simp (disch := omega) only [wk, tis, Int.reduceNe, Int.reduceEq, Int.reduceLT, Int.reduceLE, Int.reduceAdd, Int.reduceSub, Int.reduceNeg, Int.reduceMul, Int.reduceToNat, Nat.reduceSub, Nat.reduceMul, Nat.reduceLeDiff, Nat.reduceAdd, Nat.reduceLT, Nat.reduceEqDiff, reduceCtorEq, ↓reduceIte, rqs, cpoly_len]
  refine call_by (p2) (by rfl) (by simp) ?_
  simp (disch := omega) only [wk, tis, Int.reduceNe, Int.reduceEq, Int.reduceLT, Int.reduceLE, Int.reduceAdd, Int.reduceSub, Int.reduceNeg, Int.reduceMul, Int.reduceToNat, Nat.reduceSub, Nat.reduceMul, Nat.reduceLeDiff, Nat.reduceAdd, Nat.reduceLT, Nat.reduceEqDiff, reduceCtorEq, ↓reduceIte, rqs, cpoly_len]
  refine call_by (d2) (by rfl) (by simp) ?_
  simp (disch := omega) only [wk, tis, Int.reduceNe, Int.reduceEq, Int.reduceLT, Int.reduceLE, Int.reduceAdd, Int.reduceSub, Int.reduceNeg, Int.reduceMul, Int.reduceToNat, Nat.reduceSub, Nat.reduceMul, Nat.reduceLeDiff, Nat.reduceAdd, Nat.reduceLT, Nat.reduceEqDiff, reduceCtorEq, ↓reduceIte, rqs, cpoly_len]
  refine call_by (n5) (by first | rfl | (simp only [tocvs, tocv, five0, ilims_rows1, range_5]; rfl) | (simp only [tocvs, tocv, toboxes, tobox, updH_at, Nat.reduceEqDiff, ↓reduceIte, five0, ilims_rows1, range_5]; rfl)) (by simp) ?_
  simp (disch := omega) only [wk, tis, Int.reduceNe, Int.reduceEq, Int.reduceLT, Int.reduceLE, Int.reduceAdd, Int.reduceSub, Int.reduceNeg, Int.reduceMul, Int.reduceToNat, Nat.reduceSub, Nat.reduceMul, Nat.reduceLeDiff, Nat.reduceAdd, Nat.reduceLT, Nat.reduceEqDiff, reduceCtorEq, ↓reduceIte, rqs, cpoly_len, five0, ilims_rows1, range_5]
  refine call_by (all5) (by rfl) (by simp) ?_
  simp (disch := omega) only [wk, tis, Int.reduceNe, Int.reduceEq, Int.reduceLT, Int.reduceLE, Int.reduceAdd, Int.reduceSub, Int.reduceNeg, Int.reduceMul, Int.reduceToNat, Nat.reduceSub, Nat.reduceMul, Nat.reduceLeDiff, Nat.reduceAdd, Nat.reduceLT, Nat.reduceEqDiff, reduceCtorEq, ↓reduceIte, rqs, cpoly_len]
  refine call_by (sa) (by rfl) (by simp) ?_
  simp (disch := omega) only [wk, tis, Int.reduceNe, Int.reduceEq, Int.reduceLT, Int.reduceLE, Int.reduceAdd, Int.reduceSub, Int.reduceNeg, Int.reduceMul, Int.reduceToNat, Nat.reduceSub, Nat.reduceMul, Nat.reduceLeDiff, Nat.reduceAdd, Nat.reduceLT, Nat.reduceEqDiff, reduceCtorEq, ↓reduceIte, rqs, cpoly_len]
  refine call_by (sR) (by rfl) (by simp) ?_
  simp (disch := omega) only [wk, tis, Int.reduceNe, Int.reduceEq, Int.reduceLT, Int.reduceLE, Int.reduceAdd, Int.reduceSub, Int.reduceNeg, Int.reduceMul, Int.reduceToNat, Nat.reduceSub, Nat.reduceMul, Nat.reduceLeDiff, Nat.reduceAdd, Nat.reduceLT, Nat.reduceEqDiff, reduceCtorEq, ↓reduceIte, rqs, cpoly_len]
  refine call_by (fb0) (by first | rfl | (simp only [tocvs, tocv, hqb, hqr, hlt']; rfl) | (simp only [tocvs, tocv, toboxes, tobox, updH_at, Nat.reduceEqDiff, ↓reduceIte, hqb, hqr, hlt']; rfl)) (by simp) ?_
  simp (disch := omega) only [wk, tis, Int.reduceNe, Int.reduceEq, Int.reduceLT, Int.reduceLE, Int.reduceAdd, Int.reduceSub, Int.reduceNeg, Int.reduceMul, Int.reduceToNat, Nat.reduceSub, Nat.reduceMul, Nat.reduceLeDiff, Nat.reduceAdd, Nat.reduceLT, Nat.reduceEqDiff, reduceCtorEq, ↓reduceIte, rqs, cpoly_len, hqb, hqr, hlt']
  refine call_by (cl1) (by rfl) (by simp) ?_
  simp (disch := omega) only [wk, tis, Int.reduceNe, Int.reduceEq, Int.reduceLT, Int.reduceLE, Int.reduceAdd, Int.reduceSub, Int.reduceNeg, Int.reduceMul, Int.reduceToNat, Nat.reduceSub, Nat.reduceMul, Nat.reduceLeDiff, Nat.reduceAdd, Nat.reduceLT, Nat.reduceEqDiff, reduceCtorEq, ↓reduceIte, rqs, cpoly_len]
  refine call_by (pt1) (by rfl) (by simp) ?_
  simp (disch := omega) only [wk, tis, Int.reduceNe, Int.reduceEq, Int.reduceLT, Int.reduceLE, Int.reduceAdd, Int.reduceSub, Int.reduceNeg, Int.reduceMul, Int.reduceToNat, Nat.reduceSub, Nat.reduceMul, Nat.reduceLeDiff, Nat.reduceAdd, Nat.reduceLT, Nat.reduceEqDiff, reduceCtorEq, ↓reduceIte, rqs, cpoly_len]
  refine call_by (of1) (by first | rfl | (simp only [tocvs, tocv, hpw]; rfl) | (simp only [tocvs, tocv, toboxes, tobox, updH_at, Nat.reduceEqDiff, ↓reduceIte, hpw]; rfl)) (by simp) ?_
  simp (disch := omega) only [wk, tis, Int.reduceNe, Int.reduceEq, Int.reduceLT, Int.reduceLE, Int.reduceAdd, Int.reduceSub, Int.reduceNeg, Int.reduceMul, Int.reduceToNat, Nat.reduceSub, Nat.reduceMul, Nat.reduceLeDiff, Nat.reduceAdd, Nat.reduceLT, Nat.reduceEqDiff, reduceCtorEq, ↓reduceIte, rqs, cpoly_len, hpw]
  refine call_by (sc1) (by first | rfl | (simp only [tocvs, tocv, hpw]; rfl) | (simp only [tocvs, tocv, toboxes, tobox, updH_at, Nat.reduceEqDiff, ↓reduceIte, hpw]; rfl)) (by simp) ?_
  simp (disch := omega) only [wk, tis, Int.reduceNe, Int.reduceEq, Int.reduceLT, Int.reduceLE, Int.reduceAdd, Int.reduceSub, Int.reduceNeg, Int.reduceMul, Int.reduceToNat, Nat.reduceSub, Nat.reduceMul, Nat.reduceLeDiff, Nat.reduceAdd, Nat.reduceLT, Nat.reduceEqDiff, reduceCtorEq, ↓reduceIte, rqs, cpoly_len, hpw]
  refine ⟨tmps_by (by kernel_rfl), ?_⟩
  refine call_by (of2) (by rfl) (by simp) ?_
  simp (disch := omega) only [wk, tis, Int.reduceNe, Int.reduceEq, Int.reduceLT, Int.reduceLE, Int.reduceAdd, Int.reduceSub, Int.reduceNeg, Int.reduceMul, Int.reduceToNat, Nat.reduceSub, Nat.reduceMul, Nat.reduceLeDiff, Nat.reduceAdd, Nat.reduceLT, Nat.reduceEqDiff, reduceCtorEq, ↓reduceIte, rqs, cpoly_len]
  refine call_by (sc2) (by rfl) (by simp) ?_
  simp (disch := omega) only [wk, tis, Int.reduceNe, Int.reduceEq, Int.reduceLT, Int.reduceLE, Int.reduceAdd, Int.reduceSub, Int.reduceNeg, Int.reduceMul, Int.reduceToNat, Nat.reduceSub, Nat.reduceMul, Nat.reduceLeDiff, Nat.reduceAdd, Nat.reduceLT, Nat.reduceEqDiff, reduceCtorEq, ↓reduceIte, rqs, cpoly_len]
  first | exact log_by (by kernel_rfl) | refine ⟨log_by (by kernel_rfl), ?_⟩
  refine call_by (nb) (by rfl) (by simp) ?_
  simp (disch := omega) only [wk, tis, Int.reduceNe, Int.reduceEq, Int.reduceLT, Int.reduceLE, Int.reduceAdd, Int.reduceSub, Int.reduceNeg, Int.reduceMul, Int.reduceToNat, Nat.reduceSub, Nat.reduceMul, Nat.reduceLeDiff, Nat.reduceAdd, Nat.reduceLT, Nat.reduceEqDiff, reduceCtorEq, ↓reduceIte, rqs, cpoly_len]
  refine call_by (mo) (by first | rfl | (simp only [tocvs, tocv, six0, ilims_rows1, range_6]; rfl) | (simp only [tocvs, tocv, toboxes, tobox, updH_at, Nat.reduceEqDiff, ↓reduceIte, six0, ilims_rows1, range_6]; rfl)) (by simp) ?_
  simp (disch := omega) only [wk, tis, Int.reduceNe, Int.reduceEq, Int.reduceLT, Int.reduceLE, Int.reduceAdd, Int.reduceSub, Int.reduceNeg, Int.reduceMul, Int.reduceToNat, Nat.reduceSub, Nat.reduceMul, Nat.reduceLeDiff, Nat.reduceAdd, Nat.reduceLT, Nat.reduceEqDiff, reduceCtorEq, ↓reduceIte, rqs, cpoly_len, six0, ilims_rows1, range_6]
  refine call_by (all6) (by first | rfl | (simp only [tocvs, tocv, six0, ilims_rows1, range_6]; rfl) | (simp only [tocvs, tocv, toboxes, tobox, updH_at, Nat.reduceEqDiff, ↓reduceIte, six0, ilims_rows1, range_6]; rfl)) (by simp) ?_
  simp (disch := omega) only [wk, tis, Int.reduceNe, Int.reduceEq, Int.reduceLT, Int.reduceLE, Int.reduceAdd, Int.reduceSub, Int.reduceNeg, Int.reduceMul, Int.reduceToNat, Nat.reduceSub, Nat.reduceMul, Nat.reduceLeDiff, Nat.reduceAdd, Nat.reduceLT, Nat.reduceEqDiff, reduceCtorEq, ↓reduceIte, rqs, cpoly_len, six0, ilims_rows1, range_6]
  refine call_by (sb) (by rfl) (by simp) ?_
  simp (disch := omega) only [wk, tis, Int.reduceNe, Int.reduceEq, Int.reduceLT, Int.reduceLE, Int.reduceAdd, Int.reduceSub, Int.reduceNeg, Int.reduceMul, Int.reduceToNat, Nat.reduceSub, Nat.reduceMul, Nat.reduceLeDiff, Nat.reduceAdd, Nat.reduceLT, Nat.reduceEqDiff, reduceCtorEq, ↓reduceIte, rqs, cpoly_len]
  refine call_by (sb) (by first | rfl | (simp only [tocvs, tocv, cpoly_len, hq0, eq1, ecz]; rfl) | (simp only [tocvs, tocv, toboxes, tobox, updH_at, Nat.reduceEqDiff, ↓reduceIte, cpoly_len, hq0, eq1, ecz]; rfl)) (by simp) ?_
  simp (disch := omega) only [wk, tis, Int.reduceNe, Int.reduceEq, Int.reduceLT, Int.reduceLE, Int.reduceAdd, Int.reduceSub, Int.reduceNeg, Int.reduceMul, Int.reduceToNat, Nat.reduceSub, Nat.reduceMul, Nat.reduceLeDiff, Nat.reduceAdd, Nat.reduceLT, Nat.reduceEqDiff, reduceCtorEq, ↓reduceIte, rqs, cpoly_len, cpoly_len, hq0, eq1, ecz]
  refine call_by (co1) (by first | rfl | (simp only [tocvs, tocv, hqb, e1]; rfl) | (simp only [tocvs, tocv, toboxes, tobox, updH_at, Nat.reduceEqDiff, ↓reduceIte, hqb, e1]; rfl)) (by simp) ?_
  simp (disch := omega) only [wk, tis, Int.reduceNe, Int.reduceEq, Int.reduceLT, Int.reduceLE, Int.reduceAdd, Int.reduceSub, Int.reduceNeg, Int.reduceMul, Int.reduceToNat, Nat.reduceSub, Nat.reduceMul, Nat.reduceLeDiff, Nat.reduceAdd, Nat.reduceLT, Nat.reduceEqDiff, reduceCtorEq, ↓reduceIte, rqs, cpoly_len, hqb, e1]
  refine call_by (sc3) (by first | rfl | (simp only [tocvs, tocv, hqb, e1]; rfl) | (simp only [tocvs, tocv, toboxes, tobox, updH_at, Nat.reduceEqDiff, ↓reduceIte, hqb, e1]; rfl)) (by simp) ?_
  simp (disch := omega) only [wk, tis, Int.reduceNe, Int.reduceEq, Int.reduceLT, Int.reduceLE, Int.reduceAdd, Int.reduceSub, Int.reduceNeg, Int.reduceMul, Int.reduceToNat, Nat.reduceSub, Nat.reduceMul, Nat.reduceLeDiff, Nat.reduceAdd, Nat.reduceLT, Nat.reduceEqDiff, reduceCtorEq, ↓reduceIte, rqs, cpoly_len, hqb, e1]
  refine call_by (co2) (by first | rfl | (simp only [tocvs, tocv, hqb, e1]; rfl) | (simp only [tocvs, tocv, toboxes, tobox, updH_at, Nat.reduceEqDiff, ↓reduceIte, hqb, e1]; rfl)) (by simp) ?_
  simp (disch := omega) only [wk, tis, Int.reduceNe, Int.reduceEq, Int.reduceLT, Int.reduceLE, Int.reduceAdd, Int.reduceSub, Int.reduceNeg, Int.reduceMul, Int.reduceToNat, Nat.reduceSub, Nat.reduceMul, Nat.reduceLeDiff, Nat.reduceAdd, Nat.reduceLT, Nat.reduceEqDiff, reduceCtorEq, ↓reduceIte, rqs, cpoly_len, hqb, e1]
  refine call_by (of2) (by rfl) (by simp) ?_
  simp (disch := omega) only [wk, tis, Int.reduceNe, Int.reduceEq, Int.reduceLT, Int.reduceLE, Int.reduceAdd, Int.reduceSub, Int.reduceNeg, Int.reduceMul, Int.reduceToNat, Nat.reduceSub, Nat.reduceMul, Nat.reduceLeDiff, Nat.reduceAdd, Nat.reduceLT, Nat.reduceEqDiff, reduceCtorEq, ↓reduceIte, rqs, cpoly_len]
  refine call_by (pt2) (by rfl) (by simp) ?_
  simp (disch := omega) only [wk, tis, Int.reduceNe, Int.reduceEq, Int.reduceLT, Int.reduceLE, Int.reduceAdd, Int.reduceSub, Int.reduceNeg, Int.reduceMul, Int.reduceToNat, Nat.reduceSub, Nat.reduceMul, Nat.reduceLeDiff, Nat.reduceAdd, Nat.reduceLT, Nat.reduceEqDiff, reduceCtorEq, ↓reduceIte, rqs, cpoly_len]
  refine call_by (of2) (by rfl) (by simp) ?_
  simp (disch := omega) only [wk, tis, Int.reduceNe, Int.reduceEq, Int.reduceLT, Int.reduceLE, Int.reduceAdd, Int.reduceSub, Int.reduceNeg, Int.reduceMul, Int.reduceToNat, Nat.reduceSub, Nat.reduceMul, Nat.reduceLeDiff, Nat.reduceAdd, Nat.reduceLT, Nat.reduceEqDiff, reduceCtorEq, ↓reduceIte, rqs, cpoly_len]
  refine call_by (pt2) (by first | rfl | (simp only [tocvs, tocv, five0, ilims_rows1, range_5]; rfl) | (simp only [tocvs, tocv, toboxes, tobox, updH_at, Nat.reduceEqDiff, ↓reduceIte, five0, ilims_rows1, range_5]; rfl)) (by simp) ?_
  simp (disch := omega) only [wk, tis, Int.reduceNe, Int.reduceEq, Int.reduceLT, Int.reduceLE, Int.reduceAdd, Int.reduceSub, Int.reduceNeg, Int.reduceMul, Int.reduceToNat, Nat.reduceSub, Nat.reduceMul, Nat.reduceLeDiff, Nat.reduceAdd, Nat.reduceLT, Nat.reduceEqDiff, reduceCtorEq, ↓reduceIte, rqs, cpoly_len, five0, ilims_rows1, range_5]
  refine ⟨tmps_by (by kernel_rfl), ?_⟩
  refine call_by (all5) (by first | rfl | (simp only [tocvs, tocv, five0, ilims_rows1, range_5]; rfl) | (simp only [tocvs, tocv, toboxes, tobox, updH_at, Nat.reduceEqDiff, ↓reduceIte, five0, ilims_rows1, range_5]; rfl)) (by simp) ?_
  simp (disch := omega) only [wk, tis, Int.reduceNe, Int.reduceEq, Int.reduceLT, Int.reduceLE, Int.reduceAdd, Int.reduceSub, Int.reduceNeg, Int.reduceMul, Int.reduceToNat, Nat.reduceSub, Nat.reduceMul, Nat.reduceLeDiff, Nat.reduceAdd, Nat.reduceLT, Nat.reduceEqDiff, reduceCtorEq, ↓reduceIte, rqs, cpoly_len, five0, ilims_rows1, range_5]
  refine call_by (sb) (by rfl) (by simp) ?_
  simp (disch := omega) only [wk, tis, Int.reduceNe, Int.reduceEq, Int.reduceLT, Int.reduceLE, Int.reduceAdd, Int.reduceSub, Int.reduceNeg, Int.reduceMul, Int.reduceToNat, Nat.reduceSub, Nat.reduceMul, Nat.reduceLeDiff, Nat.reduceAdd, Nat.reduceLT, Nat.reduceEqDiff, reduceCtorEq, ↓reduceIte, rqs, cpoly_len]
  refine call_by (hone_ok) (by rfl) (by simp) ?_
  simp (disch := omega) only [wk, tis, Int.reduceNe, Int.reduceEq, Int.reduceLT, Int.reduceLE, Int.reduceAdd, Int.reduceSub, Int.reduceNeg, Int.reduceMul, Int.reduceToNat, Nat.reduceSub, Nat.reduceMul, Nat.reduceLeDiff, Nat.reduceAdd, Nat.reduceLT, Nat.reduceEqDiff, reduceCtorEq, ↓reduceIte, rqs, cpoly_len]
  refine call_by (s1) (by rfl) (by simp) ?_
  simp (disch := omega) only [wk, tis, Int.reduceNe, Int.reduceEq, Int.reduceLT, Int.reduceLE, Int.reduceAdd, Int.reduceSub, Int.reduceNeg, Int.reduceMul, Int.reduceToNat, Nat.reduceSub, Nat.reduceMul, Nat.reduceLeDiff, Nat.reduceAdd, Nat.reduceLT, Nat.reduceEqDiff, reduceCtorEq, ↓reduceIte, rqs, cpoly_len]
  refine call_by (zs) (by rfl) (by simp) ?_
  simp (disch := omega) only [wk, tis, Int.reduceNe, Int.reduceEq, Int.reduceLT, Int.reduceLE, Int.reduceAdd, Int.reduceSub, Int.reduceNeg, Int.reduceMul, Int.reduceToNat, Nat.reduceSub, Nat.reduceMul, Nat.reduceLeDiff, Nat.reduceAdd, Nat.reduceLT, Nat.reduceEqDiff, reduceCtorEq, ↓reduceIte, rqs, cpoly_len]
  refine call_by (hone_ok) (by rfl) (by simp) ?_
  simp (disch := omega) only [wk, tis, Int.reduceNe, Int.reduceEq, Int.reduceLT, Int.reduceLE, Int.reduceAdd, Int.reduceSub, Int.reduceNeg, Int.reduceMul, Int.reduceToNat, Nat.reduceSub, Nat.reduceMul, Nat.reduceLeDiff, Nat.reduceAdd, Nat.reduceLT, Nat.reduceEqDiff, reduceCtorEq, ↓reduceIte, rqs, cpoly_len]
  refine call_by (s1) (by rfl) (by simp) ?_
  simp (disch := omega) only [wk, tis, Int.reduceNe, Int.reduceEq, Int.reduceLT, Int.reduceLE, Int.reduceAdd, Int.reduceSub, Int.reduceNeg, Int.reduceMul, Int.reduceToNat, Nat.reduceSub, Nat.reduceMul, Nat.reduceLeDiff, Nat.reduceAdd, Nat.reduceLT, Nat.reduceEqDiff, reduceCtorEq, ↓reduceIte, rqs, cpoly_len]
  first | exact log_by (by kernel_rfl) | refine ⟨log_by (by kernel_rfl), ?_⟩
  try rfl

theorem back10_law (p q r : List RQ) (hp : BQ 1048576 1048576 p) (hq : BQ 1048576 1048576 q) (hr : BQ 1048576 1048576 r) : AC Tryz.prog 5 [cqw p, cqw q, cqw r] none [cb true] := by
  have fa := few10_ok p (Nat.le_trans hp.1 (by omega))
  have fb := few10_ok q (Nat.le_trans hq.1 (by omega))
  have fc := few10_ok r (Nat.le_trans hr.1 (by omega))
  have ha : BQ 40 (2 ^ 20) (p.take 40) := hp.few
  have hb : BQ 40 (2 ^ 20) (q.take 40) := hq.few
  have hc : BQ 40 (2 ^ 20) (r.take 40) := hr.few
  generalize p.take 40 = a at *
  generalize q.take 40 = b at *
  generalize r.take 40 = c at *
  have g1 := tgood_ok a (ha.mono (by omega) (by omega))
  have g2 := tgood_ok b (hb.mono (by omega) (by omega))
  have g3 := tgood_ok c (hc.mono (by omega) (by omega))
  cases hga : gd a with
  | false =>
    rw [hga] at g1
    have dv := qdiv_bad a b (ha.mono (by omega) (by omega)) (hb.mono (by omega) (by omega)) (.inl hga)
    refine AC.by_walk (rs := [.tmp 6]) ords Tryz.func5 (by rfl) (by rfl) (by rfl) (by rfl) (by rfl) ?_
    simp (disch := omega) only [wk, tis, Int.reduceNe, Int.reduceEq, Int.reduceLT, Int.reduceLE, Int.reduceAdd, Int.reduceSub, Int.reduceNeg, Int.reduceMul, Int.reduceToNat, Nat.reduceSub, Nat.reduceMul, Nat.reduceLeDiff, Nat.reduceAdd, Nat.reduceLT, Nat.reduceEqDiff, reduceCtorEq, ↓reduceIte, rqs, cpoly_len]
    refine call_by (known_ok) (by rfl) (by simp) ?_
    simp (disch := omega) only [wk, tis, Int.reduceNe, Int.reduceEq, Int.reduceLT, Int.reduceLE, Int.reduceAdd, Int.reduceSub, Int.reduceNeg, Int.reduceMul, Int.reduceToNat, Nat.reduceSub, Nat.reduceMul, Nat.reduceLeDiff, Nat.reduceAdd, Nat.reduceLT, Nat.reduceEqDiff, reduceCtorEq, ↓reduceIte, rqs, cpoly_len]
    refine call_by (fa) (by rfl) (by simp) ?_
    simp (disch := omega) only [wk, tis, Int.reduceNe, Int.reduceEq, Int.reduceLT, Int.reduceLE, Int.reduceAdd, Int.reduceSub, Int.reduceNeg, Int.reduceMul, Int.reduceToNat, Nat.reduceSub, Nat.reduceMul, Nat.reduceLeDiff, Nat.reduceAdd, Nat.reduceLT, Nat.reduceEqDiff, reduceCtorEq, ↓reduceIte, rqs, cpoly_len]
    refine call_by (fb) (by rfl) (by simp) ?_
    simp (disch := omega) only [wk, tis, Int.reduceNe, Int.reduceEq, Int.reduceLT, Int.reduceLE, Int.reduceAdd, Int.reduceSub, Int.reduceNeg, Int.reduceMul, Int.reduceToNat, Nat.reduceSub, Nat.reduceMul, Nat.reduceLeDiff, Nat.reduceAdd, Nat.reduceLT, Nat.reduceEqDiff, reduceCtorEq, ↓reduceIte, rqs, cpoly_len]
    refine call_by (fc) (by rfl) (by simp) ?_
    simp (disch := omega) only [wk, tis, Int.reduceNe, Int.reduceEq, Int.reduceLT, Int.reduceLE, Int.reduceAdd, Int.reduceSub, Int.reduceNeg, Int.reduceMul, Int.reduceToNat, Nat.reduceSub, Nat.reduceMul, Nat.reduceLeDiff, Nat.reduceAdd, Nat.reduceLT, Nat.reduceEqDiff, reduceCtorEq, ↓reduceIte, rqs, cpoly_len]
    refine call_by (g1) (by rfl) (by simp) ?_
    simp (disch := omega) only [wk, tis, Int.reduceNe, Int.reduceEq, Int.reduceLT, Int.reduceLE, Int.reduceAdd, Int.reduceSub, Int.reduceNeg, Int.reduceMul, Int.reduceToNat, Nat.reduceSub, Nat.reduceMul, Nat.reduceLeDiff, Nat.reduceAdd, Nat.reduceLT, Nat.reduceEqDiff, reduceCtorEq, ↓reduceIte, rqs, cpoly_len]
    refine call_by (dv) (by rfl) (by simp) ?_
    simp (disch := omega) only [wk, tis, Int.reduceNe, Int.reduceEq, Int.reduceLT, Int.reduceLE, Int.reduceAdd, Int.reduceSub, Int.reduceNeg, Int.reduceMul, Int.reduceToNat, Nat.reduceSub, Nat.reduceMul, Nat.reduceLeDiff, Nat.reduceAdd, Nat.reduceLT, Nat.reduceEqDiff, reduceCtorEq, ↓reduceIte, rqs, cpoly_len]
    refine call_by (g1) (by rfl) (by simp) ?_
    simp (disch := omega) only [wk, tis, Int.reduceNe, Int.reduceEq, Int.reduceLT, Int.reduceLE, Int.reduceAdd, Int.reduceSub, Int.reduceNeg, Int.reduceMul, Int.reduceToNat, Nat.reduceSub, Nat.reduceMul, Nat.reduceLeDiff, Nat.reduceAdd, Nat.reduceLT, Nat.reduceEqDiff, reduceCtorEq, ↓reduceIte, rqs, cpoly_len]
    try rfl
  | true =>
    rw [hga] at g1
    have hGa := ha.gq hga
    cases hgb : gd b with
    | false =>
      rw [hgb] at g2
      have dv := qdiv_bad a b (ha.mono (by omega) (by omega)) (hb.mono (by omega) (by omega)) (.inr hgb)
      refine AC.by_walk (rs := [.tmp 6]) ords Tryz.func5 (by rfl) (by rfl) (by rfl) (by rfl) (by rfl) ?_
      simp (disch := omega) only [wk, tis, Int.reduceNe, Int.reduceEq, Int.reduceLT, Int.reduceLE, Int.reduceAdd, Int.reduceSub, Int.reduceNeg, Int.reduceMul, Int.reduceToNat, Nat.reduceSub, Nat.reduceMul, Nat.reduceLeDiff, Nat.reduceAdd, Nat.reduceLT, Nat.reduceEqDiff, reduceCtorEq, ↓reduceIte, rqs, cpoly_len]
      refine call_by (known_ok) (by rfl) (by simp) ?_
      simp (disch := omega) only [wk, tis, Int.reduceNe, Int.reduceEq, Int.reduceLT, Int.reduceLE, Int.reduceAdd, Int.reduceSub, Int.reduceNeg, Int.reduceMul, Int.reduceToNat, Nat.reduceSub, Nat.reduceMul, Nat.reduceLeDiff, Nat.reduceAdd, Nat.reduceLT, Nat.reduceEqDiff, reduceCtorEq, ↓reduceIte, rqs, cpoly_len]
      refine call_by (fa) (by rfl) (by simp) ?_
      simp (disch := omega) only [wk, tis, Int.reduceNe, Int.reduceEq, Int.reduceLT, Int.reduceLE, Int.reduceAdd, Int.reduceSub, Int.reduceNeg, Int.reduceMul, Int.reduceToNat, Nat.reduceSub, Nat.reduceMul, Nat.reduceLeDiff, Nat.reduceAdd, Nat.reduceLT, Nat.reduceEqDiff, reduceCtorEq, ↓reduceIte, rqs, cpoly_len]
      refine call_by (fb) (by rfl) (by simp) ?_
      simp (disch := omega) only [wk, tis, Int.reduceNe, Int.reduceEq, Int.reduceLT, Int.reduceLE, Int.reduceAdd, Int.reduceSub, Int.reduceNeg, Int.reduceMul, Int.reduceToNat, Nat.reduceSub, Nat.reduceMul, Nat.reduceLeDiff, Nat.reduceAdd, Nat.reduceLT, Nat.reduceEqDiff, reduceCtorEq, ↓reduceIte, rqs, cpoly_len]
      refine call_by (fc) (by rfl) (by simp) ?_
      simp (disch := omega) only [wk, tis, Int.reduceNe, Int.reduceEq, Int.reduceLT, Int.reduceLE, Int.reduceAdd, Int.reduceSub, Int.reduceNeg, Int.reduceMul, Int.reduceToNat, Nat.reduceSub, Nat.reduceMul, Nat.reduceLeDiff, Nat.reduceAdd, Nat.reduceLT, Nat.reduceEqDiff, reduceCtorEq, ↓reduceIte, rqs, cpoly_len]
      refine call_by (g1) (by rfl) (by simp) ?_
      simp (disch := omega) only [wk, tis, Int.reduceNe, Int.reduceEq, Int.reduceLT, Int.reduceLE, Int.reduceAdd, Int.reduceSub, Int.reduceNeg, Int.reduceMul, Int.reduceToNat, Nat.reduceSub, Nat.reduceMul, Nat.reduceLeDiff, Nat.reduceAdd, Nat.reduceLT, Nat.reduceEqDiff, reduceCtorEq, ↓reduceIte, rqs, cpoly_len]
      refine call_by (g2) (by rfl) (by simp) ?_
      simp (disch := omega) only [wk, tis, Int.reduceNe, Int.reduceEq, Int.reduceLT, Int.reduceLE, Int.reduceAdd, Int.reduceSub, Int.reduceNeg, Int.reduceMul, Int.reduceToNat, Nat.reduceSub, Nat.reduceMul, Nat.reduceLeDiff, Nat.reduceAdd, Nat.reduceLT, Nat.reduceEqDiff, reduceCtorEq, ↓reduceIte, rqs, cpoly_len]
      refine call_by (dv) (by rfl) (by simp) ?_
      simp (disch := omega) only [wk, tis, Int.reduceNe, Int.reduceEq, Int.reduceLT, Int.reduceLE, Int.reduceAdd, Int.reduceSub, Int.reduceNeg, Int.reduceMul, Int.reduceToNat, Nat.reduceSub, Nat.reduceMul, Nat.reduceLeDiff, Nat.reduceAdd, Nat.reduceLT, Nat.reduceEqDiff, reduceCtorEq, ↓reduceIte, rqs, cpoly_len]
      refine call_by (g1) (by rfl) (by simp) ?_
      simp (disch := omega) only [wk, tis, Int.reduceNe, Int.reduceEq, Int.reduceLT, Int.reduceLE, Int.reduceAdd, Int.reduceSub, Int.reduceNeg, Int.reduceMul, Int.reduceToNat, Nat.reduceSub, Nat.reduceMul, Nat.reduceLeDiff, Nat.reduceAdd, Nat.reduceLT, Nat.reduceEqDiff, reduceCtorEq, ↓reduceIte, rqs, cpoly_len]
      refine call_by (g2) (by rfl) (by simp) ?_
      simp (disch := omega) only [wk, tis, Int.reduceNe, Int.reduceEq, Int.reduceLT, Int.reduceLE, Int.reduceAdd, Int.reduceSub, Int.reduceNeg, Int.reduceMul, Int.reduceToNat, Nat.reduceSub, Nat.reduceMul, Nat.reduceLeDiff, Nat.reduceAdd, Nat.reduceLT, Nat.reduceEqDiff, reduceCtorEq, ↓reduceIte, rqs, cpoly_len]
      try rfl
    | true =>
      rw [hgb] at g2
      have hGb := hb.gq hgb
      have fr := tform_ok b (hGb.mono (by omega) (by omega))
      have hA := hGa.qb.trimq
      have hB := hGb.qb.trimq
      rw [show cqp (qvs b) = cqw ((trimq (qvs b)).map crat) from rfl] at fr
      have hqb : ((trimq (qvs b)).map crat).length = (trimq (qvs b)).length := List.length_map _
      cases hgc : gd c with
      | false =>
        rw [hgc] at g3
        by_cases hb0 : (trimq (qvs b)).length = 0
        · have dv := qdiv_zero a b (hGa.mono (by omega) (by omega)) (hGb.mono (by omega) (by omega)) (List.length_eq_zero_iff.mp hb0)
          have hb0' : ((trimq (qvs b)).length : Int) = 0 := by omega
          refine AC.by_walk (rs := [.tmp 6]) ords Tryz.func5 (by rfl) (by rfl) (by rfl) (by rfl) (by rfl) ?_
          simp (disch := omega) only [wk, tis, Int.reduceNe, Int.reduceEq, Int.reduceLT, Int.reduceLE, Int.reduceAdd, Int.reduceSub, Int.reduceNeg, Int.reduceMul, Int.reduceToNat, Nat.reduceSub, Nat.reduceMul, Nat.reduceLeDiff, Nat.reduceAdd, Nat.reduceLT, Nat.reduceEqDiff, reduceCtorEq, ↓reduceIte, rqs, cpoly_len]
          refine call_by (known_ok) (by rfl) (by simp) ?_
          simp (disch := omega) only [wk, tis, Int.reduceNe, Int.reduceEq, Int.reduceLT, Int.reduceLE, Int.reduceAdd, Int.reduceSub, Int.reduceNeg, Int.reduceMul, Int.reduceToNat, Nat.reduceSub, Nat.reduceMul, Nat.reduceLeDiff, Nat.reduceAdd, Nat.reduceLT, Nat.reduceEqDiff, reduceCtorEq, ↓reduceIte, rqs, cpoly_len]
          refine call_by (fa) (by rfl) (by simp) ?_
          simp (disch := omega) only [wk, tis, Int.reduceNe, Int.reduceEq, Int.reduceLT, Int.reduceLE, Int.reduceAdd, Int.reduceSub, Int.reduceNeg, Int.reduceMul, Int.reduceToNat, Nat.reduceSub, Nat.reduceMul, Nat.reduceLeDiff, Nat.reduceAdd, Nat.reduceLT, Nat.reduceEqDiff, reduceCtorEq, ↓reduceIte, rqs, cpoly_len]
          refine call_by (fb) (by rfl) (by simp) ?_
          simp (disch := omega) only [wk, tis, Int.reduceNe, Int.reduceEq, Int.reduceLT, Int.reduceLE, Int.reduceAdd, Int.reduceSub, Int.reduceNeg, Int.reduceMul, Int.reduceToNat, Nat.reduceSub, Nat.reduceMul, Nat.reduceLeDiff, Nat.reduceAdd, Nat.reduceLT, Nat.reduceEqDiff, reduceCtorEq, ↓reduceIte, rqs, cpoly_len]
          refine call_by (fc) (by rfl) (by simp) ?_
          simp (disch := omega) only [wk, tis, Int.reduceNe, Int.reduceEq, Int.reduceLT, Int.reduceLE, Int.reduceAdd, Int.reduceSub, Int.reduceNeg, Int.reduceMul, Int.reduceToNat, Nat.reduceSub, Nat.reduceMul, Nat.reduceLeDiff, Nat.reduceAdd, Nat.reduceLT, Nat.reduceEqDiff, reduceCtorEq, ↓reduceIte, rqs, cpoly_len]
          refine call_by (g1) (by rfl) (by simp) ?_
          simp (disch := omega) only [wk, tis, Int.reduceNe, Int.reduceEq, Int.reduceLT, Int.reduceLE, Int.reduceAdd, Int.reduceSub, Int.reduceNeg, Int.reduceMul, Int.reduceToNat, Nat.reduceSub, Nat.reduceMul, Nat.reduceLeDiff, Nat.reduceAdd, Nat.reduceLT, Nat.reduceEqDiff, reduceCtorEq, ↓reduceIte, rqs, cpoly_len]
          refine call_by (g2) (by rfl) (by simp) ?_
          simp (disch := omega) only [wk, tis, Int.reduceNe, Int.reduceEq, Int.reduceLT, Int.reduceLE, Int.reduceAdd, Int.reduceSub, Int.reduceNeg, Int.reduceMul, Int.reduceToNat, Nat.reduceSub, Nat.reduceMul, Nat.reduceLeDiff, Nat.reduceAdd, Nat.reduceLT, Nat.reduceEqDiff, reduceCtorEq, ↓reduceIte, rqs, cpoly_len]
          refine call_by (g3) (by rfl) (by simp) ?_
          simp (disch := omega) only [wk, tis, Int.reduceNe, Int.reduceEq, Int.reduceLT, Int.reduceLE, Int.reduceAdd, Int.reduceSub, Int.reduceNeg, Int.reduceMul, Int.reduceToNat, Nat.reduceSub, Nat.reduceMul, Nat.reduceLeDiff, Nat.reduceAdd, Nat.reduceLT, Nat.reduceEqDiff, reduceCtorEq, ↓reduceIte, rqs, cpoly_len]
          refine call_by (dv) (by rfl) (by simp) ?_
          simp (disch := omega) only [wk, tis, Int.reduceNe, Int.reduceEq, Int.reduceLT, Int.reduceLE, Int.reduceAdd, Int.reduceSub, Int.reduceNeg, Int.reduceMul, Int.reduceToNat, Nat.reduceSub, Nat.reduceMul, Nat.reduceLeDiff, Nat.reduceAdd, Nat.reduceLT, Nat.reduceEqDiff, reduceCtorEq, ↓reduceIte, rqs, cpoly_len]
          refine call_by (g1) (by rfl) (by simp) ?_
          simp (disch := omega) only [wk, tis, Int.reduceNe, Int.reduceEq, Int.reduceLT, Int.reduceLE, Int.reduceAdd, Int.reduceSub, Int.reduceNeg, Int.reduceMul, Int.reduceToNat, Nat.reduceSub, Nat.reduceMul, Nat.reduceLeDiff, Nat.reduceAdd, Nat.reduceLT, Nat.reduceEqDiff, reduceCtorEq, ↓reduceIte, rqs, cpoly_len]
          refine call_by (g2) (by rfl) (by simp) ?_
          simp (disch := omega) only [wk, tis, Int.reduceNe, Int.reduceEq, Int.reduceLT, Int.reduceLE, Int.reduceAdd, Int.reduceSub, Int.reduceNeg, Int.reduceMul, Int.reduceToNat, Nat.reduceSub, Nat.reduceMul, Nat.reduceLeDiff, Nat.reduceAdd, Nat.reduceLT, Nat.reduceEqDiff, reduceCtorEq, ↓reduceIte, rqs, cpoly_len]
          refine call_by (fr) (by first | rfl | (simp only [tocvs, tocv, hqb, hb0']; rfl) | (simp only [tocvs, tocv, toboxes, tobox, updH_at, Nat.reduceEqDiff, ↓reduceIte, hqb, hb0']; rfl)) (by simp) ?_
          simp (disch := omega) only [wk, tis, Int.reduceNe, Int.reduceEq, Int.reduceLT, Int.reduceLE, Int.reduceAdd, Int.reduceSub, Int.reduceNeg, Int.reduceMul, Int.reduceToNat, Nat.reduceSub, Nat.reduceMul, Nat.reduceLeDiff, Nat.reduceAdd, Nat.reduceLT, Nat.reduceEqDiff, reduceCtorEq, ↓reduceIte, rqs, cpoly_len, hqb, hb0']
          try rfl
        · obtain ⟨n, v⟩ := dv_of hA hB (trimq_trimq _) (trimq_trimq _) hb0
          have dv := qdiv_ok a b (hGa.mono (by omega) (by omega)) (hGb.mono (by omega) (by omega)) n (2 ^ 31) v
          have hb0' : ¬ ((trimq (qvs b)).length : Int) = 0 := by omega
          refine AC.by_walk (rs := [.tmp 6]) ords Tryz.func5 (by rfl) (by rfl) (by rfl) (by rfl) (by rfl) ?_
          simp (disch := omega) only [wk, tis, Int.reduceNe, Int.reduceEq, Int.reduceLT, Int.reduceLE, Int.reduceAdd, Int.reduceSub, Int.reduceNeg, Int.reduceMul, Int.reduceToNat, Nat.reduceSub, Nat.reduceMul, Nat.reduceLeDiff, Nat.reduceAdd, Nat.reduceLT, Nat.reduceEqDiff, reduceCtorEq, ↓reduceIte, rqs, cpoly_len]
          refine call_by (known_ok) (by rfl) (by simp) ?_
          simp (disch := omega) only [wk, tis, Int.reduceNe, Int.reduceEq, Int.reduceLT, Int.reduceLE, Int.reduceAdd, Int.reduceSub, Int.reduceNeg, Int.reduceMul, Int.reduceToNat, Nat.reduceSub, Nat.reduceMul, Nat.reduceLeDiff, Nat.reduceAdd, Nat.reduceLT, Nat.reduceEqDiff, reduceCtorEq, ↓reduceIte, rqs, cpoly_len]
          refine call_by (fa) (by rfl) (by simp) ?_
          simp (disch := omega) only [wk, tis, Int.reduceNe, Int.reduceEq, Int.reduceLT, Int.reduceLE, Int.reduceAdd, Int.reduceSub, Int.reduceNeg, Int.reduceMul, Int.reduceToNat, Nat.reduceSub, Nat.reduceMul, Nat.reduceLeDiff, Nat.reduceAdd, Nat.reduceLT, Nat.reduceEqDiff, reduceCtorEq, ↓reduceIte, rqs, cpoly_len]
          refine call_by (fb) (by rfl) (by simp) ?_
          simp (disch := omega) only [wk, tis, Int.reduceNe, Int.reduceEq, Int.reduceLT, Int.reduceLE, Int.reduceAdd, Int.reduceSub, Int.reduceNeg, Int.reduceMul, Int.reduceToNat, Nat.reduceSub, Nat.reduceMul, Nat.reduceLeDiff, Nat.reduceAdd, Nat.reduceLT, Nat.reduceEqDiff, reduceCtorEq, ↓reduceIte, rqs, cpoly_len]
          refine call_by (fc) (by rfl) (by simp) ?_
          simp (disch := omega) only [wk, tis, Int.reduceNe, Int.reduceEq, Int.reduceLT, Int.reduceLE, Int.reduceAdd, Int.reduceSub, Int.reduceNeg, Int.reduceMul, Int.reduceToNat, Nat.reduceSub, Nat.reduceMul, Nat.reduceLeDiff, Nat.reduceAdd, Nat.reduceLT, Nat.reduceEqDiff, reduceCtorEq, ↓reduceIte, rqs, cpoly_len]
          refine call_by (g1) (by rfl) (by simp) ?_
          simp (disch := omega) only [wk, tis, Int.reduceNe, Int.reduceEq, Int.reduceLT, Int.reduceLE, Int.reduceAdd, Int.reduceSub, Int.reduceNeg, Int.reduceMul, Int.reduceToNat, Nat.reduceSub, Nat.reduceMul, Nat.reduceLeDiff, Nat.reduceAdd, Nat.reduceLT, Nat.reduceEqDiff, reduceCtorEq, ↓reduceIte, rqs, cpoly_len]
          refine call_by (g2) (by rfl) (by simp) ?_
          simp (disch := omega) only [wk, tis, Int.reduceNe, Int.reduceEq, Int.reduceLT, Int.reduceLE, Int.reduceAdd, Int.reduceSub, Int.reduceNeg, Int.reduceMul, Int.reduceToNat, Nat.reduceSub, Nat.reduceMul, Nat.reduceLeDiff, Nat.reduceAdd, Nat.reduceLT, Nat.reduceEqDiff, reduceCtorEq, ↓reduceIte, rqs, cpoly_len]
          refine call_by (g3) (by rfl) (by simp) ?_
          simp (disch := omega) only [wk, tis, Int.reduceNe, Int.reduceEq, Int.reduceLT, Int.reduceLE, Int.reduceAdd, Int.reduceSub, Int.reduceNeg, Int.reduceMul, Int.reduceToNat, Nat.reduceSub, Nat.reduceMul, Nat.reduceLeDiff, Nat.reduceAdd, Nat.reduceLT, Nat.reduceEqDiff, reduceCtorEq, ↓reduceIte, rqs, cpoly_len]
          refine call_by (dv) (by rfl) (by simp) ?_
          simp (disch := omega) only [wk, tis, Int.reduceNe, Int.reduceEq, Int.reduceLT, Int.reduceLE, Int.reduceAdd, Int.reduceSub, Int.reduceNeg, Int.reduceMul, Int.reduceToNat, Nat.reduceSub, Nat.reduceMul, Nat.reduceLeDiff, Nat.reduceAdd, Nat.reduceLT, Nat.reduceEqDiff, reduceCtorEq, ↓reduceIte, rqs, cpoly_len]
          refine call_by (g1) (by rfl) (by simp) ?_
          simp (disch := omega) only [wk, tis, Int.reduceNe, Int.reduceEq, Int.reduceLT, Int.reduceLE, Int.reduceAdd, Int.reduceSub, Int.reduceNeg, Int.reduceMul, Int.reduceToNat, Nat.reduceSub, Nat.reduceMul, Nat.reduceLeDiff, Nat.reduceAdd, Nat.reduceLT, Nat.reduceEqDiff, reduceCtorEq, ↓reduceIte, rqs, cpoly_len]
          refine call_by (g2) (by rfl) (by simp) ?_
          simp (disch := omega) only [wk, tis, Int.reduceNe, Int.reduceEq, Int.reduceLT, Int.reduceLE, Int.reduceAdd, Int.reduceSub, Int.reduceNeg, Int.reduceMul, Int.reduceToNat, Nat.reduceSub, Nat.reduceMul, Nat.reduceLeDiff, Nat.reduceAdd, Nat.reduceLT, Nat.reduceEqDiff, reduceCtorEq, ↓reduceIte, rqs, cpoly_len]
          refine call_by (fr) (by first | rfl | (simp only [tocvs, tocv, hqb, hb0']; rfl) | (simp only [tocvs, tocv, toboxes, tobox, updH_at, Nat.reduceEqDiff, ↓reduceIte, hqb, hb0']; rfl)) (by simp) ?_
          simp (disch := omega) only [wk, tis, Int.reduceNe, Int.reduceEq, Int.reduceLT, Int.reduceLE, Int.reduceAdd, Int.reduceSub, Int.reduceNeg, Int.reduceMul, Int.reduceToNat, Nat.reduceSub, Nat.reduceMul, Nat.reduceLeDiff, Nat.reduceAdd, Nat.reduceLT, Nat.reduceEqDiff, reduceCtorEq, ↓reduceIte, rqs, cpoly_len, hqb, hb0']
          refine call_by (g3) (by rfl) (by simp) ?_
          simp (disch := omega) only [wk, tis, Int.reduceNe, Int.reduceEq, Int.reduceLT, Int.reduceLE, Int.reduceAdd, Int.reduceSub, Int.reduceNeg, Int.reduceMul, Int.reduceToNat, Nat.reduceSub, Nat.reduceMul, Nat.reduceLeDiff, Nat.reduceAdd, Nat.reduceLT, Nat.reduceEqDiff, reduceCtorEq, ↓reduceIte, rqs, cpoly_len]
          try rfl
      | true =>
        rw [hgc] at g3
        by_cases hb0 : (trimq (qvs b)).length = 0
        · have dv := qdiv_zero a b (hGa.mono (by omega) (by omega)) (hGb.mono (by omega) (by omega)) (List.length_eq_zero_iff.mp hb0)
          have hb0' : ((trimq (qvs b)).length : Int) = 0 := by omega
          refine AC.by_walk (rs := [.tmp 6]) ords Tryz.func5 (by rfl) (by rfl) (by rfl) (by rfl) (by rfl) ?_
          simp (disch := omega) only [wk, tis, Int.reduceNe, Int.reduceEq, Int.reduceLT, Int.reduceLE, Int.reduceAdd, Int.reduceSub, Int.reduceNeg, Int.reduceMul, Int.reduceToNat, Nat.reduceSub, Nat.reduceMul, Nat.reduceLeDiff, Nat.reduceAdd, Nat.reduceLT, Nat.reduceEqDiff, reduceCtorEq, ↓reduceIte, rqs, cpoly_len]
          refine call_by (known_ok) (by rfl) (by simp) ?_
          simp (disch := omega) only [wk, tis, Int.reduceNe, Int.reduceEq, Int.reduceLT, Int.reduceLE, Int.reduceAdd, Int.reduceSub, Int.reduceNeg, Int.reduceMul, Int.reduceToNat, Nat.reduceSub, Nat.reduceMul, Nat.reduceLeDiff, Nat.reduceAdd, Nat.reduceLT, Nat.reduceEqDiff, reduceCtorEq, ↓reduceIte, rqs, cpoly_len]
          refine call_by (fa) (by rfl) (by simp) ?_
          simp (disch := omega) only [wk, tis, Int.reduceNe, Int.reduceEq, Int.reduceLT, Int.reduceLE, Int.reduceAdd, Int.reduceSub, Int.reduceNeg, Int.reduceMul, Int.reduceToNat, Nat.reduceSub, Nat.reduceMul, Nat.reduceLeDiff, Nat.reduceAdd, Nat.reduceLT, Nat.reduceEqDiff, reduceCtorEq, ↓reduceIte, rqs, cpoly_len]
          refine call_by (fb) (by rfl) (by simp) ?_
          simp (disch := omega) only [wk, tis, Int.reduceNe, Int.reduceEq, Int.reduceLT, Int.reduceLE, Int.reduceAdd, Int.reduceSub, Int.reduceNeg, Int.reduceMul, Int.reduceToNat, Nat.reduceSub, Nat.reduceMul, Nat.reduceLeDiff, Nat.reduceAdd, Nat.reduceLT, Nat.reduceEqDiff, reduceCtorEq, ↓reduceIte, rqs, cpoly_len]
          refine call_by (fc) (by rfl) (by simp) ?_
          simp (disch := omega) only [wk, tis, Int.reduceNe, Int.reduceEq, Int.reduceLT, Int.reduceLE, Int.reduceAdd, Int.reduceSub, Int.reduceNeg, Int.reduceMul, Int.reduceToNat, Nat.reduceSub, Nat.reduceMul, Nat.reduceLeDiff, Nat.reduceAdd, Nat.reduceLT, Nat.reduceEqDiff, reduceCtorEq, ↓reduceIte, rqs, cpoly_len]
          refine call_by (g1) (by rfl) (by simp) ?_
          simp (disch := omega) only [wk, tis, Int.reduceNe, Int.reduceEq, Int.reduceLT, Int.reduceLE, Int.reduceAdd, Int.reduceSub, Int.reduceNeg, Int.reduceMul, Int.reduceToNat, Nat.reduceSub, Nat.reduceMul, Nat.reduceLeDiff, Nat.reduceAdd, Nat.reduceLT, Nat.reduceEqDiff, reduceCtorEq, ↓reduceIte, rqs, cpoly_len]
          refine call_by (g2) (by rfl) (by simp) ?_
          simp (disch := omega) only [wk, tis, Int.reduceNe, Int.reduceEq, Int.reduceLT, Int.reduceLE, Int.reduceAdd, Int.reduceSub, Int.reduceNeg, Int.reduceMul, Int.reduceToNat, Nat.reduceSub, Nat.reduceMul, Nat.reduceLeDiff, Nat.reduceAdd, Nat.reduceLT, Nat.reduceEqDiff, reduceCtorEq, ↓reduceIte, rqs, cpoly_len]
          refine call_by (g3) (by rfl) (by simp) ?_
          simp (disch := omega) only [wk, tis, Int.reduceNe, Int.reduceEq, Int.reduceLT, Int.reduceLE, Int.reduceAdd, Int.reduceSub, Int.reduceNeg, Int.reduceMul, Int.reduceToNat, Nat.reduceSub, Nat.reduceMul, Nat.reduceLeDiff, Nat.reduceAdd, Nat.reduceLT, Nat.reduceEqDiff, reduceCtorEq, ↓reduceIte, rqs, cpoly_len]
          refine call_by (fr) (by first | rfl | (simp only [tocvs, tocv, hqb, hb0']; rfl) | (simp only [tocvs, tocv, toboxes, tobox, updH_at, Nat.reduceEqDiff, ↓reduceIte, hqb, hb0']; rfl)) (by simp) ?_
          simp (disch := omega) only [wk, tis, Int.reduceNe, Int.reduceEq, Int.reduceLT, Int.reduceLE, Int.reduceAdd, Int.reduceSub, Int.reduceNeg, Int.reduceMul, Int.reduceToNat, Nat.reduceSub, Nat.reduceMul, Nat.reduceLeDiff, Nat.reduceAdd, Nat.reduceLT, Nat.reduceEqDiff, reduceCtorEq, ↓reduceIte, rqs, cpoly_len, hqb, hb0']
          refine call_by (dv) (by rfl) (by simp) ?_
          simp (disch := omega) only [wk, tis, Int.reduceNe, Int.reduceEq, Int.reduceLT, Int.reduceLE, Int.reduceAdd, Int.reduceSub, Int.reduceNeg, Int.reduceMul, Int.reduceToNat, Nat.reduceSub, Nat.reduceMul, Nat.reduceLeDiff, Nat.reduceAdd, Nat.reduceLT, Nat.reduceEqDiff, reduceCtorEq, ↓reduceIte, rqs, cpoly_len]
          refine call_by (g1) (by rfl) (by simp) ?_
          simp (disch := omega) only [wk, tis, Int.reduceNe, Int.reduceEq, Int.reduceLT, Int.reduceLE, Int.reduceAdd, Int.reduceSub, Int.reduceNeg, Int.reduceMul, Int.reduceToNat, Nat.reduceSub, Nat.reduceMul, Nat.reduceLeDiff, Nat.reduceAdd, Nat.reduceLT, Nat.reduceEqDiff, reduceCtorEq, ↓reduceIte, rqs, cpoly_len]
          refine call_by (g2) (by rfl) (by simp) ?_
          simp (disch := omega) only [wk, tis, Int.reduceNe, Int.reduceEq, Int.reduceLT, Int.reduceLE, Int.reduceAdd, Int.reduceSub, Int.reduceNeg, Int.reduceMul, Int.reduceToNat, Nat.reduceSub, Nat.reduceMul, Nat.reduceLeDiff, Nat.reduceAdd, Nat.reduceLT, Nat.reduceEqDiff, reduceCtorEq, ↓reduceIte, rqs, cpoly_len]
          refine call_by (fr) (by first | rfl | (simp only [tocvs, tocv, hqb, hb0']; rfl) | (simp only [tocvs, tocv, toboxes, tobox, updH_at, Nat.reduceEqDiff, ↓reduceIte, hqb, hb0']; rfl)) (by simp) ?_
          simp (disch := omega) only [wk, tis, Int.reduceNe, Int.reduceEq, Int.reduceLT, Int.reduceLE, Int.reduceAdd, Int.reduceSub, Int.reduceNeg, Int.reduceMul, Int.reduceToNat, Nat.reduceSub, Nat.reduceMul, Nat.reduceLeDiff, Nat.reduceAdd, Nat.reduceLT, Nat.reduceEqDiff, reduceCtorEq, ↓reduceIte, rqs, cpoly_len, hqb, hb0']
          try rfl
        · exact back10_good a b c hGa hGb (hc.gq hgc) hb0 p q r fa fb fc
end Go.Proofs.YtcjnacpekbhhcaaGreat
