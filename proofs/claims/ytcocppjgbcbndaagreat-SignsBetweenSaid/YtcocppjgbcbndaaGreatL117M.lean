/-
  Contracts of the functions that the law reaches.
-/
import Derived.Test.YtcocppjgbcbndaaGreatL110M
import Derived.Test.YtcocppjgbcbndaaGreatAbsT
import Derived.Test.YtcocppjgbcbndaaGreatL12M
import Derived.Test.YtcocppjgbcbndaaGreatTyA
import Derived.Test.YtcocppjgbcbndaaGreatL1M
import Derived.RangeFuncBox
import Derived.OwnWalkIn
import Derived.TacticsInMore
import Derived.LoopNIn
import Derived.LoopIn
import Derived.Test.YtcocppjgbcbndaaGreatL36M
set_option maxHeartbeats 2000000
namespace Go.Proofs.YtcocppjgbcbndaaGreat
open Go Go.Proofs Go.AL
set_option linter.unusedSimpArgs false
set_option linter.unusedVariables false
end Go.Proofs.YtcocppjgbcbndaaGreat

namespace Go.Proofs.YtcocppjgbcbndaaGreat
open Go Go.Proofs Go.AL
set_option linter.unusedSimpArgs false
set_option linter.unusedVariables false
theorem pq_cqs (X : List Rat) : pq (qvs (cqs X)) = pq X := by rw [qvs_cqs, pq_trimq]
theorem cqs_pq {X Y : List Rat} (h : pq X = pq Y) : cqs X = cqs Y := cqs_ext (pq_eq h)
theorem qpadd_g {p q : List RQ} {K : Nat} {X Y : List Rat} (hp : GQ (2 ^ 30) K p) (hq : GQ (2 ^ 30) K q) (hK : K ≤ 2 ^ 35) (hK1 : 1 ≤ K) (ex : pq (qvs p) = pq X) (ey : pq (qvs q) = pq Y) : AC Tryz.prog 156 [cqw p, cqw q] none [cqp (addq X Y), ci 0] := by
  have h := qpadd_ok p q K hp hq hK hK1
  rwa [show cqp (addq (qvs p) (qvs q)) = cqp (addq X Y) from congrArg cqw (cqs_pq (by rw [pq_addq, pq_addq, ex, ey]))] at h
theorem qpnorm_g {p : List RQ} {X : List Rat} (hp : GQ (2 ^ 40) (2 ^ 38) p) (ex : pq (qvs p) = pq X) : AC Tryz.prog 116 [cqw p] none [cqp X, ci 0] := by
  have h := qpnorm_ok p hp
  rwa [show cqp (qvs p) = cqp X from congrArg cqw (cqs_pq ex)] at h
theorem qz_nat1 {i : Nat} (h : i < W) : qz (((i : Nat) : Int) : Rat) ≤ 1 := by
  have h1 := qz_int (i : Int)
  have h2 : zl (i : Int) ≤ 1 := zl_w (by simpa using h)
  omega
theorem derq_len (A : List Rat) : (derq A).length = A.length - 1 := by simp [derq]
theorem QB.derq {n k : Nat} {A : List Rat} (h : QB n k A) (hn : n ≤ 2 ^ 40) (hk : 1 ≤ k) : QB n (k + 1) (derq A) := .of (by rw [derq_len]; have := h.1; omega) fun i => by
  by_cases hi : i + 1 < A.length
  · rw [cfq_derq, ← Rat.intCast_natCast]
    have h1 := qz_mul (cfq A (i + 1)) (((i + 1 : Nat) : Int) : Rat)
    have h2 := h.cz hk (i + 1)
    have h3 := qz_nat1 (i := i + 1) (by have := h.1; simp only [W]; omega)
    omega
  · rw [cfq_ge (by rw [derq_len]; omega), qz_zero]; omega
end Go.Proofs.YtcocppjgbcbndaaGreat

namespace Go.Proofs.YtcocppjgbcbndaaGreat
open Go Go.Proofs Go.AL
set_option linter.unusedSimpArgs false
set_option linter.unusedVariables false
theorem qp_len (P : List Int) : (qp P).length = P.length := by simp [qp]
theorem tzq_qp (P : List Int) : tzq (qp P) = tz P := by
  rcases Nat.eq_zero_or_pos (tz P) with h | h
  · rw [h]
    exact tzq_zero_iff.mpr fun k => by rw [cfq_qp, tz_zero_iff.mp h k]; rfl
  · have := tzq_spec (q := qp P) (n := tz P - 1) (by
      rw [cfq_qp]
      exact fun e => cf_tz_pred (q := P) (by omega) (Rat.intCast_eq_zero_iff.mp e)) fun k hk => by rw [cfq_qp, cf_ge_tz P (by omega)]; rfl
    omega
theorem qp_trim (P : List Int) : trimq (qp P) = qp (trimz P) := by rw [trimq, tzq_qp, trimz, qp, qp, List.map_take]
theorem qof10_ok (p : List RI) (h : RP (2 ^ 40) (2 ^ 38) p) : AC Tryz.prog 85 [cw p] none [cqp (qp (pv p))] := by
  have n := pnorm_ok p (h.mono (by omega) (by omega))
  have m := nof_ok 1 (by decide)
  rw [show wd 1 = [1] by decide +kernel] at m
  rw [show cqp (qp (pv p)) = cqw ((qp (trimz (pv p))).map crat) from congrArg cqw (by rw [cqs, qp_trim])]
  refine AC.by_walk (rs := [.tmp 2]) ords Tryz.func85 (by rfl) (by rfl) (by rfl) (by rfl) (by rfl) ?_
  simp (disch := omega) only [wk, tis, seval, reduceCtorEq, Nat.reduceEqDiff, rqs]
  refine call_by (n) (by rfl) (by simp) ?_
  simp (disch := omega) only [wk, tis, seval, reduceCtorEq, Nat.reduceEqDiff, rqs]
  unfold cpoly
  have hAl : (trimz (pv p)).length ≤ 2 ^ 40 := h.pv.trimz.1
  generalize trimz (pv p) = A at *
  have hq : (A.map canon).length = A.length := List.length_map _
  have hql := qp_len A
  simp (disch := omega) only [wk, tis, seval, reduceCtorEq, Nat.reduceEqDiff, rqs, hq]
  refine aloop_nil 3 3 35 3 (by simp (disch := omega) only [wk, tis, seval, reduceCtorEq, Nat.reduceEqDiff, rqs]) (fun f H => ∃ (i st : Nat), i ≤ A.length ∧ f 9 = .iv (.int .i64 i) ∧ f 7 = .iv (.sl (raws (A.map canon))) ∧ f 8 = .iv (.int .i64 A.length) ∧ f 3 = .hs 3 st ∧ H 3 = .blk false st 35 3 (rats (((qp A).take i).map crat))) (fun f H => (A.length - intAt f 9).toNat) ?_ ?_
  · refine ⟨0, 1, by omega, ?_⟩
    simp (disch := omega) only [wk, tis, seval, reduceCtorEq, Nat.reduceEqDiff, rqs, ghostF, ghostH, hq, List.take_zero, List.map_nil]
  rintro f H ⟨i, st, hi, hF⟩
  rw [intAt_of hF.1]
  simp (disch := omega) only [wk, tis, seval, reduceCtorEq, Nat.reduceEqDiff, rqs, hF]
  refine if_by (fun hlt => ?_) (fun hlt => ?_)
  · have hlt' : i < A.length := by omega
    have hrq : (((qp A).take i).map crat).length = i := by rw [List.length_map, List.length_take]; omega
    have e1 := canon_getD A i
    have hrow : [IV.bool (canon (cf A i)).1, IV.sl (lims (canon (cf A i)).2), IV.sl (lims [1])] = qrow (crat (cf A i : Rat)) := by rw [crat_int]
    simp (disch := omega) only [wk, tis, seval, reduceCtorEq, Nat.reduceEqDiff, rqs, hF, hq, hrq, e1]
    refine ⟨tmps_by (by kernel_rfl), ?_⟩
    refine call_by (m) (by first | rfl | (simp only [tocvs, tocv, hF, hq, hrq, e1, hrow]; rfl) | (simp only [tocvs, tocv, toboxes, tobox, updH_at, Nat.reduceEqDiff, ↓reduceIte, hF, hq, hrq, e1, hrow]; rfl)) (by simp) ?_
    simp (disch := omega) only [wk, tis, seval, reduceCtorEq, Nat.reduceEqDiff, rqs, hF, hq, hrq, e1, hrow]
    first | exact log_by (by kernel_rfl) | refine ⟨log_by (by kernel_rfl), ?_⟩
    have et := takeq_snoc (q := qp A) (i := i) (by omega)
    rw [cfq_qp] at et
    refine ⟨⟨i + 1, st + 1, by omega, ?_⟩, by omega⟩
    rw [et, List.map_append, show rats (((qp A).take i).map crat ++ List.map crat [((cf A i : Int) : Rat)]) = rats (((qp A).take i).map crat) ++ [[IV.bool (canon (cf A i)).1, IV.sl (lims (canon (cf A i)).2), IV.sl (lims [1])]] by rw [hrow]; exact List.map_append]
    (repeat' apply And.intro) <;> first | rfl | omega
  · rw [List.take_of_length_le (l := qp A) (by omega)] at hF
    simp (disch := omega) only [wk, tis, seval, reduceCtorEq, Nat.reduceEqDiff, rqs, hF]
    try rfl
def fma (c : Rat) (a b : Rat) : Rat := a + c * b
theorem fma_zero (c : Rat) : fma c 0 0 = 0 := by unfold fma; grind
theorem tplus_ok (p r : List RQ) (c : RQ) (K : Nat) (hp : GQ (2 ^ 30) K p) (hr : GQ (2 ^ 30) K r) (hc : SzQ K c) (h0 : nv c.2 ≠ 0) (hK : K ≤ 2 ^ 33) (hK1 : 1 ≤ K) : AC Tryz.prog 21 [cqw p, cqq c, cqw r] none [cqp (zipq (fma (qv c)) (qvs p) (qvs r))] := by
  have m := tform_ok p (hp.mono (by omega) (by omega))
  have n := tform_ok r (hr.mono (by omega) (by omega))
  have hA := hp.qb.trimq
  have hB := hr.qb.trimq
  have zc := qz_raw hc h0
  have e : cqp (zipq (fma (qv c)) (qvs p) (qvs r)) = cqp (zipq (fma (qv c)) (trimq (qvs p)) (trimq (qvs r))) := congrArg cqw (cqs_ext fun k => by rw [cfq_zipq (fma_zero _), cfq_zipq (fma_zero _), cfq_trimq, cfq_trimq])
  rw [e]
  refine AC.by_walk (rs := [.tmp 6]) ords Tryz.func21 (by rfl) (by rfl) (by rfl) (by rfl) (by rfl) ?_
  simp (disch := omega) only [wk, tis, seval, reduceCtorEq, Nat.reduceEqDiff, rqs]
  refine call_by (m) (by rfl) (by simp) ?_
  simp (disch := omega) only [wk, tis, seval, reduceCtorEq, Nat.reduceEqDiff, rqs]
  refine call_by (n) (by rfl) (by simp) ?_
  simp (disch := omega) only [wk, tis, seval, reduceCtorEq, Nat.reduceEqDiff, rqs]
  unfold cqs
  generalize trimq (qvs p) = A at *
  generalize trimq (qvs r) = B at *
  have hAl := hA.1
  have hBl := hB.1
  have hqa : (A.map crat).length = A.length := List.length_map _
  have hqb : (B.map crat).length = B.length := List.length_map _
  have hRl := zipq_len (fma (qv c)) A B
  have hsz : ∀ i, qz (cfq (zipq (fma (qv c)) A B) i) ≤ 2 ^ 38 := fun i => by
    rw [cfq_zipq (fma_zero _)]
    have h1 := hA.cz hK1 i
    have h2 := hB.cz hK1 i
    have h3 := qz_mul (qv c) (cfq B i)
    have h4 := qz_add (cfq A i) (qv c * cfq B i)
    unfold fma
    omega
  have hR : QB (2 ^ 40) (2 ^ 38) (zipq (fma (qv c)) A B) := .of (by omega) hsz
  have t := tform_ok ((zipq (fma (qv c)) A B).map crat) hR.gq
  rw [qvs_map] at t
  refine aloop_nil 7 7 35 3 (by simp (disch := omega) only [wk, tis, seval, reduceCtorEq, Nat.reduceEqDiff, rqs]) (fun f H => ∃ (i st st4 : Nat), i ≤ max A.length B.length ∧ f 8 = .iv (.int .i64 i) ∧ f 0 = .iv (.sl (rats (A.map crat))) ∧ f 2 = .iv (.sl (rats (B.map crat))) ∧ f 4 = .hp 4 st4 0 0 ∧ H 4 = .blk false st4 35 3 [qrow c] ∧ f 7 = .hs 7 st ∧ H 7 = .blk false st 35 3 (rats (((zipq (fma (qv c)) A B).take i).map crat))) (fun f H => (max A.length B.length - intAt f 8).toNat) ?_ ?_
  · refine ⟨0, 1, 1, by omega, ?_⟩
    simp (disch := omega) only [wk, tis, seval, reduceCtorEq, Nat.reduceEqDiff, rqs, ghostF, ghostH, List.take_zero, List.map_nil]
  rintro f H ⟨i, st, st4, hi, hF⟩
  rw [intAt_of hF.1]
  simp (disch := omega) only [wk, tis, seval, reduceCtorEq, Nat.reduceEqDiff, rqs, hF]
  by_cases ha : i < A.length
  · have ha' : (i : Int) < ((A.map crat).length : Int) := by omega
    simp (disch := omega) only [wk, tis, seval, reduceCtorEq, Nat.reduceEqDiff, rqs, hF, ha']
    have hrq : (((zipq (fma (qv c)) A B).take i).map crat).length = i := by rw [List.length_map, List.length_take]; omega
    have h1 := hA.cz hK1 i
    have h2 := hB.cz hK1 i
    have h3 := qz_mul (qv c) (cfq B i)
    have c1 := tat_nat A i (by omega)
    have c2 := tat_nat B i (by omega)
    have x := htimes_ok c (crat (cfq B i)) (hc.mono (by omega)) (szq_crat (by omega)) h0 (nv_crat0 _)
    rw [qv_crat] at x
    have y := hplus_ok (crat (cfq A i)) (crat (qv c * cfq B i)) (szq_crat (by omega)) (szq_crat (by omega)) (nv_crat0 _) (nv_crat0 _)
    rw [qv_crat, qv_crat, show cfq A i + qv c * cfq B i = cfq (zipq (fma (qv c)) A B) i by rw [cfq_zipq (fma_zero _)]; rfl] at y
    refine ⟨tmps_by (by kernel_rfl), ?_⟩
    refine call_by (c1) (by first | rfl | (simp only [tocvs, tocv, hF, hrq]; rfl) | (simp only [tocvs, tocv, toboxes, tobox, updH_at, Nat.reduceEqDiff, ↓reduceIte, hF, hrq]; rfl)) (by simp) ?_
    simp (disch := omega) only [wk, tis, seval, reduceCtorEq, Nat.reduceEqDiff, rqs, hF, hrq]
    refine call_by (c2) (by first | rfl | (simp only [tocvs, tocv, hF, hrq]; rfl) | (simp only [tocvs, tocv, toboxes, tobox, updH_at, Nat.reduceEqDiff, ↓reduceIte, hF, hrq]; rfl)) (by simp) ?_
    simp (disch := omega) only [wk, tis, seval, reduceCtorEq, Nat.reduceEqDiff, rqs, hF, hrq]
    refine call_by (x) (by first | rfl | (simp only [tocvs, tocv, hF, hrq]; rfl) | (simp only [tocvs, tocv, toboxes, tobox, updH_at, Nat.reduceEqDiff, ↓reduceIte, hF, hrq]; rfl)) (by simp) ?_
    simp (disch := omega) only [wk, tis, seval, reduceCtorEq, Nat.reduceEqDiff, rqs, hF, hrq]
    refine call_by (y) (by first | rfl | (simp only [tocvs, tocv, hF, hrq]; rfl) | (simp only [tocvs, tocv, toboxes, tobox, updH_at, Nat.reduceEqDiff, ↓reduceIte, hF, hrq]; rfl)) (by simp) ?_
    simp (disch := omega) only [wk, tis, seval, reduceCtorEq, Nat.reduceEqDiff, rqs, hF, hrq]
    first | exact log_by (by kernel_rfl) | refine ⟨log_by (by kernel_rfl), ?_⟩
    have et := takeq_snoc (q := zipq (fma (qv c)) A B) (i := i) (by omega)
    refine ⟨⟨i + 1, st + 1, st4, by omega, ?_⟩, by omega⟩
    rw [et, List.map_append]
    (repeat' apply And.intro) <;> first | rfl | omega
  · have ha' : ¬ (i : Int) < ((A.map crat).length : Int) := by omega
    by_cases hb : i < B.length
    · have hb' : (i : Int) < ((B.map crat).length : Int) := by omega
      simp (disch := omega) only [wk, tis, seval, reduceCtorEq, Nat.reduceEqDiff, rqs, hF, ha', hb']
      have hrq : (((zipq (fma (qv c)) A B).take i).map crat).length = i := by rw [List.length_map, List.length_take]; omega
      have h1 := hA.cz hK1 i
      have h2 := hB.cz hK1 i
      have h3 := qz_mul (qv c) (cfq B i)
      have c1 := tat_nat A i (by omega)
      have c2 := tat_nat B i (by omega)
      have x := htimes_ok c (crat (cfq B i)) (hc.mono (by omega)) (szq_crat (by omega)) h0 (nv_crat0 _)
      rw [qv_crat] at x
      have y := hplus_ok (crat (cfq A i)) (crat (qv c * cfq B i)) (szq_crat (by omega)) (szq_crat (by omega)) (nv_crat0 _) (nv_crat0 _)
      rw [qv_crat, qv_crat, show cfq A i + qv c * cfq B i = cfq (zipq (fma (qv c)) A B) i by rw [cfq_zipq (fma_zero _)]; rfl] at y
      refine ⟨tmps_by (by kernel_rfl), ?_⟩
      refine call_by (c1) (by first | rfl | (simp only [tocvs, tocv, hF, hrq]; rfl) | (simp only [tocvs, tocv, toboxes, tobox, updH_at, Nat.reduceEqDiff, ↓reduceIte, hF, hrq]; rfl)) (by simp) ?_
      simp (disch := omega) only [wk, tis, seval, reduceCtorEq, Nat.reduceEqDiff, rqs, hF, hrq]
      refine call_by (c2) (by first | rfl | (simp only [tocvs, tocv, hF, hrq]; rfl) | (simp only [tocvs, tocv, toboxes, tobox, updH_at, Nat.reduceEqDiff, ↓reduceIte, hF, hrq]; rfl)) (by simp) ?_
      simp (disch := omega) only [wk, tis, seval, reduceCtorEq, Nat.reduceEqDiff, rqs, hF, hrq]
      refine call_by (x) (by first | rfl | (simp only [tocvs, tocv, hF, hrq]; rfl) | (simp only [tocvs, tocv, toboxes, tobox, updH_at, Nat.reduceEqDiff, ↓reduceIte, hF, hrq]; rfl)) (by simp) ?_
      simp (disch := omega) only [wk, tis, seval, reduceCtorEq, Nat.reduceEqDiff, rqs, hF, hrq]
      refine call_by (y) (by first | rfl | (simp only [tocvs, tocv, hF, hrq]; rfl) | (simp only [tocvs, tocv, toboxes, tobox, updH_at, Nat.reduceEqDiff, ↓reduceIte, hF, hrq]; rfl)) (by simp) ?_
      simp (disch := omega) only [wk, tis, seval, reduceCtorEq, Nat.reduceEqDiff, rqs, hF, hrq]
      first | exact log_by (by kernel_rfl) | refine ⟨log_by (by kernel_rfl), ?_⟩
      have et := takeq_snoc (q := zipq (fma (qv c)) A B) (i := i) (by omega)
      refine ⟨⟨i + 1, st + 1, st4, by omega, ?_⟩, by omega⟩
      rw [et, List.map_append]
      (repeat' apply And.intro) <;> first | rfl | omega
    · have hb' : ¬ (i : Int) < ((B.map crat).length : Int) := by omega
      simp (disch := omega) only [wk, tis, seval, reduceCtorEq, Nat.reduceEqDiff, rqs, hF, ha', hb']
      rw [List.take_of_length_le (by omega)] at hF
      refine call_by (t) (by first | rfl | (simp only [tocvs, tocv, hF]; rfl) | (simp only [tocvs, tocv, toboxes, tobox, updH_at, Nat.reduceEqDiff, ↓reduceIte, hF]; rfl)) (by simp) ?_
      simp (disch := omega) only [wk, tis, seval, reduceCtorEq, Nat.reduceEqDiff, rqs, hF]
theorem twhole_ok (p : List RQ) (h : GQ (2 ^ 40) (2 ^ 38) p) : AC Tryz.prog 24 [cqw p] none [cw (((trimq (qvs p)).map fun c => c.num).map canon)] := by
  have f := tform_ok p h
  refine AC.by_walk (rs := [.tmp 2]) ords Tryz.func24 (by rfl) (by rfl) (by rfl) (by rfl) (by rfl) ?_
  simp (disch := omega) only [wk, tis, seval, reduceCtorEq, Nat.reduceEqDiff, rqs]
  refine call_by (f) (by rfl) (by simp) ?_
  simp (disch := omega) only [wk, tis, seval, reduceCtorEq, Nat.reduceEqDiff, rqs]
  unfold cqs
  have hAl := h.qb.trimq.1
  generalize trimq (qvs p) = A at *
  have hq : (A.map crat).length = A.length := List.length_map _
  have hnl : (A.map fun c => c.num).length = A.length := List.length_map _
  refine aloop_nil 3 3 33 2 (by simp (disch := omega) only [wk, tis, seval, reduceCtorEq, Nat.reduceEqDiff, rqs]) (fun f H => ∃ (i st : Nat), i ≤ A.length ∧ f 4 = .iv (.int .i64 i) ∧ f 0 = .iv (.sl (rats (A.map crat))) ∧ f 3 = .hs 3 st ∧ H 3 = .blk false st 33 2 (raws (((A.map fun c => c.num).take i).map canon))) (fun f H => (A.length - intAt f 4).toNat) ?_ ?_
  · refine ⟨0, 1, by omega, ?_⟩
    simp (disch := omega) only [wk, tis, seval, reduceCtorEq, Nat.reduceEqDiff, rqs, ghostF, ghostH, List.take_zero, List.map_nil]
  rintro f H ⟨i, st, hi, hF⟩
  rw [intAt_of hF.1]
  simp (disch := omega) only [wk, tis, seval, reduceCtorEq, Nat.reduceEqDiff, rqs, hF]
  refine if_by (fun hlt => ?_) (fun hlt => ?_)
  · have hlt' : i < A.length := by omega
    have hrq : (((A.map fun c => c.num).take i).map canon).length = i := by rw [List.length_map, List.length_take]; omega
    have e := cratq_get hlt'
    have e3 : prow (crat (cfq A i)).1 = prow (canon (cfq A i).num) := rfl
    have e4 : cf (A.map fun c => c.num) i = (cfq A i).num := by simp [cf, cfq, List.getD, hlt']
    simp (disch := omega) only [wk, tis, seval, reduceCtorEq, Nat.reduceEqDiff, rqs, hF, hq, hrq, e, e3]
    have et := takez_snoc (q := A.map fun c => c.num) (i := i) (by omega)
    rw [e4] at et
    refine ⟨⟨i + 1, st + 1, by omega, ?_⟩, by omega⟩
    rw [et, List.map_append]
    (repeat' apply And.intro) <;> first | rfl | omega
  · simp (disch := omega) only [wk, tis, seval, reduceCtorEq, Nat.reduceEqDiff, rqs, hF]
    rw [List.take_of_length_le (by omega)]
end Go.Proofs.YtcocppjgbcbndaaGreat

namespace Go.Proofs.YtcocppjgbcbndaaGreat
open Go Go.Proofs Go.AL
set_option linter.unusedSimpArgs false
set_option linter.unusedVariables false
end Go.Proofs.YtcocppjgbcbndaaGreat

namespace Go.Proofs.YtcocppjgbcbndaaGreat
open Go Go.Proofs Go.AL
set_option linter.unusedSimpArgs false
set_option linter.unusedVariables false
def upq (c : Rat) (n : Nat) : List Rat := List.replicate n 0 ++ [c]
def dc (A B : List Rat) : Rat := cfq A (A.length - 1) / cfq B (B.length - 1)
def dn1 (A B : List Rat) : List Rat := trimq (zipq (fma (-1)) A (mulq (upq (dc A B) (A.length - B.length)) B))
def dit (A B : List Rat) : Nat → List Rat
  | 0 => A
  | k + 1 => dn1 (dit A B k) B
theorem CD.cf {D n M : Nat} {q : List Rat} (h : CB D n M q) (k : Nat) : CD D M (cfq q k) := by
  by_cases hk : k < q.length
  · rw [cfq_lt hk]; exact h.c _ (List.getElem_mem hk)
  · rw [cfq_ge (by omega)]; exact CD.zero _ _
end Go.Proofs.YtcocppjgbcbndaaGreat

namespace Go.Proofs.YtcocppjgbcbndaaGreat
open Go Go.Proofs Go.AL
set_option linter.unusedSimpArgs false
set_option linter.unusedVariables false
theorem CD.den_dvd {D M : Nat} {q : Rat} (hD : D ≠ 0) (h : CD D M q) : q.den ∣ D := by
  obtain ⟨z, e, hz⟩ := h
  have h1 := natr_ne hD
  have h2 := natr_ne q.den_nz
  have h3 : (q.num : Rat) / (q.den : Rat) = (z : Rat) / (D : Rat) := by
    rw [← e, ← Rat.mkRat_eq_div]; exact Rat.mkRat_self q
  have h4 : (q.num : Rat) * (D : Rat) = (z : Rat) * (q.den : Rat) := by grind
  have h5 : q.num * (D : Int) = z * (q.den : Int) := by
    rw [← Rat.intCast_natCast, ← Rat.intCast_natCast, ← Rat.intCast_mul, ← Rat.intCast_mul] at h4
    exact Rat.intCast_inj.mp h4
  have h6 : q.den ∣ q.num.natAbs * D := ⟨z.natAbs, by
    have := congrArg Int.natAbs h5
    rw [Int.natAbs_mul, Int.natAbs_mul, Int.natAbs_natCast, Int.natAbs_natCast] at this
    rw [this, Nat.mul_comm]⟩
  exact (q.reduced.symm).dvd_of_dvd_mul_left h6
theorem qsum_cd {D M n : Nat} {f : Nat → Rat} (h : ∀ i, i < n → CD D M (f i)) : CD D (M + n) (qsum n f) := by
  induction n with
  | zero => exact CD.zero _ _
  | succ n ih =>
    have h1 := ih fun i hi => h i (by omega)
    have h2 := h n (by omega)
    exact (h1.add h2).mono (by omega)
theorem lcmL_dvd {D : Nat} : ∀ (l : List Nat) (i : Nat), (∀ x ∈ l, x ∣ D) → lcmL (l.take i) ∣ D
  | l, 0, _ => by rw [List.take_zero]; exact Nat.one_dvd _
  | l, i + 1, h => by
    by_cases hi : i < l.length
    · rw [lcmL_take hi]
      refine Nat.lcm_dvd (lcmL_dvd l i h) (h _ ?_)
      rw [List.getD, List.getElem?_eq_getElem hi, Option.getD_some]
      exact List.getElem_mem hi
    · rw [List.take_of_length_le (by omega), ← List.take_of_length_le (l := l) (i := i) (by omega)]
      exact lcmL_dvd l i h
theorem CB.dens_dvd {D n M : Nat} {A : List Rat} (h : CB D n M A) : ∀ x ∈ dens A, x ∣ D := fun x hx => by
  obtain ⟨c, hc, rfl⟩ := List.mem_map.1 hx
  exact (h.c c hc).den_dvd h.d
theorem CB.lcm_len {D n M : Nat} {A : List Rat} (h : CB D n M A) (i : Nat) : (wd (lcmL ((dens A).take i))).length ≤ M :=
  Nat.le_trans (wd_len_mono (Nat.le_of_dvd (Nat.pos_of_ne_zero h.d) (lcmL_dvd _ i h.dens_dvd))) h.w
theorem CB.cden_dvd {D n M : Nat} {A : List Rat} (h : CB D n M A) : cden A ∣ D := by
  have := lcmL_dvd (dens A) (dens A).length h.dens_dvd
  rwa [List.take_length] at this
theorem CB.cden_len {D n M : Nat} {A : List Rat} (h : CB D n M A) : (wd (cden A)).length ≤ M :=
  Nat.le_trans (wd_len_mono (Nat.le_of_dvd (Nat.pos_of_ne_zero h.d) h.cden_dvd)) h.w
theorem CB.clr_pb {D n M : Nat} {A : List Rat} (h : CB D n M A) : PB n M (clr A) := .of (by rw [clr_len]; exact h.l) fun k => by
  obtain ⟨z, e, hz⟩ := CD.cf h k
  obtain ⟨t, ht⟩ := h.cden_dvd
  have ht0 : t ≠ 0 := fun e => h.d (by rw [ht, e, Nat.mul_zero])
  have h1 := natr_ne (cden_ne A)
  have h2 := natr_ne ht0
  have h3 := cf_clr A k
  rw [e, ht, Rat.natCast_mul] at h3
  have h4 : (cf (clr A) k : Rat) * (t : Rat) = (z : Rat) := by rw [h3]; grind
  have h5 : cf (clr A) k * (t : Int) = z := by
    rw [← Rat.intCast_natCast, ← Rat.intCast_mul] at h4
    exact Rat.intCast_inj.mp h4
  refine Nat.le_trans (wd_len_mono ?_) hz
  rw [← h5, Int.natAbs_mul, Int.natAbs_natCast]
  exact Nat.le_mul_of_pos_right _ (Nat.pos_of_ne_zero ht0)
theorem CB.mulq {D E n m M N : Nat} {A B : List Rat} (hA : CB D n M A) (hB : CB E m N B) : CB (D * E) (n + m) (M + N + (n + m)) (mulq A B) where
  d := Nat.mul_ne_zero hA.d hB.d
  w := by
    have h1 := AL.wd_mul_len D E
    have h2 := hA.w
    have h3 := hB.w
    omega
  l := by
    simp only [mulq_def, List.length_map, List.length_range]
    have := hA.l
    have := hB.l
    omega
  c := fun c hc => by
    obtain ⟨k, hk, rfl⟩ := List.getElem_of_mem hc
    have hl : k < n + m := by
      simp only [mulq_def, List.length_map, List.length_range] at hk
      have := hA.l
      have := hB.l
      omega
    rw [← cfq_lt hk, cfq_mulq, PQ.cvq_conv]
    exact (qsum_cd (n := k + 1) (f := fun i => cfq A i * cfq B (k - i)) fun i _ => CD.mul hA.d hB.d (CD.cf hA _) (CD.cf hB _)).mono (by omega)
end Go.Proofs.YtcocppjgbcbndaaGreat

namespace Go.Proofs.YtcocppjgbcbndaaGreat
open Go Go.Proofs Go.AL
set_option linter.unusedSimpArgs false
set_option linter.unusedVariables false
theorem rats_length (l : List RQ) : (rats l).length = l.length := by simp [rats]
end Go.Proofs.YtcocppjgbcbndaaGreat

namespace Go.Proofs.YtcocppjgbcbndaaGreat
open Go Go.Proofs Go.AL
set_option linter.unusedSimpArgs false
set_option linter.unusedVariables false
structure DV (A B : List Rat) (n K : Nat) : Prop where
  la : A.length ≤ 2 ^ 28
  lb : B.length ≤ 2 ^ 28
  h0 : B.length ≠ 0
  hb : cfq B (B.length - 1) ≠ 0
  ta : trimq A = A
  tb : trimq B = B
  en : (dit A B n).length < B.length
  hj : ∀ j, j < n → B.length ≤ (dit A B j).length
  za : ∀ k, k ≤ n → ∀ i, qz (cfq (dit A B k) i) ≤ K
  zb : ∀ i, qz (cfq B i) ≤ K
  k1 : 1 ≤ K
  k2 : K ≤ 2 ^ 32
def hrows : HC → Nat
  | .blk _ _ _ _ rows => rows.length
  | .none => 0
end Go.Proofs.YtcocppjgbcbndaaGreat

namespace Go.Proofs.YtcocppjgbcbndaaGreat
open Go Go.Proofs Go.AL
set_option linter.unusedSimpArgs false
set_option linter.unusedVariables false
theorem cvq_take_all {g : Nat → Rat} (A : List Rat) (k : Nat) : cvq (A.take (k + 1)) g k = cvq A g k := by
  have h : ∀ m, cvq (A.take (k + 1 + m)) g k = cvq (A.take (k + 1)) g k := fun m => by
    induction m with
    | zero => rfl
    | succ m ih => rw [← Nat.add_assoc, cvq_take_succ, ih, if_neg (by omega), Rat.add_zero]
  rw [← h A.length, List.take_of_length_le (by omega)]
theorem mulq_len (A B : List Rat) : (mulq A B).length = A.length + B.length := by simp [mulq]
set_option maxHeartbeats 1000000 in
theorem ttimes_ok (p r : List RQ) (K : Nat) (hp : GQ (2 ^ 30) K p) (hr : GQ (2 ^ 30) K r) (hK : K ≤ 2 ^ 33) (hK1 : 1 ≤ K) (hz : ∀ i k, qz (cvq ((trimq (qvs p)).take i) (cfq (trimq (qvs r))) k) ≤ 2 ^ 34) : AC Tryz.prog 55 [cqw p, cqw r] none [cqp (mulq (qvs p) (qvs r))] := by
  have m := tform_ok p (hp.mono (by omega) (by omega))
  have n := tform_ok r (hr.mono (by omega) (by omega))
  have hA := hp.qb.trimq
  have hB := hr.qb.trimq
  have z0 := hP_ok 0 1 (by omega) (by omega) (by omega) (by omega)
  rw [show ((0 : Int) : Rat) / ((1 : Nat) : Rat) = 0 by decide +kernel] at z0
  have e : cqp (mulq (qvs p) (qvs r)) = cqp (mulq (trimq (qvs p)) (trimq (qvs r))) := congrArg cqw (cqs_ext fun k => (mulq_trim _ _ k).symm)
  rw [e]
  refine AC.by_walk (rs := [.tmp 4]) ords Tryz.func55 (by rfl) (by rfl) (by rfl) (by rfl) (by rfl) ?_
  simp (disch := omega) only [wk, tis, seval, reduceCtorEq, Nat.reduceEqDiff, rqs]
  refine call_by (m) (by rfl) (by simp) ?_
  simp (disch := omega) only [wk, tis, seval, reduceCtorEq, Nat.reduceEqDiff, rqs]
  refine call_by (n) (by rfl) (by simp) ?_
  simp (disch := omega) only [wk, tis, seval, reduceCtorEq, Nat.reduceEqDiff, rqs]
  unfold cqs
  generalize trimq (qvs p) = A at *
  generalize trimq (qvs r) = B at *
  have hAl := hA.1
  have hBl := hB.1
  have hqa : (A.map crat).length = A.length := List.length_map _
  have hqb : (B.map crat).length = B.length := List.length_map _
  have hml := mulq_len A B
  have hR : QB (2 ^ 40) (2 ^ 38) ((mulq A B).take (A.length + B.length - 1)) := ⟨by rw [List.length_take]; omega, fun c hc => by
    obtain ⟨i, hi, rfl⟩ := List.getElem_of_mem (List.mem_of_mem_take hc)
    rw [← cfq_lt hi, cfq_mulq, ← cvq_take_all]
    have := hz (i + 1) i
    omega⟩
  have t := tform_ok (((mulq A B).take (A.length + B.length - 1)).map crat) hR.gq
  rw [qvs_map, show cqp ((mulq A B).take (A.length + B.length - 1)) = cqp (mulq A B) from congrArg cqw (cqs_ext fun k => by
    by_cases hk : k < A.length + B.length - 1
    · rw [cfq_lt (by rw [List.length_take]; omega), cfq_lt (by omega), List.getElem_take]
    · rw [cfq_ge (by rw [List.length_take]; omega), cfq_mulq, cvq_zero (n := B.length) A (fun j hj => cfq_ge hj) (by omega)])] at t
  refine aloop_nil 5 5 35 3 (by simp (disch := omega) only [wk, tis, seval, reduceCtorEq, Nat.reduceEqDiff, rqs]) (fun f H => ∃ (k st : Nat), k ≤ A.length + B.length - 1 ∧ f 6 = .iv (.int .i64 k) ∧ f 0 = .iv (.sl (rats (A.map crat))) ∧ f 1 = .iv (.sl (rats (B.map crat))) ∧ f 5 = .hs 5 st ∧ H 5 = .blk false st 35 3 (rats (((mulq A B).take k).map crat))) (fun f H => (A.length + B.length - intAt f 6).toNat) ?_ ?_
  · refine ⟨0, 1, by omega, ?_⟩
    simp (disch := omega) only [wk, tis, seval, reduceCtorEq, Nat.reduceEqDiff, rqs, ghostF, ghostH, List.take_zero, List.map_nil]
  rintro f H ⟨k, st, hk, hF⟩
  rw [intAt_of hF.1]
  simp (disch := omega) only [wk, tis, seval, reduceCtorEq, Nat.reduceEqDiff, rqs, hF]
  by_cases hlt : k < A.length + B.length - 1
  · have hlt' : (k : Int) < (A.length : Int) + (B.length : Int) - 1 := by omega
    simp (disch := omega) only [wk, tis, seval, reduceCtorEq, Nat.reduceEqDiff, rqs, hF, hqa, hqb, hlt']
    refine call_by (z0) (by first | rfl | (simp only [tocvs, tocv, hF, hqa, hqb]; rfl) | (simp only [tocvs, tocv, toboxes, tobox, updH_at, Nat.reduceEqDiff, ↓reduceIte, hF, hqa, hqb]; rfl)) (by simp) ?_
    simp (disch := omega) only [wk, tis, seval, reduceCtorEq, Nat.reduceEqDiff, rqs, hF, hqa, hqb]
    refine aloop_by (fun f H => ∃ (i s7 : Nat), i ≤ k + 1 ∧ f 8 = .iv (.int .i64 i) ∧ f 6 = .iv (.int .i64 k) ∧ f 0 = .iv (.sl (rats (A.map crat))) ∧ f 1 = .iv (.sl (rats (B.map crat))) ∧ f 5 = .hs 5 st ∧ H 5 = .blk false st 35 3 (rats (((mulq A B).take k).map crat)) ∧ f 7 = .hp 7 s7 0 0 ∧ H 7 = .blk false s7 35 3 [qrow (crat (cvq (A.take i) (cfq B) k))]) (fun f H => (k + 1 - intAt f 8).toNat) ?_ ?_
    · refine ⟨0, (H 7).stamp + 1, by omega, ?_⟩
      simp (disch := omega) only [wk, tis, seval, reduceCtorEq, Nat.reduceEqDiff, rqs, hF, show crat (cvq (A.take 0) (cfq B) k) = crat 0 from rfl]
    rintro f H ⟨i, s7, hi, hF⟩
    rw [intAt_of hF.1]
    simp (disch := omega) only [wk, tis, seval, reduceCtorEq, Nat.reduceEqDiff, rqs, hF]
    by_cases hik : i ≤ k
    · have hik' : (i : Int) ≤ (k : Int) := by omega
      have es := cvq_take_succ (g := cfq B) A i k
      rw [if_pos hik] at es
      by_cases h1 : i < A.length
      · have h1' : (i : Int) < (A.length : Int) := by omega
        have e1 : (k : Int) - (i : Int) = ((k - i : Nat) : Int) := by omega
        by_cases h2 : k - i < B.length
        · have h2' : ((k - i : Nat) : Int) < (B.length : Int) := by omega
          have g1 := cratq_get h1
          have g2 := cratq_get h2
          have y1 := hA.cz hK1 i
          have y2 := hB.cz hK1 (k - i)
          have y3 := hz i k
          have y4 := qz_mul (cfq A i) (cfq B (k - i))
          have x := htimes_ok (crat (cfq A i)) (crat (cfq B (k - i))) (szq_crat (by omega)) (szq_crat (by omega)) (nv_crat0 _) (nv_crat0 _)
          have y := hplus_ok (crat (cvq (A.take i) (cfq B) k)) (crat (cfq A i * cfq B (k - i))) (szq_crat (by omega)) (szq_crat (by omega)) (nv_crat0 _) (nv_crat0 _)
          rw [qv_crat, qv_crat] at x y
          rw [← es] at y
          simp (disch := omega) only [wk, tis, seval, reduceCtorEq, Nat.reduceEqDiff, rqs, hF, hqa, hqb, hik', h1', e1, h2', g1, g2]
          refine ⟨tmps_by (by kernel_rfl), ?_⟩
          refine call_by (x) (by first | rfl | (simp only [tocvs, tocv, hF, hqa, hqb, g1, g2]; rfl) | (simp only [tocvs, tocv, toboxes, tobox, updH_at, Nat.reduceEqDiff, ↓reduceIte, hF, hqa, hqb, g1, g2]; rfl)) (by simp) ?_
          simp (disch := omega) only [wk, tis, seval, reduceCtorEq, Nat.reduceEqDiff, rqs, hF, hqa, hqb, g1, g2]
          refine call_by (y) (by first | rfl | (simp only [tocvs, tocv, hF, hqa, hqb, g1, g2]; rfl) | (simp only [tocvs, tocv, toboxes, tobox, updH_at, Nat.reduceEqDiff, ↓reduceIte, hF, hqa, hqb, g1, g2]; rfl)) (by simp) ?_
          simp (disch := omega) only [wk, tis, seval, reduceCtorEq, Nat.reduceEqDiff, rqs, hF, hqa, hqb, g1, g2]
          first | exact log_by (by kernel_rfl) | refine ⟨log_by (by kernel_rfl), ?_⟩
          refine ⟨⟨i + 1, s7, by omega, ?_⟩, by omega⟩
          (repeat' apply And.intro) <;> first | rfl | omega
        · have h2' : ¬ ((k - i : Nat) : Int) < (B.length : Int) := by omega
          rw [cfq_ge (q := B) (by omega), Rat.mul_zero, Rat.add_zero] at es
          simp (disch := omega) only [wk, tis, seval, reduceCtorEq, Nat.reduceEqDiff, rqs, hF, hqa, hqb, hik', h1', e1, h2']
          refine ⟨⟨i + 1, s7, by omega, ?_⟩, by omega⟩
          rw [es]
          (repeat' apply And.intro) <;> first | rfl | omega
      · have h1' : ¬ (i : Int) < (A.length : Int) := by omega
        rw [cfq_ge (q := A) (by omega), Rat.zero_mul, Rat.add_zero] at es
        simp (disch := omega) only [wk, tis, seval, reduceCtorEq, Nat.reduceEqDiff, rqs, hF, hqa, hqb, hik', h1']
        refine ⟨⟨i + 1, s7, by omega, ?_⟩, by omega⟩
        rw [es]
        (repeat' apply And.intro) <;> first | rfl | omega
    · have hik' : ¬ (i : Int) ≤ (k : Int) := by omega
      obtain rfl : i = k + 1 := by omega
      rw [cvq_take_all, ← cfq_mulq] at hF
      have hrq : (((mulq A B).take k).map crat).length = k := by rw [List.length_map, List.length_take]; omega
      have et := takeq_snoc (q := mulq A B) (i := k) (by omega)
      simp (disch := omega) only [wk, tis, seval, reduceCtorEq, Nat.reduceEqDiff, rqs, hF, hik', hrq]
      refine ⟨⟨k + 1, st + 1, by omega, ?_⟩, by omega⟩
      rw [et, List.map_append]
      (repeat' apply And.intro) <;> first | rfl | omega
  · have hlt' : ¬ (k : Int) < (A.length : Int) + (B.length : Int) - 1 := by omega
    obtain rfl : k = A.length + B.length - 1 := by omega
    simp (disch := omega) only [wk, tis, seval, reduceCtorEq, Nat.reduceEqDiff, rqs, hF, hqa, hqb, hlt']
    refine call_by (t) (by first | rfl | (simp only [tocvs, tocv, hF]; rfl) | (simp only [tocvs, tocv, toboxes, tobox, updH_at, Nat.reduceEqDiff, ↓reduceIte, hF]; rfl)) (by simp) ?_
    simp (disch := omega) only [wk, tis, seval, reduceCtorEq, Nat.reduceEqDiff, rqs, hF]
end Go.Proofs.YtcocppjgbcbndaaGreat

namespace Go.Proofs.YtcocppjgbcbndaaGreat
open Go Go.Proofs Go.AL
set_option linter.unusedSimpArgs false
set_option linter.unusedVariables false
end Go.Proofs.YtcocppjgbcbndaaGreat

namespace Go.Proofs.YtcocppjgbcbndaaGreat
open Go Go.Proofs Go.AL
set_option linter.unusedSimpArgs false
set_option linter.unusedVariables false
theorem CB.one_list : CB 1 1 1 [1] where
  d := by omega
  w := by decide +kernel
  l := Nat.le_refl _
  c := fun c hc => by
    rcases List.mem_singleton.1 hc with rfl
    exact ⟨1, by decide +kernel, by decide +kernel⟩
theorem powq_cb {D n M c : Nat} {A : List Rat} (h : CB D n M A) : ∀ k, 1 + k * n ≤ c → ∃ E, CB E (1 + k * n) (1 + k * (M + n + c)) (powq A k)
  | 0, _ => ⟨1, by rw [Nat.zero_mul, Nat.zero_mul]; exact CB.one_list⟩
  | k + 1, hk => by
    have e1 : (k + 1) * n = k * n + n := Nat.succ_mul k n
    obtain ⟨E, hE⟩ := powq_cb (c := c) h k (by omega)
    refine ⟨D * E, ?_⟩
    rw [powq]
    have e2 : (k + 1) * (M + n + c) = k * (M + n + c) + (M + n + c) := Nat.succ_mul k _
    exact (h.mulq hE).mono (by omega) (by omega)
def PWH (A : List Rat) (m N K : Nat) : Prop := ∀ k, k ≤ m → ∃ D, CB D N K (powq A k)
structure PWK (A : List Rat) (m N K : Nat) : Prop where
  h : ∀ k, k ≤ m → ∃ D, CB D N K (trimq (powq A k))
theorem PWH.k {A : List Rat} {m N K : Nat} (h : PWH A m N K) : PWK A m N K := ⟨fun k hk => by
  obtain ⟨D, hD⟩ := h k hk
  exact ⟨D, hD.trim⟩⟩
theorem PWK.mono {A : List Rat} {m N K N' K' : Nat} (h : PWK A m N K) (hN : N ≤ N') (hK : K ≤ K') : PWK A m N' K' := ⟨fun k hk => by
  obtain ⟨D, hD⟩ := h.h k hk
  exact ⟨D, hD.mono hN hK⟩⟩
theorem CB.part {D E n m M N : Nat} {A B : List Rat} (hA : CB D n M A) (hB : CB E m N B) (h1 : 1 ≤ M + N + (n + m)) (i k : Nat) : qz (cvq (A.take i) (cfq B) k) ≤ M + N + (n + m) := by
  have h := ((hA.sub (r := A.take i) (by rw [List.length_take]; have := hA.l; omega) fun c hc => List.mem_of_mem_take hc).mulq hB).qb.cz h1 k
  rwa [cfq_mulq] at h
end Go.Proofs.YtcocppjgbcbndaaGreat

namespace Go.Proofs.YtcocppjgbcbndaaGreat
open Go Go.Proofs Go.AL
set_option linter.unusedSimpArgs false
set_option linter.unusedVariables false
theorem sgq_bound (q : Rat) : -1 ≤ sgq q ∧ sgq q ≤ 1 := by
  rcases sgq_cases q with ⟨_, h⟩ | ⟨_, h⟩ | ⟨_, h⟩ <;> omega
end Go.Proofs.YtcocppjgbcbndaaGreat

namespace Go.Proofs.YtcocppjgbcbndaaGreat
open Go Go.Proofs Go.AL
set_option linter.unusedSimpArgs false
set_option linter.unusedVariables false
def lineq (c : Rat) : List Rat := [-c, 1]
def froot (X : List Rat) (b : Nat) : Nat → List Rat
  | 0 => [1]
  | k + 1 => if k = b then froot X b k else mulq (froot X b k) (lineq (cfq X k))
theorem CB.addq {D E n m M N : Nat} {A B : List Rat} (hA : CB D n M A) (hB : CB E m N B) : CB (D * E) (max n m) (M + N + 1) (addq A B) where
  d := Nat.mul_ne_zero hA.d hB.d
  w := by
    have h1 := AL.wd_mul_len D E
    have h2 := hA.w
    have h3 := hB.w
    omega
  l := by
    simp only [Go.Proofs.YtcocppjgbcbndaaGreat.addq, List.length_map, List.length_range]
    have := hA.l
    have := hB.l
    omega
  c := fun c hc => by
    obtain ⟨k, hk, rfl⟩ := List.getElem_of_mem hc
    rw [← cfq_lt hk, cfq_addq]
    have h1 := CD.up hA.d hB.d hB.w (CD.cf hA k)
    have h2 := CD.up hB.d hA.d hA.w (CD.cf hB k)
    rw [Nat.mul_comm] at h2
    exact (h1.add h2).mono (by omega)
theorem CB.const {c : Rat} {K : Nat} (h : qz c ≤ K) : CB c.den 1 K [c] where
  d := c.den_nz
  w := Nat.le_trans (qz_parts c).2 h
  l := Nat.le_refl _
  c := fun x hx => by
    rcases List.mem_singleton.1 hx with rfl
    exact (CD.ofRat x).mono (Nat.le_trans (qz_parts x).1 h)
def newc (X Y S : List Rat) (k : Nat) : Rat := (cfq Y k - evq S (cfq X k)) / evq (froot X X.length k) (cfq X k)
def news (X Y : List Rat) : Nat → List Rat
  | 0 => []
  | k + 1 => addq (news X Y k) (sclq (newc X Y (news X Y k) k) (froot X X.length k))
end Go.Proofs.YtcocppjgbcbndaaGreat

namespace Go.Proofs.YtcocppjgbcbndaaGreat
open Go Go.Proofs Go.AL
set_option linter.unusedSimpArgs false
set_option linter.unusedVariables false
end Go.Proofs.YtcocppjgbcbndaaGreat

namespace Go.Proofs.YtcocppjgbcbndaaGreat
open Go Go.Proofs Go.AL
set_option linter.unusedSimpArgs false
set_option linter.unusedVariables false
end Go.Proofs.YtcocppjgbcbndaaGreat

namespace Go.Proofs.YtcocppjgbcbndaaGreat
open Go Go.Proofs Go.AL
set_option linter.unusedSimpArgs false
set_option linter.unusedVariables false
def cmq : List Rat → PQ → PQ
  | [], _ => 0
  | c :: p, Q => PQ.C c + Q * cmq p Q
theorem cmq_nil (Q : PQ) : cmq [] Q = 0 := rfl
theorem cmq_cons (c : Rat) (p : List Rat) (Q : PQ) : cmq (c :: p) Q = PQ.C c + Q * cmq p Q := rfl
theorem cmq_snoc (p : List Rat) (c : Rat) (Q : PQ) : cmq (p ++ [c]) Q = cmq p Q + PQ.C c * PQ.pw Q p.length := by
  induction p with
  | nil => rw [List.nil_append, cmq_cons, cmq_nil, PQ.mul_zero, PQ.add_zero, PQ.zero_add, List.length_nil, PQ.pw, PQ.mul_one]
  | cons d p ih =>
    rw [List.cons_append, cmq_cons, ih, cmq_cons, List.length_cons, PQ.pw, PQ.mul_add, PQ.add_assoc]
    congr 2
    rw [← PQ.mul_assoc, PQ.mul_comm Q (PQ.C c), PQ.mul_assoc, PQ.mul_comm Q]
theorem cmq_ext {Q : PQ} : ∀ {p q : List Rat}, (∀ k, cfq p k = cfq q k) → cmq p Q = cmq q Q
  | [], [], _ => rfl
  | [], d :: q, h => by
    have h0 : d = 0 := (h 0).symm
    rw [cmq_nil, cmq_cons, ← cmq_ext (p := []) (q := q) fun k => h (k + 1), h0, PQ.C_zero, cmq_nil, PQ.mul_zero, PQ.add_zero]
  | c :: p, [], h => by
    have h0 : c = 0 := h 0
    rw [cmq_nil, cmq_cons, cmq_ext (p := p) (q := []) fun k => h (k + 1), h0, PQ.C_zero, cmq_nil, PQ.mul_zero, PQ.add_zero]
  | c :: p, d :: q, h => by
    have h0 : c = d := h 0
    rw [cmq_cons, cmq_cons, cmq_ext (p := p) (q := q) fun k => h (k + 1), h0]
def hoq (p Q : List Rat) : Nat → List Rat
  | 0 => []
  | k + 1 => addq (mulq (hoq p Q k) Q) [cfq p (p.length - 1 - k)]
theorem pq_hoq (p Q : List Rat) : ∀ k, k ≤ p.length → pq (hoq p Q k) = cmq (p.drop (p.length - k)) (pq Q)
  | 0, _ => by rw [Nat.sub_zero, List.drop_length, hoq, pq_nil, cmq_nil]
  | k + 1, hk => by
    rw [hoq, pq_addq, pq_mulq, pq_hoq p Q k (by omega), pq_const]
    have e := dropq_cf p (i := p.length - (k + 1)) (by omega)
    rw [e, cmq_cons, show p.length - (k + 1) + 1 = p.length - k by omega, show p.length - 1 - k = p.length - (k + 1) by omega, PQ.add_comm, PQ.mul_comm]
theorem hoq_cb {p Q : List Rat} {D n M m K N : Nat} (hQ : CB D n M Q) (hp : QB m K p) (hK : 1 ≤ K) (hn : 1 ≤ n) : ∀ k, k * n ≤ N → ∃ E, CB E (1 + k * n) (1 + k * (M + K + n + N + 2)) (hoq p Q k)
  | 0, _ => ⟨1, by omega, by rw [Nat.zero_mul]; decide +kernel, Nat.zero_le _, fun c hc => nomatch hc⟩
  | k + 1, hk => by
    have e1 : (k + 1) * n = k * n + n := Nat.succ_mul k n
    obtain ⟨E, hE⟩ := hoq_cb (N := N) hQ hp hK hn k (by omega)
    have e2 : (k + 1) * (M + K + n + N + 2) = k * (M + K + n + N + 2) + (M + K + n + N + 2) := Nat.succ_mul k _
    have hc := CB.const (hp.cz hK (p.length - 1 - k))
    rw [hoq]
    exact ⟨_, ((hE.mulq hQ).addq hc).mono (by omega) (by omega)⟩
def csq (p Q : List Rat) : Nat → List Rat
  | 0 => []
  | k + 1 => addq (csq p Q k) (sclq (cfq p k) (powq Q k))
theorem pq_csq (p Q : List Rat) : ∀ k, k ≤ p.length → pq (csq p Q k) = cmq (p.take k) (pq Q)
  | 0, _ => by rw [List.take_zero, csq, pq_nil, cmq_nil]
  | k + 1, hk => by
    rw [csq, pq_addq, pq_sclq, pq_powq, pq_csq p Q k (by omega), takeq_snoc (by omega), cmq_snoc, List.length_take, Nat.min_eq_left (by omega)]
theorem CB.sclq {D n M K : Nat} {A : List Rat} {c : Rat} (h : CB D n M A) (hc : qz c ≤ K) : CB (D * c.den) n (M + K) (sclq c A) where
  d := Nat.mul_ne_zero h.d c.den_nz
  w := by
    have h1 := AL.wd_mul_len D c.den
    have h2 := h.w
    have h3 := (qz_parts c).2
    omega
  l := by simp only [Go.Proofs.YtcocppjgbcbndaaGreat.sclq, List.length_map]; exact h.l
  c := fun x hx => by
    obtain ⟨y, hy, rfl⟩ := List.mem_map.1 hx
    exact CD.mul h.d c.den_nz (h.c y hy) ((CD.ofRat c).mono (Nat.le_trans (qz_parts c).1 hc))
theorem csq_cb {p Q : List Rat} {D n M m K c : Nat} (hQ : CB D n M Q) (hp : QB m K p) (hK : 1 ≤ K) : ∀ k, 1 + k * n ≤ c → ∃ E, CB E c (1 + k * (1 + k * (M + n + c) + K + 1)) (csq p Q k)
  | 0, _ => ⟨1, by omega, by rw [Nat.zero_mul]; decide +kernel, Nat.zero_le _, fun c hc => nomatch hc⟩
  | k + 1, hk => by
    have e1 : (k + 1) * n = k * n + n := Nat.succ_mul k n
    obtain ⟨E, hE⟩ := csq_cb (c := c) hQ hp hK k (by omega)
    obtain ⟨F, hF⟩ := powq_cb (c := c) hQ k (by omega)
    have hs := hF.sclq (hp.cz hK k)
    rw [csq]
    refine ⟨_, (hE.addq hs).mono (by omega) ?_⟩
    have e2 : (k + 1) * (M + n + c) = k * (M + n + c) + (M + n + c) := Nat.succ_mul k _
    have e3 : k * (1 + k * (M + n + c) + K + 1) ≤ k * (1 + (k + 1) * (M + n + c) + K + 1) := Nat.mul_le_mul_left _ (by omega)
    have e4 : (k + 1) * (1 + (k + 1) * (M + n + c) + K + 1) = k * (1 + (k + 1) * (M + n + c) + K + 1) + (1 + (k + 1) * (M + n + c) + K + 1) := Nat.succ_mul k _
    omega
end Go.Proofs.YtcocppjgbcbndaaGreat

namespace Go.Proofs.YtcocppjgbcbndaaGreat
open Go Go.Proofs Go.AL
set_option linter.unusedSimpArgs false
set_option linter.unusedVariables false
end Go.Proofs.YtcocppjgbcbndaaGreat

namespace Go.Proofs.YtcocppjgbcbndaaGreat
open Go Go.Proofs Go.AL
set_option linter.unusedSimpArgs false
set_option linter.unusedVariables false
end Go.Proofs.YtcocppjgbcbndaaGreat

namespace Go.Proofs.YtcocppjgbcbndaaGreat
open Go Go.Proofs Go.AL
set_option linter.unusedSimpArgs false
set_option linter.unusedVariables false
end Go.Proofs.YtcocppjgbcbndaaGreat

namespace Go.Proofs.YtcocppjgbcbndaaGreat
open Go Go.Proofs Go.AL
set_option linter.unusedSimpArgs false
set_option linter.unusedVariables false
end Go.Proofs.YtcocppjgbcbndaaGreat

namespace Go.Proofs.YtcocppjgbcbndaaGreat
open Go Go.Proofs Go.AL
set_option linter.unusedSimpArgs false
set_option linter.unusedVariables false
end Go.Proofs.YtcocppjgbcbndaaGreat

namespace Go.Proofs.YtcocppjgbcbndaaGreat
open Go Go.Proofs Go.AL
set_option linter.unusedSimpArgs false
set_option linter.unusedVariables false
end Go.Proofs.YtcocppjgbcbndaaGreat

namespace Go.Proofs.YtcocppjgbcbndaaGreat
open Go Go.Proofs Go.AL
set_option linter.unusedSimpArgs false
set_option linter.unusedVariables false
def chs (st : Nat × Int) (x : Int) : Nat × Int :=
  if x.sign = 0 then st else (if st.2 ≠ 0 ∧ x.sign ≠ st.2 then st.1 + 1 else st.1, x.sign)
def chf (l : List Int) : Nat × Int := l.foldl chs (0, 0)
def chg (l : List Int) : Nat := (chf l).1
theorem takei_snoc {l : List Int} {i : Nat} (h : i < l.length) : l.take (i + 1) = l.take i ++ [l.getD i 0] := by
  rw [List.take_add_one]; congr 1; simp [List.getD, h]
theorem chf_take {l : List Int} {i : Nat} (h : i < l.length) : chf (l.take (i + 1)) = chs (chf (l.take i)) (l.getD i 0) := by
  rw [takei_snoc h, chf, List.foldl_append]; rfl
theorem chs_zero {st : Nat × Int} {x : Int} (h : x.sign = 0) : chs st x = st := by rw [chs, if_pos h]
theorem chs_more {st : Nat × Int} {x : Int} (h : x.sign ≠ 0) (h2 : st.2 ≠ 0 ∧ x.sign ≠ st.2) : chs st x = (st.1 + 1, x.sign) := by rw [chs, if_neg h, if_pos h2]
theorem chs_same {st : Nat × Int} {x : Int} (h : x.sign ≠ 0) (h2 : ¬ (st.2 ≠ 0 ∧ x.sign ≠ st.2)) : chs st x = (st.1, x.sign) := by rw [chs, if_neg h, if_neg h2]
theorem chf_le (l : List Int) : ∀ i, i ≤ l.length → (chf (l.take i)).1 ≤ i
  | 0, _ => by rw [List.take_zero]; exact Nat.le_refl _
  | i + 1, h => by
    have ih := chf_le l i (by omega)
    rw [chf_take (by omega)]
    unfold chs
    split
    · omega
    · split <;> (simp only; omega)
theorem sign_cases (x : Int) : (x < 0 ∧ x.sign = -1) ∨ (x = 0 ∧ x.sign = 0) ∨ (0 < x ∧ x.sign = 1) := by
  rcases Int.lt_trichotomy x 0 with hx | hx | hx
  · exact .inl ⟨hx, Int.sign_eq_neg_one_of_neg hx⟩
  · exact .inr (.inl ⟨hx, by rw [hx]; rfl⟩)
  · exact .inr (.inr ⟨hx, Int.sign_eq_one_of_pos hx⟩)
theorem sign_sign (x : Int) : x.sign.sign = x.sign := by
  rcases sign_cases x with ⟨_, h⟩ | ⟨_, h⟩ | ⟨_, h⟩ <;> rw [h] <;> rfl
theorem chs_sign (st : Nat × Int) (x : Int) : chs st x.sign = chs st x := by unfold chs; rw [sign_sign]
theorem chf_map_sign (l : List Int) : chf (l.map Int.sign) = chf l := by
  have : ∀ (l : List Int) (st : Nat × Int), (l.map Int.sign).foldl chs st = l.foldl chs st := fun l => by
    induction l with
    | nil => exact fun _ => rfl
    | cons x l ih => exact fun st => by rw [List.map_cons, List.foldl_cons, List.foldl_cons, chs_sign, ih]
  exact this l _
end Go.Proofs.YtcocppjgbcbndaaGreat

namespace Go.Proofs.YtcocppjgbcbndaaGreat
open Go Go.Proofs Go.AL
set_option linter.unusedSimpArgs false
set_option linter.unusedVariables false
def hom : List Int → PS → PS → PS
  | [], _, _ => 0
  | c :: p, f, g => PS.C c * PS.pw g p.length + f * hom p f g
theorem pw_one1 (n : Nat) : PS.pw 1 n = 1 := by
  induction n with
  | zero => rfl
  | succ n ih => rw [PS.pw, ih, PS.mul_one]
def cmp (p : List Int) (f : PS) : PS := hom p f 1
theorem cmp_nil (f : PS) : cmp [] f = 0 := rfl
theorem cmp_cons (c : Int) (p : List Int) (f : PS) : cmp (c :: p) f = PS.C c + f * cmp p f := by
  simp only [cmp, hom, pw_one1, PS.mul_one]
theorem cmp_zero {p : List Int} (f : PS) (h : ∀ k, cf p k = 0) : cmp p f = 0 := by
  induction p with
  | nil => rfl
  | cons c p ih =>
    have h0 := h 0
    rw [cmp_cons, ih (fun k => by have := h (k + 1); simpa [cf] using this), show c = 0 by simpa [cf] using h0, PS.C_zero, PS.mul_zero, PS.add_zero]
theorem cmp_ext {p q : List Int} (f : PS) (h : ∀ k, cf p k = cf q k) : cmp p f = cmp q f := by
  induction p generalizing q with
  | nil => rw [cmp_nil, cmp_zero f (fun k => (h k).symm.trans (cf_nil k))]
  | cons c p ih =>
    cases q with
    | nil => rw [cmp_nil, cmp_zero f (fun k => (h k).trans (cf_nil k))]
    | cons d q =>
      have h0 := h 0
      rw [cmp_cons, cmp_cons, ih (fun k => by have := h (k + 1); simpa [cf] using this), show c = d by simpa [cf] using h0]
theorem cf_padd_cons (c d : Int) (p q : List Int) (k : Nat) : cf (padd (c :: p) (d :: q)) k = cf ((c + d) :: padd p q) k := by
  rw [cf_padd]
  cases k with
  | zero => simp [cf]
  | succ k => simp only [cf, List.getD_cons_succ]; exact (cf_padd p q k).symm
theorem cmp_padd (p q : List Int) (f : PS) : cmp (padd p q) f = cmp p f + cmp q f := by
  induction p generalizing q with
  | nil => rw [cmp_nil, PS.zero_add]; exact cmp_ext f fun k => by rw [cf_padd, cf_nil, Int.zero_add]
  | cons c p ih =>
    cases q with
    | nil => rw [cmp_nil, PS.add_zero]; exact cmp_ext f fun k => by rw [cf_padd, cf_nil, Int.add_zero]
    | cons d q =>
      rw [cmp_ext f (cf_padd_cons c d p q), cmp_cons, cmp_cons, cmp_cons, ih, PS.C_add, PS.mul_add]
      ac_rfl
theorem cmp_pscale (c : Int) (p : List Int) (f : PS) : cmp (pscale c p) f = PS.C c * cmp p f := by
  induction p with
  | nil => rw [cmp_nil, PS.mul_zero]; rfl
  | cons d p ih =>
    have : pscale c (d :: p) = (d * c) :: pscale c p := rfl
    rw [this, cmp_cons, cmp_cons, ih, PS.C_mul, PS.mul_add]
    ac_rfl
theorem cmp_pmul (p q : List Int) (f : PS) : cmp (pmul p q) f = cmp p f * cmp q f := by
  induction p with
  | nil => rw [cmp_nil, PS.zero_mul]; exact cmp_zero f fun k => by rw [cf_pmul]; rfl
  | cons c p ih =>
    have e : ∀ k, cf (pmul (c :: p) q) k = cf (padd (pscale c q) (0 :: pmul p q)) k := fun k => by
      rw [cf_pmul_cons, cf_padd, cf_pscale, Int.mul_comm c]
      congr 1
      cases k with
      | zero => rfl
      | succ k => rfl
    rw [cmp_ext f e, cmp_padd, cmp_pscale, cmp_cons, cmp_cons, ih, PS.C_zero, PS.zero_add, PS.add_mul, PS.mul_assoc]
theorem ps_X : ps [0, 1] = PS.X := PS.ext fun k => by
  rw [ps_c, PS.X]
  match k with
  | 0 => rfl
  | 1 => rfl
  | k + 2 => simp [cf]
theorem cmp_X (p : List Int) : cmp p PS.X = ps p := by
  induction p with
  | nil => rw [cmp_nil, ps_nil]
  | cons c p ih =>
    rw [cmp_cons, ih, ← ps_X, ← ps_pmul, ← ps_const, ← ps_padd]
    refine ps_ext fun k => ?_
    rw [cf_padd, cf_pmul_cons]
    cases k with
    | zero => simp [cf, shiftf]
    | succ k =>
      rw [shiftf, cf_pmul_cons]
      have hn : ∀ n, cf (pmul [] p) n = 0 := fun n => by rw [cf_pmul]; rfl
      have hs : shiftf (cf (pmul [] p)) k = 0 := by cases k <;> simp [shiftf, hn]
      rw [hs]
      simp [cf]
def lhom : List Int → List Int → List Int → List Int
  | [], _, _ => []
  | c :: p, f, g => padd (pscale c (ppow g p.length)) (pmul f (lhom p f g))
theorem ps_lhom (p f g : List Int) : ps (lhom p f g) = hom p (ps f) (ps g) := by
  induction p with
  | nil => rw [lhom, hom, ps_nil]
  | cons c p ih => rw [lhom, hom, ps_padd, ps_pscale, ps_ppow, ps_pmul, ih]
theorem pb_lhom {N K : Nat} {f g : List Int} (hf : PB N K f) (hg : PB N K g) (hN : N < 2 ^ 20) : ∀ {p : List Int} {m : Nat}, m < 2 ^ 20 → PB m K p → PB (p.length * N + 1) (p.length * (K + 2) + K + 3) (lhom p f g)
  | [], _, _, _ => ⟨by simp [lhom], fun z hz => by simp [lhom] at hz⟩
  | c :: p, m, hm, hp => by
    have h1 : PB m K p := ⟨by have := hp.1; simp at this; omega, fun z hz => hp.2 z (List.mem_cons_of_mem _ hz)⟩
    have ih := pb_lhom hf hg hN hm h1
    have hc := hp.2 c (by simp)
    have hpl : p.length ≤ 2 ^ 20 := by have := hp.1; simp at this; omega
    have hW : ∀ x, x < 2 ^ 60 → x < W := fun x hx => by simp only [W]; omega
    have q := (hg.ppow (hW N (by omega)) p.length).pscale (c := c)
    have r := hf.pmul ih (hW N (by omega))
    have e1 : (p.length + 1) * N = p.length * N + N := Nat.succ_mul _ _
    have e2 : (p.length + 1) * (K + 2) = p.length * (K + 2) + (K + 2) := Nat.succ_mul _ _
    have e3 : p.length * (K + 2) = p.length * (K + 1) + p.length := by rw [show K + 2 = K + 1 + 1 from rfl, Nat.mul_succ]
    have hlen : (c :: p).length = p.length + 1 := rfl
    rw [hlen, e1, e2]
    exact (q.padd r).mono (by omega) (by omega)
end Go.Proofs.YtcocppjgbcbndaaGreat

namespace Go.Proofs.YtcocppjgbcbndaaGreat
open Go Go.Proofs Go.AL
open Go.RowKit Go.Shelf
set_option linter.unusedSimpArgs false
set_option linter.unusedVariables false
attribute [local go_sem] Oper.semAt_some
set_option maxRecDepth 100000 in
set_option maxHeartbeats 4000000 in
theorem back_in (F : Fence) (n : Nat) (h7 : F.fn 143) (hro : F.round = none) (hn : 1 ≤ n) (l Bs Bo b off len cap : Nat) (cell : Nat → Nat → Value) (n0 : Nat) (D : Nat → Prop) (hlen : (len : Int) * 32 ≤ 140737488351232) (J Jx : Nat → World → Prop) (w : World)
    (hBs0 : Bs < n0) (hBs1 : ¬ D Bs) (hb0 : b < n0) (hb1 : ¬ D b)
    (hY : ∀ k W1, k < len → J k W1 → YieldAt F (n - 1) Tryz.prog l #[.int .i64 ((len : Int) - 1 - k), .agg #[cell (len - 1 - k) 0, cell (len - 1 - k) 1]] W1 fun e W' => (e = .returned (.bool true) ∧ J (k + 1) W' ∧ Kept D n0 W1 W') ∨ (e = .returned (.bool false) ∧ Jx k W'))
    (hw : w.cell? ⟨Bs, Bo, none⟩ = some (.slice (some ⟨b, off, none⟩) len cap)) (hc : ∀ i, i < len → w.cell? ⟨b, off + i * 2, none⟩ = some (cell i 0) ∧ w.cell? ⟨b, off + i * 2 + 1, none⟩ = some (cell i 1))
    (W : World) (hk : Kept D n0 w W) (h0 : J 0 W) :
    CallsIn F n Tryz.prog 143 #[.func (.yield l) #[] #[], .pointer (some ⟨Bs, Bo, none⟩)] W fun e W' => (∃ v, e = .returned v) ∧ (J len W' ∨ ∃ k, Jx k W') := by
  refine callsIn_of_wp Tryz.func143 rfl h7 ?_ hro
  simp only [Tryz.ntmps143, List.size_toArray, List.length_cons, List.length_nil, Nat.reduceAdd, Nat.reduceSub, Array.replicate_succ, Array.replicate_zero, List.push_toArray, List.append_toArray, List.nil_append, List.cons_append]
  have kc : ∀ {W' : World} {g o : Nat} {v : Value}, Kept D n0 w W' → g < n0 → ¬ D g → w.cell? ⟨g, o, none⟩ = some v → W'.cell? ⟨g, o, none⟩ = some v := fun hk hg hD hv => by
    rw [World.cell?_of_block (hk _ hg hD (cells_of_cell hv))]; exact hv
  have hW := kc hk hBs0 hBs1 hw
  gi_wp2
  gi_loopw [3] (fun i wr => ∃ k : Nat, k ≤ len ∧ i = .int .i64 ((len : Int) - 1 - k) ∧ J k wr ∧ Kept D n0 w wr)
    (fun i _ => (intOf i + 1).toNat)
  case atStart => exact ⟨0, Nat.zero_le _, by congr 1; omega, h0, hk⟩
  case round =>
    obtain ⟨k, hkl, rfl, hJs, hnx⟩ := hrel
    have hWr := kc hnx hBs0 hBs1 hw
    by_cases hlt : k < len
    · obtain ⟨fn, tmps, assign, body, hy, hR⟩ := hY k wr hlt hJs
      obtain ⟨hc0, hc1⟩ := hc (len - 1 - k) (by omega)
      have hcx0 := kc hnx hb0 hb1 hc0
      have hcx1 := kc hnx hb0 hb1 hc1
      have hge : (k : Int) ≤ (len : Int) - 1 := by omega
      gi_wp2
      refine hR.mono ?_
      rintro e W3 (⟨rfl, hJ3, hk3⟩ | ⟨rfl, hJx3⟩)
      · gi_wp2
        go_roundw
        case rel => exact ⟨k + 1, by omega, by congr 1; omega, hJ3, hnx.trans hk3⟩
        case measure => simp [intOf]; omega
      · gi_wp2
        refine bodyPost_ret (results_none rfl _ _ _) rfl ?_
        exact ⟨⟨_, rfl⟩, .inr ⟨_, hJx3⟩⟩
    · obtain rfl : k = len := by omega
      have hge : ¬ ((k : Int) ≤ (k : Int) - 1) := by omega
      gi_wp2
      go_end0
      exact ⟨⟨_, rfl⟩, .inl hJs⟩
set_option maxRecDepth 100000 in
set_option maxHeartbeats 1000000 in
theorem back_nil_in (F : Fence) (n : Nat) (h7 : F.fn 143) (hro : F.round = none) (l Bs Bo : Nat) (a : Option Addr) (cap : Nat) (J : World → Prop)
    (W : World) (hW : W.cell? ⟨Bs, Bo, none⟩ = some (.slice a 0 cap)) (h0 : J W) :
    CallsIn F n Tryz.prog 143 #[.func (.yield l) #[] #[], .pointer (some ⟨Bs, Bo, none⟩)] W fun e W' => (∃ v, e = .returned v) ∧ J W' := by
  refine callsIn_of_wp Tryz.func143 rfl h7 ?_ hro
  simp only [Tryz.ntmps143, List.size_toArray, List.length_cons, List.length_nil, Nat.reduceAdd, Nat.reduceSub, Array.replicate_succ, Array.replicate_zero, List.push_toArray, List.append_toArray, List.nil_append, List.cons_append]
  gi_wp2
  gi_loopw [3] (fun i wr => i = .int .i64 (-1) ∧ J wr) (fun _ _ => 0)
  case atStart => exact ⟨rfl, h0⟩
  case round =>
    obtain ⟨rfl, hJs⟩ := hrel
    gi_wp2
    go_end0
    exact ⟨⟨_, rfl⟩, hJs⟩
theorem run_enter_back : ∀ args w, (callFunc 143 args).run Tryz.prog w = .ok (.enter 143 args) w := enters_of Tryz.func143 (by kernel_rfl) rfl
theorem back_iter {rows : List (List IV)} (h2 : ∀ r ∈ rows, r.length = 2) (hlen : (rows.length : Int) * 32 ≤ 140737488351232) : AIter Tryz.prog 143 [[.sl rows]] 2 rows.length
    (fun k => [ci ((rows.length : Int) - 1 - k), .agg (rows.getD (rows.length - 1 - k) [])]) := by
  refine ⟨run_enter_back, fun w D vs hD hb => ?_⟩
  match vs, hb with
  | ⟨[v]⟩, hb =>
    obtain ⟨⟨Bs, Bo, rfl, hDb, us, hus, hcs⟩, -⟩ := hb
    match us, hus with
    | [u], hus =>
      have hcell : w.cell? ⟨Bs, Bo, none⟩ = some u := by simpa using hcs 0 u rfl
      have hBs1 := hDb (by simp)
      have hBs0 := World.block_lt_of_cell? w _ hcell
      generalize hx : IV.sl rows = x at hus
      cases hus.1 with
      | int => cases hx
      | bool => cases hx
      | raw => cases hx
      | nil a cap hcap =>
        cases hx
        refine ⟨fun _ => #[Go.undef, Go.undef], fun _ => rfl, fun k hk => absurd hk (by simp), fun l J Jx W hk hs _ _ hY h0 => ?_⟩
        have hW : W.cell? ⟨Bs, Bo, none⟩ = some (.slice a 0 cap) := by
          rw [World.cell?_of_block (hk _ hBs0 hBs1 (cells_of_cell hcell))]; exact hcell
        exact ((back_nil_in (Wd none) 0 trivial rfl l Bs Bo a cap (J 0) W hW h0).mono fun e W' h => ⟨h.1, .inl h.2⟩)
      | sl rows' g o cap sz cell hsz hle hcap hg hD' hc hr =>
        cases hx
        have goW : ∀ {W : World}, Kept D w.heap.size w W → W.cell? ⟨Bs, Bo, none⟩ = some (.slice (some ⟨g, o, none⟩) rows.length cap) := fun hk => by
          rw [World.cell?_of_block (hk _ hBs0 hBs1 (cells_of_cell hcell))]; exact hcell
        by_cases hne : rows = []
        · subst hne
          refine ⟨fun _ => #[Go.undef, Go.undef], fun _ => rfl, fun k hk => absurd hk (by simp), fun l J Jx W hk hs _ _ hY h0 => ?_⟩
          exact ((back_nil_in (Wd none) 0 trivial rfl l Bs Bo _ cap (J 0) W (goW hk) h0).mono fun e W' h => ⟨h.1, .inl h.2⟩)
        · obtain ⟨r0, hr0⟩ : ∃ r, rows[0]? = some r := ⟨rows[0]'(List.length_pos_iff.2 hne), by simp⟩
          obtain rfl : sz = 2 := (hsz 0 r0 hr0).symm.trans (h2 r0 (List.mem_of_getElem? hr0))
          have hro : ∀ i, i < rows.length → ∃ x y, rows[i]? = some [x, y] := fun i hi => by
            have e : rows[i]? = some rows[i] := by simp [hi]
            have hl := h2 rows[i] (List.mem_of_getElem? e)
            match hm : rows[i], hl with
            | [x, y], _ => exact ⟨x, y, by rw [e, hm]⟩
          refine ⟨fun k => #[.int .i64 ((rows.length : Int) - 1 - k), .agg #[cell (rows.length - 1 - k) 0, cell (rows.length - 1 - k) 1]], fun _ => rfl, fun k hk => ?_, fun l J Jx W hk hs _ _ hY h0 => ?_⟩
          · obtain ⟨x, y, he⟩ := hro (rows.length - 1 - k) (by omega)
            refine ⟨Rep.int _ _, ⟨_, rfl, ?_⟩, trivial⟩
            have hg2 : rows.getD (rows.length - 1 - k) [] = [x, y] := by rw [List.getD_eq_getElem?_getD, he]; rfl
            rw [hg2]
            exact ⟨hr _ _ he 0 x rfl, hr _ _ he 1 y rfl, trivial⟩
          · have h := back_in (Wd none) 1 trivial rfl (Nat.le_refl _) l Bs Bo g o rows.length cap cell w.heap.size D hlen J Jx w hBs0 hBs1 hg hD' hY hcell (fun i hi => by
              obtain ⟨x, y, he⟩ := hro i hi
              exact ⟨hc _ _ he 0 x rfl, hc _ _ he 1 y rfl⟩) W hk h0
            exact ⟨trivial, fun cs _ => h.2 cs (room_wd _ _)⟩
theorem back_ok (rows : List (List IV)) : AC Tryz.prog 120 [.iv (.sl rows)] none [.fn 143 [[.sl rows]]] := by
  refine AC.by_walk (rs := [.tmp 2]) ords Tryz.func120 (by rfl) (by rfl) (by rfl) (by rfl) (by rfl) ?_
  simp (disch := omega) only [wk, tis, seval, reduceCtorEq, Nat.reduceEqDiff]
end Go.Proofs.YtcocppjgbcbndaaGreat

namespace Go.Proofs.YtcocppjgbcbndaaGreat
open Go Go.Proofs Go.AL
set_option linter.unusedSimpArgs false
set_option linter.unusedVariables false
theorem pnormo_ok (p : List RI) (h : RP (2 ^ 40) (2 ^ 40) p) : AC Tryz.prog 46 [cw p] (some (0, 33, 2, cpoly (pv p))) [cp (pv p)] := by
  refine AC.by_walk (rs := [.tmp 2]) ords Tryz.func46 (by rfl) (by rfl) (by rfl) (by rfl) (by rfl) ?_
  have hl := h.1
  have htl := tz_le (pv p)
  rw [pv_len] at htl
  simp (disch := omega) only [wk, tis, seval, reduceCtorEq, Nat.reduceEqDiff]
  refine call_by ((size_ok p h)) (by rfl) (by simp) ?_
  simp (disch := omega) only [wk, tis, seval, reduceCtorEq, Nat.reduceEqDiff]
  refine aloop_nil 3 3 33 2 (by simp (disch := omega) only [wk, tis, seval, reduceCtorEq, Nat.reduceEqDiff]) (fun f H => ∃ (k st : Nat), k ≤ tz (pv p) ∧ f 0 = .iv (.sl (raws p)) ∧ f 3 = .hs 3 st ∧ f 6 = .iv (.int .i64 (tz (pv p))) ∧ f 7 = .iv (.int .i64 k) ∧ H 3 = .blk false st 33 2 (raws (((trimz (pv p)).take k).map canon))) (fun f H => (tz (pv p) - intAt f 7).toNat) ?_ ?_
  · refine ⟨0, 1, by omega, ?_⟩
    simp (disch := omega) only [wk, tis, seval, reduceCtorEq, Nat.reduceEqDiff, ghostF, ghostH, List.take_zero]
  rintro f H ⟨k, st, hk, h0, h3, h6, h7, hH⟩
  rw [intAt_of h7]
  simp (disch := omega) only [wk, tis, seval, reduceCtorEq, Nat.reduceEqDiff, h0, h3, h6, h7, hH]
  refine if_by (fun hlt => ?_) (fun hlt => ?_)
  · simp (disch := omega) only [wk, tis, seval, reduceCtorEq, Nat.reduceEqDiff, h0, h3, h6, h7, hH]
    have hq : (((trimz (pv p)).take k).map canon).length = k := by rw [List.length_map, List.length_take, trimz_len]; omega
    refine call_by ((znorm_ok (p.getD k (false, [])) (h.get _))) (by first | rfl | (simp only [tocvs, tocv, h0, h3, h6, h7, hH, hq]; rfl) | (simp only [tocvs, tocv, toboxes, tobox, updH_at, Nat.reduceEqDiff, ↓reduceIte, h0, h3, h6, h7, hH, hq]; rfl)) (by simp) ?_
    simp (disch := omega) only [wk, tis, seval, reduceCtorEq, Nat.reduceEqDiff, h0, h3, h6, h7, hH, hq]
    refine ⟨⟨k + 1, st + 1, by omega, rfl, by omega, ?_⟩, by omega⟩
    rw [trimz_take_succ (by omega), cf_pv]
  · simp (disch := omega) only [wk, tis, seval, reduceCtorEq, Nat.reduceEqDiff, h0, h3, h6, h7, hH]
    have hk : k = tz (pv p) := by omega
    rw [hk, List.take_of_length_le (by rw [trimz_len]; exact Nat.le_refl _)]
    rfl
theorem mline_ok (a b : RI) (ha : Sz (2 ^ 35) a) (hb : Sz (2 ^ 35) b) : AC Tryz.prog 119 [cr a, cr b] none [cp [iv b, iv a]] := by
  refine AC.by_walk (rs := [.tmp 4]) ords Tryz.func119 (by rfl) (by rfl) (by rfl) (by rfl) (by rfl) ?_
  simp (disch := omega) only [wk, tis, seval, reduceCtorEq, Nat.reduceEqDiff]
  have := pnorm_ok [b, a] ⟨by simp, fun c hc => by
    rcases List.mem_cons.1 hc with rfl | hc
    · exact hb.mono (by omega)
    · rw [List.mem_singleton.1 hc]; exact ha.mono (by omega)⟩
  have e : pv [b, a] = [iv b, iv a] := rfl
  rw [e] at this
  refine call_by (this) (by rfl) (by simp) ?_
  simp (disch := omega) only [wk, tis, seval, reduceCtorEq, Nat.reduceEqDiff]
theorem cpoly_two (q : List Int) : ∀ r ∈ cpoly q, r.length = 2 := fun r hr => by
  obtain ⟨c, _, rfl⟩ := List.mem_map.1 hr
  rfl
theorem cpoly_len' (q : List Int) : (cpoly q).length = tz q := by simp [cpoly, raws, trimz_len]
theorem cpoly_getD (q : List Int) {i : Nat} (h : i < tz q) : (cpoly q).getD i [] = prow (canon (cf q i)) := by
  have hl : i < (trimz q).length := by rw [trimz_len]; exact h
  have e : cf q i = (trimz q)[i] := by rw [← cf_trimz]; simp [cf, List.getD, hl]
  rw [e]
  simp [cpoly, raws, List.getD, hl]
theorem drop_trimz (q : List Int) {i : Nat} (h : i < tz q) : (trimz q).drop i = cf q i :: (trimz q).drop (i + 1) := by
  have hl : i < (trimz q).length := by rw [trimz_len]; exact h
  have e : cf q i = (trimz q)[i] := by rw [← cf_trimz]; simp [cf, List.getD, hl]
  rw [e, List.drop_eq_getElem_cons hl]
theorem lh_bounds {m : Nat} (h : m ≤ 2 ^ 10) : m * 2 ^ 10 + 1 ≤ 2 ^ 20 + 1 ∧ m * (2 ^ 20 + 2) + 2 ^ 20 + 3 ≤ 2 ^ 32 := by
  constructor <;> omega
end Go.Proofs.YtcocppjgbcbndaaGreat

namespace Go.Proofs.YtcocppjgbcbndaaGreat
open Go Go.Proofs Go.AL
set_option linter.unusedSimpArgs false
set_option linter.unusedVariables false
theorem pb_two {b a : RI} {K : Nat} (hb : Sz K b) (ha : Sz K a) : PB (2 ^ 10) K [iv b, iv a] := ⟨by simp, fun z hz => by
  rcases List.mem_cons.1 hz with rfl | hz
  · exact zl_iv hb
  · rw [List.mem_singleton.1 hz]; exact zl_iv ha⟩
theorem moeb_step {out Q R : PS} {c : Int} {p : List Int} {n : Nat} (hn : p.length = n) (h : out = hom p Q R) : out * Q + PS.C c * PS.pw R n = hom (c :: p) Q R := by
  rw [hom, h, hn]
  ac_rfl
theorem mmoebius_ok (p : List RI) (a b c d : RI) (hp : RP (2 ^ 10) (2 ^ 20) p) (ha : Sz (2 ^ 20) a) (hb : Sz (2 ^ 20) b) (hc : Sz (2 ^ 20) c) (hd : Sz (2 ^ 20) d) :
    AC Tryz.prog 88 [cw p, cr a, cr b, cr c, cr d] none [cp (lhom (trimz (pv p)) [iv b, iv a] [iv d, iv c])] := by
  refine AC.by_walk (rs := [.tmp 10]) ords Tryz.func88 (by rfl) (by rfl) (by rfl) (by rfl) (by rfl) ?_
  simp (disch := omega) only [wk, tis, seval, reduceCtorEq, Nat.reduceEqDiff]
  refine call_by ((pnorm_ok p (hp.mono (by omega) (by omega)))) (by rfl) (by simp) ?_
  simp (disch := omega) only [wk, tis, seval, reduceCtorEq, Nat.reduceEqDiff]
  refine ⟨tmps_by (by kernel_rfl), ?_⟩
  refine call_by ((mline_ok a b (ha.mono (by omega)) (hb.mono (by omega)))) (by rfl) (by simp) ?_
  simp (disch := omega) only [wk, tis, seval, reduceCtorEq, Nat.reduceEqDiff]
  refine call_by ((mline_ok c d (hc.mono (by omega)) (hd.mono (by omega)))) (by rfl) (by simp) ?_
  simp (disch := omega) only [wk, tis, seval, reduceCtorEq, Nat.reduceEqDiff]
  first | exact log_by (by kernel_rfl) | refine ⟨log_by (by kernel_rfl), ?_⟩
  refine call_by ((zOf_ok 1 (by omega) (by omega))) (by rfl) (by simp) ?_
  simp (disch := omega) only [wk, tis, seval, reduceCtorEq, Nat.reduceEqDiff]
  refine call_by ((back_ok (cpoly (pv p)))) (by rfl) (by simp) ?_
  simp (disch := omega) only [wk, tis, seval, reduceCtorEq, Nat.reduceEqDiff]
  have hA := hp.pv.trimz
  have hlt : tz (pv p) ≤ 2 ^ 10 := by rw [← trimz_len]; exact hA.1
  have hdr : ∀ i, PB (2 ^ 10) (2 ^ 20) ((trimz (pv p)).drop i) := fun i => ⟨by rw [List.length_drop]; have := hA.1; omega, fun z hz => hA.2 z (List.mem_of_mem_drop hz)⟩
  have hQ := pb_two hb ha
  have hR := pb_two hd hc
  generalize [iv b, iv a] = Q at *
  generalize [iv d, iv c] = R at *
  have hB : ∀ i, PB (2 ^ 20 + 1) (2 ^ 32) (lhom ((trimz (pv p)).drop i) Q R) := fun i => by
    have h := pb_lhom hQ hR (by omega) (by omega) (hdr i)
    exact h.mono (lh_bounds (hdr i).1).1 (lh_bounds (hdr i).1).2
  have hP : ∀ k, k ≤ 2 ^ 10 → PB (2 ^ 20 + 1) (2 ^ 32) (ppow R k) := fun k hk => by
    exact (hR.ppow (by decide) k).mono (by omega) (by omega)
  have hcl := cpoly_len' (pv p)
  have e0 : cpoly (ppow R 0) = [prow (canon 1)] := rfl
  refine range_by (l := [.ip [.sl (cpoly (pv p))]]) (c := True ∧ True) (ms := []) (back_iter (rows := cpoly (pv p)) (cpoly_two _) (by omega)) (fun k H2 => k ≤ tz (pv p) ∧ H2 11 = HC.blk false 1 28 1 [[.sl (cpoly Q)]] ∧ H2 12 = HC.blk false 1 28 1 [[.sl (cpoly R)]] ∧
    H2 13 = HC.blk false 1 28 1 [[.sl (cpoly (lhom ((trimz (pv p)).drop (tz (pv p) - k)) Q R))]] ∧ H2 14 = HC.blk false 1 28 1 [[.sl (cpoly (ppow R k))]]) (by simp (disch := omega) only [wk, tis, seval, reduceCtorEq, Nat.reduceEqDiff]) (by rfl) ⟨trivial, trivial⟩ ?_ ?_ ?_
  · rw [List.drop_of_length_le (by rw [trimz_len]; omega)]
    refine ⟨by omega, by simp (disch := omega) only [wk, tis, seval, reduceCtorEq, Nat.reduceEqDiff], by simp (disch := omega) only [wk, tis, seval, reduceCtorEq, Nat.reduceEqDiff], by simp (disch := omega) only [wk, tis, seval, reduceCtorEq, Nat.reduceEqDiff, show cpoly (lhom [] Q R) = [] from rfl], by simp (disch := omega) only [wk, tis, seval, reduceCtorEq, Nat.reduceEqDiff, e0]⟩
  · rintro k H2 hk ⟨hk', h11, h12, h13, h14⟩
    rw [hcl] at hk
    rw [hcl, cpoly_getD _ (by omega)]
    simp (disch := omega) only [wk, tis, seval, reduceCtorEq, Nat.reduceEqDiff, h11, h12, h13, h14]
    refine ⟨tmps_by (by kernel_rfl), ?_⟩
    obtain ⟨i, hi⟩ : ∃ i, i = tz (pv p) - 1 - k := ⟨_, rfl⟩
    have hi1 : tz (pv p) - k = i + 1 := by omega
    have hi2 : tz (pv p) - (k + 1) = i := by omega
    have hdi := drop_trimz (pv p) (i := i) (by omega)
    rw [hi1, ← hi]
    rw [hi1] at h13
    have hBi := hB (i + 1)
    have hPk := hP k (by omega)
    have eo := ps_lhom ((trimz (pv p)).drop i) Q R
    rw [hdi] at eo
    have eo1 := ps_lhom ((trimz (pv p)).drop (i + 1)) Q R
    have hlk : ((trimz (pv p)).drop (i + 1)).length = k := by rw [List.length_drop, trimz_len]; omega
    have ep := ps_ppow R k
    have ep1 : cpoly (pmul (ppow R k) R) = cpoly (ppow R (k + 1)) := cpoly_ext (ps_eq (by rw [ps_pmul, ps_ppow, ps_ppow, PS.pw]))
    generalize ppow R k = pw at hPk ep ep1 h14 ⊢
    generalize lhom ((trimz (pv p)).drop (i + 1)) Q R = out at hBi eo1 h13 ⊢
    have zc := hp.pv.cf i
    have m := pmul_g (a := cn out) (b := cn Q) (rp_cn (hBi.mono (by omega) (by omega))) (rp_cn (hQ.mono (by omega) (by omega))) (ps_cn out) (ps_cn Q)
    refine call_by (m) (by first | rfl | (simp only [tocvs, tocv, h11, h12, h13, h14]; rfl) | (simp only [tocvs, tocv, toboxes, tobox, updH_at, Nat.reduceEqDiff, ↓reduceIte, h11, h12, h13, h14]; rfl)) (by simp) ?_
    simp (disch := omega) only [wk, tis, seval, reduceCtorEq, Nat.reduceEqDiff, h11, h12, h13, h14]
    have t := pscale_g (a := cn pw) (c := canon (cf (pv p) i)) (rp_cn (hPk.mono (by omega) (by omega))) ((sz_canon _).mono (by omega)) (ps_cn pw)
    rw [iv_canon] at t
    refine call_by (t) (by first | rfl | (simp only [tocvs, tocv, h11, h12, h13, h14]; rfl) | (simp only [tocvs, tocv, toboxes, tobox, updH_at, Nat.reduceEqDiff, ↓reduceIte, h11, h12, h13, h14]; rfl)) (by simp) ?_
    simp (disch := omega) only [wk, tis, seval, reduceCtorEq, Nat.reduceEqDiff, h11, h12, h13, h14]
    have hm := hBi.pmul hQ (by decide)
    have ht := hPk.pscale (c := cf (pv p) i)
    have s := padd_g (a := cn (pmul out Q)) (b := cn (pscale (cf (pv p) i) pw)) (rp_cn (hm.mono (by omega) (by omega))) (rp_cn (ht.mono (by omega) (by omega))) (ps_cn _) (ps_cn _)
    refine call_by (s) (by first | rfl | (simp only [tocvs, tocv, h11, h12, h13, h14]; rfl) | (simp only [tocvs, tocv, toboxes, tobox, updH_at, Nat.reduceEqDiff, ↓reduceIte, h11, h12, h13, h14]; rfl)) (by simp) ?_
    simp (disch := omega) only [wk, tis, seval, reduceCtorEq, Nat.reduceEqDiff, h11, h12, h13, h14]
    first | exact log_by (by kernel_rfl) | refine ⟨log_by (by kernel_rfl), ?_⟩
    have u := pmul_g (a := cn pw) (b := cn R) (rp_cn (hPk.mono (by omega) (by omega))) (rp_cn (hR.mono (by omega) (by omega))) (ps_cn pw) (ps_cn R)
    refine call_by (u) (by first | rfl | (simp only [tocvs, tocv, h11, h12, h13, h14]; rfl) | (simp only [tocvs, tocv, toboxes, tobox, updH_at, Nat.reduceEqDiff, ↓reduceIte, h11, h12, h13, h14]; rfl)) (by simp) ?_
    simp (disch := omega) only [wk, tis, seval, reduceCtorEq, Nat.reduceEqDiff, h11, h12, h13, h14]
    refine ⟨by omega, ?_, by rw [ep1]⟩
    rw [hi2, cpoly_ext (ps_eq (p := padd (pmul out Q) (pscale (cf (pv p) i) pw)) (q := lhom ((trimz (pv p)).drop i) Q R) ?_)]
    rw [hdi, eo, ps_padd, ps_pmul, ps_pscale, ep]
    exact moeb_step hlk eo1
  · rintro H2 ⟨hk', h11, h12, h13, h14⟩
    rw [hcl, Nat.sub_self, List.drop_zero] at h13
    simp (disch := omega) only [wk, tis, seval, reduceCtorEq, Nat.reduceEqDiff, h13]
    have hB0 := hB 0
    rw [List.drop_zero] at hB0
    have m := pnorm_g (a := cn (lhom (trimz (pv p)) Q R)) (rp_cn (hB0.mono (by omega) (by omega))) (ps_cn _)
    refine call_by (m) (by first | rfl | (simp only [tocvs, tocv, h13]; rfl) | (simp only [tocvs, tocv, toboxes, tobox, updH_at, Nat.reduceEqDiff, ↓reduceIte, h13]; rfl)) (by simp) ?_
    simp (disch := omega) only [wk, tis, seval, reduceCtorEq, Nat.reduceEqDiff, h13]
end Go.Proofs.YtcocppjgbcbndaaGreat

namespace Go.Proofs.YtcocppjgbcbndaaGreat
open Go Go.Proofs Go.AL
set_option linter.unusedSimpArgs false
set_option linter.unusedVariables false
theorem ext_cf {p q : List Int} (hl : p.length = q.length) (h : ∀ k, k < p.length → cf p k = cf q k) : p = q :=
  List.ext_getElem hl fun i h1 h2 => by have := h i h1; simpa [cf, List.getD, h1, h2] using this
end Go.Proofs.YtcocppjgbcbndaaGreat

namespace Go.Proofs.YtcocppjgbcbndaaGreat
open Go Go.Proofs Go.AL
set_option linter.unusedSimpArgs false
set_option linter.unusedVariables false
end Go.Proofs.YtcocppjgbcbndaaGreat

namespace Go.Proofs.YtcocppjgbcbndaaGreat
open Go Go.Proofs Go.AL
set_option linter.unusedSimpArgs false
set_option linter.unusedVariables false
def sc (a : Int) : List Int → List Int
  | [] => []
  | c :: p => c :: pscale a (sc a p)
theorem pscale_len (a : Int) (p : List Int) : (pscale a p).length = p.length := by simp [pscale]
theorem sc_len (a : Int) (p : List Int) : (sc a p).length = p.length := by
  induction p with
  | nil => rfl
  | cons c p ih => rw [sc, List.length_cons, pscale_len, ih, List.length_cons]
theorem cf_sc (a : Int) (p : List Int) (i : Nat) : cf (sc a p) i = cf p i * a ^ i := by
  induction p generalizing i with
  | nil => simp [sc, cf]
  | cons c p ih =>
    cases i with
    | zero => simp [sc, cf]
    | succ i =>
      have e : cf (sc a (c :: p)) (i + 1) = cf (pscale a (sc a p)) i := by simp [sc, cf]
      have e2 : cf (c :: p) (i + 1) = cf p i := by simp [cf]
      rw [e, e2, cf_pscale, ih, Int.pow_succ, Int.mul_assoc]
theorem ps_cons (c : Int) (p : List Int) : ps (c :: p) = PS.C c + PS.X * ps p := by
  rw [← cmp_X, cmp_cons, cmp_X]
theorem ps_sc (a : Int) (p : List Int) : ps (sc a p) = cmp p (PS.C a * PS.X) := by
  induction p with
  | nil => rw [sc, cmp_nil, ps_nil]
  | cons c p ih =>
    rw [sc, ps_cons, ps_pscale, ih, cmp_cons]
    ac_rfl
theorem mscale_ok (p : List RI) (a : RI) (hp : RP (2 ^ 10) (2 ^ 20) p) (ha : Sz (2 ^ 20) a) : AC Tryz.prog 67 [cw p, cr a] none [cp (sc (iv a) (trimz (pv p)))] := by
  refine AC.by_walk (rs := [.tmp 4]) ords Tryz.func67 (by rfl) (by rfl) (by rfl) (by rfl) (by rfl) ?_
  simp (disch := omega) only [wk, tis, seval, reduceCtorEq, Nat.reduceEqDiff]
  refine call_by ((pnormo_ok p (hp.mono (by omega) (by omega)))) (by rfl) (by simp) ?_
  simp (disch := omega) only [wk, tis, seval, reduceCtorEq, Nat.reduceEqDiff]
  refine call_by ((zOf_ok 1 (by omega) (by omega))) (by rfl) (by simp) ?_
  simp (disch := omega) only [wk, tis, seval, reduceCtorEq, Nat.reduceEqDiff]
  have hA := hp.pv.trimz
  unfold cpoly
  generalize trimz (pv p) = A at *
  have hAl := hA.1
  have hq : (A.map canon).length = A.length := by simp
  have za := zl_iv ha
  simp (disch := omega) only [wk, tis, seval, reduceCtorEq, Nat.reduceEqDiff, hq]
  refine aloop_by (fun f H => ∃ (i st st3 st5 : Nat) (cur : List Int), i ≤ A.length ∧ cur.length = A.length ∧ (∀ j, cf cur j = if j < i then cf (sc (iv a) A) j else cf A j) ∧ f 12 = .iv (.int .i64 i) ∧ f 11 = .iv (.int .i64 A.length) ∧ f 0 = .hs 8 st ∧ H 8 = .blk false st 33 2 (raws (cur.map canon)) ∧ f 3 = .hp 3 st3 0 0 ∧ H 3 = .blk false st3 33 2 [prow a] ∧ f 5 = .hp 5 st5 0 0 ∧ H 5 = .blk false st5 33 2 [prow (canon ((iv a) ^ i))]) (fun f H => (A.length - intAt f 12).toNat) ?_ ?_
  · refine ⟨0, 1, 1, 1, A, by omega, rfl, fun j => by simp, ?_⟩
    simp (disch := omega) only [wk, tis, seval, reduceCtorEq, Nat.reduceEqDiff, Int.pow_zero]
  rintro f H ⟨i, st, st3, st5, cur, hi, hcl, hc, hF⟩
  rw [intAt_of hF.1]
  simp (disch := omega) only [wk, tis, seval, reduceCtorEq, Nat.reduceEqDiff, hF]
  have hq : (cur.map canon).length = A.length := by simp [hcl]
  refine if_by (fun hlt => ?_) (fun hlt => ?_)
  · have e1 : cf cur i = cf A i := by rw [hc, if_neg (by omega)]
    have zi := hA.cf i
    have zp := zl_pow_b za (i := i) (by omega)
    simp (disch := omega) only [wk, tis, seval, reduceCtorEq, Nat.reduceEqDiff, hF, hq, e1]
    refine ⟨tmps_by (by kernel_rfl), ?_⟩
    have q := zmul_ok (canon (cf A i)) (canon (iv a ^ i)) ((sz_canon _).mono (by omega)) ((sz_canon _).mono (by omega))
    rw [iv_canon, iv_canon] at q
    refine call_by (q) (by first | rfl | (simp only [tocvs, tocv, hF, hq, e1]; rfl) | (simp only [tocvs, tocv, toboxes, tobox, updH_at, Nat.reduceEqDiff, ↓reduceIte, hF, hq, e1]; rfl)) (by simp) ?_
    simp (disch := omega) only [wk, tis, seval, reduceCtorEq, Nat.reduceEqDiff, hF, hq, e1]
    have q2 := zmul_ok (canon (iv a ^ i)) a ((sz_canon _).mono (by omega)) (ha.mono (by omega))
    rw [iv_canon, ← Int.pow_succ] at q2
    first | exact log_by (by kernel_rfl) | refine ⟨log_by (by kernel_rfl), ?_⟩
    refine call_by (q2) (by first | rfl | (simp only [tocvs, tocv, hF, hq, e1]; rfl) | (simp only [tocvs, tocv, toboxes, tobox, updH_at, Nat.reduceEqDiff, ↓reduceIte, hF, hq, e1]; rfl)) (by simp) ?_
    simp (disch := omega) only [wk, tis, seval, reduceCtorEq, Nat.reduceEqDiff, hF, hq, e1]
    refine ⟨⟨i + 1, st, st3, st5, cur.set i (cf A i * iv a ^ i), by omega, by simp [hcl], fun j => ?_, by omega, rfl, rfl, rfl, rfl, rfl, rfl⟩, by omega⟩
    rw [cf_set (by omega), hc]
    by_cases hj : j = i
    · subst hj
      rw [if_pos rfl, if_pos (by omega), cf_sc]
    · rw [if_neg hj]
      by_cases hj2 : j < i
      · rw [if_pos hj2, if_pos (by omega)]
      · rw [if_neg hj2, if_neg (by omega)]
  · have ew : cur = sc (iv a) A := ext_cf (by rw [sc_len, hcl]) fun j hj => by rw [hc, if_pos (by omega)]
    subst ew
    simp (disch := omega) only [wk, tis, seval, reduceCtorEq, Nat.reduceEqDiff, hF, hq]
    have hb : PB (2 ^ 10) (2 ^ 32) (sc (iv a) A) := .of (by rw [sc_len]; exact hAl) fun j => by
      rw [cf_sc]
      by_cases hj : j < A.length
      · have z1 := zl_mul (cf A j) (iv a ^ j)
        have z2 := zl_pow_b za (i := j) (by omega)
        have z3 := hA.cf j
        omega
      · rw [cf_ge (by omega), Int.zero_mul, zl_zero]; omega
    have m := pnorm_ok ((sc (iv a) A).map canon) (RP.canon (hb.mono (by omega) (by omega)))
    rw [pv_canon] at m
    refine call_by (m) (by first | rfl | (simp only [tocvs, tocv, hF, hq]; rfl) | (simp only [tocvs, tocv, toboxes, tobox, updH_at, Nat.reduceEqDiff, ↓reduceIte, hF, hq]; rfl)) (by simp) ?_
    simp (disch := omega) only [wk, tis, seval, reduceCtorEq, Nat.reduceEqDiff, hF, hq]
theorem mflip_ok (p : List RI) (hp : RP (2 ^ 10) (2 ^ 20) p) : AC Tryz.prog 37 [cw p] none [cp (sc (-1) (trimz (pv p)))] := by
  refine AC.by_walk (rs := [.tmp 2]) ords Tryz.func37 (by rfl) (by rfl) (by rfl) (by rfl) (by rfl) ?_
  simp (disch := omega) only [wk, tis, seval, reduceCtorEq, Nat.reduceEqDiff]
  refine call_by ((zOf_ok (-1) (by omega) (by omega))) (by rfl) (by simp) ?_
  simp (disch := omega) only [wk, tis, seval, reduceCtorEq, Nat.reduceEqDiff]
  have m := mscale_ok p (canon (-1)) hp ((sz_canon _).mono (by have : zl (-1) ≤ 1 := zl_le.mpr (by decide); omega))
  rw [iv_canon] at m
  refine call_by (m) (by rfl) (by simp) ?_
  simp (disch := omega) only [wk, tis, seval, reduceCtorEq, Nat.reduceEqDiff]
end Go.Proofs.YtcocppjgbcbndaaGreat

namespace Go.Proofs.YtcocppjgbcbndaaGreat
open Go Go.Proofs Go.AL
set_option linter.unusedSimpArgs false
set_option linter.unusedVariables false
def mono (n : Nat) (c : Int) : List Int := List.replicate n 0 ++ [c]
theorem tz_le_of {q : List Int} {n : Nat} (h : ∀ k, n ≤ k → cf q k = 0) : tz q ≤ n := by
  rcases Nat.lt_or_ge n (tz q) with h1 | h1
  · exact absurd (h (tz q - 1) (by omega)) (cf_tz_pred (by omega))
  · exact h1
end Go.Proofs.YtcocppjgbcbndaaGreat

namespace Go.Proofs.YtcocppjgbcbndaaGreat
open Go Go.Proofs Go.AL
set_option linter.unusedSimpArgs false
set_option linter.unusedVariables false
theorem chs_two (st : Nat × Int) (x : Int) : (chs st x).2 = if x.sign = 0 then st.2 else x.sign := by
  unfold chs; split <;> rfl
theorem chs_one (st : Nat × Int) (x : Int) : (chs st x).1 = if x.sign ≠ 0 ∧ st.2 ≠ 0 ∧ x.sign ≠ st.2 then st.1 + 1 else st.1 := by
  unfold chs
  by_cases h : x.sign = 0
  · rw [if_pos h, if_neg (fun e => e.1 h)]
  · rw [if_neg h]
    by_cases h2 : st.2 ≠ 0 ∧ x.sign ≠ st.2
    · rw [if_pos h2, if_pos ⟨h, h2⟩]
    · rw [if_neg h2, if_neg (fun e => h2 e.2)]
def DI (a : Int) (sb sh : Nat × Int) : Prop :=
  (sh.2 = 0 ∧ sb.1 = 0 ∧ sb.2 = 0 ∧ sh.1 = 0 ∧ a.sign = 0) ∨ ((sh.2 = 1 ∨ sh.2 = -1) ∧ (a.sign = 0 ∨ a.sign = sh.2) ∧ ((sb.2 = -sh.2 ∧ sh.1 ≤ sb.1 ∧ a.sign ≠ 0) ∨ (sb.2 = sh.2 ∧ sh.1 + 1 ≤ sb.1)))
theorem di_step {a x u v : Int} {sb sh : Nat × Int} (hu : u.sign = a.sign) (hv : v.sign = x.sign) (h : DI a sb sh) : DI x (chs sb (u - v)) (chs sh x) := by
  have r1 : x.sign = 0 → (u - v).sign = a.sign := fun e => by
    rw [← hv] at e
    rw [Int.sign_eq_zero_iff_zero.mp e, Int.sub_zero, hu]
  have r2 : a.sign = 0 → (u - v).sign = -x.sign := fun e => by
    rw [← hu] at e
    rw [Int.sign_eq_zero_iff_zero.mp e, Int.zero_sub, Int.sign_neg, hv]
  have r3 : a.sign = -x.sign → x.sign ≠ 0 → (u - v).sign = a.sign := fun e e2 => by
    rw [← hu, ← hv] at e
    rw [← hv] at e2
    rw [← hu]
    rcases sign_cases u with ⟨c1, s1⟩ | ⟨c1, s1⟩ | ⟨c1, s1⟩ <;> rcases sign_cases v with ⟨c2, s2⟩ | ⟨c2, s2⟩ | ⟨c2, s2⟩ <;> rcases sign_cases (u - v) with ⟨c3, s3⟩ | ⟨c3, s3⟩ | ⟨c3, s3⟩ <;> omega
  have b1 : x.sign = -1 ∨ x.sign = 0 ∨ x.sign = 1 := by rcases sign_cases x with ⟨_, e⟩ | ⟨_, e⟩ | ⟨_, e⟩ <;> omega
  have b2 : (u - v).sign = -1 ∨ (u - v).sign = 0 ∨ (u - v).sign = 1 := by rcases sign_cases (u - v) with ⟨_, e⟩ | ⟨_, e⟩ | ⟨_, e⟩ <;> omega
  have b3 : a.sign = -1 ∨ a.sign = 0 ∨ a.sign = 1 := by rcases sign_cases a with ⟨_, e⟩ | ⟨_, e⟩ | ⟨_, e⟩ <;> omega
  unfold DI at h ⊢
  rw [chs_one, chs_one, chs_two, chs_two]
  generalize x.sign = X at *
  generalize (u - v).sign = Y at *
  generalize a.sign = A at *
  generalize sb.1 = n at *
  generalize sb.2 = s at *
  generalize sh.1 = m at *
  generalize sh.2 = t at *
  clear hu hv
  rcases h with ⟨h1, h2, h3, h4, h5⟩ | ⟨h1, h2, h3⟩
  · subst h1 h2 h3 h4 h5
    have := r2 rfl
    subst this
    rcases b1 with rfl | rfl | rfl
    · exact .inr (by simp)
    · exact .inl (by simp)
    · exact .inr (by simp)
  · refine .inr ?_
    rcases b1 with rfl | rfl | rfl <;> rcases b2 with rfl | rfl | rfl <;> rcases b3 with rfl | rfl | rfl <;> rcases h1 with rfl | rfl <;> rcases h3 with ⟨rfl, h3, h4⟩ | ⟨rfl, h3⟩ <;> simp at * <;> omega
def bq (d n : Int) : Int → List Int → List Int
  | a, [] => [d * a]
  | a, x :: l => (d * a - n * x) :: bq d n x l
theorem sign_mul_pos {d : Int} (h : 0 < d) (a : Int) : (d * a).sign = a.sign := by rw [Int.sign_mul, Int.sign_eq_one_of_pos h, Int.one_mul]
theorem di_fold {d n : Int} (hd : 0 < d) (hn : 0 < n) : ∀ (l : List Int) (a : Int) (sb sh : Nat × Int), DI a sb sh → (l.foldl chs sh).2 ≠ 0 → (l.foldl chs sh).1 + 1 ≤ ((bq d n a l).foldl chs sb).1
  | [], a, sb, sh, h, h0 => by
    have := di_step (x := 0) (v := 0) (sign_mul_pos hd a) rfl h
    rw [Int.sub_zero, chs_zero (st := sh) (x := 0) rfl] at this
    rw [List.foldl_nil] at h0 ⊢
    rw [bq, List.foldl_cons, List.foldl_nil]
    rcases this with ⟨h1, _⟩ | ⟨_, _, ⟨_, _, h3⟩ | ⟨_, h3⟩⟩
    · exact absurd h1 h0
    · exact absurd rfl h3
    · exact h3
  | x :: l, a, sb, sh, h, h0 => by
    rw [List.foldl_cons] at h0 ⊢
    rw [bq, List.foldl_cons]
    exact di_fold hd hn l x _ _ (di_step (sign_mul_pos hd a) (sign_mul_pos hn x) h) h0
theorem cf_bq (d n : Int) : ∀ (l : List Int) (a : Int) (k : Nat), cf (bq d n a l) k = d * (if k = 0 then a else cf l (k - 1)) - n * cf l k
  | [], a, 0 => by rw [bq, if_pos rfl, cf_nil]; show d * a = _; omega
  | [], a, k + 1 => by rw [bq, if_neg (by omega), cf_nil, cf_nil]; show cf [] k = _; rw [cf_nil]; omega
  | x :: l, a, 0 => by rw [bq, if_pos rfl]; rfl
  | x :: l, a, k + 1 => by
    rw [bq, if_neg (by omega), Nat.add_sub_cancel]
    show cf (bq d n x l) k = d * cf (x :: l) k - n * cf l k
    rw [cf_bq d n l x k]
    cases k with
    | zero => rfl
    | succ k => rw [if_neg (by omega)]; rfl
theorem cf_bq_mul (d n : Int) (h : List Int) (k : Nat) : cf (pmul [-n, d] h) k = cf (bq d n 0 h) k := by
  rw [cf_pmul_cons, cf_bq]
  cases k with
  | zero => rw [if_pos rfl]; show -n * cf h 0 + 0 = _; rw [Int.neg_mul]; omega
  | succ k =>
    rw [if_neg (by omega), Nat.add_sub_cancel]
    show -n * cf h (k + 1) + cf (pmul [d] h) k = _
    rw [cf_pmul_cons, Int.neg_mul]
    cases k with
    | zero => show _ + (d * cf h 0 + 0) = _; omega
    | succ k => show _ + (d * cf h (k + 1) + cf (pmul [] h) k) = _; rw [cf_pmul]; show _ + (d * cf h (k + 1) + 0) = _; omega
theorem fold_zero : ∀ (l : List Int) (st : Nat × Int), (∀ x ∈ l, x = 0) → l.foldl chs st = st
  | [], _, _ => rfl
  | x :: l, st, h => by
    rw [List.foldl_cons, chs_zero (by rw [h x (by simp)]; rfl)]
    exact fold_zero l st fun y hy => h y (by simp [hy])
theorem chf_trim (q : List Int) : chf (trimz q) = chf q := by
  have e : q = trimz q ++ q.drop (tz q) := (List.take_append_drop (tz q) q).symm
  have : chf q = chf (trimz q ++ q.drop (tz q)) := by rw [← e]
  rw [this]
  show _ = List.foldl chs (0, 0) (trimz q ++ q.drop (tz q))
  rw [List.foldl_append, fold_zero (q.drop (tz q))]
  · rfl
  · intro x hx
    obtain ⟨i, hi, rfl⟩ := List.getElem_of_mem hx
    rw [List.getElem_drop]
    rw [List.length_drop] at hi
    have := cf_ge_tz q (k := tz q + i) (by omega)
    rwa [cf, List.getD, List.getElem?_eq_getElem (by omega), Option.getD_some] at this
theorem chf_ext {p q : List Int} (h : ∀ k, cf p k = cf q k) : chf p = chf q := by rw [← chf_trim p, ← chf_trim q, trimz_ext h]
theorem chf_last : ∀ (n : Nat) (q : List Int), q.length = n → cf q (n - 1) ≠ 0 → n ≠ 0 → (chf q).2 = (cf q (n - 1)).sign := fun n q hl h hn => by
  have e := chf_take (l := q) (i := n - 1) (by omega)
  rw [List.take_of_length_le (by omega)] at e
  rw [e, chs_two, if_neg]
  · rfl
  · exact fun h0 => h (Int.sign_eq_zero_iff_zero.mp h0)
theorem chf_lc {q : List Int} (h : tz q ≠ 0) : (chf q).2 = (lc q).sign ∧ (chf q).2 ≠ 0 := by
  have hz : cf (trimz q) (tz q - 1) ≠ 0 := by
    rw [cf_trimz]
    intro e
    have := tz_le_of (q := q) (n := tz q - 1) fun k hk => by
      by_cases h2 : k = tz q - 1
      · rw [h2]; exact e
      · exact cf_ge_tz q (by omega)
    omega
  have := chf_last (tz q) (trimz q) (trimz_len q) hz h
  rw [chf_trim, cf_trimz] at this
  refine ⟨this, ?_⟩
  rw [this]
  rw [cf_trimz] at hz
  exact fun e => hz (Int.sign_eq_zero_iff_zero.mp e)
theorem chg_root {d n : Int} (hd : 0 < d) (hn : 0 < n) {h q : List Int} (h0 : tz h ≠ 0) (e : ∀ k, cf q k = cf (pmul [-n, d] h) k) : chg h + 1 ≤ chg q := by
  have e2 : chf q = chf (bq d n 0 h) := chf_ext fun k => by rw [e, cf_bq_mul]
  have := di_fold hd hn h 0 (0, 0) (0, 0) (.inl ⟨rfl, rfl, rfl, rfl, rfl⟩) (chf_lc h0).2
  unfold chg
  rw [e2]
  exact this
def LowAt (q : List Int) (m : Nat) (c : Int) : Prop := (∀ j, j < m → cf q j = 0) ∧ cf q m = c ∧ c ≠ 0
theorem par_fold (f : Int) (hf : f = 1 ∨ f = -1) : ∀ (l : List Int) (st : Nat × Int), (st.2 = 1 ∨ st.2 = -1) → (st.1 % 2 = 0 ↔ st.2 = f) → ((l.foldl chs st).1 % 2 = 0 ↔ (l.foldl chs st).2 = f)
  | [], st, _, h => h
  | x :: l, st, h1, h2 => by
    rw [List.foldl_cons]
    refine par_fold f hf l _ ?_ ?_
    · rw [chs_two]
      rcases sign_cases x with ⟨_, e⟩ | ⟨_, e⟩ | ⟨_, e⟩ <;> rw [e] <;> simp <;> omega
    · rw [chs_two, chs_one]
      generalize st.1 = n at *
      generalize st.2 = s at *
      rcases sign_cases x with ⟨_, e⟩ | ⟨_, e⟩ | ⟨_, e⟩ <;> rw [e] <;> rcases h1 with rfl | rfl <;> rcases hf with rfl | rfl <;> simp at * <;> omega
theorem low_split {q : List Int} {m : Nat} {c : Int} (h : LowAt q m c) : chf q = (q.drop (m + 1)).foldl chs (0, c.sign) := by
  have hm : m < q.length := by
    by_cases e : m < q.length
    · exact e
    · exact absurd (cf_ge (q := q) (k := m) (by omega)) (by rw [h.2.1]; exact h.2.2)
  have e1 : chf (q.take m) = (0, 0) := fold_zero _ _ fun x hx => by
    obtain ⟨i, hi, rfl⟩ := List.getElem_of_mem hx
    rw [List.length_take] at hi
    rw [List.getElem_take]
    have := h.1 i (by omega)
    rwa [cf, List.getD, List.getElem?_eq_getElem (by omega), Option.getD_some] at this
  have e2 := chf_take hm
  rw [e1, show q.getD m 0 = c from h.2.1] at e2
  have e3 : q = q.take (m + 1) ++ q.drop (m + 1) := (List.take_append_drop _ _).symm
  have : chf q = chf (q.take (m + 1) ++ q.drop (m + 1)) := by rw [← e3]
  rw [this, chf, List.foldl_append]
  show List.foldl chs (chf (q.take (m + 1))) _ = _
  rw [e2, chs_same (fun e => h.2.2 (Int.sign_eq_zero_iff_zero.mp e)) (fun e => e.1 rfl)]
theorem sign_pm {c : Int} (h : c ≠ 0) : c.sign = 1 ∨ c.sign = -1 := by
  rcases sign_cases c with ⟨_, e⟩ | ⟨e, _⟩ | ⟨_, e⟩
  · exact .inr e
  · exact absurd e h
  · exact .inl e
theorem chg_par {q : List Int} {m : Nat} {c : Int} (h : LowAt q m c) (h0 : tz q ≠ 0) : chg q % 2 = 0 ↔ (lc q).sign = c.sign := by
  have e := low_split h
  have := par_fold c.sign (sign_pm h.2.2) (q.drop (m + 1)) (0, c.sign) (sign_pm h.2.2) (by simp)
  rw [← e, (chf_lc h0).1] at this
  exact this
end Go.Proofs.YtcocppjgbcbndaaGreat

namespace Go.Proofs.YtcocppjgbcbndaaGreat
open Go Go.Proofs Go.AL
set_option linter.unusedSimpArgs false
set_option linter.unusedVariables false
theorem eone (k : Nat) : ((-1 : Int) ^ k = 1 ∨ (-1 : Int) ^ k = -1) ∧ (-1 : Int) ^ (k + 1) = -(-1 : Int) ^ k := by
  have h2 : (-1 : Int) ^ (k + 1) = -(-1 : Int) ^ k := by rw [Int.pow_succ]; omega
  refine ⟨?_, h2⟩
  clear h2
  induction k with
  | zero => exact .inl (Int.pow_zero _)
  | succ k ih =>
    rw [Int.pow_succ]
    rcases ih with e | e <;> rw [e]
    · exact .inr rfl
    · exact .inl rfl
theorem sign_eone (k : Nat) : ((-1 : Int) ^ k).sign = (-1 : Int) ^ k := by
  rcases (eone k).1 with e | e <;> rw [e] <;> rfl
theorem chf_low {q : List Int} {m : Nat} {c : Int} (h : LowAt q m c) (hm : m < q.length) : chf (q.take (m + 1)) = (0, c.sign) := by
  have e1 : chf (q.take m) = (0, 0) := fold_zero _ _ fun x hx => by
    obtain ⟨i, hi, rfl⟩ := List.getElem_of_mem hx
    rw [List.length_take] at hi
    rw [List.getElem_take]
    have := h.1 i (by omega)
    rwa [cf, List.getD, List.getElem?_eq_getElem (by omega), Option.getD_some] at this
  have e2 := chf_take hm
  rw [e1, show q.getD m 0 = c from h.2.1, chs_same (fun e => h.2.2 (Int.sign_eq_zero_iff_zero.mp e)) (fun e => e.1 rfl)] at e2
  exact e2
theorem low_lt {q : List Int} {m : Nat} {c : Int} (h : LowAt q m c) : m < q.length := by
  by_cases e : m < q.length
  · exact e
  · exact absurd (cf_ge (q := q) (k := m) (by omega)) (by rw [h.2.1]; exact h.2.2)
theorem low_sc {q : List Int} {m : Nat} {c : Int} (h : LowAt q m c) : LowAt (sc (-1) q) m (c * (-1) ^ m) := by
  refine ⟨fun j hj => by rw [cf_sc, h.1 j hj, Int.zero_mul], by rw [cf_sc, h.2.1], ?_⟩
  rcases (eone m).1 with e | e <;> rw [e] <;> have := h.2.2 <;> omega
theorem alt_fold {q : List Int} {m : Nat} {c : Int} (h : LowAt q m c) : ∀ k, m < k → k ≤ q.length → ∃ j, m ≤ j ∧ j < k ∧ cf q j ≠ 0 ∧ (chf (q.take k)).2 = (cf q j).sign ∧ (chf ((sc (-1) q).take k)).2 = (cf q j).sign * (-1) ^ j ∧ (chf (q.take k)).1 + (chf ((sc (-1) q).take k)).1 + m ≤ j
  | 0, h1, _ => by omega
  | k + 1, h1, h2 => by
    have hl := sc_len (-1) q
    by_cases hk : k = m
    · subst hk
      have e1 := chf_low h (low_lt h)
      have e2 := chf_low (low_sc h) (by rw [hl]; exact low_lt h)
      refine ⟨k, by omega, by omega, by rw [h.2.1]; exact h.2.2, by rw [e1, h.2.1], ?_, by rw [e1, e2]; omega⟩
      rw [e2, h.2.1, Int.sign_mul, sign_eone]
    · obtain ⟨j, j1, j2, j3, j4, j5, j6⟩ := alt_fold h k (by omega) (by omega)
      have t1 := chf_take (l := q) (i := k) (by omega)
      have t2 := chf_take (l := sc (-1) q) (i := k) (by omega)
      have g1 : q.getD k 0 = cf q k := rfl
      have g2 : (sc (-1) q).getD k 0 = cf q k * (-1) ^ k := cf_sc (-1) q k
      rw [g1] at t1
      rw [g2] at t2
      by_cases hx : cf q k = 0
      · rw [hx, chs_zero rfl] at t1
        rw [hx, Int.zero_mul, chs_zero rfl] at t2
        exact ⟨j, j1, by omega, j3, by rw [t1]; exact j4, by rw [t2]; exact j5, by rw [t1, t2]; exact j6⟩
      · refine ⟨k, by omega, by omega, hx, ?_, ?_, ?_⟩
        · rw [t1, chs_two, if_neg (fun e => hx (Int.sign_eq_zero_iff_zero.mp e))]
        · rw [t2, chs_two, Int.sign_mul, sign_eone, if_neg]
          rcases sign_pm hx with e | e <;> rcases (eone k).1 with e' | e' <;> rw [e, e'] <;> decide
        · rw [t1, t2, chs_one, chs_one, j4, j5, Int.sign_mul, sign_eone]
          generalize (chf (q.take k)).1 = a at *
          generalize (chf ((sc (-1) q).take k)).1 = b at *
          by_cases hkj : k = j + 1
          · rw [hkj, (eone j).2]
            have s1 := sign_pm j3
            have s2 := sign_pm hx
            rw [hkj] at s2
            generalize (cf q (j + 1)).sign = u at *
            generalize (cf q j).sign = v at *
            rcases (eone j).1 with e | e <;> rw [e] <;> rcases s1 with rfl | rfl <;> rcases s2 with rfl | rfl <;> simp <;> omega
          · split <;> split <;> omega
theorem alt_bound {q : List Int} {m : Nat} {c : Int} (h : LowAt q m c) : chg q + chg (sc (-1) q) + m + 1 ≤ tz q := by
  have ht : LowAt (trimz q) m c := ⟨fun j hj => by rw [cf_trimz]; exact h.1 j hj, by rw [cf_trimz]; exact h.2.1, h.2.2⟩
  have hl := low_lt ht
  rw [trimz_len] at hl
  obtain ⟨j, j1, j2, _, _, _, j6⟩ := alt_fold ht (tz q) hl (by rw [trimz_len]; exact Nat.le_refl _)
  rw [List.take_of_length_le (by rw [trimz_len]; exact Nat.le_refl _), List.take_of_length_le (by rw [sc_len, trimz_len]; exact Nat.le_refl _), chf_trim, chf_ext (p := sc (-1) (trimz q)) (q := sc (-1) q) fun k => by rw [cf_sc, cf_sc, cf_trimz]] at j6
  unfold chg
  omega
theorem low_zero {q : List Int} {m : Nat} (h : ∀ j, j < m → cf q j = 0) : ∀ (F : List Int) (j : Nat), j < m → cf (pmul F q) j = 0
  | [], j, _ => by rw [cf_pmul]; rfl
  | x :: F, j, hj => by
    rw [cf_pmul_cons, h j hj, Int.mul_zero]
    cases j with
    | zero => rfl
    | succ j => show 0 + cf (pmul F q) j = 0; rw [low_zero h F j (by omega)]; rfl
theorem low_pmul {q : List Int} {m : Nat} {c : Int} (h : LowAt q m c) : ∀ (F : List Int) (i : Nat) (a : Int), LowAt F i a → LowAt (pmul F q) (i + m) (a * c)
  | [], i, a, hF => absurd hF.2.1 (by rw [cf_nil]; exact fun e => hF.2.2 e.symm)
  | x :: F, 0, a, hF => by
    have ha : x = a := hF.2.1
    subst ha
    refine ⟨fun j hj => low_zero h.1 _ j (by omega), ?_, Int.mul_ne_zero hF.2.2 h.2.2⟩
    rw [Nat.zero_add, cf_pmul_cons, h.2.1]
    cases m with
    | zero => show x * c + 0 = _; omega
    | succ m => show x * c + cf (pmul F q) m = _; rw [low_zero h.1 F m (by omega)]; omega
  | x :: F, i + 1, a, hF => by
    have hx : x = 0 := hF.1 0 (by omega)
    have ih := low_pmul h F i a ⟨fun j hj => hF.1 (j + 1) (by omega), hF.2.1, hF.2.2⟩
    have e : ∀ k, cf (pmul (x :: F) q) (k + 1) = cf (pmul F q) k := fun k => by
      rw [cf_pmul_cons, hx, Int.zero_mul, Int.zero_add]; rfl
    have e0 : cf (pmul (x :: F) q) 0 = 0 := by rw [cf_pmul_cons, hx, Int.zero_mul]; rfl
    refine ⟨fun j hj => ?_, ?_, ih.2.2⟩
    · cases j with
      | zero => exact e0
      | succ j => rw [e]; exact ih.1 j (by omega)
    · rw [show i + 1 + m = (i + m) + 1 by omega, e]; exact ih.2.1
theorem tz_of_low {q : List Int} {m : Nat} {c : Int} (h : LowAt q m c) : tz q ≠ 0 := fun e => h.2.2 (by rw [← h.2.1]; exact tz_zero_iff.mp e m)
def rf (r : Int × Int) : List Int := [-r.1, r.2]
def rlist (A : List (Int × Int)) (g : List Int) : List Int := A.foldr (fun r h => pmul (rf r) h) g
theorem rlist_cons (r : Int × Int) (A : List (Int × Int)) (g : List Int) : rlist (r :: A) g = pmul (rf r) (rlist A g) := rfl
theorem tz_rf {r : Int × Int} (h : 0 < r.2) : tz (rf r) = 2 ∧ lc (rf r) = r.2 := by
  have h1 : cf (rf r) 1 = r.2 := rfl
  have h2 := tz_spec (q := rf r) (n := 1) (by rw [h1]; omega) fun k hk => cf_ge (by show 2 ≤ k; omega)
  exact ⟨h2, by unfold lc; rw [h2]; rfl⟩
theorem low_rf {r : Int × Int} (h : 0 < r.2) : (r.1 = 0 → LowAt (rf r) 1 r.2) ∧ (r.1 ≠ 0 → LowAt (rf r) 0 (-r.1)) :=
  ⟨fun e => ⟨fun j hj => by obtain rfl : j = 0 := by omega
                            show -r.1 = 0; omega, rfl, by omega⟩, fun e => ⟨fun j hj => by omega, rfl, by omega⟩⟩
theorem rlist_tz {g : List Int} (hg : tz g ≠ 0) : ∀ A : List (Int × Int), (∀ r ∈ A, 0 < r.2) → tz (rlist A g) = A.length + tz g ∧ lc (rlist A g) ≠ 0 ∧ (lc (rlist A g)).sign = (lc g).sign
  | [], _ => by
    have h1 := (chf_lc hg)
    refine ⟨by show tz g = 0 + tz g; omega, fun e => h1.2 (by rw [h1.1]; rw [show lc (rlist [] g) = lc g from rfl] at e; rw [e]; rfl), rfl⟩
  | r :: A, h => by
    obtain ⟨i1, i2, i3⟩ := rlist_tz hg A fun x hx => h x (by simp [hx])
    obtain ⟨t1, t2⟩ := tz_rf (h r (by simp))
    have hr := h r (by simp)
    rw [rlist_cons]
    have hl := lc_pmul (P := rf r) (Q := rlist A g) (by rw [t2]; omega) i2
    refine ⟨by rw [tz_pmul (by omega) (by omega), t1, i1, List.length_cons]; omega, by rw [hl, t2]; exact Int.mul_ne_zero (by omega) i2, ?_⟩
    rw [hl, t2, Int.sign_mul, Int.sign_eq_one_of_pos hr, Int.one_mul, i3]
def npos (A : List (Int × Int)) : Nat := A.countP fun r => decide (0 < r.1)
def nzer (A : List (Int × Int)) : Nat := A.countP fun r => decide (r.1 = 0)
theorem npos_cons (r : Int × Int) (A : List (Int × Int)) : npos (r :: A) = npos A + if 0 < r.1 then 1 else 0 := by simp [npos, List.countP_cons]
theorem nzer_cons (r : Int × Int) (A : List (Int × Int)) : nzer (r :: A) = nzer A + if r.1 = 0 then 1 else 0 := by simp [nzer, List.countP_cons]
theorem rlist_low {g : List Int} {c : Int} (hg : LowAt g 0 c) : ∀ A : List (Int × Int), (∀ r ∈ A, 0 < r.2) → ∃ e, LowAt (rlist A g) (nzer A) e ∧ e.sign = c.sign * (-1) ^ npos A
  | [], _ => ⟨c, hg, by show _ = _ * (-1 : Int) ^ 0; rw [Int.pow_zero, Int.mul_one]⟩
  | r :: A, h => by
    obtain ⟨e, i1, i2⟩ := rlist_low hg A fun x hx => h x (by simp [hx])
    have hr := h r (by simp)
    obtain ⟨l1, l2⟩ := low_rf hr
    rw [rlist_cons, nzer_cons, npos_cons]
    by_cases h0 : r.1 = 0
    · refine ⟨r.2 * e, ?_, ?_⟩
      · rw [if_pos h0, Nat.add_comm]
        exact low_pmul i1 _ 1 r.2 (l1 h0)
      · rw [if_neg (by omega), Int.sign_mul, Int.sign_eq_one_of_pos hr, Int.one_mul, i2, Nat.add_zero]
    · refine ⟨-r.1 * e, ?_, ?_⟩
      · rw [if_neg h0, Nat.add_zero]
        have := low_pmul i1 _ 0 (-r.1) (l2 h0)
        rwa [Nat.zero_add] at this
      · rw [Int.sign_mul, Int.sign_neg, i2]
        by_cases hp : 0 < r.1
        · rw [if_pos hp, Int.sign_eq_one_of_pos hp, (eone _).2, Int.mul_neg, Int.neg_mul, Int.one_mul]
        · rw [if_neg hp, Int.sign_eq_neg_one_of_neg (by omega), Nat.add_zero, Int.neg_neg, Int.one_mul]
theorem chg_pos : ∀ (A : List (Int × Int)) (g q : List Int), (∀ r ∈ A, 0 < r.2) → tz g ≠ 0 → ps q = ps (rlist A g) → npos A ≤ chg q
  | [], _, _, _, _, _ => Nat.zero_le _
  | r :: A, g, q, h, hg, e => by
    have hA : ∀ x ∈ A, 0 < x.2 := fun x hx => h x (by simp [hx])
    have hr := h r (by simp)
    rw [npos_cons]
    by_cases hp : 0 < r.1
    · rw [if_pos hp]
      have ih := chg_pos A g (rlist A g) hA hg rfl
      have := chg_root hr hp (h := rlist A g) (q := q) (by have := (rlist_tz hg A hA).1; omega) (ps_eq e)
      omega
    · rw [if_neg hp, Nat.add_zero]
      have hg' : tz (pmul (rf r) g) ≠ 0 := by rw [tz_pmul (by rw [(tz_rf hr).1]; omega) hg, (tz_rf hr).1]; omega
      refine chg_pos A (pmul (rf r) g) q hA hg' (e.trans ?_)
      have : ∀ (B : List (Int × Int)) (u v : List Int), ps (rlist B (pmul u v)) = ps u * ps (rlist B v) := fun B u v => by
        induction B with
        | nil => show ps (pmul u v) = _; rw [ps_pmul]; rfl
        | cons b B ih => rw [rlist_cons, rlist_cons, ps_pmul, ps_pmul, ih, ← PS.mul_assoc, PS.mul_comm (ps (rf b)), PS.mul_assoc]
      rw [this, rlist_cons, ps_pmul]
structure GL (g : List Int) : Prop where
  l : ∃ c, LowAt g 0 c ∧ (lc g).sign = c.sign
theorem GL.tz {g : List Int} (h : GL g) : tz g ≠ 0 := by
  obtain ⟨c, h1, _⟩ := h.l
  exact tz_of_low h1
theorem pow_par (n : Nat) : (-1 : Int) ^ n = 1 ↔ n % 2 = 0 := by
  induction n with
  | zero => simp
  | succ n ih =>
    rw [(eone n).2]
    rcases (eone n).1 with e | e
    · rw [e] at ih ⊢
      simp at ih ⊢
      omega
    · rw [e] at ih ⊢
      simp at ih ⊢
      omega
theorem chg_even {A : List (Int × Int)} {g q : List Int} (hA : ∀ r ∈ A, 0 < r.2) (hg : GL g) (e : ps q = ps (rlist A g)) : chg q % 2 = npos A % 2 := by
  obtain ⟨c, h1, h2⟩ := hg.l
  obtain ⟨x, x1, x2⟩ := rlist_low h1 A hA
  obtain ⟨t1, t2, t3⟩ := rlist_tz hg.tz A hA
  have hp := chg_par x1 (tz_of_low x1)
  have ec : chg (rlist A g) = chg q := by unfold chg; rw [chf_ext (ps_eq e)]
  rw [ec, t3, h2, x2] at hp
  have hc := sign_pm h1.2.2
  have hpp := pow_par (npos A)
  rcases (eone (npos A)).1 with e1 | e1 <;> rw [e1] at hp hpp <;> rcases hc with e2 | e2 <;> rw [e2] at hp <;> simp at hp hpp <;> omega
def rflip (r : Int × Int) : Int × Int := (-r.1, r.2)
theorem rlist_flip {g : List Int} (hg : GL g) (he : tz g % 2 = 1) : ∀ A : List (Int × Int), ∃ g1, GL g1 ∧ ps (sc (-1) (rlist A g)) = ps (rlist (A.map rflip) g1)
  | [] => by
    obtain ⟨c, h1, h2⟩ := hg.l
    refine ⟨sc (-1) g, ⟨c * (-1) ^ 0, low_sc h1, ?_⟩, rfl⟩
    have hz := chf_lc hg.tz
    have ht : tz (sc (-1) g) = tz g := by
      have := tz_spec (q := sc (-1) g) (n := tz g - 1) (by
        rw [cf_sc]
        refine Int.mul_ne_zero (fun e => hz.2 (by rw [hz.1]; show (lc g).sign = 0; unfold lc; rw [e]; rfl)) ?_
        rcases (eone (tz g - 1)).1 with e | e <;> rw [e] <;> decide) fun k hk => by rw [cf_sc, cf_ge_tz g (by omega), Int.zero_mul]
      have := hg.tz
      omega
    have : lc (sc (-1) g) = lc g * (-1) ^ (tz g - 1) := by unfold lc; rw [ht, cf_sc]
    rw [this, Int.pow_zero, Int.mul_one, (pow_par _).mpr (by omega), Int.mul_one, h2]
  | r :: A => by
    obtain ⟨g1, h1, h2⟩ := rlist_flip hg he A
    obtain ⟨c, l1, l2⟩ := h1.l
    refine ⟨pscale (-1) g1, ⟨-c, ⟨fun j hj => by omega, by rw [cf_pscale, l1.2.1]; omega, by have := l1.2.2; omega⟩, ?_⟩, ?_⟩
    · have hn : lc g1 ≠ 0 := fun e => (sign_pm l1.2.2).elim (fun x => by rw [e] at l2; rw [← l2] at x; exact absurd x (by decide)) (fun x => by rw [e] at l2; rw [← l2] at x; exact absurd x (by decide))
      have : lc (pscale (-1) g1) = -1 * lc g1 := lc_scale (fun k => by rw [cf_pscale, Int.mul_comm]) hn
      rw [this, Int.sign_mul, l2]
      show -1 * c.sign = (-c).sign
      rw [Int.sign_neg]
      omega
    · have e1 : ps (sc (-1) (pmul (rf r) (rlist A g))) = ps (sc (-1) (rf r)) * ps (sc (-1) (rlist A g)) := by rw [ps_sc, cmp_pmul, ← ps_sc, ← ps_sc]
      have e2 : ps (sc (-1) (rf r)) = PS.C (-1) * ps (rf (rflip r)) := by
        rw [← ps_pscale]
        exact ps_ext fun k => by
          rw [cf_sc, cf_pscale]
          match k with
          | 0 => show -r.1 * (-1) ^ 0 = - -r.1 * -1; omega
          | 1 => show r.2 * (-1) ^ 1 = r.2 * -1; omega
          | k + 2 => rw [cf_ge (q := rf r) (by show 2 ≤ k + 2; omega), cf_ge (q := rf (rflip r)) (by show 2 ≤ k + 2; omega)]; omega
      have e3 : ∀ (B : List (Int × Int)), ps (rlist B (pscale (-1) g1)) = PS.C (-1) * ps (rlist B g1) := fun B => by
        induction B with
        | nil => exact ps_pscale (-1) g1
        | cons b B ih => rw [rlist_cons, rlist_cons, ps_pmul, ps_pmul, ih, ← PS.mul_assoc, PS.mul_comm (ps (rf b)), PS.mul_assoc]
      rw [List.map_cons, rlist_cons, rlist_cons, e1, e2, h2, ps_pmul, e3, ← PS.mul_assoc, PS.mul_comm (PS.C (-1))]
def nneg (A : List (Int × Int)) : Nat := A.countP fun r => decide (r.1 < 0)
theorem npos_flip (A : List (Int × Int)) : npos (A.map rflip) = nneg A := by
  rw [npos, nneg, List.countP_map]
  congr 1
  funext r
  show decide (0 < -r.1) = decide (r.1 < 0)
  exact decide_eq_decide.mpr (by omega)
theorem three_parts (A : List (Int × Int)) : npos A + nneg A + nzer A = A.length := by
  induction A with
  | nil => rfl
  | cons r A ih =>
    simp only [npos, nneg, nzer, List.countP_cons, List.length_cons] at ih ⊢
    rcases Int.lt_trichotomy r.1 0 with h | h | h
    · rw [decide_eq_false (by omega), decide_eq_true h, decide_eq_false (by omega)]; simp; omega
    · rw [decide_eq_false (by omega), decide_eq_false (by omega), decide_eq_true h]; simp; omega
    · rw [decide_eq_true h, decide_eq_false (by omega), decide_eq_false (by omega)]; simp; omega
theorem descartes {A : List (Int × Int)} {g q : List Int} (hA : ∀ r ∈ A, 0 < r.2) (hg : GL g) (ho : tz g % 2 = 1) (e : ps q = ps (rlist A g)) :
    npos A ≤ chg q ∧ chg q % 2 = npos A % 2 ∧ nneg A ≤ chg (sc (-1) q) ∧ chg (sc (-1) q) % 2 = nneg A % 2 ∧ (∃ c, LowAt q (nzer A) c) ∧ (tz g = 1 → chg q = npos A ∧ chg (sc (-1) q) = nneg A) := by
  have h1 := chg_pos A g q hA hg.tz e
  have h2 := chg_even hA hg e
  obtain ⟨g1, hg1, e1⟩ := rlist_flip hg ho A
  have hF : ∀ r ∈ A.map rflip, 0 < r.2 := fun r hr => by
    obtain ⟨x, hx, rfl⟩ := List.mem_map.1 hr
    exact hA x hx
  have e2 : ps (sc (-1) q) = ps (rlist (A.map rflip) g1) := by
    rw [← e1]
    exact ps_ext fun k => by rw [cf_sc, cf_sc, ps_eq e]
  have h3 := chg_pos _ g1 _ hF hg1.tz e2
  have h4 := chg_even hF hg1 e2
  rw [npos_flip] at h3 h4
  obtain ⟨c, l1, _⟩ := hg.l
  obtain ⟨x, x1, _⟩ := rlist_low l1 A hA
  have hl : LowAt q (nzer A) x := ⟨fun j hj => by rw [ps_eq e]; exact x1.1 j hj, by rw [ps_eq e]; exact x1.2.1, x1.2.2⟩
  refine ⟨h1, h2, h3, h4, ⟨x, hl⟩, fun ht => ?_⟩
  have hb := alt_bound hl
  have ht2 : tz q = A.length + tz g := by rw [tz_eq_of_cf (ps_eq e)]; exact (rlist_tz hg.tz A hA).1
  have h5 := three_parts A
  omega
end Go.Proofs.YtcocppjgbcbndaaGreat

namespace Go.Proofs.YtcocppjgbcbndaaGreat
open Go Go.Proofs Go.AL
set_option linter.unusedSimpArgs false
set_option linter.unusedVariables false
def hq (U V : PQ) : Nat → (Nat → Rat) → PQ
  | 0, f => PQ.C (f 0)
  | n + 1, f => PQ.C (f 0) * PQ.pw V (n + 1) + U * hq U V n (fun k => f (k + 1))
theorem hq_ext {U V : PQ} : ∀ {n : Nat} {f g : Nat → Rat}, (∀ k, k ≤ n → f k = g k) → hq U V n f = hq U V n g
  | 0, f, g, h => by rw [hq, hq, h 0 (Nat.le_refl _)]
  | n + 1, f, g, h => by rw [hq, hq, h 0 (by omega), hq_ext (n := n) (f := fun k => f (k + 1)) (g := fun k => g (k + 1)) fun k hk => h (k + 1) (by omega)]
theorem hq_add {U V : PQ} : ∀ (n : Nat) (f g : Nat → Rat), hq U V n (fun k => f k + g k) = hq U V n f + hq U V n g
  | 0, f, g => by rw [hq, hq, hq, PQ.C_add]
  | n + 1, f, g => by rw [hq, hq, hq, hq_add n (fun k => f (k + 1)) (fun k => g (k + 1)), PQ.C_add, PQ.add_mul, PQ.mul_add]; ac_rfl
theorem hq_smul {U V : PQ} (c : Rat) : ∀ (n : Nat) (f : Nat → Rat), hq U V n (fun k => c * f k) = PQ.C c * hq U V n f
  | 0, f => by rw [hq, hq, PQ.C_mul]
  | n + 1, f => by rw [hq, hq, hq_smul c n (fun k => f (k + 1)), PQ.C_mul, PQ.mul_add]; ac_rfl
theorem hq_zero {U V : PQ} {n : Nat} {f : Nat → Rat} (h : ∀ k, k ≤ n → f k = 0) : hq U V n f = 0 := by
  rw [hq_ext (g := fun k => 0 * f k) fun k hk => by rw [h k hk, Rat.zero_mul], hq_smul, PQ.C_zero, PQ.zero_mul]
theorem hq_up {U V : PQ} : ∀ {n : Nat} {f : Nat → Rat}, f (n + 1) = 0 → hq U V (n + 1) f = V * hq U V n f
  | 0, f, h => by
    rw [hq, hq, hq]
    show _ + U * PQ.C (f 1) = _
    rw [h, PQ.C_zero, PQ.mul_zero, PQ.add_zero, PQ.pw_one, PQ.mul_comm]
  | n + 1, f, h => by
    rw [hq, hq_up (n := n) (f := fun k => f (k + 1)) h, hq, PQ.mul_add, PQ.pw]
    ac_rfl
theorem hq_ups {U V : PQ} {n : Nat} {f : Nat → Rat} (h : ∀ k, n < k → f k = 0) : ∀ j, hq U V (n + j) f = PQ.pw V j * hq U V n f
  | 0 => by rw [Nat.add_zero, PQ.pw, PQ.one_mul]
  | j + 1 => by
    rw [show n + (j + 1) = (n + j) + 1 by omega, hq_up (h _ (by omega)), hq_ups h j, PQ.pw]
    ac_rfl
theorem hq_shift {U V : PQ} (n : Nat) (f : Nat → Rat) : hq U V (n + 1) (qshift f) = U * hq U V n f := by
  rw [hq]
  show PQ.C 0 * _ + U * hq U V n f = _
  rw [PQ.C_zero, PQ.zero_mul, PQ.zero_add]
def lin (a b : Rat) : PQ := pq [a, b]
theorem lin_mul (a b : Rat) (F : PQ) (k : Nat) : (lin a b * F).c k = a * F.c k + b * qshift F.c k := by
  show PQ.conv (cfq [a, b]) F.c k = _
  rw [← PQ.cvq_conv, cvq_cons]
  congr 1
  cases k with
  | zero => show (0 : Rat) = b * 0; rw [Rat.mul_zero]
  | succ k =>
    show cvq [b] F.c k = b * F.c k
    rw [cvq_cons]
    have : qshift (cvq [] F.c) k = 0 := by cases k <;> rfl
    rw [this, Rat.add_zero]
theorem lin_add (a b c d : Rat) : lin a b + lin c d = lin (a + c) (b + d) := by
  have : pq (addq [a, b] [c, d]) = pq [a + c, b + d] := rfl
  rw [lin, lin, ← pq_addq, this, lin]
theorem lin_scl (t a b : Rat) : PQ.C t * lin a b = lin (t * a) (t * b) := by
  rw [lin, ← pq_sclq]
  show pq [a * t, b * t] = _
  rw [Rat.mul_comm a, Rat.mul_comm b, lin]
theorem lin_neg (a b : Rat) : -lin a b = lin (-a) (-b) := by
  rw [← PQ.neg_one_C, lin_scl]; congr 1 <;> grind
theorem lin_c (a b : Rat) (k : Nat) : (lin a b).c k = if k = 0 then a else if k = 1 then b else 0 := by
  rw [lin, pq_c]
  match k with
  | 0 => rfl
  | 1 => rfl
  | k + 2 => rw [cfq_ge (by show 2 ≤ k + 2; omega), if_neg (by omega), if_neg (by omega)]
theorem cmq_deg {Q : PQ} (hQ : ∀ k, 1 < k → Q.c k = 0) : ∀ (p : List Rat) (k : Nat), p.length ≤ k → (cmq p Q).c k = 0
  | [], k, _ => rfl
  | c :: p, k, h => by
    have e : Q = lin (Q.c 0) (Q.c 1) := PQ.ext fun j => by
      rw [lin_c]
      by_cases h0 : j = 0
      · rw [if_pos h0, h0]
      · by_cases h1 : j = 1
        · rw [if_neg h0, if_pos h1, h1]
        · rw [if_neg h0, if_neg h1, hQ j (by omega)]
    obtain ⟨k, rfl⟩ : ∃ j, k = j + 1 := ⟨k - 1, by rw [List.length_cons] at h; omega⟩
    rw [List.length_cons] at h
    rw [cmq_cons, PQ.c_add, PQ.c_C, if_neg (by omega), Rat.zero_add, e, lin_mul, ← e, cmq_deg hQ p (k + 1) (by omega)]
    show _ + _ * (cmq p Q).c k = 0
    rw [cmq_deg hQ p k (by omega), Rat.mul_zero, Rat.mul_zero, Rat.add_zero]
theorem lin_deg (a b : Rat) : ∀ k, 1 < k → (lin a b).c k = 0 := fun k hk => by rw [lin_c, if_neg (by omega), if_neg (by omega)]
theorem hq_lin {U V : PQ} {a w : Rat} : ∀ (n : Nat) (p : List Rat) (g : Nat → Rat), p.length ≤ n + 1 → (∀ k, g k = (cmq p (lin a w)).c k) → hq U V n g = hq (PQ.C a * V + PQ.C w * U) V n (cfq p)
  | n, [], g, _, h => by
    rw [hq_zero (f := g) fun k _ => h k, hq_zero (f := cfq []) fun k _ => cfq_nil k]
  | 0, c :: p, g, hl, h => by
    obtain rfl : p = [] := List.eq_nil_of_length_eq_zero (by simp only [List.length_cons] at hl; omega)
    rw [hq, hq, h 0, cmq_cons, cmq_nil, PQ.mul_zero, PQ.add_zero]
    rfl
  | n + 1, c :: p, g, hl, h => by
    have hl' : p.length ≤ n + 1 := by rw [List.length_cons] at hl; omega
    have ih := hq_lin (U := U) (V := V) (a := a) (w := w) n p (fun k => (cmq p (lin a w)).c k) hl' fun _ => rfl
    have e : ∀ k, k ≤ n + 1 → g k = (if k = 0 then c else 0) + (a * (cmq p (lin a w)).c k + w * qshift (fun k => (cmq p (lin a w)).c k) k) := fun k _ => by
      rw [h k, cmq_cons, PQ.c_add, PQ.c_C, lin_mul]
    rw [hq_ext e, hq_add, hq_add (f := fun k => a * (cmq p (lin a w)).c k), hq_smul, hq_smul, hq_shift, ih, hq_up (f := fun k => (cmq p (lin a w)).c k) (cmq_deg (lin_deg a w) p (n + 1) hl'), ih]
    have e0 : hq U V (n + 1) (fun k => if k = 0 then c else 0) = PQ.C c * PQ.pw V (n + 1) := by
      rw [hq, hq_zero (f := fun k => if k + 1 = 0 then c else 0) (fun k _ => if_neg (by omega)), PQ.mul_zero, PQ.add_zero, if_pos rfl]
    rw [e0]
    show _ = PQ.C c * _ + _ * hq _ V n (cfq p)
    rw [PQ.add_mul]
    ac_rfl
theorem hq_one (U : PQ) : ∀ (n : Nat) (p : List Rat), p.length ≤ n + 1 → hq U 1 n (cfq p) = cmq p U
  | n, [], _ => by rw [hq_zero fun k _ => cfq_nil k, cmq_nil]
  | 0, c :: p, h => by
    obtain rfl : p = [] := List.eq_nil_of_length_eq_zero (by simp only [List.length_cons] at h; omega)
    rw [cmq_cons, cmq_nil, PQ.mul_zero, PQ.add_zero]; rfl
  | n + 1, c :: p, h => by
    have ih := hq_one U n p (by rw [List.length_cons] at h; omega)
    rw [cmq_cons, hq]
    show PQ.C c * PQ.pw 1 (n + 1) + U * hq U 1 n (cfq p) = _
    have : ∀ j, PQ.pw 1 j = 1 := fun j => by
      induction j with
      | zero => rfl
      | succ j ih => rw [PQ.pw, ih, PQ.one_mul]
    rw [ih, this, PQ.mul_one]
theorem hq_mul {U V : PQ} {n : Nat} {Q : List Rat} (hQ : Q.length ≤ n + 1) : ∀ (m : Nat) (P : List Rat), P.length ≤ m + 1 → hq U V (m + n) (cfq (mulq P Q)) = hq U V m (cfq P) * hq U V n (cfq Q)
  | m, [], _ => by
    rw [hq_zero fun k _ => by rw [cfq_mulq]; rfl, hq_zero (f := cfq []) fun k _ => cfq_nil k, PQ.zero_mul]
  | 0, c :: P, h => by
    obtain rfl : P = [] := List.eq_nil_of_length_eq_zero (by simp only [List.length_cons] at h; omega)
    rw [Nat.zero_add, hq_ext (g := fun k => c * cfq Q k) (fun k _ => by
      rw [cfq_mulq_cons]
      have : qshift (cfq (mulq [] Q)) k = 0 := by
        cases k with
        | zero => rfl
        | succ k => show cfq (mulq [] Q) k = 0; rw [cfq_mulq]; rfl
      rw [this, Rat.add_zero]), hq_smul]
    rfl
  | m + 1, c :: P, h => by
    have ih := hq_mul (U := U) (V := V) hQ m P (by rw [List.length_cons] at h; omega)
    have e1 := hq_ups (U := U) (V := V) (n := n) (f := cfq Q) (fun k hk => cfq_ge (by omega)) (m + 1)
    rw [hq_ext (g := fun k => c * cfq Q k + qshift (cfq (mulq P Q)) k) (fun k _ => cfq_mulq_cons c P Q k), hq_add, hq_smul, show m + 1 + n = n + (m + 1) by omega, e1, show n + (m + 1) = (m + n) + 1 by omega, hq_shift, ih]
    show _ = (PQ.C c * PQ.pw V (m + 1) + U * hq U V m (cfq P)) * _
    rw [PQ.add_mul]
    ac_rfl
def Rev (n : Nat) (F G : PQ) : Prop := (∀ k, k ≤ n → F.c k = G.c (n - k)) ∧ (∀ k, n < k → F.c k = 0 ∧ G.c k = 0)
theorem Rev.lin {n : Nat} {F G : PQ} (h : Rev n F G) (a b : Rat) : Rev (n + 1) (lin b a * F) (lin a b * G) := by
  refine ⟨fun k hk => ?_, fun k hk => ?_⟩
  · rw [lin_mul, lin_mul]
    have e1 : F.c k = qshift G.c (n + 1 - k) := by
      by_cases h1 : k ≤ n
      · rw [h.1 k h1, show n + 1 - k = (n - k) + 1 by omega]; rfl
      · rw [(h.2 k (by omega)).1, show n + 1 - k = 0 by omega]; rfl
    have e2 : qshift F.c k = G.c (n + 1 - k) := by
      cases k with
      | zero => rw [(h.2 (n + 1 - 0) (by omega)).2]; rfl
      | succ k => show F.c k = _; rw [h.1 k (by omega), show n + 1 - (k + 1) = n - k by omega]
    rw [e1, e2, Rat.add_comm]
  · obtain ⟨k, rfl⟩ : ∃ j, k = j + 1 := ⟨k - 1, by omega⟩
    rw [lin_mul, lin_mul]
    show b * F.c (k + 1) + a * F.c k = 0 ∧ a * G.c (k + 1) + b * G.c k = 0
    rw [(h.2 k (by omega)).1, (h.2 k (by omega)).2, (h.2 (k + 1) (by omega)).1, (h.2 (k + 1) (by omega)).2]
    constructor <;> grind
theorem Rev.smul {n : Nat} {F G : PQ} (h : Rev n F G) (c : Rat) : Rev n (PQ.C c * F) (PQ.C c * G) := by
  refine ⟨fun k hk => by rw [PQ.C_mul_c, PQ.C_mul_c, h.1 k hk], fun k hk => ?_⟩
  rw [PQ.C_mul_c, PQ.C_mul_c, (h.2 k hk).1, (h.2 k hk).2, Rat.mul_zero]
  exact ⟨rfl, rfl⟩
theorem Rev.add {n : Nat} {F G F' G' : PQ} (h : Rev n F G) (h' : Rev n F' G') : Rev n (F + F') (G + G') := by
  refine ⟨fun k hk => by rw [PQ.c_add, PQ.c_add, h.1 k hk, h'.1 k hk], fun k hk => ?_⟩
  rw [PQ.c_add, PQ.c_add, (h.2 k hk).1, (h.2 k hk).2, (h'.2 k hk).1, (h'.2 k hk).2]
  exact ⟨Rat.add_zero _, Rat.add_zero _⟩
theorem rev_pw : ∀ n, Rev n (PQ.pw (lin 1 1) n) (PQ.pw (lin 1 1) n)
  | 0 => by
    refine ⟨fun k hk => by rw [Nat.le_zero.mp hk], fun k hk => ?_⟩
    show (1 : PQ).c k = 0 ∧ (1 : PQ).c k = 0
    rw [PQ.c_one, if_neg (by omega)]
    exact ⟨rfl, rfl⟩
  | n + 1 => by
    rw [PQ.pw, PQ.mul_comm]
    exact (rev_pw n).lin 1 1
theorem hq_rev (a b : Rat) : ∀ (n : Nat) (f : Nat → Rat), Rev n (hq (lin b a) (lin 1 1) n f) (hq (lin a b) (lin 1 1) n f)
  | 0, f => by
    refine ⟨fun k hk => by rw [Nat.le_zero.mp hk]; rfl, fun k hk => ?_⟩
    rw [hq, hq, PQ.c_C, if_neg (by omega)]
    exact ⟨rfl, rfl⟩
  | n + 1, f => by
    rw [hq, hq]
    exact ((rev_pw (n + 1)).smul _).add ((hq_rev a b n _).lin a b)
theorem hq_flip {U V : PQ} : ∀ (n : Nat) (f : Nat → Rat), hq (-U) V n f = hq U V n (fun k => (-1) ^ k * f k)
  | 0, f => by rw [hq, hq, Rat.pow_zero, Rat.one_mul]
  | n + 1, f => by
    rw [hq, hq, hq_flip n (fun k => f (k + 1)), Rat.pow_zero, Rat.one_mul]
    congr 1
    rw [hq_ext (n := n) (f := fun k => (-1) ^ (k + 1) * f (k + 1)) (g := fun k => -1 * ((-1) ^ k * f (k + 1))) fun k _ => by rw [Rat.pow_succ]; grind, hq_smul, PQ.neg_one_C, PQ.neg_mul, PQ.mul_neg]
def fs : List Int → Int
  | [] => 0
  | x :: l => if x.sign = 0 then fs l else x.sign
theorem chs_fold : ∀ (l : List Int) (st : Nat × Int), (l.foldl chs st).1 = st.1 + (if st.2 ≠ 0 ∧ fs l ≠ 0 ∧ st.2 ≠ fs l then 1 else 0) + chg l
  | [], st => by
    rw [List.foldl_nil, if_neg (fun e => e.2.1 rfl)]; rfl
  | x :: l, st => by
    have h1 := chs_fold l (chs st x)
    have h2 := chs_fold l (chs (0, 0) x)
    rw [List.foldl_cons, h1]
    have h3 : chg (x :: l) = (l.foldl chs (chs (0, 0) x)).1 := rfl
    rw [h3, h2]
    rw [chs_one, chs_one, chs_two, chs_two, fs]
    generalize chg l = c
    generalize fs l = F
    obtain ⟨u, v⟩ := st
    by_cases hx : x.sign = 0
    · simp only [hx, ne_eq, not_true_eq_false, false_and, and_false, if_false, if_true]
      omega
    · simp only [hx, ne_eq, not_true_eq_false, not_false_eq_true, false_and, and_false, true_and, if_false]
      generalize x.sign = X at *
      by_cases h0 : v = 0
      · simp only [h0, not_true_eq_false, false_and, if_false]; omega
      · by_cases h4 : X = v
        · simp only [h4, not_true_eq_false, and_false, if_false]; omega
        · have h5 : ¬ v = X := fun e => h4 e.symm
          simp only [h0, h4, h5, not_false_eq_true, and_self, if_true]; omega
theorem chf_snoc (l : List Int) (x : Int) : chf (l ++ [x]) = chs (chf l) x := by rw [chf, List.foldl_append]; rfl
theorem chf_reverse : ∀ l : List Int, (chf l.reverse).2 = fs l
  | [] => rfl
  | x :: l => by rw [List.reverse_cons, chf_snoc, chs_two, chf_reverse l, fs]
theorem chg_reverse : ∀ l : List Int, chg l.reverse = chg l
  | [] => rfl
  | x :: l => by
    have h1 := chs_fold l (chs (0, 0) x)
    have h3 : chg (x :: l) = (l.foldl chs (chs (0, 0) x)).1 := rfl
    have h4 : chg ((x :: l).reverse) = (chs (chf l.reverse) x).1 := by rw [List.reverse_cons, chg, chf_snoc]
    have ih : (chf l.reverse).1 = chg l := chg_reverse l
    rw [h3, h4, h1, chs_one, chs_one, chs_two, chf_reverse, ih]
    generalize chg l = c
    generalize fs l = F
    by_cases hx : x.sign = 0
    · simp only [hx, ne_eq, not_true_eq_false, false_and, and_false, if_false, if_true]; omega
    · simp only [hx, ne_eq, not_true_eq_false, not_false_eq_true, false_and, and_false, true_and, if_false]
      by_cases h5 : F = 0
      · simp only [h5, not_true_eq_false, false_and, if_false]; omega
      · by_cases h6 : x.sign = F
        · simp only [h6, not_true_eq_false, and_false, if_false]; omega
        · simp only [h5, h6, not_false_eq_true, and_self, if_true]; omega
theorem chg_neg : ∀ l : List Int, chg (l.map fun x => -x) = chg l := by
  have : ∀ (l : List Int) (st : Nat × Int), (l.map fun x => -x).foldl chs (st.1, -st.2) = ((l.foldl chs st).1, -(l.foldl chs st).2) := fun l => by
    induction l with
    | nil => exact fun st => rfl
    | cons x l ih =>
      intro st
      rw [List.map_cons, List.foldl_cons, List.foldl_cons, ← ih]
      congr 1
      refine Prod.ext ?_ ?_
      · show (chs (st.1, -st.2) (-x)).1 = (chs st x).1
        rw [chs_one, chs_one, Int.sign_neg]
        have e : (-x.sign ≠ 0 ∧ -st.2 ≠ 0 ∧ -x.sign ≠ -st.2) ↔ (x.sign ≠ 0 ∧ st.2 ≠ 0 ∧ x.sign ≠ st.2) := by omega
        simp only [e]
      · show (chs (st.1, -st.2) (-x)).2 = -(chs st x).2
        rw [chs_two, chs_two, Int.sign_neg]
        by_cases h : x.sign = 0
        · rw [if_pos h, if_pos (by omega)]
        · rw [if_neg h, if_neg (by omega)]
  intro l
  have h := this l (0, 0)
  have h2 : chf (l.map fun x => -x) = ((chf l).1, -(chf l).2) := h
  show (chf _).1 = (chf l).1
  rw [h2]
def sgs (n : Nat) (F : PQ) : List Int := (List.range (n + 1)).map fun k => sgq (F.c k)
def chq (n : Nat) (F : PQ) : Nat := chg (sgs n F)
theorem cf_sgs (n : Nat) (F : PQ) (k : Nat) : cf (sgs n F) k = if k ≤ n then sgq (F.c k) else 0 := by
  by_cases h : k ≤ n
  · rw [if_pos h, sgs, cf, List.getD, List.getElem?_map, List.getElem?_range (by omega)]; rfl
  · rw [if_neg h, cf_ge (by simp [sgs]; omega)]
theorem sgs_len (n : Nat) (F : PQ) : (sgs n F).length = n + 1 := by simp [sgs]
theorem chq_scl {n : Nat} {F : PQ} {t : Rat} (ht : t ≠ 0) : chq n (PQ.C t * F) = chq n F := by
  unfold chq
  rcases sgq_cases t with ⟨_, e⟩ | ⟨e, _⟩ | ⟨_, e⟩
  · unfold chg
    rw [chf_ext (p := sgs n (PQ.C t * F)) (q := sgs n F) fun k => by
      rw [cf_sgs, cf_sgs, PQ.C_mul_c, sgq_mul, e, Int.one_mul]]
  · exact absurd e ht
  · rw [← chg_neg (sgs n F)]
    unfold chg
    rw [chf_ext (p := sgs n (PQ.C t * F)) (q := (sgs n F).map fun x => -x) fun k => by
      have h1 : cf ((sgs n F).map fun x => -x) k = -cf (sgs n F) k := by
        by_cases h : k < (sgs n F).length
        · simp [cf, List.getD, h]
        · rw [cf_ge (by simp; omega), cf_ge (by omega)]; rfl
      rw [h1, cf_sgs, cf_sgs, PQ.C_mul_c, sgq_mul, e]
      split <;> omega]
theorem chq_rev {n : Nat} {F G : PQ} (h : Rev n F G) : chq n F = chq n G := by
  unfold chq
  have : sgs n F = (sgs n G).reverse := by
    refine ext_cf (by rw [List.length_reverse, sgs_len, sgs_len]) fun k hk => ?_
    rw [sgs_len] at hk
    have h1 : cf (sgs n G).reverse k = cf (sgs n G) (n - k) := by
      have hk' : k < (sgs n G).length := by rw [sgs_len]; omega
      have hk2 : n - k < (sgs n G).length := by rw [sgs_len]; omega
      simp only [cf, List.getD]
      rw [List.getElem?_reverse hk', sgs_len, show n + 1 - 1 - k = n - k by omega]
    rw [h1, cf_sgs, cf_sgs, if_pos (by omega), if_pos (by omega), h.1 k (by omega)]
  rw [this, chg_reverse]
theorem chq_of {l : List Int} {n : Nat} {F : PQ} {t : Rat} (ht : t ≠ 0) (h : ∀ k, k ≤ n → (cf l k : Rat) = t * F.c k) (h0 : ∀ k, n < k → cf l k = 0) : chg l = chq n F := by
  rw [← chq_scl (t := t) ht]
  unfold chq chg
  rw [← chf_map_sign l]
  rw [chf_ext (p := l.map Int.sign) (q := sgs n (PQ.C t * F)) fun k => by
    have h1 : cf (l.map Int.sign) k = (cf l k).sign := by
      by_cases h : k < l.length
      · simp [cf, List.getD, h]
      · rw [cf_ge (by simp; omega), cf_ge (by omega)]; rfl
    rw [h1, cf_sgs]
    by_cases hk : k ≤ n
    · rw [if_pos hk, PQ.C_mul_c, ← h k hk, sgq_int]
    · rw [if_neg hk, h0 k (by omega)]; rfl]
end Go.Proofs.YtcocppjgbcbndaaGreat

namespace Go.Proofs.YtcocppjgbcbndaaGreat
open Go Go.Proofs Go.AL
set_option linter.unusedSimpArgs false
set_option linter.unusedVariables false
set_option maxRecDepth 100000 in
theorem chg_ok (l : List Int) (hl : l.length ≤ 2 ^ 40) : AC Tryz.prog 30 [cis l] none [ci (chg l)] := by
  refine AC.by_walk (rs := [.tmp 2]) ords Tryz.func30 (by rfl) (by rfl) (by rfl) (by rfl) (by rfl) ?_
  simp (disch := omega) only [wk, tis, seval, reduceCtorEq, Nat.reduceEqDiff, rqs, Bool.true_beq, Bool.false_beq, Bool.not_true, Bool.not_false]
  refine aloop_by (fun f H => ∃ (i : Nat) (last : Int), i ≤ l.length ∧ last.sign = (chf (l.take i)).2 ∧ f 9 = .iv (.int .i64 i) ∧ f 8 = .iv (.int .i64 l.length) ∧ f 7 = .iv (.sl (ilims l)) ∧ f 3 = .iv (.int .i64 (chf (l.take i)).1) ∧ f 4 = .iv (.int .i64 last)) (fun f H => (l.length - intAt f 9).toNat) ?_ ?_
  · refine ⟨0, 0, by omega, rfl, ?_⟩
    simp (disch := omega) only [wk, tis, seval, reduceCtorEq, Nat.reduceEqDiff, rqs, Bool.true_beq, Bool.false_beq, Bool.not_true, Bool.not_false, List.take_zero, show (chf []).1 = 0 from rfl]
  rintro f H ⟨i, last, hi, hs, hF⟩
  rw [intAt_of hF.1]
  simp (disch := omega) only [wk, tis, seval, reduceCtorEq, Nat.reduceEqDiff, rqs, Bool.true_beq, Bool.false_beq, Bool.not_true, Bool.not_false, hF]
  refine if_by (fun hlt => ?_) (fun hlt => ?_)
  · have hlt' : i < l.length := by omega
    have et := chf_take hlt'
    have hle := chf_le l i hi
    obtain ⟨x, hx⟩ : ∃ x, x = l.getD i 0 := ⟨_, rfl⟩
    rw [← hx] at et
    generalize hst : chf (l.take i) = st at *
    rcases sign_cases x with ⟨c1, s1⟩ | ⟨c1, s1⟩ | ⟨c1, s1⟩
    · have n0 : ¬ x = 0 := by omega
      by_cases hl0 : last = 0
      · rw [hl0] at hs
        rw [chs_same (by rw [s1]; decide) (fun h => h.1 hs.symm)] at et
        simp (disch := omega) only [wk, tis, seval, reduceCtorEq, Nat.reduceEqDiff, rqs, Bool.true_beq, Bool.false_beq, Bool.not_true, Bool.not_false, hF, ← hx, n0, hl0]
        refine ⟨⟨i + 1, x, by omega, by rw [et], ?_⟩, by omega⟩
        rw [et]
        (repeat' apply And.intro) <;> first | rfl | omega
      · rcases sign_cases last with ⟨c2, s2⟩ | ⟨c2, s2⟩ | ⟨c2, s2⟩
        · rw [chs_same (by rw [s1]; decide) (fun h => h.2 (by rw [s1, ← hs, s2]))] at et
          simp (disch := omega) only [wk, tis, seval, reduceCtorEq, Nat.reduceEqDiff, rqs, Bool.true_beq, Bool.false_beq, Bool.not_true, Bool.not_false, hF, ← hx, n0, hl0, c1, c2]
          refine ⟨⟨i + 1, x, by omega, by rw [et], ?_⟩, by omega⟩
          rw [et]
          (repeat' apply And.intro) <;> first | rfl | omega
        · omega
        · have c2' : ¬ last < 0 := by omega
          rw [chs_more (by rw [s1]; decide) ⟨by rw [← hs, s2]; decide, by rw [s1, ← hs, s2]; decide⟩] at et
          simp (disch := omega) only [wk, tis, seval, reduceCtorEq, Nat.reduceEqDiff, rqs, Bool.true_beq, Bool.false_beq, Bool.not_true, Bool.not_false, hF, ← hx, n0, hl0, c1, c2']
          refine ⟨⟨i + 1, x, by omega, by rw [et], ?_⟩, by omega⟩
          rw [et]
          (repeat' apply And.intro) <;> first | rfl | omega
    · rw [chs_zero s1] at et
      simp (disch := omega) only [wk, tis, seval, reduceCtorEq, Nat.reduceEqDiff, rqs, Bool.true_beq, Bool.false_beq, Bool.not_true, Bool.not_false, hF, ← hx, c1]
      refine ⟨⟨i + 1, last, by omega, by rw [et]; exact hs, ?_⟩, by omega⟩
      rw [et]
      (repeat' apply And.intro) <;> first | rfl | omega
    · have n0 : ¬ x = 0 := by omega
      have c1' : ¬ x < 0 := by omega
      by_cases hl0 : last = 0
      · rw [hl0] at hs
        rw [chs_same (by rw [s1]; decide) (fun h => h.1 hs.symm)] at et
        simp (disch := omega) only [wk, tis, seval, reduceCtorEq, Nat.reduceEqDiff, rqs, Bool.true_beq, Bool.false_beq, Bool.not_true, Bool.not_false, hF, ← hx, n0, hl0]
        refine ⟨⟨i + 1, x, by omega, by rw [et], ?_⟩, by omega⟩
        rw [et]
        (repeat' apply And.intro) <;> first | rfl | omega
      · rcases sign_cases last with ⟨c2, s2⟩ | ⟨c2, s2⟩ | ⟨c2, s2⟩
        · rw [chs_more (by rw [s1]; decide) ⟨by rw [← hs, s2]; decide, by rw [s1, ← hs, s2]; decide⟩] at et
          simp (disch := omega) only [wk, tis, seval, reduceCtorEq, Nat.reduceEqDiff, rqs, Bool.true_beq, Bool.false_beq, Bool.not_true, Bool.not_false, hF, ← hx, n0, hl0, c1', c2]
          refine ⟨⟨i + 1, x, by omega, by rw [et], ?_⟩, by omega⟩
          rw [et]
          (repeat' apply And.intro) <;> first | rfl | omega
        · omega
        · have c2' : ¬ last < 0 := by omega
          rw [chs_same (by rw [s1]; decide) (fun h => h.2 (by rw [s1, ← hs, s2]))] at et
          simp (disch := omega) only [wk, tis, seval, reduceCtorEq, Nat.reduceEqDiff, rqs, Bool.true_beq, Bool.false_beq, Bool.not_true, Bool.not_false, hF, ← hx, n0, hl0, c1', c2']
          refine ⟨⟨i + 1, x, by omega, by rw [et], ?_⟩, by omega⟩
          rw [et]
          (repeat' apply And.intro) <;> first | rfl | omega
  · obtain rfl : i = l.length := by omega
    rw [List.take_length] at hF
    simp (disch := omega) only [wk, tis, seval, reduceCtorEq, Nat.reduceEqDiff, rqs, Bool.true_beq, Bool.false_beq, Bool.not_true, Bool.not_false, hF]
    try rfl
theorem ilims_snoc (l : List Int) (x : Int) : ilims (l ++ [x]) = ilims l ++ [[.int .i64 x]] := by simp [ilims]
theorem sgn_get {p : List RI} {i : Nat} (h : i < p.length) : (((pv p).map Int.sign).take (i + 1)) = ((pv p).map Int.sign).take i ++ [(iv (p.getD i (false, []))).sign] := by
  have hl := pv_len p
  rw [takei_snoc (by rw [List.length_map]; omega)]
  congr 2
  rw [← cf_pv]
  simp [cf, List.getD, show i < (pv p).length by omega]
theorem of16_ok (p : List RI) (h : RP (2 ^ 40) (2 ^ 40) p) : AC Tryz.prog 35 [cw p] none [ci (chg (pv p))] := by
  have hl := h.1
  have hpl := pv_len p
  have m := chg_ok ((pv p).map Int.sign) (by rw [List.length_map]; omega)
  rw [chg, chf_map_sign] at m
  refine AC.by_walk (rs := [.tmp 2]) ords Tryz.func35 (by rfl) (by rfl) (by rfl) (by rfl) (by rfl) ?_
  simp (disch := omega) only [wk, tis, seval, reduceCtorEq, Nat.reduceEqDiff, rqs, Bool.true_beq, Bool.false_beq, Bool.not_true, Bool.not_false]
  refine aloop_by (fun f H => ∃ (i st : Nat), i ≤ p.length ∧ f 11 = .iv (.int .i64 i) ∧ f 10 = .iv (.int .i64 p.length) ∧ f 9 = .iv (.sl (raws p)) ∧ f 3 = .hs 8 st ∧ H 8 = .blk false st 3 1 (ilims (((pv p).map Int.sign).take i))) (fun f H => (p.length - intAt f 11).toNat) ?_ ?_
  · refine ⟨0, 1, by omega, ?_⟩
    simp (disch := omega) only [wk, tis, seval, reduceCtorEq, Nat.reduceEqDiff, rqs, Bool.true_beq, Bool.false_beq, Bool.not_true, Bool.not_false, List.take_zero, show ilims [] = [] from rfl, Int.toNat_zero, List.replicate_zero]
  rintro f H ⟨i, st, hi, hF⟩
  rw [intAt_of hF.1]
  simp (disch := omega) only [wk, tis, seval, reduceCtorEq, Nat.reduceEqDiff, rqs, Bool.true_beq, Bool.false_beq, Bool.not_true, Bool.not_false, hF]
  refine if_by (fun hlt => ?_) (fun hlt => ?_)
  · have hlt' : i < p.length := by omega
    have hq : (((pv p).map Int.sign).take i).length = i := by rw [List.length_take, List.length_map]; omega
    have e := sgn_get hlt'
    have z := zsign_ok (p.getD i (false, [])) (h.get i)
    simp (disch := omega) only [wk, tis, seval, reduceCtorEq, Nat.reduceEqDiff, rqs, Bool.true_beq, Bool.false_beq, Bool.not_true, Bool.not_false, hF, hq]
    refine call_by (z) (by first | rfl | (simp only [tocvs, tocv, hF, hq]; rfl) | (simp only [tocvs, tocv, toboxes, tobox, updH_at, Nat.reduceEqDiff, ↓reduceIte, hF, hq]; rfl)) (by simp) ?_
    simp (disch := omega) only [wk, tis, seval, reduceCtorEq, Nat.reduceEqDiff, rqs, Bool.true_beq, Bool.false_beq, Bool.not_true, Bool.not_false, hF, hq]
    refine ⟨⟨i + 1, st + 1, by omega, ?_⟩, by omega⟩
    rw [e, ilims_snoc]
    (repeat' apply And.intro) <;> first | rfl | omega
  · obtain rfl : i = p.length := by omega
    rw [List.take_of_length_le (by rw [List.length_map]; omega)] at hF
    simp (disch := omega) only [wk, tis, seval, reduceCtorEq, Nat.reduceEqDiff, rqs, Bool.true_beq, Bool.false_beq, Bool.not_true, Bool.not_false, hF]
    refine call_by (m) (by first | rfl | (simp only [tocvs, tocv, hF]; rfl) | (simp only [tocvs, tocv, toboxes, tobox, updH_at, Nat.reduceEqDiff, ↓reduceIte, hF]; rfl)) (by simp) ?_
    simp (disch := omega) only [wk, tis, seval, reduceCtorEq, Nat.reduceEqDiff, rqs, Bool.true_beq, Bool.false_beq, Bool.not_true, Bool.not_false, hF]
    try rfl
theorem poly16_ok (l : List Int) (hl : l.length ≤ 2 ^ 30) (h : ∀ z ∈ l, -9223372036854775808 < z ∧ z < 9223372036854775808) : AC Tryz.prog 18 [cis l] none [cw (l.map canon)] := by
  refine AC.by_walk (rs := [.tmp 2]) ords Tryz.func18 (by rfl) (by rfl) (by rfl) (by rfl) (by rfl) ?_
  simp (disch := omega) only [wk, tis, seval, reduceCtorEq, Nat.reduceEqDiff, rqs, Bool.true_beq, Bool.false_beq, Bool.not_true, Bool.not_false]
  refine aloop_nil 3 3 33 2 (by simp (disch := omega) only [wk, tis, seval, reduceCtorEq, Nat.reduceEqDiff, rqs, Bool.true_beq, Bool.false_beq, Bool.not_true, Bool.not_false]) (fun f H => ∃ (k st : Nat), k ≤ l.length ∧ f 0 = .iv (.sl (ilims l)) ∧ f 3 = .hs 3 st ∧ f 4 = .iv (.int .i64 k) ∧ H 3 = .blk false st 33 2 (raws ((l.take k).map canon))) (fun f H => (l.length - intAt f 4).toNat) ?_ ?_
  · refine ⟨0, 1, by omega, ?_⟩
    simp (disch := omega) only [wk, tis, seval, reduceCtorEq, Nat.reduceEqDiff, rqs, Bool.true_beq, Bool.false_beq, Bool.not_true, Bool.not_false, ghostF, ghostH, List.take_zero]
  rintro f H ⟨k, st, hk, h0, h3, h4, hH⟩
  rw [intAt_of h4]
  simp (disch := omega) only [wk, tis, seval, reduceCtorEq, Nat.reduceEqDiff, rqs, Bool.true_beq, Bool.false_beq, Bool.not_true, Bool.not_false, h0, h3, h4, hH]
  refine if_by (fun hlt => ?_) (fun hlt => ?_)
  · have hq : ((l.take k).map canon).length = k := by rw [List.length_map, List.length_take]; omega
    have hkl : k < l.length := by omega
    have hg : l.getD k 0 = l[k] := by simp [List.getD, hkl]
    have hb := h l[k] (List.getElem_mem hkl)
    simp (disch := omega) only [wk, tis, seval, reduceCtorEq, Nat.reduceEqDiff, rqs, Bool.true_beq, Bool.false_beq, Bool.not_true, Bool.not_false, h0, h3, h4, hH, hq]
    rw [hg]
    refine call_by ((rZ_ok l[k] hb.1 hb.2)) (by first | rfl | (simp only [tocvs, tocv, h0, h3, h4, hH, hq]; rfl) | (simp only [tocvs, tocv, toboxes, tobox, updH_at, Nat.reduceEqDiff, ↓reduceIte, h0, h3, h4, hH, hq]; rfl)) (by simp) ?_
    simp (disch := omega) only [wk, tis, seval, reduceCtorEq, Nat.reduceEqDiff, rqs, Bool.true_beq, Bool.false_beq, Bool.not_true, Bool.not_false, h0, h3, h4, hH, hq]
    refine ⟨⟨k + 1, st + 1, by omega, rfl, by omega, ?_⟩, by omega⟩
    rw [List.take_add_one]
    simp [hkl]
  · simp (disch := omega) only [wk, tis, seval, reduceCtorEq, Nat.reduceEqDiff, rqs, Bool.true_beq, Bool.false_beq, Bool.not_true, Bool.not_false, h0, h3, h4, hH]
    have hk : k = l.length := by omega
    rw [hk, List.take_length]
end Go.Proofs.YtcocppjgbcbndaaGreat

namespace Go.Proofs.YtcocppjgbcbndaaGreat
open Go Go.Proofs Go.AL
open Go.RowKit Go.Shelf
set_option linter.unusedSimpArgs false
set_option linter.unusedVariables false
attribute [local go_sem] Oper.semAt_some
set_option maxRecDepth 100000 in
set_option maxHeartbeats 4000000 in
theorem backq_in (F : Fence) (n : Nat) (h7 : F.fn 165) (hro : F.round = none) (hn : 1 ≤ n) (l Bs Bo b off len cap : Nat) (cell : Nat → Nat → Value) (n0 : Nat) (D : Nat → Prop) (hlen : (len : Int) * 56 ≤ 140737488351232) (J Jx : Nat → World → Prop) (w : World)
    (hBs0 : Bs < n0) (hBs1 : ¬ D Bs) (hb0 : b < n0) (hb1 : ¬ D b)
    (hY : ∀ k W1, k < len → J k W1 → YieldAt F (n - 1) Tryz.prog l #[.int .i64 ((len : Int) - 1 - k), .agg #[cell (len - 1 - k) 0, cell (len - 1 - k) 1, cell (len - 1 - k) 2]] W1 fun e W' => (e = .returned (.bool true) ∧ J (k + 1) W' ∧ Kept D n0 W1 W') ∨ (e = .returned (.bool false) ∧ Jx k W'))
    (hw : w.cell? ⟨Bs, Bo, none⟩ = some (.slice (some ⟨b, off, none⟩) len cap)) (hc : ∀ i, i < len → w.cell? ⟨b, off + i * 3, none⟩ = some (cell i 0) ∧ w.cell? ⟨b, off + i * 3 + 1, none⟩ = some (cell i 1) ∧ w.cell? ⟨b, off + i * 3 + 2, none⟩ = some (cell i 2))
    (W : World) (hk : Kept D n0 w W) (h0 : J 0 W) :
    CallsIn F n Tryz.prog 165 #[.func (.yield l) #[] #[], .pointer (some ⟨Bs, Bo, none⟩)] W fun e W' => (∃ v, e = .returned v) ∧ (J len W' ∨ ∃ k, Jx k W') := by
  refine callsIn_of_wp Tryz.func165 rfl h7 ?_ hro
  simp only [Tryz.ntmps165, List.size_toArray, List.length_cons, List.length_nil, Nat.reduceAdd, Nat.reduceSub, Array.replicate_succ, Array.replicate_zero, List.push_toArray, List.append_toArray, List.nil_append, List.cons_append]
  have kc : ∀ {W' : World} {g o : Nat} {v : Value}, Kept D n0 w W' → g < n0 → ¬ D g → w.cell? ⟨g, o, none⟩ = some v → W'.cell? ⟨g, o, none⟩ = some v := fun hk hg hD hv => by
    rw [World.cell?_of_block (hk _ hg hD (cells_of_cell hv))]; exact hv
  have hW := kc hk hBs0 hBs1 hw
  gi_wp2
  gi_loopw [3] (fun i wr => ∃ k : Nat, k ≤ len ∧ i = .int .i64 ((len : Int) - 1 - k) ∧ J k wr ∧ Kept D n0 w wr)
    (fun i _ => (intOf i + 1).toNat)
  case atStart => exact ⟨0, Nat.zero_le _, by congr 1; omega, h0, hk⟩
  case round =>
    obtain ⟨k, hkl, rfl, hJs, hnx⟩ := hrel
    have hWr := kc hnx hBs0 hBs1 hw
    by_cases hlt : k < len
    · obtain ⟨fn, tmps, assign, body, hy, hR⟩ := hY k wr hlt hJs
      obtain ⟨hc0, hc1, hc2⟩ := hc (len - 1 - k) (by omega)
      have hcx0 := kc hnx hb0 hb1 hc0
      have hcx1 := kc hnx hb0 hb1 hc1
      have hcx2 := kc hnx hb0 hb1 hc2
      have hge : (k : Int) ≤ (len : Int) - 1 := by omega
      gi_wp2
      refine hR.mono ?_
      rintro e W3 (⟨rfl, hJ3, hk3⟩ | ⟨rfl, hJx3⟩)
      · gi_wp2
        go_roundw
        case rel => exact ⟨k + 1, by omega, by congr 1; omega, hJ3, hnx.trans hk3⟩
        case measure => simp [intOf]; omega
      · gi_wp2
        refine bodyPost_ret (results_none rfl _ _ _) rfl ?_
        exact ⟨⟨_, rfl⟩, .inr ⟨_, hJx3⟩⟩
    · obtain rfl : k = len := by omega
      have hge : ¬ ((k : Int) ≤ (k : Int) - 1) := by omega
      gi_wp2
      go_end0
      exact ⟨⟨_, rfl⟩, .inl hJs⟩
set_option maxRecDepth 100000 in
set_option maxHeartbeats 1000000 in
theorem backq_nil_in (F : Fence) (n : Nat) (h7 : F.fn 165) (hro : F.round = none) (l Bs Bo : Nat) (a : Option Addr) (cap : Nat) (J : World → Prop)
    (W : World) (hW : W.cell? ⟨Bs, Bo, none⟩ = some (.slice a 0 cap)) (h0 : J W) :
    CallsIn F n Tryz.prog 165 #[.func (.yield l) #[] #[], .pointer (some ⟨Bs, Bo, none⟩)] W fun e W' => (∃ v, e = .returned v) ∧ J W' := by
  refine callsIn_of_wp Tryz.func165 rfl h7 ?_ hro
  simp only [Tryz.ntmps165, List.size_toArray, List.length_cons, List.length_nil, Nat.reduceAdd, Nat.reduceSub, Array.replicate_succ, Array.replicate_zero, List.push_toArray, List.append_toArray, List.nil_append, List.cons_append]
  gi_wp2
  gi_loopw [3] (fun i wr => i = .int .i64 (-1) ∧ J wr) (fun _ _ => 0)
  case atStart => exact ⟨rfl, h0⟩
  case round =>
    obtain ⟨rfl, hJs⟩ := hrel
    gi_wp2
    go_end0
    exact ⟨⟨_, rfl⟩, hJs⟩
theorem run_enter_backq : ∀ args w, (callFunc 165 args).run Tryz.prog w = .ok (.enter 165 args) w := enters_of Tryz.func165 (by kernel_rfl) rfl
theorem backq_iter {rows : List (List IV)} (h2 : ∀ r ∈ rows, r.length = 3) (hlen : (rows.length : Int) * 56 ≤ 140737488351232) : AIter Tryz.prog 165 [[.sl rows]] 2 rows.length
    (fun k => [ci ((rows.length : Int) - 1 - k), .agg (rows.getD (rows.length - 1 - k) [])]) := by
  refine ⟨run_enter_backq, fun w D vs hD hb => ?_⟩
  match vs, hb with
  | ⟨[v]⟩, hb =>
    obtain ⟨⟨Bs, Bo, rfl, hDb, us, hus, hcs⟩, -⟩ := hb
    match us, hus with
    | [u], hus =>
      have hcell : w.cell? ⟨Bs, Bo, none⟩ = some u := by simpa using hcs 0 u rfl
      have hBs1 := hDb (by simp)
      have hBs0 := World.block_lt_of_cell? w _ hcell
      generalize hx : IV.sl rows = x at hus
      cases hus.1 with
      | int => cases hx
      | bool => cases hx
      | raw => cases hx
      | nil a cap hcap =>
        cases hx
        refine ⟨fun _ => #[Go.undef, Go.undef], fun _ => rfl, fun k hk => absurd hk (by simp), fun l J Jx W hk hs _ _ hY h0 => ?_⟩
        have hW : W.cell? ⟨Bs, Bo, none⟩ = some (.slice a 0 cap) := by
          rw [World.cell?_of_block (hk _ hBs0 hBs1 (cells_of_cell hcell))]; exact hcell
        exact ((backq_nil_in (Wd none) 0 trivial rfl l Bs Bo a cap (J 0) W hW h0).mono fun e W' h => ⟨h.1, .inl h.2⟩)
      | sl rows' g o cap sz cell hsz hle hcap hg hD' hc hr =>
        cases hx
        have goW : ∀ {W : World}, Kept D w.heap.size w W → W.cell? ⟨Bs, Bo, none⟩ = some (.slice (some ⟨g, o, none⟩) rows.length cap) := fun hk => by
          rw [World.cell?_of_block (hk _ hBs0 hBs1 (cells_of_cell hcell))]; exact hcell
        by_cases hne : rows = []
        · subst hne
          refine ⟨fun _ => #[Go.undef, Go.undef], fun _ => rfl, fun k hk => absurd hk (by simp), fun l J Jx W hk hs _ _ hY h0 => ?_⟩
          exact ((backq_nil_in (Wd none) 0 trivial rfl l Bs Bo _ cap (J 0) W (goW hk) h0).mono fun e W' h => ⟨h.1, .inl h.2⟩)
        · obtain ⟨r0, hr0⟩ : ∃ r, rows[0]? = some r := ⟨rows[0]'(List.length_pos_iff.2 hne), by simp⟩
          obtain rfl : sz = 3 := (hsz 0 r0 hr0).symm.trans (h2 r0 (List.mem_of_getElem? hr0))
          have hro : ∀ i, i < rows.length → ∃ x y z, rows[i]? = some [x, y, z] := fun i hi => by
            have e : rows[i]? = some rows[i] := by simp [hi]
            have hl := h2 rows[i] (List.mem_of_getElem? e)
            match hm : rows[i], hl with
            | [x, y, z], _ => exact ⟨x, y, z, by rw [e, hm]⟩
          refine ⟨fun k => #[.int .i64 ((rows.length : Int) - 1 - k), .agg #[cell (rows.length - 1 - k) 0, cell (rows.length - 1 - k) 1, cell (rows.length - 1 - k) 2]], fun _ => rfl, fun k hk => ?_, fun l J Jx W hk hs _ _ hY h0 => ?_⟩
          · obtain ⟨x, y, z, he⟩ := hro (rows.length - 1 - k) (by omega)
            refine ⟨Rep.int _ _, ⟨_, rfl, ?_⟩, trivial⟩
            have hg2 : rows.getD (rows.length - 1 - k) [] = [x, y, z] := by rw [List.getD_eq_getElem?_getD, he]; rfl
            rw [hg2]
            exact ⟨hr _ _ he 0 x rfl, hr _ _ he 1 y rfl, hr _ _ he 2 z rfl, trivial⟩
          · have h := backq_in (Wd none) 1 trivial rfl (Nat.le_refl _) l Bs Bo g o rows.length cap cell w.heap.size D hlen J Jx w hBs0 hBs1 hg hD' hY hcell (fun i hi => by
              obtain ⟨x, y, z, he⟩ := hro i hi
              exact ⟨hc _ _ he 0 x rfl, hc _ _ he 1 y rfl, hc _ _ he 2 z rfl⟩) W hk h0
            exact ⟨trivial, fun cs _ => h.2 cs (room_wd _ _)⟩
theorem backq_ok (rows : List (List IV)) : AC Tryz.prog 154 [.iv (.sl rows)] none [.fn 165 [[.sl rows]]] := by
  refine AC.by_walk (rs := [.tmp 2]) ords Tryz.func154 (by rfl) (by rfl) (by rfl) (by rfl) (by rfl) ?_
  simp (disch := omega) only [wk, tis, seval, reduceCtorEq, Nat.reduceEqDiff]
end Go.Proofs.YtcocppjgbcbndaaGreat

namespace Go.Proofs.YtcocppjgbcbndaaGreat
open Go Go.Proofs Go.AL
set_option linter.unusedSimpArgs false
set_option linter.unusedVariables false
set_option maxRecDepth 100000 in
theorem galllcm_cb (l : List Nat) (K : Nat) (hM : ∀ i, (wd (lcmL (l.take i))).length ≤ K) (hl : l.length ≤ 2 ^ 30) (h0 : ∀ x ∈ l, x ≠ 0) (hK : ∀ x ∈ l, (wd x).length ≤ K) (hB : K ≤ 2 ^ 34) : AC Tryz.prog 117 [.iv (.sl (natsr (l.map wd)))] none [cl (wd (lcmL l))] := by
  have o := nof_ok 1 (by decide)
  have hml : (l.map wd).length = l.length := List.length_map _
  have e0 : wd (lcmL (l.take 0)) = wd 1 := by rw [List.take_zero]; rfl
  refine AC.by_walk (rs := [.tmp 2]) ords Tryz.func117 (by rfl) (by rfl) (by rfl) (by rfl) (by rfl) ?_
  simp (disch := omega) only [wk, tis, seval, reduceCtorEq, Nat.reduceEqDiff, rqs, natsr_len, natsr_at, natsr_snoc, natsr_app, natsr_rows, natsr_nil]
  refine call_by (o) (by rfl) (by simp) ?_
  simp (disch := omega) only [wk, tis, seval, reduceCtorEq, Nat.reduceEqDiff, rqs, natsr_len, natsr_at, natsr_snoc, natsr_app, natsr_rows, natsr_nil]
  refine aloop_by (fun f H => ∃ (i : Nat), i ≤ l.length ∧ f 9 = .iv (.int .i64 i) ∧ f 7 = .iv (.sl (natsr (l.map wd))) ∧ f 8 = .iv (.int .i64 l.length) ∧ f 3 = .iv (.sl (lims (wd (lcmL (l.take i)))))) (fun f H => (l.length - intAt f 9).toNat) ?_ ?_
  · refine ⟨0, by omega, ?_⟩
    simp (disch := omega) only [wk, tis, seval, reduceCtorEq, Nat.reduceEqDiff, rqs, natsr_len, natsr_at, natsr_snoc, natsr_app, natsr_rows, natsr_nil, e0, hml]
  rintro f H ⟨i, hi, hF⟩
  rw [intAt_of hF.1]
  simp (disch := omega) only [wk, tis, seval, reduceCtorEq, Nat.reduceEqDiff, rqs, natsr_len, natsr_at, natsr_snoc, natsr_app, natsr_rows, natsr_nil, hF]
  refine if_by (fun hlt => ?_) (fun hlt => ?_)
  · have hlt' : i < l.length := by omega
    obtain ⟨a1, a2, a3⟩ := lcmL_facts l K h0 hK i hi
    have hm : l.getD i 0 ∈ l := by rw [List.getD, List.getElem?_eq_getElem hlt', Option.getD_some]; exact List.getElem_mem _
    have hg : (l.map wd).getD i [] = wd (l.getD i 0) := by simp [List.getD, hlt']
    have hk := hK _ hm
    have h2 := hM i
    have m := glcm_ok (wd (lcmL (l.take i))) (wd (l.getD i 0)) ⟨by omega, lim_wd _⟩ ⟨by omega, lim_wd _⟩ (by rw [nv_wd]; exact a1) (by rw [nv_wd]; exact h0 _ hm)
    rw [nv_wd, nv_wd, ← lcmL_take hlt'] at m
    simp (disch := omega) only [wk, tis, seval, reduceCtorEq, Nat.reduceEqDiff, rqs, natsr_len, natsr_at, natsr_snoc, natsr_app, natsr_rows, natsr_nil, hF, hml, hg]
    refine call_by (m) (by first | rfl | (simp only [tocvs, tocv, hF, hml, hg]; rfl) | (simp only [tocvs, tocv, toboxes, tobox, updH_at, Nat.reduceEqDiff, ↓reduceIte, hF, hml, hg]; rfl)) (by simp) ?_
    simp (disch := omega) only [wk, tis, seval, reduceCtorEq, Nat.reduceEqDiff, rqs, natsr_len, natsr_at, natsr_snoc, natsr_app, natsr_rows, natsr_nil, hF, hml, hg]
    refine ⟨⟨i + 1, by omega, ?_⟩, by omega⟩
    (repeat' apply And.intro) <;> first | rfl | omega
  · simp (disch := omega) only [wk, tis, seval, reduceCtorEq, Nat.reduceEqDiff, rqs, natsr_len, natsr_at, natsr_snoc, natsr_app, natsr_rows, natsr_nil, hF]
    rw [List.take_of_length_le (by omega)]
theorem qclear_cb (p : List RQ) (D n k : Nat) (hp : GQ (2 ^ 30) (2 ^ 36) p) (hC : CB D n k (trimq (qvs p))) (hn : n ≤ 2 ^ 28) (hM : k ≤ 2 ^ 33) : AC Tryz.prog 87 [cqw p] none [cl (wd (cden (trimq (qvs p)))), cw ((clr (trimq (qvs p))).map canon), ci 0] := by
  have nm := qpnorm_ok p (hp.mono (by omega) (by omega))
  have hA := hC.qb
  refine AC.by_walk (rs := [.tmp 2, .tmp 3, .tmp 4]) ords Tryz.func87 (by rfl) (by rfl) (by rfl) (by rfl) (by rfl) ?_
  simp (disch := omega) only [wk, tis, seval, reduceCtorEq, Nat.reduceEqDiff, rqs, natsr_len, natsr_at, natsr_snoc, natsr_app, natsr_rows, natsr_nil]
  refine call_by (nm) (by rfl) (by simp) ?_
  simp (disch := omega) only [wk, tis, seval, reduceCtorEq, Nat.reduceEqDiff, rqs, natsr_len, natsr_at, natsr_snoc, natsr_app, natsr_rows, natsr_nil]
  unfold cqs
  generalize trimq (qvs p) = A at *
  have hAl := hA.1
  have hq : (A.map crat).length = A.length := List.length_map _
  have hdl := dens_len A
  have hcl := clr_len A
  simp (disch := omega) only [wk, tis, seval, reduceCtorEq, Nat.reduceEqDiff, rqs, natsr_len, natsr_at, natsr_snoc, natsr_app, natsr_rows, natsr_nil, hq]
  refine aloop_by (fun f H => ∃ (i st26 : Nat), i ≤ A.length ∧ f 29 = .iv (.int .i64 i) ∧ f 27 = .iv (.sl (rats (A.map crat))) ∧ f 28 = .iv (.int .i64 A.length) ∧ f 5 = .iv (.sl (rats (A.map crat))) ∧ f 7 = .hs 26 st26 ∧ H 26 = .blk false st26 31 1 (natsr (((dens A).take i).map wd))) (fun f H => (A.length - intAt f 29).toNat) ?_ ?_
  · refine ⟨0, 1, by omega, ?_⟩
    simp (disch := omega) only [wk, tis, seval, reduceCtorEq, Nat.reduceEqDiff, rqs, natsr_len, natsr_at, natsr_snoc, natsr_app, natsr_rows, natsr_nil, hq, List.take_zero, List.map_nil, Int.toNat_natCast, List.replicate_zero]
  rintro f H ⟨i, st26, hi, hF⟩
  rw [intAt_of hF.1]
  simp (disch := omega) only [wk, tis, seval, reduceCtorEq, Nat.reduceEqDiff, rqs, natsr_len, natsr_at, natsr_snoc, natsr_app, natsr_rows, natsr_nil, hF]
  refine if_by (fun hlt => ?_) (fun hlt => ?_)
  · have hlt' : i < A.length := by omega
    have hdq : (((dens A).take i).map wd).length = i := by rw [List.length_map, List.length_take]; omega
    have e := cratq_get hlt'
    have e2 : lims (crat (cfq A i)).2 = lims (wd (cfq A i).den) := rfl
    simp (disch := omega) only [wk, tis, seval, reduceCtorEq, Nat.reduceEqDiff, rqs, natsr_len, natsr_at, natsr_snoc, natsr_app, natsr_rows, natsr_nil, hF, hq, hdq, e, e2]
    refine ⟨⟨i + 1, st26 + 1, by omega, ?_⟩, by omega⟩
    rw [natsr_dens A hlt']
    (repeat' apply And.intro) <;> first | rfl | omega
  · have hie : i = A.length := by omega
    subst hie
    rw [List.take_of_length_le (by omega)] at hF
    have m := galllcm_cb (dens A) k (fun i => hC.lcm_len i) (by omega) dens_ne hA.dens (by omega)
    have hcd := hC.cden_len
    have hcn := cden_ne A
    simp (disch := omega) only [wk, tis, seval, reduceCtorEq, Nat.reduceEqDiff, rqs, natsr_len, natsr_at, natsr_snoc, natsr_app, natsr_rows, natsr_nil, hF, hq]
    refine call_by (m) (by first | rfl | (simp only [tocvs, tocv, hF, hq]; rfl) | (simp only [tocvs, tocv, toboxes, tobox, updH_at, Nat.reduceEqDiff, ↓reduceIte, hF, hq]; rfl)) (by simp) ?_
    simp (disch := omega) only [wk, tis, seval, reduceCtorEq, Nat.reduceEqDiff, rqs, natsr_len, natsr_at, natsr_snoc, natsr_app, natsr_rows, natsr_nil, hF, hq]
    rw [show lcmL (dens A) = cden A from rfl]
    refine aloop_nil 11 11 33 2 (by simp (disch := omega) only [wk, tis, seval, reduceCtorEq, Nat.reduceEqDiff, rqs, natsr_len, natsr_at, natsr_snoc, natsr_app, natsr_rows, natsr_nil]) (fun f H => ∃ (i st : Nat), i ≤ A.length ∧ f 43 = .iv (.int .i64 i) ∧ f 41 = .iv (.sl (rats (A.map crat))) ∧ f 42 = .iv (.int .i64 A.length) ∧ f 10 = .iv (.sl (lims (wd (cden A)))) ∧ f 11 = .hs 11 st ∧ H 11 = .blk false st 33 2 (raws (((clr A).take i).map canon))) (fun f H => (A.length - intAt f 43).toNat) ?_ ?_
    · refine ⟨0, (H 11).stamp + 1, by omega, ?_⟩
      simp (disch := omega) only [wk, tis, seval, reduceCtorEq, Nat.reduceEqDiff, rqs, natsr_len, natsr_at, natsr_snoc, natsr_app, natsr_rows, natsr_nil, ghostF, ghostH, hF, hq, List.take_zero, List.map_nil]
    rintro f H ⟨i, st, hi, hF⟩
    rw [intAt_of hF.1]
    simp (disch := omega) only [wk, tis, seval, reduceCtorEq, Nat.reduceEqDiff, rqs, natsr_len, natsr_at, natsr_snoc, natsr_app, natsr_rows, natsr_nil, hF]
    refine if_by (fun hlt => ?_) (fun hlt => ?_)
    · have hlt' : i < A.length := by omega
      have hcq : (((clr A).take i).map canon).length = i := by rw [List.length_map, List.length_take]; omega
      have e := cratq_get hlt'
      have e2 : lims (crat (cfq A i)).2 = lims (wd (cfq A i).den) := rfl
      have e3 : prow (crat (cfq A i)).1 = prow (canon (cfq A i).num) := rfl
      have hc : qz (cfq A i) ≤ k := by rw [cfq_lt hlt']; exact hA.2 _ (List.getElem_mem hlt')
      have hc2 := qz_parts (cfq A i)
      have n1 := znat_ok false (cden A) (by omega)
      have n2 := znat_ok false (cfq A i).den (by omega)
      rw [sgf] at n1 n2
      have hdv : ((cfq A i).den : Int) ∣ (cden A : Int) := Int.natCast_dvd_natCast.mpr (cden_dvd hlt')
      have x := zexact_ok (canon (cden A : Int)) (canon ((cfq A i).den : Int)) ((sz_canon _).mono (by rw [zl_nat]; omega)) ((sz_canon _).mono (by rw [zl_nat]; omega)) (by rw [iv_canon]; have := (cfq A i).den_nz; omega) (by rw [iv_canon, iv_canon]; exact hdv)
      rw [iv_canon, iv_canon] at x
      have zd := zl_div hdv
      rw [zl_nat] at zd
      have w := zmul_ok (canon (cfq A i).num) (canon ((cden A : Int) / ((cfq A i).den : Int))) ((sz_canon _).mono (by omega)) ((sz_canon _).mono (by omega))
      rw [iv_canon, iv_canon, ← clr_get hlt'] at w
      simp (disch := omega) only [wk, tis, seval, reduceCtorEq, Nat.reduceEqDiff, rqs, natsr_len, natsr_at, natsr_snoc, natsr_app, natsr_rows, natsr_nil, hF, hq, hcq, e, e2, e3]
      refine ⟨tmps_by (by kernel_rfl), ?_⟩
      refine call_by (n1) (by first | rfl | (simp only [tocvs, tocv, hF, hq, hcq, e, e2, e3]; rfl) | (simp only [tocvs, tocv, toboxes, tobox, updH_at, Nat.reduceEqDiff, ↓reduceIte, hF, hq, hcq, e, e2, e3]; rfl)) (by simp) ?_
      simp (disch := omega) only [wk, tis, seval, reduceCtorEq, Nat.reduceEqDiff, rqs, natsr_len, natsr_at, natsr_snoc, natsr_app, natsr_rows, natsr_nil, hF, hq, hcq, e, e2, e3]
      refine call_by (n2) (by first | rfl | (simp only [tocvs, tocv, hF, hq, hcq, e, e2, e3]; rfl) | (simp only [tocvs, tocv, toboxes, tobox, updH_at, Nat.reduceEqDiff, ↓reduceIte, hF, hq, hcq, e, e2, e3]; rfl)) (by simp) ?_
      simp (disch := omega) only [wk, tis, seval, reduceCtorEq, Nat.reduceEqDiff, rqs, natsr_len, natsr_at, natsr_snoc, natsr_app, natsr_rows, natsr_nil, hF, hq, hcq, e, e2, e3]
      refine call_by (x) (by first | rfl | (simp only [tocvs, tocv, hF, hq, hcq, e, e2, e3]; rfl) | (simp only [tocvs, tocv, toboxes, tobox, updH_at, Nat.reduceEqDiff, ↓reduceIte, hF, hq, hcq, e, e2, e3]; rfl)) (by simp) ?_
      simp (disch := omega) only [wk, tis, seval, reduceCtorEq, Nat.reduceEqDiff, rqs, natsr_len, natsr_at, natsr_snoc, natsr_app, natsr_rows, natsr_nil, hF, hq, hcq, e, e2, e3]
      first | exact log_by (by kernel_rfl) | refine ⟨log_by (by kernel_rfl), ?_⟩
      refine call_by (w) (by first | rfl | (simp only [tocvs, tocv, hF, hq, hcq, e, e2, e3]; rfl) | (simp only [tocvs, tocv, toboxes, tobox, updH_at, Nat.reduceEqDiff, ↓reduceIte, hF, hq, hcq, e, e2, e3]; rfl)) (by simp) ?_
      simp (disch := omega) only [wk, tis, seval, reduceCtorEq, Nat.reduceEqDiff, rqs, natsr_len, natsr_at, natsr_snoc, natsr_app, natsr_rows, natsr_nil, hF, hq, hcq, e, e2, e3]
      have et := takez_snoc (q := clr A) (i := i) (by omega)
      refine ⟨⟨i + 1, st + 1, by omega, ?_⟩, by omega⟩
      rw [et, List.map_append]
      (repeat' apply And.intro) <;> first | rfl | omega
    · have hie : i = A.length := by omega
      subst hie
      rw [List.take_of_length_le (by omega)] at hF
      simp (disch := omega) only [wk, tis, seval, reduceCtorEq, Nat.reduceEqDiff, rqs, natsr_len, natsr_at, natsr_snoc, natsr_app, natsr_rows, natsr_nil, hF]
      try rfl
theorem qpmul_cb (p q : List RQ) (D E n k : Nat) (hp : GQ (2 ^ 30) (2 ^ 36) p) (hq : GQ (2 ^ 30) (2 ^ 36) q) (hCA : CB D n k (trimq (qvs p))) (hCB : CB E n k (trimq (qvs q))) (hn : n ≤ 2 ^ 28) (hM : k ≤ 2 ^ 33) (hk : 1 ≤ k) : AC Tryz.prog 155 [cqw p, cqw q] none [cqp (mulq (qvs p) (qvs q)), ci 0] := by
  have m := qboth_ok p q (hp.mono (by omega) (by omega)) (hq.mono (by omega) (by omega))
  have hA := hCA.qb
  have hB := hCB.qb
  have e : cqp (mulq (qvs p) (qvs q)) = cqp (mulq (trimq (qvs p)) (trimq (qvs q))) := congrArg cqw (cqs_ext fun k => (mulq_trim _ _ k).symm)
  have tA := trimq_trimq (qvs p)
  have tB := trimq_trimq (qvs q)
  rw [e]
  refine AC.by_walk (rs := [.tmp 4, .tmp 5]) ords Tryz.func155 (by rfl) (by rfl) (by rfl) (by rfl) (by rfl) ?_
  simp (disch := omega) only [wk, tis, seval, reduceCtorEq, Nat.reduceEqDiff, rqs, natsr_len, natsr_at, natsr_snoc, natsr_app, natsr_rows, natsr_nil]
  refine call_by (m) (by rfl) (by simp) ?_
  simp (disch := omega) only [wk, tis, seval, reduceCtorEq, Nat.reduceEqDiff, rqs, natsr_len, natsr_at, natsr_snoc, natsr_app, natsr_rows, natsr_nil]
  unfold cqs
  generalize trimq (qvs p) = A at *
  generalize trimq (qvs q) = B at *
  have hqa : (A.map crat).length = A.length := List.length_map _
  have hqb : (B.map crat).length = B.length := List.length_map _
  by_cases ha : A.length = 0
  · have ha' : ((A.map crat).length : Int) = 0 := by omega
    have hn := mulq_nil (A := A) (B := B) (.inl (by rw [tA]; exact List.length_eq_zero_iff.mp ha))
    rw [show cqp (mulq A B) = cqw [] from congrArg cqw hn]
    simp (disch := omega) only [wk, tis, seval, reduceCtorEq, Nat.reduceEqDiff, rqs, natsr_len, natsr_at, natsr_snoc, natsr_app, natsr_rows, natsr_nil, ha']
    try rfl
  have ha' : ¬ ((A.map crat).length : Int) = 0 := by omega
  by_cases hb : B.length = 0
  · have hb' : ((B.map crat).length : Int) = 0 := by omega
    have hn := mulq_nil (A := A) (B := B) (.inr (by rw [tB]; exact List.length_eq_zero_iff.mp hb))
    rw [show cqp (mulq A B) = cqw [] from congrArg cqw hn]
    simp (disch := omega) only [wk, tis, seval, reduceCtorEq, Nat.reduceEqDiff, rqs, natsr_len, natsr_at, natsr_snoc, natsr_app, natsr_rows, natsr_nil, ha', hb']
    try rfl
  have hb' : ¬ ((B.map crat).length : Int) = 0 := by omega
  have c1 := qclear_cb (A.map crat) D n k ((hA.mono (by omega) (by omega)).gq) (by rw [qvs_map, tA]; exact hCA) hn hM
  have c2 := qclear_cb (B.map crat) E n k ((hB.mono (by omega) (by omega)).gq) (by rw [qvs_map, tB]; exact hCB) hn hM
  rw [qvs_map, tA] at c1
  rw [qvs_map, tB] at c2
  have pA := hCA.clr_pb.mono (n' := 2 ^ 30) (k' := 2 ^ 35) (by omega) (by omega)
  have pB := hCB.clr_pb.mono (n' := 2 ^ 30) (k' := 2 ^ 35) (by omega) (by omega)
  have z := pmul_ok ((clr A).map canon) ((clr B).map canon) (RP.canon pA) (RP.canon pB)
  rw [pv_canon, pv_canon] at z
  have l1 := hCA.cden_len
  have l2 := hCB.cden_len
  have pm := (pA.pmul pB (by decide)).trimz
  have o := qover_ok (trimz (pmul (clr A) (clr B))) (cden A) (cden B) (pm.mono (by omega) (by omega)) (by omega) (by omega) (cden_ne A) (cden_ne B)
  have ee : cqs (divl (trimz (pmul (clr A) (clr B))) ((cden A * cden B : Nat) : Int)) = cqs (mulq A B) := cqs_ext (cfq_clear_mul A B)
  rw [show cqp (divl (trimz (pmul (clr A) (clr B))) ((cden A * cden B : Nat) : Int)) = cqw (cqs (mulq A B)) from congrArg cqw ee] at o
  simp (disch := omega) only [wk, tis, seval, reduceCtorEq, Nat.reduceEqDiff, rqs, natsr_len, natsr_at, natsr_snoc, natsr_app, natsr_rows, natsr_nil, ha', hb']
  refine call_by (c1) (by rfl) (by simp) ?_
  simp (disch := omega) only [wk, tis, seval, reduceCtorEq, Nat.reduceEqDiff, rqs, natsr_len, natsr_at, natsr_snoc, natsr_app, natsr_rows, natsr_nil]
  refine call_by (c2) (by rfl) (by simp) ?_
  simp (disch := omega) only [wk, tis, seval, reduceCtorEq, Nat.reduceEqDiff, rqs, natsr_len, natsr_at, natsr_snoc, natsr_app, natsr_rows, natsr_nil]
  refine call_by (z) (by rfl) (by simp) ?_
  simp (disch := omega) only [wk, tis, seval, reduceCtorEq, Nat.reduceEqDiff, rqs, natsr_len, natsr_at, natsr_snoc, natsr_app, natsr_rows, natsr_nil]
  refine call_by (o) (by rfl) (by simp) ?_
  simp (disch := omega) only [wk, tis, seval, reduceCtorEq, Nat.reduceEqDiff, rqs, natsr_len, natsr_at, natsr_snoc, natsr_app, natsr_rows, natsr_nil]
  try rfl
end Go.Proofs.YtcocppjgbcbndaaGreat

namespace Go.Proofs.YtcocppjgbcbndaaGreat
open Go Go.Proofs Go.AL
set_option linter.unusedSimpArgs false
set_option linter.unusedVariables false
theorem mone_ok' : AC Tryz.prog 115 [] none [cqz 1] := by
  have z := zOf_ok 1 (by omega) (by omega)
  rw [show cqz 1 = cqq (canon 1, [1]) from congrArg cqq (crat_int 1)]
  refine AC.by_walk (rs := [.cell 0 35]) ords Tryz.func115 (by rfl) (by rfl) (by rfl) (by rfl) (by rfl) ?_
  simp (disch := omega) only [wk, tis, seval, reduceCtorEq, Nat.reduceEqDiff, rqs]
  refine call_by (z) (by rfl) (by simp) ?_
  simp (disch := omega) only [wk, tis, seval, reduceCtorEq, Nat.reduceEqDiff, rqs]
  try rfl
theorem ratsA_getD {A : List Rat} {i : Nat} (h : i < A.length) : (rats (A.map crat)).getD i [] = qrow (crat (cfq A i)) := by
  rw [rats_get (by rw [List.length_map]; exact h), cratq_get h]
theorem rats_three (l : List RQ) : ∀ r ∈ rats l, r.length = 3 := (rats_rows l).mpr trivial
structure HQ (A B : List Rat) : Prop where
  la : A.length ≤ 2 ^ 10
  h : ∀ k, k ≤ A.length → ∃ E, CB E (2 ^ 20) (2 ^ 32) (hoq A B k)
  b : ∃ D, CB D (2 ^ 20) (2 ^ 32) B
  a : QB (2 ^ 20) (2 ^ 32) A
set_option maxRecDepth 100000 in
theorem mcomposeq_ok (A B : List Rat) (hh : HQ A B) : AC Tryz.prog 139 [cqw (A.map crat), cqw (B.map crat)] none [cqp (hoq A B A.length), ci 0] := by
  have hla := hh.la
  have hrl : (rats (A.map crat)).length = A.length := by rw [rats_length, List.length_map]
  obtain ⟨D, hB⟩ := hh.b
  refine AC.by_walk (rs := [.cell 4 57, .cell 5 37]) ords Tryz.func139 (by rfl) (by rfl) (by rfl) (by rfl) (by rfl) ?_
  simp (disch := omega) only [wk, tis, seval, reduceCtorEq, Nat.reduceEqDiff, rqs]
  refine call_by ((backq_ok (rats (A.map crat)))) (by rfl) (by simp) ?_
  simp (disch := omega) only [wk, tis, seval, reduceCtorEq, Nat.reduceEqDiff, rqs]
  refine range_by (l := [.ip [.sl (rats (A.map crat))]]) (c := True ∧ True) (ms := []) (backq_iter (rows := rats (A.map crat)) (rats_three _) (by rw [hrl]; omega)) (fun k H2 => k ≤ A.length ∧ H2 3 = HC.blk false 1 57 1 [[.sl (rats (B.map crat))]] ∧ H2 6 = HC.blk false 1 57 1 [[.sl (rats (cqs (hoq A B k)))]] ∧ H2 4 = HC.blk false 1 57 1 [[.sl []]] ∧ H2 5 = HC.blk false 1 37 1 [[.int .i64 0]]) (by simp (disch := omega) only [wk, tis, seval, reduceCtorEq, Nat.reduceEqDiff, rqs]) (by rfl) ⟨trivial, trivial⟩ ?_ ?_ ?_
  · refine ⟨by omega, by simp (disch := omega) only [wk, tis, seval, reduceCtorEq, Nat.reduceEqDiff, rqs], by simp (disch := omega) only [wk, tis, seval, reduceCtorEq, Nat.reduceEqDiff, rqs, show rats (cqs (hoq A B 0)) = [] from rfl], by simp (disch := omega) only [wk, tis, seval, reduceCtorEq, Nat.reduceEqDiff, rqs], by simp (disch := omega) only [wk, tis, seval, reduceCtorEq, Nat.reduceEqDiff, rqs]⟩
  · rintro k H2 hk ⟨hk', h3, h6, h4, h5⟩
    rw [hrl] at hk
    rw [hrl, ratsA_getD (by omega)]
    obtain ⟨E, hE⟩ := hh.h k hk'
    have hE' := hE.trim
    have hBt := hB.trim
    have m := qpmul_cb (cqs (hoq A B k)) (B.map crat) E D (2 ^ 20) (2 ^ 32) ((hE.qb.gqs).mono (by omega) (by omega)) ((hB.qb.gq).mono (by omega) (by omega)) (by rw [qvs_cqs, trimq_trimq]; exact hE') (by rw [qvs_map]; exact hBt) (by omega) (by omega) (by omega)
    rw [show cqp (mulq (qvs (cqs (hoq A B k))) (qvs (B.map crat))) = cqp (mulq (hoq A B k) B) from congrArg cqw (cqs_ext fun j => by rw [qvs_cqs, qvs_map]; exact mulq_congr (cfq_trimq _) (fun _ => rfl) j)] at m
    have hm := hE.mulq hB
    have hc := hh.a.cz (by omega) (A.length - 1 - k)
    have s := qpadd_g (p := cqs (mulq (hoq A B k) B)) (q := [crat (cfq A (A.length - 1 - k))]) (K := 2 ^ 34) (X := mulq (hoq A B k) B) (Y := [cfq A (A.length - 1 - k)]) ((hm.qb.gqs).mono (by omega) (by omega)) ⟨by simp, fun r hr => by
      rcases List.mem_singleton.1 hr with rfl
      exact ⟨szq_crat (by omega), nv_crat0 _⟩⟩ (by omega) (by omega) (pq_cqs _) (by rw [show qvs [crat (cfq A (A.length - 1 - k))] = [cfq A (A.length - 1 - k)] from qvs_map [_]])
    rw [show addq (mulq (hoq A B k) B) [cfq A (A.length - 1 - k)] = hoq A B (k + 1) from rfl] at s
    simp (disch := omega) only [wk, tis, seval, reduceCtorEq, Nat.reduceEqDiff, rqs, h3, h6, h4, h5]
    refine call_by (m) (by first | rfl | (simp only [tocvs, tocv, h3, h6, h4, h5]; rfl) | (simp only [tocvs, tocv, toboxes, tobox, updH_at, Nat.reduceEqDiff, ↓reduceIte, h3, h6, h4, h5]; rfl)) (by simp) ?_
    simp (disch := omega) only [wk, tis, seval, reduceCtorEq, Nat.reduceEqDiff, rqs, h3, h6, h4, h5]
    refine call_by (s) (by first | rfl | (simp only [tocvs, tocv, h3, h6, h4, h5]; rfl) | (simp only [tocvs, tocv, toboxes, tobox, updH_at, Nat.reduceEqDiff, ↓reduceIte, h3, h6, h4, h5]; rfl)) (by simp) ?_
    simp (disch := omega) only [wk, tis, seval, reduceCtorEq, Nat.reduceEqDiff, rqs, h3, h6, h4, h5]
    omega
  · rintro H2 ⟨hk', h3, h6, h4, h5⟩
    rw [hrl] at h6
    obtain ⟨E, hE⟩ := hh.h A.length (Nat.le_refl _)
    have m := qpnorm_g (p := cqs (hoq A B A.length)) (X := hoq A B A.length) ((hE.qb.gqs).mono (by omega) (by omega)) (pq_cqs _)
    simp (disch := omega) only [wk, tis, seval, reduceCtorEq, Nat.reduceEqDiff, rqs, h3, h6, h4, h5]
    refine call_by (m) (by first | rfl | (simp only [tocvs, tocv, h3, h6, h4, h5]; rfl) | (simp only [tocvs, tocv, toboxes, tobox, updH_at, Nat.reduceEqDiff, ↓reduceIte, h3, h6, h4, h5]; rfl)) (by simp) ?_
    simp (disch := omega) only [wk, tis, seval, reduceCtorEq, Nat.reduceEqDiff, rqs, h3, h6, h4, h5]
    try rfl
theorem mComposeQ_ok (p q : List RQ) (hp : GQ (2 ^ 40) (2 ^ 38) p) (hq : GQ (2 ^ 40) (2 ^ 38) q) (hh : HQ (trimq (qvs p)) (trimq (qvs q))) : AC Tryz.prog 114 [cqw p, cqw q] none [cqp (hoq (trimq (qvs p)) (trimq (qvs q)) (trimq (qvs p)).length), ci 0] := by
  have n1 := qpnorm_ok p hp
  have n2 := qpnorm_ok q hq
  have c := mcomposeq_ok _ _ hh
  refine AC.by_walk (rs := [.tmp 4, .tmp 5]) ords Tryz.func114 (by rfl) (by rfl) (by rfl) (by rfl) (by rfl) ?_
  simp (disch := omega) only [wk, tis, seval, reduceCtorEq, Nat.reduceEqDiff, rqs]
  refine call_by (n1) (by rfl) (by simp) ?_
  simp (disch := omega) only [wk, tis, seval, reduceCtorEq, Nat.reduceEqDiff, rqs]
  refine call_by (n2) (by rfl) (by simp) ?_
  simp (disch := omega) only [wk, tis, seval, reduceCtorEq, Nat.reduceEqDiff, rqs]
  refine call_by (c) (by rfl) (by simp) ?_
  simp (disch := omega) only [wk, tis, seval, reduceCtorEq, Nat.reduceEqDiff, rqs]
  try rfl
theorem mShiftQ_of (p : List RQ) (a : RQ) (l : List RQ) (e : Int) (h : AC Tryz.prog 114 [cqw p, cqw [a, crat 1]] none [cqw l, ci e]) : AC Tryz.prog 84 [cqw p, cqq a] none [cqw l, ci e] := by
  have o := mone_ok'
  have p3 := rats_two a (crat 1)
  refine AC.by_walk (rs := [.tmp 4, .tmp 5]) ords Tryz.func84 (by rfl) (by rfl) (by rfl) (by rfl) (by rfl) ?_
  simp (disch := omega) only [wk, tis, seval, reduceCtorEq, Nat.reduceEqDiff, rqs]
  refine ⟨tmps_by (by kernel_rfl), ?_⟩
  refine call_by (o) (by first | rfl | (simp only [tocvs, tocv, p3]; rfl) | (simp only [tocvs, tocv, toboxes, tobox, updH_at, Nat.reduceEqDiff, ↓reduceIte, p3]; rfl)) (by simp) ?_
  simp (disch := omega) only [wk, tis, seval, reduceCtorEq, Nat.reduceEqDiff, rqs, p3]
  refine call_by (h) (by first | rfl | (simp only [tocvs, tocv, p3]; rfl) | (simp only [tocvs, tocv, toboxes, tobox, updH_at, Nat.reduceEqDiff, ↓reduceIte, p3]; rfl)) (by simp) ?_
  simp (disch := omega) only [wk, tis, seval, reduceCtorEq, Nat.reduceEqDiff, rqs, p3]
  first | exact log_by (by kernel_rfl) | refine ⟨log_by (by kernel_rfl), ?_⟩
  try rfl
theorem lay_zero : lay (fun i => [(0, 2), (2, 1)][i]?) [.bool false, .sl [], .sl []] ([1].zip [[.sl [[.int .u64 1]]]]) = some ((1 = 1 ∧ 2 + 1 ≤ 3) ∧ True, qrow (crat 0)) := by
  rw [crat_zero']; rfl
theorem mScaleQ_of (p : List RQ) (a : RQ) (l : List RQ) (e : Int) (h : AC Tryz.prog 114 [cqw p, cqw [crat 0, a]] none [cqw l, ci e]) : AC Tryz.prog 86 [cqw p, cqq a] none [cqw l, ci e] := by
  have p3 := rats_two (crat 0) a
  have z := lay_zero
  refine AC.by_walk (rs := [.tmp 4, .tmp 5]) ords Tryz.func86 (by rfl) (by rfl) (by rfl) (by rfl) (by rfl) ?_
  simp (disch := omega) only [wk, tis, seval, reduceCtorEq, Nat.reduceEqDiff, rqs, z, p3]
  refine call_by (h) (by first | rfl | (simp only [tocvs, tocv, z, p3]; rfl) | (simp only [tocvs, tocv, toboxes, tobox, updH_at, Nat.reduceEqDiff, ↓reduceIte, z, p3]; rfl)) (by simp) ?_
  simp (disch := omega) only [wk, tis, seval, reduceCtorEq, Nat.reduceEqDiff, rqs, z, p3]
  try rfl
structure CQ (p : List RQ) (Q : List Rat) : Prop where
  hp : GQ 64 (2 ^ 20) p
  q : ∃ D, CB D (2 ^ 20) (2 ^ 30) Q
  w : ∀ k, k ≤ p.length → ∃ E, CB E (2 ^ 20) (2 ^ 30) (powq Q k)
  s : ∀ k, k ≤ p.length → ∃ E, CB E (2 ^ 20) (2 ^ 30) (csq (qvs p) Q k)
theorem hq_small {p q : List RQ} (hp : GQ 9 3 p) (hq : GQ 9 3 q) : HQ (trimq (qvs p)) (trimq (qvs q)) := by
  obtain ⟨D, hD⟩ := hq.qb.trimq.cb
  have hA := hp.qb.trimq
  have hl := hA.1
  exact ⟨by omega, fun k hk => by
    obtain ⟨E, hE⟩ := hoq_cb (N := 81) hD hA (by omega) (by omega) k (by have := Nat.mul_le_mul_right 9 (show k ≤ 9 by omega); omega)
    have h1 : k * 9 ≤ 9 * 9 := Nat.mul_le_mul_right _ (by omega)
    have h2 : k * (9 * 3 + 3 + 1 + 3 + 9 + 81 + 2) ≤ 9 * (9 * 3 + 3 + 1 + 3 + 9 + 81 + 2) := Nat.mul_le_mul_right _ (by omega)
    exact ⟨E, hE.mono (by omega) (by omega)⟩, ⟨D, hD.mono (by omega) (by omega)⟩, hA.mono (by omega) (by omega)⟩
end Go.Proofs.YtcocppjgbcbndaaGreat
