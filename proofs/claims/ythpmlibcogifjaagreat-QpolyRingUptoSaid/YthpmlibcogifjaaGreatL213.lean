/-
  Contracts of the functions that the law reaches.
-/
import Derived.Test.YthpmlibcogifjaaGreatL117M
set_option maxHeartbeats 2000000
namespace Go.Proofs.YthpmlibcogifjaaGreat
open Go Go.Proofs Go.AL
set_option linter.unusedSimpArgs false
set_option linter.unusedVariables false
theorem qeach1_bad (p q : List RQ) (g : Nat) (row : List IV) (hp : BQ (2 ^ 40) (2 ^ 38) p) (hq : BQ (2 ^ 40) (2 ^ 38) q) (h : gd p = false ∨ gd q = false) : AC Tryz.prog 25 [cqw p, cqw q, .fn g [row]] none [cqw [], ci 1] := by
  have m := qboth_bad p q hp hq h
  refine AC.by_walk (rs := [.tmp 6, .tmp 7]) ords Tryz.func25 (by rfl) (by rfl) (by rfl) (by rfl) (by rfl) ?_
  simp (disch := omega) only [wk, tis, seval, reduceCtorEq, Nat.reduceEqDiff, rqs, List.map_cons, List.map_nil]
  refine call_by (m) (by first | rfl | (simp only [tocvs, tocv, List.map_cons, List.map_nil]; rfl) | (simp only [tocvs, tocv, toboxes, tobox, updH_at, Nat.reduceEqDiff, ↓reduceIte, List.map_cons, List.map_nil]; rfl)) (by simp) ?_
  simp (disch := omega) only [wk, tis, seval, reduceCtorEq, Nat.reduceEqDiff, rqs, List.map_cons, List.map_nil]
  try rfl
theorem qscale_bad (p : List RQ) (c : RQ) (hp : BQ (2 ^ 40) (2 ^ 38) p) (hg : gd p = false) (hc : SzQ (2 ^ 38) c) : AC Tryz.prog 13 [cqw p, cqq c] none [cqw [], ci 1] := by
  by_cases h0 : nv c.2 = 0
  · have k := qcheck_bad c ⟨Nat.le_trans hc.2.1 (by omega), hc.2.2⟩ h0
    refine AC.by_walk (rs := [.tmp 4, .tmp 5]) ords Tryz.func13 (by rfl) (by rfl) (by rfl) (by rfl) (by rfl) ?_
    simp (disch := omega) only [wk, tis, seval, reduceCtorEq, Nat.reduceEqDiff, rqs]
    refine call_by (k) (by rfl) (by simp) ?_
    simp (disch := omega) only [wk, tis, seval, reduceCtorEq, Nat.reduceEqDiff, rqs]
    try rfl
  · have k := qcheck_good c ⟨Nat.le_trans hc.2.1 (by omega), hc.2.2⟩ h0
    have m := qeach1_bad p [] 33 (qrow c) hp ⟨Nat.zero_le _, fun r hr => nomatch hr⟩ (.inl hg)
    refine AC.by_walk (rs := [.tmp 4, .tmp 5]) ords Tryz.func13 (by rfl) (by rfl) (by rfl) (by rfl) (by rfl) ?_
    simp (disch := omega) only [wk, tis, seval, reduceCtorEq, Nat.reduceEqDiff, rqs]
    refine call_by (k) (by rfl) (by simp) ?_
    simp (disch := omega) only [wk, tis, seval, reduceCtorEq, Nat.reduceEqDiff, rqs]
    refine call_by (m) (by first | rfl | (simp only [tocvs, tocv, List.map_nil]; rfl) | (simp only [tocvs, tocv, toboxes, tobox, updH_at, Nat.reduceEqDiff, ↓reduceIte, List.map_nil]; rfl)) (by simp) ?_
    simp (disch := omega) only [wk, tis, seval, reduceCtorEq, Nat.reduceEqDiff, rqs, List.map_nil]
    try rfl
theorem qscale_den (p : List RQ) (c : RQ) (hc : SzQ (2 ^ 38) c) (h0 : nv c.2 = 0) : AC Tryz.prog 13 [cqw p, cqq c] none [cqw [], ci 1] := by
  have k := qcheck_bad c ⟨Nat.le_trans hc.2.1 (by omega), hc.2.2⟩ h0
  refine AC.by_walk (rs := [.tmp 4, .tmp 5]) ords Tryz.func13 (by rfl) (by rfl) (by rfl) (by rfl) (by rfl) ?_
  simp (disch := omega) only [wk, tis, seval, reduceCtorEq, Nat.reduceEqDiff, rqs]
  refine call_by (k) (by rfl) (by simp) ?_
  simp (disch := omega) only [wk, tis, seval, reduceCtorEq, Nat.reduceEqDiff, rqs]
  try rfl
theorem unit_const {p : List RQ} {n k : Nat} (h : GQ n k p) (hu : unitq p = true) : ∃ c, unit3 c ∧ pq (qvs p) = PQ.C c := by
  rcases of_decide_eq_true hu with h0 | ⟨h1, h2, h3⟩
  · refine ⟨0, .inl rfl, ?_⟩
    rw [List.length_eq_zero_iff.mp h0]
    exact pq_nil.trans PQ.C_zero.symm
  · obtain ⟨r, rfl⟩ := List.length_eq_one_iff.mp h1
    have hd := (h.2 r (by simp)).2
    have h2 : nv r.1.2 ≤ 1 := h2
    have h3 : nv r.2 ≤ 1 := h3
    have e3 : nv r.2 = 1 := by omega
    have e : qv r = (iv r.1 : Rat) := by
      rw [qv_eq, e3, show ((1 : Nat) : Rat) = 1 from rfl]; grind
    refine ⟨qv r, ?_, pq_const _⟩
    rw [e]
    have : iv r.1 = 0 ∨ iv r.1 = 1 ∨ iv r.1 = -1 := by unfold iv; split <;> omega
    rcases this with h | h | h <;> rw [h]
    · exact .inl rfl
    · exact .inr (.inl rfl)
    · exact .inr (.inr rfl)
theorem tis_q {A : List Rat} {n k : Nat} (h : QB n k A) (hn : n ≤ 2 ^ 40) (hk : k ≤ 2 ^ 40) : AC Tryz.prog 17 [cqp A, ci 0, cb true, cqp A] none [cb true] := tis_ok (h.gqs.bq.mono hn hk)
def mex (p : List RQ) (n : Int) : Int := if 5 < n ∧ n ≤ 1024 ∧ unitq p = false then n % 6 else n
theorem tmod6 {n : Int} (h : 0 ≤ n) : Int.tmod n 6 = n % 6 := Int.tmod_eq_emod_of_nonneg h
theorem pow_case (a : List RQ) (n : Int) (ha : GQ 40 (2 ^ 20) a) : ∃ (lf : List RQ) (ef : Int), AC Tryz.prog 14 [cqw a, ci (mex a n)] none [cqw lf, ci ef] ∧
    (((mex a n < 0 ∨ 1024 < mex a n) ∧ lf = [] ∧ ef = 3) ∨ (0 ≤ mex a n ∧ mex a n ≤ 1024 ∧ ef = 0 ∧ AC Tryz.prog 18 [cqw a, ci (mex a n)] none [cqw lf] ∧ AC Tryz.prog 17 [cqw lf, ci 0, cb true, cqw lf] none [cb true])) := by
  by_cases h : mex a n < 0 ∨ 1024 < mex a n
  · exact ⟨[], 3, qppow_arg a _ (ha.mono (by omega) (by omega)) h, .inl ⟨h, rfl, rfl⟩⟩
  · obtain ⟨m, hm⟩ := Int.eq_ofNat_of_zero_le (a := mex a n) (by omega)
    have hm1 : m ≤ 1024 := by omega
    obtain ⟨D, hD⟩ := ha.qb.cb
    have w : PWK (qvs a) m 201 (2 ^ 29) := by
      by_cases hu : unitq a = true
      · obtain ⟨c, hc, e⟩ := unit_const ha hu
        exact (pwk_const e hc m).mono (by omega) (by omega)
      · have h5 : m ≤ 5 := by
          have hu : unitq a = false := by simpa using hu
          unfold mex at hm
          split at hm
          · omega
          · rename_i hn
            have : ¬ (5 < n ∧ n ≤ 1024) := fun h => hn ⟨h.1, h.2, hu⟩
            omega
        exact (pwh_five hD h5).k.mono (by omega) (by omega)
    rw [hm]
    have hb : ∀ k, k < m → ∀ i j, qz (cvq ((trimq (powq (qvs a) k)).take i) (cfq (trimq (qvs a))) j) ≤ 2 ^ 34 := fun k hk i j => by
      obtain ⟨E, hE⟩ := w.h k (by omega)
      exact Nat.le_trans (hE.part hD.trim (by omega) i j) (by omega)
    obtain ⟨E, hE⟩ := w.h m (Nat.le_refl m)
    refine ⟨cqs (powq (qvs a) m), 0, qppow_ok a m 201 (2 ^ 29) (ha.mono (by omega) (by omega)) w hm1 (by omega) (by omega) (by omega), .inr ⟨by omega, by omega, rfl, trpow_ok a m 201 (2 ^ 29) (ha.mono (by omega) (by omega)) w hm1 (by omega) (by omega) (by omega) hb, ?_⟩⟩
    have t := tis_q (A := trimq (powq (qvs a) m)) hE.qb (by omega) (by omega)
    rw [show cqp (trimq (powq (qvs a) m)) = cqw (cqs (powq (qvs a) m)) from congrArg cqw (by rw [cqs, trimq_trimq]; rfl)] at t
    exact t
set_option maxHeartbeats 1000000 in
theorem ring_law (p r : List RQ) (n : Int) (hp : BQ 1048576 1048576 p) (hr : BQ 1048576 1048576 r) (hn1 : -9223372036854775808 ≤ n) (hn2 : n ≤ 9223372036854775807) : AC Tryz.prog 3 [cqw p, cqw r, ci n] none [cb true] := by
  have fa := few10_ok p (Nat.le_trans hp.1 (by omega))
  have fb := few10_ok r (Nat.le_trans hr.1 (by omega))
  have ha : BQ 40 (2 ^ 20) (p.take 40) := hp.few
  have hb : BQ 40 (2 ^ 20) (r.take 40) := hr.few
  generalize p.take 40 = a at *
  generalize r.take 40 = b at *
  have g1 := tgood_ok a (ha.mono (by omega) (by omega))
  have g2 := tgood_ok b (hb.mono (by omega) (by omega))
  have X : ∃ x : RQ, SzQ (2 ^ 20) x ∧ (b.length = 0 ∧ x = crat 0 ∨ 0 < b.length ∧ x = b.getD 0 q0) ∧ (gd b = true → decide (nv x.2 ≠ 0) = true) := by
    rcases Nat.eq_zero_or_pos b.length with h | h
    · exact ⟨_, szq_crat (by rw [qz_zero]; omega), .inl ⟨h, rfl⟩, fun _ => decide_eq_true (nv_crat0 _)⟩
    · exact ⟨_, hb.get h, .inr ⟨h, rfl⟩, fun hg => decide_eq_true ((hb.gq hg).den h)⟩
  obtain ⟨x, zx, hx, hxg⟩ := X
  have ok := hok_ok x ⟨Nat.le_trans zx.2.1 (by omega), zx.2.2⟩
  have un := unit_ok a (ha.mono (by omega) (by omega))
  have hme : n ≤ 5 ∨ 1024 < n → mex a n = n := fun h => if_neg fun h' => by omega
  have hmu : 5 < n → n ≤ 1024 → unitq a = true → mex a n = n := fun _ _ h => if_neg fun h' => by rw [h] at h'; exact absurd h'.2.2 (by decide)
  have hmv : 5 < n → n ≤ 1024 → unitq a = false → Int.tmod n 6 = mex a n := fun h1 h2 h3 => by rw [tmod6 (by omega)]; exact (if_pos ⟨h1, h2, h3⟩).symm
  cases hga : gd a with
  | false =>
    rw [hga] at g1
    have ha' : BQ (2 ^ 40) (2 ^ 38) a := ha.mono (by omega) (by omega)
    have hb' : BQ (2 ^ 40) (2 ^ 38) b := hb.mono (by omega) (by omega)
    exact ring_core a b p r n (mex a n) x false (gd b) (decide (nv x.2 ≠ 0)) (unitq a) [] [] [] [] [] [] [] [] [] 1 1 1 1 1 fa fb g1 g2 hx hb.1 ok un hme hmu hmv
      (qpadd_bad a b ha' hb' (.inl hga)) (qpsub_bad a b ha' hb' (.inl hga)) (qpmul_bad a b ha' hb' (.inl hga)) (qscale_bad a x ha' hga (zx.mono (by omega))) (qppow_bad a _ ha' hga)
      (fun h => nomatch h) (fun _ => ⟨rfl, rfl, rfl⟩) (fun h => nomatch h) (fun _ => rfl) hxg tis_bad tis_bad tis_bad tis_bad (.inr (.inl ⟨rfl, rfl, rfl⟩))
  | true =>
    rw [hga] at g1
    have hA := ha.gq hga
    obtain ⟨lf, ef, cf, hP⟩ := pow_case a n hA
    have hP' : (true = true ∧ (mex a n < 0 ∨ 1024 < mex a n) ∧ lf = [] ∧ ef = 3) ∨ (true = false ∧ lf = [] ∧ ef = 1) ∨ (true = true ∧ 0 ≤ mex a n ∧ mex a n ≤ 1024 ∧ ef = 0 ∧ AC Tryz.prog 18 [cqw a, ci (mex a n)] none [cqw lf] ∧ AC Tryz.prog 17 [cqw lf, ci 0, cb true, cqw lf] none [cb true]) := hP.elim (fun h => .inl ⟨rfl, h⟩) fun h => .inr (.inr ⟨rfl, h⟩)
    -- the multiple
    have S : ∃ (ld sd : List RQ) (ed : Int), AC Tryz.prog 13 [cqw a, cqq x] none [cqw ld, ci ed] ∧ ((true && decide (nv x.2 ≠ 0)) = true → AC Tryz.prog 15 [cqw [], cqq x, cqw a] none [cqw sd]) ∧ ((true && decide (nv x.2 ≠ 0)) = false → sd = []) ∧ AC Tryz.prog 17 [cqw ld, ci ed, cb (true && decide (nv x.2 ≠ 0)), cqw sd] none [cb true] := by
      by_cases h0 : nv x.2 = 0
      · have e : decide (nv x.2 ≠ 0) = false := decide_eq_false fun h => h h0
        rw [e]
        exact ⟨[], [], 1, qscale_den a x (zx.mono (by omega)) h0, (fun h => nomatch h), fun _ => rfl, tis_bad⟩
      · have e : decide (nv x.2 ≠ 0) = true := decide_eq_true h0
        rw [e]
        have pl := tplus_ok [] a x (2 ^ 20) ⟨Nat.zero_le _, fun r hr => nomatch hr⟩ (hA.mono (by omega) (by omega)) zx h0 (by omega) (by omega)
        rw [show qvs [] = [] from rfl, show cqp (zipq (fma (qv x)) [] (qvs a)) = cqp (sclq (qv x) (qvs a)) from congrArg cqw (cqs_ext fun j => by rw [cfq_zipq (fma_zero _), cfq_nil, cfq_sclq]; unfold fma; grind)] at pl
        have hS : QB 40 (2 ^ 22) (sclq (qv x) (qvs a)) := .of (by simp only [sclq, List.length_map]; exact hA.qb.1) fun j => by
          rw [cfq_sclq]
          have h1 := qz_mul (cfq (qvs a) j) (qv x)
          have h2 := hA.qb.cz (by omega) j
          have h3 := qz_raw zx h0
          omega
        exact ⟨_, _, 0, qscale_ok a x (2 ^ 20) (hA.mono (by omega) (by omega)) zx h0 (by omega) (by omega), fun _ => pl, (fun h => nomatch h), tis_q hS (by omega) (by omega)⟩
    obtain ⟨ld, sd, ed, cdd, pd, nd, idd⟩ := S
    have ha' : BQ (2 ^ 40) (2 ^ 38) a := ha.mono (by omega) (by omega)
    have hb' : BQ (2 ^ 40) (2 ^ 38) b := hb.mono (by omega) (by omega)
    cases hgb : gd b with
    | false =>
      rw [hgb] at g2
      exact ring_core a b p r n (mex a n) x true false (decide (nv x.2 ≠ 0)) (unitq a) [] [] [] ld lf [] [] [] sd 1 1 1 ed ef fa fb g1 g2 hx hb.1 ok un hme hmu hmv
        (qpadd_bad a b ha' hb' (.inr hgb)) (qpsub_bad a b ha' hb' (.inr hgb)) (qpmul_bad a b ha' hb' (.inr hgb)) cdd cf
        (fun h => nomatch h) (fun _ => ⟨rfl, rfl, rfl⟩) pd nd (fun h => nomatch h) tis_bad tis_bad tis_bad idd hP'
    | true =>
      rw [hgb] at g2
      have hB := hb.gq hgb
      have qa := hA.qb
      have qb := hB.qb
      have s1 := qpadd_ok a b (2 ^ 20) (hA.mono (by omega) (by omega)) (hB.mono (by omega) (by omega)) (by omega) (by omega)
      have u1 := qpsub_ok a b (2 ^ 20) (hA.mono (by omega) (by omega)) (hB.mono (by omega) (by omega)) (by omega) (by omega)
      have p1 := qpmul_ok a b 40 (2 ^ 20) hA hB (by omega) (by omega) (by omega)
      have s2 := tplus_ok a b (crat 1) (2 ^ 20) (hA.mono (by omega) (by omega)) (hB.mono (by omega) (by omega)) (szq_crat (by rw [qz_one]; omega)) (nv_crat0 _) (by omega) (by omega)
      rw [qv_crat, show cqp (zipq (fma 1) (qvs a) (qvs b)) = cqp (addq (qvs a) (qvs b)) from congrArg cqw (cqs_ext fun j => by rw [cfq_zipq (fma_zero _), cfq_addq]; unfold fma; grind)] at s2
      have u2 := tplus_ok a b (crat (-1)) (2 ^ 20) (hA.mono (by omega) (by omega)) (hB.mono (by omega) (by omega)) (szq_crat (Nat.le_trans (show qz (-1) ≤ 1 by decide +kernel) (by omega))) (nv_crat0 _) (by omega) (by omega)
      rw [qv_crat, show cqp (zipq (fma (-1)) (qvs a) (qvs b)) = cqp (subq (qvs a) (qvs b)) from congrArg cqw (cqs_ext fun j => by rw [cfq_zipq (fma_zero _), cfq_subq]; unfold fma; grind)] at u2
      obtain ⟨D, hD⟩ := qa.cb
      obtain ⟨E, hE⟩ := qb.cb
      have p2 := ttimes_ok a b (2 ^ 20) (hA.mono (by omega) (by omega)) (hB.mono (by omega) (by omega)) (by omega) (by omega) (fun i k => Nat.le_trans (hD.trim.part hE.trim (by omega) i k) (by omega))
      have zs : QB 40 (2 ^ 22) (addq (qvs a) (qvs b)) := .of (by simp only [addq, List.length_map, List.length_range]; have := qa.1; have := qb.1; omega) fun i => by
        rw [cfq_addq]
        have h1 := qz_add (cfq (qvs a) i) (cfq (qvs b) i)
        have h2 := qa.cz (by omega) i
        have h3 := qb.cz (by omega) i
        omega
      have zd : QB 40 (2 ^ 22) (subq (qvs a) (qvs b)) := .of (by have := qa.1; have := qb.1; rw [subq, zipq_len]; omega) fun i => by
        rw [cfq_subq]
        have h1 := qz_sub (cfq (qvs a) i) (cfq (qvs b) i)
        have h2 := qa.cz (by omega) i
        have h3 := qb.cz (by omega) i
        omega
      have zm := QB.mulq (n := 40) (k := 2 ^ 20) (M := 41 * 2 ^ 20 + 1) qa qb (by decide) (by omega) (by omega)
      exact ring_core a b p r n (mex a n) x true true (decide (nv x.2 ≠ 0)) (unitq a) _ _ _ ld lf _ _ _ sd 0 0 0 ed ef fa fb g1 g2 hx hb.1 ok un hme hmu hmv
        s1 u1 p1 cdd cf (fun _ => ⟨s2, u2, p2⟩) (fun h => nomatch h) pd nd (fun _ => hxg hgb) (tis_q zs (by omega) (by omega)) (tis_q zd (by omega) (by omega)) (tis_q zm (by omega) (by omega)) idd hP'
end Go.Proofs.YthpmlibcogifjaaGreat
