/-
  Contracts of the functions that the law reaches.
-/
import Derived.Test.YtjadkhkgmdikiaaGreatL36M
import Derived.Test.YtjadkhkgmdikiaaGreatL51M
import Derived.Test.YtjadkhkgmdikiaaGreatL12M
namespace Go.Proofs.YtjadkhkgmdikiaaGreat
open Go Go.Proofs Go.AL
set_option linter.unusedSimpArgs false
set_option linter.unusedVariables false

theorem qv_eq (r : RQ) : qv r = (iv r.1 : Rat) / (nv r.2 : Rat) := Rat.mkRat_eq_div _ _
theorem mk_add {r s : RQ} (hr : nv r.2 ≠ 0) (hs : nv s.2 ≠ 0) : mkRat (iv r.1 * nv s.2 + iv s.1 * nv r.2) (nv r.2 * nv s.2) = qv r + qv s := (Rat.mkRat_add_mkRat _ _ hr hs).symm
theorem mk_mul (r s : RQ) : mkRat (iv r.1 * iv s.1) (nv r.2 * nv s.2) = qv r * qv s := (Rat.mkRat_mul_mkRat _ _ _ _).symm
theorem crat_int (n : Int) : crat (n : Rat) = (canon n, [1]) := by
  unfold crat
  rw [Rat.num_intCast, Rat.den_intCast]
  have : wd 1 = [1] := by decide +kernel
  rw [this]
theorem iv_crat (q : Rat) : iv (crat q).1 = q.num := iv_canon _
theorem nv_crat (q : Rat) : nv (crat q).2 = q.den := nv_wd _
theorem nv_crat0 (q : Rat) : nv (crat q).2 ≠ 0 := den_crat q
theorem SzQ.mono {j k : Nat} {r : RQ} (h : SzQ j r) (hk : j ≤ k) : SzQ k r := ⟨h.1.mono hk, Nat.le_trans h.2.1 hk, h.2.2⟩
theorem szq_crat {q : Rat} {k : Nat} (h : qz q ≤ k) : SzQ k (crat q) := (sz_crat q).mono h

theorem znatl_ok (s : Bool) (l : List Nat) (h : Lim l) (hl : l.length ≤ 2 ^ 40) : AC Tryz.prog 99 [cb s, cl l] none [cz (sg s (nv l))] := by
  refine AC.by_walk (rs := [.cell 4 29]) ords Tryz.func99 (by rfl) (by rfl) (by rfl) (by rfl) (by rfl) ?_
  simp (disch := omega) only [wk, tis, Int.reduceNe, Int.reduceEq, Int.reduceLT, Int.reduceLE, Int.reduceAdd, Int.reduceSub, Int.reduceNeg, Int.reduceMul, Int.reduceToNat, Nat.reduceSub, Nat.reduceMul, Nat.reduceLeDiff, Nat.reduceAdd, Nat.reduceLT, Nat.reduceEqDiff, reduceCtorEq, ↓reduceIte, rqs]
  have m := znorm_ok (s, l) ⟨hl, h⟩
  rw [iv_sg] at m
  refine call_by (m) (by rfl) (by simp) ?_
  simp (disch := omega) only [wk, tis, Int.reduceNe, Int.reduceEq, Int.reduceLT, Int.reduceLE, Int.reduceAdd, Int.reduceSub, Int.reduceNeg, Int.reduceMul, Int.reduceToNat, Nat.reduceSub, Nat.reduceMul, Nat.reduceLeDiff, Nat.reduceAdd, Nat.reduceLT, Nat.reduceEqDiff, reduceCtorEq, ↓reduceIte, rqs]

theorem nt_zl {l : List Nat} {k : Nat} (h : Nt k l) : zl ((nv l : Nat) : Int) ≤ k := Nat.le_trans (nv_len h.2) h.1
theorem sgf (n : Nat) : sg false n = (n : Int) := rfl

theorem qtimes_ok (a : RI) (d : List Nat) (ha : Sz (2 ^ 36) a) (hd : Nt (2 ^ 36) d) : AC Tryz.prog 140 [cr a, cl d] none [cz (iv a * nv d)] := by
  have m := znatl_ok false d hd.2 (Nat.le_trans hd.1 (by omega))
  rw [sgf] at m
  have n := zmul_ok a (canon (nv d)) ha ((sz_canon _).mono (nt_zl hd))
  rw [iv_canon] at n
  refine AC.by_walk (rs := [.cell 4 29]) ords Tryz.func140 (by rfl) (by rfl) (by rfl) (by rfl) (by rfl) ?_
  simp (disch := omega) only [wk, tis, Int.reduceNe, Int.reduceEq, Int.reduceLT, Int.reduceLE, Int.reduceAdd, Int.reduceSub, Int.reduceNeg, Int.reduceMul, Int.reduceToNat, Nat.reduceSub, Nat.reduceMul, Nat.reduceLeDiff, Nat.reduceAdd, Nat.reduceLT, Nat.reduceEqDiff, reduceCtorEq, ↓reduceIte, rqs]
  refine ⟨tmps_by (by kernel_rfl), ?_⟩
  refine call_by (m) (by rfl) (by simp) ?_
  simp (disch := omega) only [wk, tis, Int.reduceNe, Int.reduceEq, Int.reduceLT, Int.reduceLE, Int.reduceAdd, Int.reduceSub, Int.reduceNeg, Int.reduceMul, Int.reduceToNat, Nat.reduceSub, Nat.reduceMul, Nat.reduceLeDiff, Nat.reduceAdd, Nat.reduceLT, Nat.reduceEqDiff, reduceCtorEq, ↓reduceIte, rqs]
  refine call_by (n) (by rfl) (by simp) ?_
  simp (disch := omega) only [wk, tis, Int.reduceNe, Int.reduceEq, Int.reduceLT, Int.reduceLE, Int.reduceAdd, Int.reduceSub, Int.reduceNeg, Int.reduceMul, Int.reduceToNat, Nat.reduceSub, Nat.reduceMul, Nat.reduceLeDiff, Nat.reduceAdd, Nat.reduceLT, Nat.reduceEqDiff, reduceCtorEq, ↓reduceIte, rqs]
  first | exact log_by (by kernel_rfl) | refine ⟨log_by (by kernel_rfl), ?_⟩
  try rfl

theorem qchecks_two (a b : RQ) (ha : SzQ (2 ^ 36) a) (hb : SzQ (2 ^ 36) b) (h0 : nv a.2 ≠ 0) (h1 : nv b.2 ≠ 0) : AC Tryz.prog 137 [cqw [a, b]] none [ci 0] :=
  qchecks_gen [a, b] 0 (by simp) (fun r hr => by
    simp only [List.mem_cons, List.not_mem_nil, or_false] at hr
    rcases hr with rfl | rfl
    · exact ⟨Nat.le_trans ha.2.1 (by omega), ha.2.2⟩
    · exact ⟨Nat.le_trans hb.2.1 (by omega), hb.2.2⟩) (fun _ => rfl) (fun h => (h fun r hr => by
      simp only [List.mem_cons, List.not_mem_nil, or_false] at hr
      rcases hr with rfl | rfl
      · exact h0
      · exact h1).elim)
theorem qchecks_none (a b : RQ) (ha : SzQ (2 ^ 36) a) (hb : SzQ (2 ^ 36) b) (h0 : nv a.2 = 0 ∨ nv b.2 = 0) : AC Tryz.prog 137 [cqw [a, b]] none [ci 1] :=
  qchecks_gen [a, b] 1 (by simp) (fun r hr => by
    simp only [List.mem_cons, List.not_mem_nil, or_false] at hr
    rcases hr with rfl | rfl
    · exact ⟨Nat.le_trans ha.2.1 (by omega), ha.2.2⟩
    · exact ⟨Nat.le_trans hb.2.1 (by omega), hb.2.2⟩) (fun h => by
      rcases h0 with h0 | h0
      · exact (h a (by simp) h0).elim
      · exact (h b (by simp) h0).elim) (fun _ => rfl)

theorem rats_two (a b : RQ) : [qrow a, qrow b] = rats [a, b] := rfl

theorem wd_len2 {a b : Nat} {j k : Nat} (ha : (wd a).length ≤ j) (hb : (wd b).length ≤ k) : (wd (a * b)).length ≤ j + k := Nat.le_trans (AL.wd_mul_len a b) (Nat.add_le_add ha hb)

theorem qadd_ok (a b : RQ) (ha : SzQ (2 ^ 35) a) (hb : SzQ (2 ^ 35) b) (h0 : nv a.2 ≠ 0) (h1 : nv b.2 ≠ 0) : AC Tryz.prog 84 [cqq a, cqq b] none [cqz (qv a + qv b), ci 0] := by
  have c := qchecks_two a b (ha.mono (by omega)) (hb.mono (by omega)) h0 h1
  have t1 := qtimes_ok a.1 b.2 (ha.1.mono (by omega)) ⟨Nat.le_trans hb.2.1 (by omega), hb.2.2⟩
  have t2 := qtimes_ok b.1 a.2 (hb.1.mono (by omega)) ⟨Nat.le_trans ha.2.1 (by omega), ha.2.2⟩
  have z1 := zl_mul (iv a.1) (nv b.2 : Nat)
  have z2 := zl_mul (iv b.1) (nv a.2 : Nat)
  have y1 := zl_iv ha.1
  have y2 := zl_iv hb.1
  have y3 := nt_zl ha.2
  have y4 := nt_zl hb.2
  have z3 := zl_add (iv a.1 * (nv b.2 : Nat)) (iv b.1 * (nv a.2 : Nat))
  have s := zadd_ok (canon (iv a.1 * (nv b.2 : Nat))) (canon (iv b.1 * (nv a.2 : Nat))) ((sz_canon _).mono (by omega)) ((sz_canon _).mono (by omega))
  rw [iv_canon, iv_canon] at s
  have m := mmul_ok a.2 b.2 ha.2.2 hb.2.2 (Nat.le_trans ha.2.1 (by omega)) (Nat.le_trans hb.2.1 (by omega))
  have hw : (wd (nv a.2 * nv b.2)).length ≤ 2 ^ 35 + 2 ^ 35 := wd_len2 y3 y4
  have r := qred_ok (canon (iv a.1 * (nv b.2 : Nat) + iv b.1 * (nv a.2 : Nat))) (wd (nv a.2 * nv b.2)) ((sz_canon _).mono (by omega)) ⟨by omega, lim_wd _⟩ (by rw [nv_wd]; exact Nat.mul_ne_zero h0 h1)
  rw [iv_canon, nv_wd, mk_add h0 h1] at r
  refine AC.by_walk (rs := [.cell 4 31, .tmp 5]) ords Tryz.func84 (by rfl) (by rfl) (by rfl) (by rfl) (by rfl) ?_
  simp (disch := omega) only [wk, tis, Int.reduceNe, Int.reduceEq, Int.reduceLT, Int.reduceLE, Int.reduceAdd, Int.reduceSub, Int.reduceNeg, Int.reduceMul, Int.reduceToNat, Nat.reduceSub, Nat.reduceMul, Nat.reduceLeDiff, Nat.reduceAdd, Nat.reduceLT, Nat.reduceEqDiff, reduceCtorEq, ↓reduceIte, rqs, rats_two]
  refine call_by (c) (by first | rfl | (simp only [tocvs, tocv, rats_two]; rfl) | (simp only [tocvs, tocv, toboxes, tobox, updH_at, Nat.reduceEqDiff, ↓reduceIte, rats_two]; rfl)) (by simp) ?_
  simp (disch := omega) only [wk, tis, Int.reduceNe, Int.reduceEq, Int.reduceLT, Int.reduceLE, Int.reduceAdd, Int.reduceSub, Int.reduceNeg, Int.reduceMul, Int.reduceToNat, Nat.reduceSub, Nat.reduceMul, Nat.reduceLeDiff, Nat.reduceAdd, Nat.reduceLT, Nat.reduceEqDiff, reduceCtorEq, ↓reduceIte, rqs, rats_two]
  refine ⟨tmps_by (by kernel_rfl), ?_⟩
  refine call_by (t1) (by rfl) (by simp) ?_
  simp (disch := omega) only [wk, tis, Int.reduceNe, Int.reduceEq, Int.reduceLT, Int.reduceLE, Int.reduceAdd, Int.reduceSub, Int.reduceNeg, Int.reduceMul, Int.reduceToNat, Nat.reduceSub, Nat.reduceMul, Nat.reduceLeDiff, Nat.reduceAdd, Nat.reduceLT, Nat.reduceEqDiff, reduceCtorEq, ↓reduceIte, rqs]
  refine call_by (t2) (by rfl) (by simp) ?_
  simp (disch := omega) only [wk, tis, Int.reduceNe, Int.reduceEq, Int.reduceLT, Int.reduceLE, Int.reduceAdd, Int.reduceSub, Int.reduceNeg, Int.reduceMul, Int.reduceToNat, Nat.reduceSub, Nat.reduceMul, Nat.reduceLeDiff, Nat.reduceAdd, Nat.reduceLT, Nat.reduceEqDiff, reduceCtorEq, ↓reduceIte, rqs]
  refine call_by (s) (by rfl) (by simp) ?_
  simp (disch := omega) only [wk, tis, Int.reduceNe, Int.reduceEq, Int.reduceLT, Int.reduceLE, Int.reduceAdd, Int.reduceSub, Int.reduceNeg, Int.reduceMul, Int.reduceToNat, Nat.reduceSub, Nat.reduceMul, Nat.reduceLeDiff, Nat.reduceAdd, Nat.reduceLT, Nat.reduceEqDiff, reduceCtorEq, ↓reduceIte, rqs]
  refine call_by (m) (by rfl) (by simp) ?_
  simp (disch := omega) only [wk, tis, Int.reduceNe, Int.reduceEq, Int.reduceLT, Int.reduceLE, Int.reduceAdd, Int.reduceSub, Int.reduceNeg, Int.reduceMul, Int.reduceToNat, Nat.reduceSub, Nat.reduceMul, Nat.reduceLeDiff, Nat.reduceAdd, Nat.reduceLT, Nat.reduceEqDiff, reduceCtorEq, ↓reduceIte, rqs]
  refine call_by (r) (by rfl) (by simp) ?_
  simp (disch := omega) only [wk, tis, Int.reduceNe, Int.reduceEq, Int.reduceLT, Int.reduceLE, Int.reduceAdd, Int.reduceSub, Int.reduceNeg, Int.reduceMul, Int.reduceToNat, Nat.reduceSub, Nat.reduceMul, Nat.reduceLeDiff, Nat.reduceAdd, Nat.reduceLT, Nat.reduceEqDiff, reduceCtorEq, ↓reduceIte, rqs]
  first | exact log_by (by kernel_rfl) | refine ⟨log_by (by kernel_rfl), ?_⟩
  try rfl

theorem qadd_bad (a b : RQ) (ha : SzQ (2 ^ 35) a) (hb : SzQ (2 ^ 35) b) (h0 : nv a.2 = 0 ∨ nv b.2 = 0) : AC Tryz.prog 84 [cqq a, cqq b] none [cqq q0, ci 1] := by
  have c := qchecks_none a b (ha.mono (by omega)) (hb.mono (by omega)) h0
  refine AC.by_walk (rs := [.cell 4 31, .tmp 5]) ords Tryz.func84 (by rfl) (by rfl) (by rfl) (by rfl) (by rfl) ?_
  simp (disch := omega) only [wk, tis, Int.reduceNe, Int.reduceEq, Int.reduceLT, Int.reduceLE, Int.reduceAdd, Int.reduceSub, Int.reduceNeg, Int.reduceMul, Int.reduceToNat, Nat.reduceSub, Nat.reduceMul, Nat.reduceLeDiff, Nat.reduceAdd, Nat.reduceLT, Nat.reduceEqDiff, reduceCtorEq, ↓reduceIte, rqs, rats_two]
  refine call_by (c) (by first | rfl | (simp only [tocvs, tocv, rats_two]; rfl) | (simp only [tocvs, tocv, toboxes, tobox, updH_at, Nat.reduceEqDiff, ↓reduceIte, rats_two]; rfl)) (by simp) ?_
  simp (disch := omega) only [wk, tis, Int.reduceNe, Int.reduceEq, Int.reduceLT, Int.reduceLE, Int.reduceAdd, Int.reduceSub, Int.reduceNeg, Int.reduceMul, Int.reduceToNat, Nat.reduceSub, Nat.reduceMul, Nat.reduceLeDiff, Nat.reduceAdd, Nat.reduceLT, Nat.reduceEqDiff, reduceCtorEq, ↓reduceIte, rqs, rats_two]
  try rfl

theorem qmul_ok (a b : RQ) (ha : SzQ (2 ^ 35) a) (hb : SzQ (2 ^ 35) b) (h0 : nv a.2 ≠ 0) (h1 : nv b.2 ≠ 0) : AC Tryz.prog 83 [cqq a, cqq b] none [cqz (qv a * qv b), ci 0] := by
  have c := qchecks_two a b (ha.mono (by omega)) (hb.mono (by omega)) h0 h1
  have z1 := zl_mul (iv a.1) (iv b.1)
  have y1 := zl_iv ha.1
  have y2 := zl_iv hb.1
  have y3 := nt_zl ha.2
  have y4 := nt_zl hb.2
  have s := zmul_ok a.1 b.1 (ha.1.mono (by omega)) (hb.1.mono (by omega))
  have m := mmul_ok a.2 b.2 ha.2.2 hb.2.2 (Nat.le_trans ha.2.1 (by omega)) (Nat.le_trans hb.2.1 (by omega))
  have hw : (wd (nv a.2 * nv b.2)).length ≤ 2 ^ 35 + 2 ^ 35 := wd_len2 y3 y4
  have r := qred_ok (canon (iv a.1 * iv b.1)) (wd (nv a.2 * nv b.2)) ((sz_canon _).mono (by omega)) ⟨by omega, lim_wd _⟩ (by rw [nv_wd]; exact Nat.mul_ne_zero h0 h1)
  rw [iv_canon, nv_wd, mk_mul] at r
  refine AC.by_walk (rs := [.cell 4 31, .tmp 5]) ords Tryz.func83 (by rfl) (by rfl) (by rfl) (by rfl) (by rfl) ?_
  simp (disch := omega) only [wk, tis, Int.reduceNe, Int.reduceEq, Int.reduceLT, Int.reduceLE, Int.reduceAdd, Int.reduceSub, Int.reduceNeg, Int.reduceMul, Int.reduceToNat, Nat.reduceSub, Nat.reduceMul, Nat.reduceLeDiff, Nat.reduceAdd, Nat.reduceLT, Nat.reduceEqDiff, reduceCtorEq, ↓reduceIte, rqs, rats_two]
  refine call_by (c) (by first | rfl | (simp only [tocvs, tocv, rats_two]; rfl) | (simp only [tocvs, tocv, toboxes, tobox, updH_at, Nat.reduceEqDiff, ↓reduceIte, rats_two]; rfl)) (by simp) ?_
  simp (disch := omega) only [wk, tis, Int.reduceNe, Int.reduceEq, Int.reduceLT, Int.reduceLE, Int.reduceAdd, Int.reduceSub, Int.reduceNeg, Int.reduceMul, Int.reduceToNat, Nat.reduceSub, Nat.reduceMul, Nat.reduceLeDiff, Nat.reduceAdd, Nat.reduceLT, Nat.reduceEqDiff, reduceCtorEq, ↓reduceIte, rqs, rats_two]
  refine ⟨tmps_by (by kernel_rfl), ?_⟩
  refine call_by (s) (by rfl) (by simp) ?_
  simp (disch := omega) only [wk, tis, Int.reduceNe, Int.reduceEq, Int.reduceLT, Int.reduceLE, Int.reduceAdd, Int.reduceSub, Int.reduceNeg, Int.reduceMul, Int.reduceToNat, Nat.reduceSub, Nat.reduceMul, Nat.reduceLeDiff, Nat.reduceAdd, Nat.reduceLT, Nat.reduceEqDiff, reduceCtorEq, ↓reduceIte, rqs]
  refine call_by (m) (by rfl) (by simp) ?_
  simp (disch := omega) only [wk, tis, Int.reduceNe, Int.reduceEq, Int.reduceLT, Int.reduceLE, Int.reduceAdd, Int.reduceSub, Int.reduceNeg, Int.reduceMul, Int.reduceToNat, Nat.reduceSub, Nat.reduceMul, Nat.reduceLeDiff, Nat.reduceAdd, Nat.reduceLT, Nat.reduceEqDiff, reduceCtorEq, ↓reduceIte, rqs]
  refine call_by (r) (by rfl) (by simp) ?_
  simp (disch := omega) only [wk, tis, Int.reduceNe, Int.reduceEq, Int.reduceLT, Int.reduceLE, Int.reduceAdd, Int.reduceSub, Int.reduceNeg, Int.reduceMul, Int.reduceToNat, Nat.reduceSub, Nat.reduceMul, Nat.reduceLeDiff, Nat.reduceAdd, Nat.reduceLT, Nat.reduceEqDiff, reduceCtorEq, ↓reduceIte, rqs]
  first | exact log_by (by kernel_rfl) | refine ⟨log_by (by kernel_rfl), ?_⟩
  try rfl

theorem qmul_bad (a b : RQ) (ha : SzQ (2 ^ 35) a) (hb : SzQ (2 ^ 35) b) (h0 : nv a.2 = 0 ∨ nv b.2 = 0) : AC Tryz.prog 83 [cqq a, cqq b] none [cqq q0, ci 1] := by
  have c := qchecks_none a b (ha.mono (by omega)) (hb.mono (by omega)) h0
  refine AC.by_walk (rs := [.cell 4 31, .tmp 5]) ords Tryz.func83 (by rfl) (by rfl) (by rfl) (by rfl) (by rfl) ?_
  simp (disch := omega) only [wk, tis, Int.reduceNe, Int.reduceEq, Int.reduceLT, Int.reduceLE, Int.reduceAdd, Int.reduceSub, Int.reduceNeg, Int.reduceMul, Int.reduceToNat, Nat.reduceSub, Nat.reduceMul, Nat.reduceLeDiff, Nat.reduceAdd, Nat.reduceLT, Nat.reduceEqDiff, reduceCtorEq, ↓reduceIte, rqs, rats_two]
  refine call_by (c) (by first | rfl | (simp only [tocvs, tocv, rats_two]; rfl) | (simp only [tocvs, tocv, toboxes, tobox, updH_at, Nat.reduceEqDiff, ↓reduceIte, rats_two]; rfl)) (by simp) ?_
  simp (disch := omega) only [wk, tis, Int.reduceNe, Int.reduceEq, Int.reduceLT, Int.reduceLE, Int.reduceAdd, Int.reduceSub, Int.reduceNeg, Int.reduceMul, Int.reduceToNat, Nat.reduceSub, Nat.reduceMul, Nat.reduceLeDiff, Nat.reduceAdd, Nat.reduceLT, Nat.reduceEqDiff, reduceCtorEq, ↓reduceIte, rqs, rats_two]
  try rfl

theorem zneg_ok (c : RI) (h : Sz (2 ^ 40) c) : AC Tryz.prog 153 [cr c] none [cz (-iv c)] := by
  have e : sg (!c.1) (nv c.2) = -iv c := by
    rw [iv_sg]
    unfold sg
    cases c.1 <;> simp
  have m := zof_ok (!c.1) (nv c.2)
  rw [e] at m
  have n := norm_ok c.2 h.2 (Nat.le_trans h.1 (by omega))
  refine AC.by_walk (rs := [.cell 2 29]) ords Tryz.func153 (by rfl) (by rfl) (by rfl) (by rfl) (by rfl) ?_
  simp (disch := omega) only [wk, tis, Int.reduceNe, Int.reduceEq, Int.reduceLT, Int.reduceLE, Int.reduceAdd, Int.reduceSub, Int.reduceNeg, Int.reduceMul, Int.reduceToNat, Nat.reduceSub, Nat.reduceMul, Nat.reduceLeDiff, Nat.reduceAdd, Nat.reduceLT, Nat.reduceEqDiff, reduceCtorEq, ↓reduceIte, rqs]
  refine ⟨tmps_by (by kernel_rfl), ?_⟩
  refine call_by (n) (by rfl) (by simp) ?_
  simp (disch := omega) only [wk, tis, Int.reduceNe, Int.reduceEq, Int.reduceLT, Int.reduceLE, Int.reduceAdd, Int.reduceSub, Int.reduceNeg, Int.reduceMul, Int.reduceToNat, Nat.reduceSub, Nat.reduceMul, Nat.reduceLeDiff, Nat.reduceAdd, Nat.reduceLT, Nat.reduceEqDiff, reduceCtorEq, ↓reduceIte, rqs]
  refine call_by (m) (by rfl) (by simp) ?_
  simp (disch := omega) only [wk, tis, Int.reduceNe, Int.reduceEq, Int.reduceLT, Int.reduceLE, Int.reduceAdd, Int.reduceSub, Int.reduceNeg, Int.reduceMul, Int.reduceToNat, Nat.reduceSub, Nat.reduceMul, Nat.reduceLeDiff, Nat.reduceAdd, Nat.reduceLT, Nat.reduceEqDiff, reduceCtorEq, ↓reduceIte, rqs]
  first | exact log_by (by kernel_rfl) | refine ⟨log_by (by kernel_rfl), ?_⟩
  try rfl

theorem neg_raw (c : RI) (x : List Nat) : qv (canon (-iv c), x) = -qv (c, x) := by
  unfold qv
  rw [iv_canon, Rat.neg_mkRat]

theorem qsub_ok (a b : RQ) (ha : SzQ (2 ^ 35) a) (hb : SzQ (2 ^ 35) b) (h0 : nv a.2 ≠ 0) (h1 : nv b.2 ≠ 0) : AC Tryz.prog 127 [cqq a, cqq b] none [cqz (qv a - qv b), ci 0] := by
  have n := zneg_ok b.1 (hb.1.mono (by omega))
  have z := zl_iv hb.1
  have m := qadd_ok a (canon (-iv b.1), b.2) ha ⟨(sz_canon _).mono (by rw [zl_neg]; exact z), hb.2⟩ h0 h1
  rw [neg_raw, ← Rat.sub_eq_add_neg] at m
  refine AC.by_walk (rs := [.cell 4 31, .tmp 5]) ords Tryz.func127 (by rfl) (by rfl) (by rfl) (by rfl) (by rfl) ?_
  simp (disch := omega) only [wk, tis, Int.reduceNe, Int.reduceEq, Int.reduceLT, Int.reduceLE, Int.reduceAdd, Int.reduceSub, Int.reduceNeg, Int.reduceMul, Int.reduceToNat, Nat.reduceSub, Nat.reduceMul, Nat.reduceLeDiff, Nat.reduceAdd, Nat.reduceLT, Nat.reduceEqDiff, reduceCtorEq, ↓reduceIte, rqs]
  refine call_by (n) (by rfl) (by simp) ?_
  simp (disch := omega) only [wk, tis, Int.reduceNe, Int.reduceEq, Int.reduceLT, Int.reduceLE, Int.reduceAdd, Int.reduceSub, Int.reduceNeg, Int.reduceMul, Int.reduceToNat, Nat.reduceSub, Nat.reduceMul, Nat.reduceLeDiff, Nat.reduceAdd, Nat.reduceLT, Nat.reduceEqDiff, reduceCtorEq, ↓reduceIte, rqs]
  refine call_by (m) (by rfl) (by simp) ?_
  simp (disch := omega) only [wk, tis, Int.reduceNe, Int.reduceEq, Int.reduceLT, Int.reduceLE, Int.reduceAdd, Int.reduceSub, Int.reduceNeg, Int.reduceMul, Int.reduceToNat, Nat.reduceSub, Nat.reduceMul, Nat.reduceLeDiff, Nat.reduceAdd, Nat.reduceLT, Nat.reduceEqDiff, reduceCtorEq, ↓reduceIte, rqs]
  try rfl

theorem qsub_bad (a b : RQ) (ha : SzQ (2 ^ 35) a) (hb : SzQ (2 ^ 35) b) (h0 : nv a.2 = 0 ∨ nv b.2 = 0) : AC Tryz.prog 127 [cqq a, cqq b] none [cqq q0, ci 1] := by
  have n := zneg_ok b.1 (hb.1.mono (by omega))
  have z := zl_iv hb.1
  have m := qadd_bad a (canon (-iv b.1), b.2) ha ⟨(sz_canon _).mono (by rw [zl_neg]; exact z), hb.2⟩ h0
  refine AC.by_walk (rs := [.cell 4 31, .tmp 5]) ords Tryz.func127 (by rfl) (by rfl) (by rfl) (by rfl) (by rfl) ?_
  simp (disch := omega) only [wk, tis, Int.reduceNe, Int.reduceEq, Int.reduceLT, Int.reduceLE, Int.reduceAdd, Int.reduceSub, Int.reduceNeg, Int.reduceMul, Int.reduceToNat, Nat.reduceSub, Nat.reduceMul, Nat.reduceLeDiff, Nat.reduceAdd, Nat.reduceLT, Nat.reduceEqDiff, reduceCtorEq, ↓reduceIte, rqs]
  refine call_by (n) (by rfl) (by simp) ?_
  simp (disch := omega) only [wk, tis, Int.reduceNe, Int.reduceEq, Int.reduceLT, Int.reduceLE, Int.reduceAdd, Int.reduceSub, Int.reduceNeg, Int.reduceMul, Int.reduceToNat, Nat.reduceSub, Nat.reduceMul, Nat.reduceLeDiff, Nat.reduceAdd, Nat.reduceLT, Nat.reduceEqDiff, reduceCtorEq, ↓reduceIte, rqs]
  refine call_by (m) (by rfl) (by simp) ?_
  simp (disch := omega) only [wk, tis, Int.reduceNe, Int.reduceEq, Int.reduceLT, Int.reduceLE, Int.reduceAdd, Int.reduceSub, Int.reduceNeg, Int.reduceMul, Int.reduceToNat, Nat.reduceSub, Nat.reduceMul, Nat.reduceLeDiff, Nat.reduceAdd, Nat.reduceLT, Nat.reduceEqDiff, reduceCtorEq, ↓reduceIte, rqs]
  try rfl

theorem zabsn_ok (c : RI) (h : Sz (2 ^ 40) c) : AC Tryz.prog 154 [cr c] none [cl (wd (iv c).natAbs)] := by
  have n := norm_ok c.2 h.2 (Nat.le_trans h.1 (by omega))
  rw [← iv_abs] at n
  refine AC.by_walk (rs := [.tmp 2]) ords Tryz.func154 (by rfl) (by rfl) (by rfl) (by rfl) (by rfl) ?_
  simp (disch := omega) only [wk, tis, Int.reduceNe, Int.reduceEq, Int.reduceLT, Int.reduceLE, Int.reduceAdd, Int.reduceSub, Int.reduceNeg, Int.reduceMul, Int.reduceToNat, Nat.reduceSub, Nat.reduceMul, Nat.reduceLeDiff, Nat.reduceAdd, Nat.reduceLT, Nat.reduceEqDiff, reduceCtorEq, ↓reduceIte, rqs]
  refine call_by (n) (by rfl) (by simp) ?_
  simp (disch := omega) only [wk, tis, Int.reduceNe, Int.reduceEq, Int.reduceLT, Int.reduceLE, Int.reduceAdd, Int.reduceSub, Int.reduceNeg, Int.reduceMul, Int.reduceToNat, Nat.reduceSub, Nat.reduceMul, Nat.reduceLeDiff, Nat.reduceAdd, Nat.reduceLT, Nat.reduceEqDiff, reduceCtorEq, ↓reduceIte, rqs]

theorem mk_div {a b : Int} (hb : b ≠ 0) : mkRat (if b < 0 then -a else a) b.natAbs = (a : Rat) / (b : Rat) := by
  have hr : (b : Rat) ≠ 0 := fun h => hb (Rat.intCast_eq_zero_iff.mp h)
  rw [Rat.mkRat_eq_div]
  by_cases h : b < 0
  · have e : ((b.natAbs : Nat) : Rat) = -(b : Rat) := by
      rw [← Rat.intCast_natCast, ← Rat.intCast_neg]
      congr 1
      omega
    rw [if_pos h, e, Rat.intCast_neg]
    grind
  · have e : ((b.natAbs : Nat) : Rat) = (b : Rat) := by
      rw [← Rat.intCast_natCast]
      congr 1
      omega
    rw [if_neg h, e]

theorem qmake_ok (a b : RI) (ha : Sz (2 ^ 38) a) (hb : Sz (2 ^ 38) b) (h0 : iv b ≠ 0) : AC Tryz.prog 100 [cr a, cr b] none [cqz ((iv a : Rat) / (iv b : Rat)), ci 0] := by
  have s := zsign_ok b (hb.mono (by omega))
  have hs0 : (iv b).sign ≠ 0 := fun h => h0 (Int.sign_eq_zero_iff_zero.mp h)
  have n := zneg_ok a (ha.mono (by omega))
  have w := zabsn_ok b (hb.mono (by omega))
  have za := zl_iv ha
  have zb := zl_iv hb
  have d := mk_div (a := iv a) h0
  refine AC.by_walk (rs := [.cell 4 31, .tmp 5]) ords Tryz.func100 (by rfl) (by rfl) (by rfl) (by rfl) (by rfl) ?_
  simp (disch := omega) only [wk, tis, Int.reduceNe, Int.reduceEq, Int.reduceLT, Int.reduceLE, Int.reduceAdd, Int.reduceSub, Int.reduceNeg, Int.reduceMul, Int.reduceToNat, Nat.reduceSub, Nat.reduceMul, Nat.reduceLeDiff, Nat.reduceAdd, Nat.reduceLT, Nat.reduceEqDiff, reduceCtorEq, ↓reduceIte, rqs]
  refine call_by (s) (by rfl) (by simp) ?_
  simp (disch := omega) only [wk, tis, Int.reduceNe, Int.reduceEq, Int.reduceLT, Int.reduceLE, Int.reduceAdd, Int.reduceSub, Int.reduceNeg, Int.reduceMul, Int.reduceToNat, Nat.reduceSub, Nat.reduceMul, Nat.reduceLeDiff, Nat.reduceAdd, Nat.reduceLT, Nat.reduceEqDiff, reduceCtorEq, ↓reduceIte, rqs]
  simp (disch := omega) only [wk, tis, Int.reduceNe, Int.reduceEq, Int.reduceLT, Int.reduceLE, Int.reduceAdd, Int.reduceSub, Int.reduceNeg, Int.reduceMul, Int.reduceToNat, Nat.reduceSub, Nat.reduceMul, Nat.reduceLeDiff, Nat.reduceAdd, Nat.reduceLT, Nat.reduceEqDiff, reduceCtorEq, ↓reduceIte, rqs, hs0]
  refine call_by (s) (by first | rfl | (simp only [tocvs, tocv, hs0]; rfl) | (simp only [tocvs, tocv, toboxes, tobox, updH_at, Nat.reduceEqDiff, ↓reduceIte, hs0]; rfl)) (by simp) ?_
  simp (disch := omega) only [wk, tis, Int.reduceNe, Int.reduceEq, Int.reduceLT, Int.reduceLE, Int.reduceAdd, Int.reduceSub, Int.reduceNeg, Int.reduceMul, Int.reduceToNat, Nat.reduceSub, Nat.reduceMul, Nat.reduceLeDiff, Nat.reduceAdd, Nat.reduceLT, Nat.reduceEqDiff, reduceCtorEq, ↓reduceIte, rqs, hs0]
  have hsg := sign_neg (iv b)
  by_cases h : iv b < 0
  · have h1 := hsg.mpr h
    rw [if_pos h] at d
    have r := qred_ok (canon (-iv a)) (wd (iv b).natAbs) ((sz_canon _).mono (by rw [zl_neg]; exact za)) ⟨zb, lim_wd _⟩ (by rw [nv_wd]; omega)
    rw [iv_canon, nv_wd, d] at r
    simp (disch := omega) only [wk, tis, Int.reduceNe, Int.reduceEq, Int.reduceLT, Int.reduceLE, Int.reduceAdd, Int.reduceSub, Int.reduceNeg, Int.reduceMul, Int.reduceToNat, Nat.reduceSub, Nat.reduceMul, Nat.reduceLeDiff, Nat.reduceAdd, Nat.reduceLT, Nat.reduceEqDiff, reduceCtorEq, ↓reduceIte, rqs, h1]
    refine call_by (n) (by first | rfl | (simp only [tocvs, tocv, h1]; rfl) | (simp only [tocvs, tocv, toboxes, tobox, updH_at, Nat.reduceEqDiff, ↓reduceIte, h1]; rfl)) (by simp) ?_
    simp (disch := omega) only [wk, tis, Int.reduceNe, Int.reduceEq, Int.reduceLT, Int.reduceLE, Int.reduceAdd, Int.reduceSub, Int.reduceNeg, Int.reduceMul, Int.reduceToNat, Nat.reduceSub, Nat.reduceMul, Nat.reduceLeDiff, Nat.reduceAdd, Nat.reduceLT, Nat.reduceEqDiff, reduceCtorEq, ↓reduceIte, rqs, h1]
    refine ⟨tmps_by (by kernel_rfl), ?_⟩
    refine call_by (w) (by rfl) (by simp) ?_
    simp (disch := omega) only [wk, tis, Int.reduceNe, Int.reduceEq, Int.reduceLT, Int.reduceLE, Int.reduceAdd, Int.reduceSub, Int.reduceNeg, Int.reduceMul, Int.reduceToNat, Nat.reduceSub, Nat.reduceMul, Nat.reduceLeDiff, Nat.reduceAdd, Nat.reduceLT, Nat.reduceEqDiff, reduceCtorEq, ↓reduceIte, rqs]
    refine call_by (r) (by rfl) (by simp) ?_
    simp (disch := omega) only [wk, tis, Int.reduceNe, Int.reduceEq, Int.reduceLT, Int.reduceLE, Int.reduceAdd, Int.reduceSub, Int.reduceNeg, Int.reduceMul, Int.reduceToNat, Nat.reduceSub, Nat.reduceMul, Nat.reduceLeDiff, Nat.reduceAdd, Nat.reduceLT, Nat.reduceEqDiff, reduceCtorEq, ↓reduceIte, rqs]
    first | exact log_by (by kernel_rfl) | refine ⟨log_by (by kernel_rfl), ?_⟩
    try rfl
  · have h1 : ¬ (iv b).sign < 0 := fun h' => h (hsg.mp h')
    rw [if_neg h] at d
    have r := qred_ok a (wd (iv b).natAbs) ha ⟨zb, lim_wd _⟩ (by rw [nv_wd]; omega)
    rw [nv_wd, d] at r
    simp (disch := omega) only [wk, tis, Int.reduceNe, Int.reduceEq, Int.reduceLT, Int.reduceLE, Int.reduceAdd, Int.reduceSub, Int.reduceNeg, Int.reduceMul, Int.reduceToNat, Nat.reduceSub, Nat.reduceMul, Nat.reduceLeDiff, Nat.reduceAdd, Nat.reduceLT, Nat.reduceEqDiff, reduceCtorEq, ↓reduceIte, rqs, h1]
    refine ⟨tmps_by (by kernel_rfl), ?_⟩
    refine call_by (w) (by rfl) (by simp) ?_
    simp (disch := omega) only [wk, tis, Int.reduceNe, Int.reduceEq, Int.reduceLT, Int.reduceLE, Int.reduceAdd, Int.reduceSub, Int.reduceNeg, Int.reduceMul, Int.reduceToNat, Nat.reduceSub, Nat.reduceMul, Nat.reduceLeDiff, Nat.reduceAdd, Nat.reduceLT, Nat.reduceEqDiff, reduceCtorEq, ↓reduceIte, rqs]
    refine call_by (r) (by rfl) (by simp) ?_
    simp (disch := omega) only [wk, tis, Int.reduceNe, Int.reduceEq, Int.reduceLT, Int.reduceLE, Int.reduceAdd, Int.reduceSub, Int.reduceNeg, Int.reduceMul, Int.reduceToNat, Nat.reduceSub, Nat.reduceMul, Nat.reduceLeDiff, Nat.reduceAdd, Nat.reduceLT, Nat.reduceEqDiff, reduceCtorEq, ↓reduceIte, rqs]
    first | exact log_by (by kernel_rfl) | refine ⟨log_by (by kernel_rfl), ?_⟩
    try rfl

theorem qmake_bad (a b : RI) (hb : Sz (2 ^ 38) b) (h0 : iv b = 0) : AC Tryz.prog 100 [cr a, cr b] none [cqq q0, ci 1] := by
  have s := zsign_ok b (hb.mono (by omega))
  rw [h0, Int.sign_zero] at s
  refine AC.by_walk (rs := [.cell 4 31, .tmp 5]) ords Tryz.func100 (by rfl) (by rfl) (by rfl) (by rfl) (by rfl) ?_
  simp (disch := omega) only [wk, tis, Int.reduceNe, Int.reduceEq, Int.reduceLT, Int.reduceLE, Int.reduceAdd, Int.reduceSub, Int.reduceNeg, Int.reduceMul, Int.reduceToNat, Nat.reduceSub, Nat.reduceMul, Nat.reduceLeDiff, Nat.reduceAdd, Nat.reduceLT, Nat.reduceEqDiff, reduceCtorEq, ↓reduceIte, rqs]
  refine call_by (s) (by rfl) (by simp) ?_
  simp (disch := omega) only [wk, tis, Int.reduceNe, Int.reduceEq, Int.reduceLT, Int.reduceLE, Int.reduceAdd, Int.reduceSub, Int.reduceNeg, Int.reduceMul, Int.reduceToNat, Nat.reduceSub, Nat.reduceMul, Nat.reduceLeDiff, Nat.reduceAdd, Nat.reduceLT, Nat.reduceEqDiff, reduceCtorEq, ↓reduceIte, rqs]
  try rfl

theorem qv_div {a b : RQ} (h0 : nv a.2 ≠ 0) (h1 : nv b.2 ≠ 0) (h2 : iv b.1 ≠ 0) : ((iv a.1 * nv b.2 : Int) : Rat) / ((iv b.1 * nv a.2 : Int) : Rat) = qv a / qv b := by
  rw [qv_eq, qv_eq, Rat.intCast_mul, Rat.intCast_mul, Rat.intCast_natCast, Rat.intCast_natCast]
  have e0 : (nv a.2 : Rat) ≠ 0 := fun h => h0 (Rat.natCast_eq_zero_iff.mp h)
  have e1 : (nv b.2 : Rat) ≠ 0 := fun h => h1 (Rat.natCast_eq_zero_iff.mp h)
  have e2 : (iv b.1 : Rat) ≠ 0 := fun h => h2 (Rat.intCast_eq_zero_iff.mp h)
  grind

theorem qquo_ok (a b : RQ) (ha : SzQ (2 ^ 35) a) (hb : SzQ (2 ^ 35) b) (h0 : nv a.2 ≠ 0) (h1 : nv b.2 ≠ 0) (h2 : iv b.1 ≠ 0) : AC Tryz.prog 130 [cqq a, cqq b] none [cqz (qv a / qv b), ci 0] := by
  have c := qchecks_two a b (ha.mono (by omega)) (hb.mono (by omega)) h0 h1
  have t1 := qtimes_ok a.1 b.2 (ha.1.mono (by omega)) ⟨Nat.le_trans hb.2.1 (by omega), hb.2.2⟩
  have t2 := qtimes_ok b.1 a.2 (hb.1.mono (by omega)) ⟨Nat.le_trans ha.2.1 (by omega), ha.2.2⟩
  have z1 := zl_mul (iv a.1) (nv b.2 : Nat)
  have z2 := zl_mul (iv b.1) (nv a.2 : Nat)
  have y1 := zl_iv ha.1
  have y2 := zl_iv hb.1
  have y3 := nt_zl ha.2
  have y4 := nt_zl hb.2
  have r := qmake_ok (canon (iv a.1 * (nv b.2 : Nat))) (canon (iv b.1 * (nv a.2 : Nat))) ((sz_canon _).mono (by omega)) ((sz_canon _).mono (by omega)) (by rw [iv_canon]; exact Int.mul_ne_zero h2 (by omega))
  rw [iv_canon, iv_canon, qv_div h0 h1 h2] at r
  refine AC.by_walk (rs := [.cell 4 31, .tmp 5]) ords Tryz.func130 (by rfl) (by rfl) (by rfl) (by rfl) (by rfl) ?_
  simp (disch := omega) only [wk, tis, Int.reduceNe, Int.reduceEq, Int.reduceLT, Int.reduceLE, Int.reduceAdd, Int.reduceSub, Int.reduceNeg, Int.reduceMul, Int.reduceToNat, Nat.reduceSub, Nat.reduceMul, Nat.reduceLeDiff, Nat.reduceAdd, Nat.reduceLT, Nat.reduceEqDiff, reduceCtorEq, ↓reduceIte, rqs, rats_two]
  refine call_by (c) (by first | rfl | (simp only [tocvs, tocv, rats_two]; rfl) | (simp only [tocvs, tocv, toboxes, tobox, updH_at, Nat.reduceEqDiff, ↓reduceIte, rats_two]; rfl)) (by simp) ?_
  simp (disch := omega) only [wk, tis, Int.reduceNe, Int.reduceEq, Int.reduceLT, Int.reduceLE, Int.reduceAdd, Int.reduceSub, Int.reduceNeg, Int.reduceMul, Int.reduceToNat, Nat.reduceSub, Nat.reduceMul, Nat.reduceLeDiff, Nat.reduceAdd, Nat.reduceLT, Nat.reduceEqDiff, reduceCtorEq, ↓reduceIte, rqs, rats_two]
  refine ⟨tmps_by (by kernel_rfl), ?_⟩
  refine call_by (t1) (by rfl) (by simp) ?_
  simp (disch := omega) only [wk, tis, Int.reduceNe, Int.reduceEq, Int.reduceLT, Int.reduceLE, Int.reduceAdd, Int.reduceSub, Int.reduceNeg, Int.reduceMul, Int.reduceToNat, Nat.reduceSub, Nat.reduceMul, Nat.reduceLeDiff, Nat.reduceAdd, Nat.reduceLT, Nat.reduceEqDiff, reduceCtorEq, ↓reduceIte, rqs]
  refine call_by (t2) (by rfl) (by simp) ?_
  simp (disch := omega) only [wk, tis, Int.reduceNe, Int.reduceEq, Int.reduceLT, Int.reduceLE, Int.reduceAdd, Int.reduceSub, Int.reduceNeg, Int.reduceMul, Int.reduceToNat, Nat.reduceSub, Nat.reduceMul, Nat.reduceLeDiff, Nat.reduceAdd, Nat.reduceLT, Nat.reduceEqDiff, reduceCtorEq, ↓reduceIte, rqs]
  refine call_by (r) (by rfl) (by simp) ?_
  simp (disch := omega) only [wk, tis, Int.reduceNe, Int.reduceEq, Int.reduceLT, Int.reduceLE, Int.reduceAdd, Int.reduceSub, Int.reduceNeg, Int.reduceMul, Int.reduceToNat, Nat.reduceSub, Nat.reduceMul, Nat.reduceLeDiff, Nat.reduceAdd, Nat.reduceLT, Nat.reduceEqDiff, reduceCtorEq, ↓reduceIte, rqs]
  first | exact log_by (by kernel_rfl) | refine ⟨log_by (by kernel_rfl), ?_⟩
  try rfl

theorem qnorm_ok (r : RQ) (h : SzQ (2 ^ 38) r) (h0 : nv r.2 ≠ 0) : AC Tryz.prog 115 [cqq r] none [cqz (qv r), ci 0] := by
  have c := qcheck_good r ⟨Nat.le_trans h.2.1 (by omega), h.2.2⟩ h0
  have m := qred_ok r.1 r.2 h.1 h.2 h0
  refine AC.by_walk (rs := [.cell 2 31, .tmp 3]) ords Tryz.func115 (by rfl) (by rfl) (by rfl) (by rfl) (by rfl) ?_
  simp (disch := omega) only [wk, tis, Int.reduceNe, Int.reduceEq, Int.reduceLT, Int.reduceLE, Int.reduceAdd, Int.reduceSub, Int.reduceNeg, Int.reduceMul, Int.reduceToNat, Nat.reduceSub, Nat.reduceMul, Nat.reduceLeDiff, Nat.reduceAdd, Nat.reduceLT, Nat.reduceEqDiff, reduceCtorEq, ↓reduceIte, rqs]
  refine call_by (c) (by rfl) (by simp) ?_
  simp (disch := omega) only [wk, tis, Int.reduceNe, Int.reduceEq, Int.reduceLT, Int.reduceLE, Int.reduceAdd, Int.reduceSub, Int.reduceNeg, Int.reduceMul, Int.reduceToNat, Nat.reduceSub, Nat.reduceMul, Nat.reduceLeDiff, Nat.reduceAdd, Nat.reduceLT, Nat.reduceEqDiff, reduceCtorEq, ↓reduceIte, rqs]
  refine call_by (m) (by rfl) (by simp) ?_
  simp (disch := omega) only [wk, tis, Int.reduceNe, Int.reduceEq, Int.reduceLT, Int.reduceLE, Int.reduceAdd, Int.reduceSub, Int.reduceNeg, Int.reduceMul, Int.reduceToNat, Nat.reduceSub, Nat.reduceMul, Nat.reduceLeDiff, Nat.reduceAdd, Nat.reduceLT, Nat.reduceEqDiff, reduceCtorEq, ↓reduceIte, rqs]
  try rfl

theorem qnorm_bad (r : RQ) (h : Nt (2 ^ 42) r.2) (h0 : nv r.2 = 0) : AC Tryz.prog 115 [cqq r] none [cqq q0, ci 1] := by
  have c := qcheck_bad r h h0
  refine AC.by_walk (rs := [.cell 2 31, .tmp 3]) ords Tryz.func115 (by rfl) (by rfl) (by rfl) (by rfl) (by rfl) ?_
  simp (disch := omega) only [wk, tis, Int.reduceNe, Int.reduceEq, Int.reduceLT, Int.reduceLE, Int.reduceAdd, Int.reduceSub, Int.reduceNeg, Int.reduceMul, Int.reduceToNat, Nat.reduceSub, Nat.reduceMul, Nat.reduceLeDiff, Nat.reduceAdd, Nat.reduceLT, Nat.reduceEqDiff, reduceCtorEq, ↓reduceIte, rqs]
  refine call_by (c) (by rfl) (by simp) ?_
  simp (disch := omega) only [wk, tis, Int.reduceNe, Int.reduceEq, Int.reduceLT, Int.reduceLE, Int.reduceAdd, Int.reduceSub, Int.reduceNeg, Int.reduceMul, Int.reduceToNat, Nat.reduceSub, Nat.reduceMul, Nat.reduceLeDiff, Nat.reduceAdd, Nat.reduceLT, Nat.reduceEqDiff, reduceCtorEq, ↓reduceIte, rqs]
  try rfl

theorem qsign_ok (r : RQ) (h : SzQ (2 ^ 38) r) (h0 : nv r.2 ≠ 0) : AC Tryz.prog 94 [cqq r] none [ci (iv r.1).sign, ci 0] := by
  have c := qcheck_good r ⟨Nat.le_trans h.2.1 (by omega), h.2.2⟩ h0
  have m := zsign_ok r.1 (h.1.mono (by omega))
  refine AC.by_walk (rs := [.tmp 2, .tmp 3]) ords Tryz.func94 (by rfl) (by rfl) (by rfl) (by rfl) (by rfl) ?_
  simp (disch := omega) only [wk, tis, Int.reduceNe, Int.reduceEq, Int.reduceLT, Int.reduceLE, Int.reduceAdd, Int.reduceSub, Int.reduceNeg, Int.reduceMul, Int.reduceToNat, Nat.reduceSub, Nat.reduceMul, Nat.reduceLeDiff, Nat.reduceAdd, Nat.reduceLT, Nat.reduceEqDiff, reduceCtorEq, ↓reduceIte, rqs]
  refine call_by (c) (by rfl) (by simp) ?_
  simp (disch := omega) only [wk, tis, Int.reduceNe, Int.reduceEq, Int.reduceLT, Int.reduceLE, Int.reduceAdd, Int.reduceSub, Int.reduceNeg, Int.reduceMul, Int.reduceToNat, Nat.reduceSub, Nat.reduceMul, Nat.reduceLeDiff, Nat.reduceAdd, Nat.reduceLT, Nat.reduceEqDiff, reduceCtorEq, ↓reduceIte, rqs]
  refine call_by (m) (by rfl) (by simp) ?_
  simp (disch := omega) only [wk, tis, Int.reduceNe, Int.reduceEq, Int.reduceLT, Int.reduceLE, Int.reduceAdd, Int.reduceSub, Int.reduceNeg, Int.reduceMul, Int.reduceToNat, Nat.reduceSub, Nat.reduceMul, Nat.reduceLeDiff, Nat.reduceAdd, Nat.reduceLT, Nat.reduceEqDiff, reduceCtorEq, ↓reduceIte, rqs]
  try rfl

theorem qof_ok (a b : Int) (ha : -9223372036854775808 ≤ a) (ha' : a ≤ 9223372036854775807) (hb : -9223372036854775808 ≤ b) (hb' : b ≤ 9223372036854775807) (h0 : b ≠ 0) : AC Tryz.prog 128 [ci a, ci b] none [cqz ((a : Rat) / (b : Rat)), ci 0] := by
  have z1 := zOf_ok a ha ha'
  have z2 := zOf_ok b hb hb'
  have s : ∀ x : Int, -9223372036854775808 ≤ x → x ≤ 9223372036854775807 → zl x ≤ 1 := fun x h1 h2 => zl_le.mpr (by rw [Nat.pow_one]; simp only [W]; omega)
  have r := qmake_ok (canon a) (canon b) ((sz_canon _).mono (Nat.le_trans (s a ha ha') (by omega))) ((sz_canon _).mono (Nat.le_trans (s b hb hb') (by omega))) (by rw [iv_canon]; exact h0)
  rw [iv_canon, iv_canon] at r
  refine AC.by_walk (rs := [.cell 4 31, .tmp 5]) ords Tryz.func128 (by rfl) (by rfl) (by rfl) (by rfl) (by rfl) ?_
  simp (disch := omega) only [wk, tis, Int.reduceNe, Int.reduceEq, Int.reduceLT, Int.reduceLE, Int.reduceAdd, Int.reduceSub, Int.reduceNeg, Int.reduceMul, Int.reduceToNat, Nat.reduceSub, Nat.reduceMul, Nat.reduceLeDiff, Nat.reduceAdd, Nat.reduceLT, Nat.reduceEqDiff, reduceCtorEq, ↓reduceIte, rqs]
  refine call_by (z1) (by rfl) (by simp) ?_
  simp (disch := omega) only [wk, tis, Int.reduceNe, Int.reduceEq, Int.reduceLT, Int.reduceLE, Int.reduceAdd, Int.reduceSub, Int.reduceNeg, Int.reduceMul, Int.reduceToNat, Nat.reduceSub, Nat.reduceMul, Nat.reduceLeDiff, Nat.reduceAdd, Nat.reduceLT, Nat.reduceEqDiff, reduceCtorEq, ↓reduceIte, rqs]
  refine call_by (z2) (by rfl) (by simp) ?_
  simp (disch := omega) only [wk, tis, Int.reduceNe, Int.reduceEq, Int.reduceLT, Int.reduceLE, Int.reduceAdd, Int.reduceSub, Int.reduceNeg, Int.reduceMul, Int.reduceToNat, Nat.reduceSub, Nat.reduceMul, Nat.reduceLeDiff, Nat.reduceAdd, Nat.reduceLT, Nat.reduceEqDiff, reduceCtorEq, ↓reduceIte, rqs]
  refine call_by (r) (by rfl) (by simp) ?_
  simp (disch := omega) only [wk, tis, Int.reduceNe, Int.reduceEq, Int.reduceLT, Int.reduceLE, Int.reduceAdd, Int.reduceSub, Int.reduceNeg, Int.reduceMul, Int.reduceToNat, Nat.reduceSub, Nat.reduceMul, Nat.reduceLeDiff, Nat.reduceAdd, Nat.reduceLT, Nat.reduceEqDiff, reduceCtorEq, ↓reduceIte, rqs]
  try rfl

theorem ewhole_ok (n : Int) (h : -9223372036854775808 ≤ n) (h' : n ≤ 9223372036854775807) : AC Tryz.prog 82 [ci n] none [cqz (n : Rat)] := by
  have z := zOf_ok n h h'
  rw [show cqz (n : Rat) = cqq (canon n, [1]) from congrArg cqq (crat_int n)]
  refine AC.by_walk (rs := [.cell 2 31]) ords Tryz.func82 (by rfl) (by rfl) (by rfl) (by rfl) (by rfl) ?_
  simp (disch := omega) only [wk, tis, Int.reduceNe, Int.reduceEq, Int.reduceLT, Int.reduceLE, Int.reduceAdd, Int.reduceSub, Int.reduceNeg, Int.reduceMul, Int.reduceToNat, Nat.reduceSub, Nat.reduceMul, Nat.reduceLeDiff, Nat.reduceAdd, Nat.reduceLT, Nat.reduceEqDiff, reduceCtorEq, ↓reduceIte, rqs]
  refine call_by (z) (by rfl) (by simp) ?_
  simp (disch := omega) only [wk, tis, Int.reduceNe, Int.reduceEq, Int.reduceLT, Int.reduceLE, Int.reduceAdd, Int.reduceSub, Int.reduceNeg, Int.reduceMul, Int.reduceToNat, Nat.reduceSub, Nat.reduceMul, Nat.reduceLeDiff, Nat.reduceAdd, Nat.reduceLT, Nat.reduceEqDiff, reduceCtorEq, ↓reduceIte, rqs]
  try rfl
end Go.Proofs.YtjadkhkgmdikiaaGreat

namespace Go.Proofs.YtjadkhkgmdikiaaGreat
open Go Go.Proofs Go.AL
set_option linter.unusedSimpArgs false
set_option linter.unusedVariables false

/-! ### Values of integer polynomials -/
theorem zl_pow {a : Int} {K : Nat} (h : zl a ≤ K) (i : Nat) : zl (a ^ i) ≤ i * K + 1 := by
  induction i with
  | zero => rw [Int.pow_zero]; have : zl 1 ≤ 1 := zl_le.mpr (by decide); omega
  | succ i ih =>
    rw [Int.pow_succ]
    have := zl_mul (a ^ i) a
    rw [Nat.succ_mul]
    omega


theorem zl_pow_b {a : Int} (h : zl a ≤ 2 ^ 20) {i : Nat} (hi : i ≤ 2 ^ 10) : zl (a ^ i) ≤ 2 ^ 31 := by
  have h1 := zl_pow h i
  have h2 : i * 2 ^ 20 ≤ 2 ^ 10 * 2 ^ 20 := Nat.mul_le_mul_right _ hi
  have h3 : (2 ^ 10 * 2 ^ 20 : Nat) = 2 ^ 30 := by decide
  omega


/-- A value at an integer. -/
def ev : List Int → Int → Int
  | [], _ => 0
  | c :: p, t => c + t * ev p t

/-- The sum of c_i * a^i * b^(n-1-i). -/
def ihom : List Int → Int → Int → Int
  | [], _, _ => 0
  | c :: p, a, b => c * b ^ p.length + a * ihom p a b

theorem zl_ev {K kt : Nat} {t : Int} (ht : zl t ≤ kt) : ∀ {p : List Int}, (∀ z ∈ p, zl z ≤ K) → zl (ev p t) ≤ K + p.length * (kt + 1)
  | [], _ => by rw [ev, zl_zero]; omega
  | c :: p, h => by
    have ih := zl_ev (p := p) ht fun z hz => h z (List.mem_cons_of_mem _ hz)
    have h1 := zl_add c (t * ev p t)
    have h2 := zl_mul t (ev p t)
    have h3 := h c (by simp)
    rw [ev, List.length_cons, Nat.succ_mul]
    omega

theorem zl_ihom {K k : Nat} {a b : Int} (ha : zl a ≤ k) (hb : zl b ≤ k) : ∀ {p : List Int}, (∀ z ∈ p, zl z ≤ K) → zl (ihom p a b) ≤ K + p.length * (k + 1) + 1
  | [], _ => by rw [ihom, zl_zero]; omega
  | c :: p, h => by
    have ih := zl_ihom (p := p) ha hb fun z hz => h z (List.mem_cons_of_mem _ hz)
    have h1 := zl_add (c * b ^ p.length) (a * ihom p a b)
    have h2 := zl_mul a (ihom p a b)
    have h3 := h c (by simp)
    have h4 := zl_mul c (b ^ p.length)
    have h5 := zl_pow hb p.length
    rw [ihom, List.length_cons, Nat.succ_mul]
    rw [Nat.mul_succ] at ih ⊢
    omega


theorem iv_sgn (c : RI) : iv c = sg c.1 (nv c.2) := rfl
theorem drop_cf (q : List Int) {i : Nat} (h : i < q.length) : q.drop i = cf q i :: q.drop (i + 1) := by
  rw [List.drop_eq_getElem_cons h]
  simp [cf, List.getD, h]


end Go.Proofs.YtjadkhkgmdikiaaGreat

namespace Go.Proofs.YtjadkhkgmdikiaaGreat
open Go Go.Proofs Go.AL
set_option linter.unusedSimpArgs false
set_option linter.unusedVariables false

theorem zl_w {x : Int} (h : x.natAbs < W) : zl x ≤ 1 := zl_le.mpr (by rwa [Nat.pow_one])
theorem wd_w {d : Nat} (h : d < W) : (wd d).length ≤ 1 := wd_len_le.mpr (by rwa [Nat.pow_one])

theorem hok_ok (r : RQ) (h : Nt (2 ^ 40) r.2) : AC Tryz.prog 54 [cqq r] none [cb (decide (nv r.2 ≠ 0))] := by
  have z := rZero_ok r.2 h.2 h.1
  refine AC.by_walk (rs := [.tmp 2]) ords Tryz.func54 (by rfl) (by rfl) (by rfl) (by rfl) (by rfl) ?_
  simp (disch := omega) only [wk, tis, Int.reduceNe, Int.reduceEq, Int.reduceLT, Int.reduceLE, Int.reduceAdd, Int.reduceSub, Int.reduceNeg, Int.reduceMul, Int.reduceToNat, Nat.reduceSub, Nat.reduceMul, Nat.reduceLeDiff, Nat.reduceAdd, Nat.reduceLT, Nat.reduceEqDiff, reduceCtorEq, ↓reduceIte, rqs]
  refine call_by (z) (by rfl) (by simp) ?_
  simp (disch := omega) only [wk, tis, Int.reduceNe, Int.reduceEq, Int.reduceLT, Int.reduceLE, Int.reduceAdd, Int.reduceSub, Int.reduceNeg, Int.reduceMul, Int.reduceToNat, Nat.reduceSub, Nat.reduceMul, Nat.reduceLeDiff, Nat.reduceAdd, Nat.reduceLT, Nat.reduceEqDiff, reduceCtorEq, ↓reduceIte, rqs]
  try rfl
  try simp

theorem hS_ok (r : RQ) (h : Sz (2 ^ 40) r.1) : AC Tryz.prog 66 [cqq r] none [ci (iv r.1).sign] := by
  have z := rSign_ok r.1 h
  refine AC.by_walk (rs := [.tmp 2]) ords Tryz.func66 (by rfl) (by rfl) (by rfl) (by rfl) (by rfl) ?_
  simp (disch := omega) only [wk, tis, Int.reduceNe, Int.reduceEq, Int.reduceLT, Int.reduceLE, Int.reduceAdd, Int.reduceSub, Int.reduceNeg, Int.reduceMul, Int.reduceToNat, Nat.reduceSub, Nat.reduceMul, Nat.reduceLeDiff, Nat.reduceAdd, Nat.reduceLT, Nat.reduceEqDiff, reduceCtorEq, ↓reduceIte, rqs]
  refine call_by (z) (by rfl) (by simp) ?_
  simp (disch := omega) only [wk, tis, Int.reduceNe, Int.reduceEq, Int.reduceLT, Int.reduceLE, Int.reduceAdd, Int.reduceSub, Int.reduceNeg, Int.reduceMul, Int.reduceToNat, Nat.reduceSub, Nat.reduceMul, Nat.reduceLeDiff, Nat.reduceAdd, Nat.reduceLT, Nat.reduceEqDiff, reduceCtorEq, ↓reduceIte, rqs]
  try rfl

theorem hZ_ok (n : RI) (h : Sz (2 ^ 38) n) : AC Tryz.prog 96 [cr n] none [cqz (iv n : Rat)] := by
  have w := rword_ok 1 (by omega)
  have hw : (wd 1).length ≤ 2 ^ 38 := by decide +kernel
  have r := rR_ok n (wd 1) h ⟨hw, lim_wd _⟩ (by rw [nv_wd]; omega)
  rw [nv_wd, Rat.mkRat_one] at r
  refine AC.by_walk (rs := [.cell 2 31]) ords Tryz.func96 (by rfl) (by rfl) (by rfl) (by rfl) (by rfl) ?_
  simp (disch := omega) only [wk, tis, Int.reduceNe, Int.reduceEq, Int.reduceLT, Int.reduceLE, Int.reduceAdd, Int.reduceSub, Int.reduceNeg, Int.reduceMul, Int.reduceToNat, Nat.reduceSub, Nat.reduceMul, Nat.reduceLeDiff, Nat.reduceAdd, Nat.reduceLT, Nat.reduceEqDiff, reduceCtorEq, ↓reduceIte, rqs]
  refine ⟨tmps_by (by kernel_rfl), ?_⟩
  refine call_by (w) (by rfl) (by simp) ?_
  simp (disch := omega) only [wk, tis, Int.reduceNe, Int.reduceEq, Int.reduceLT, Int.reduceLE, Int.reduceAdd, Int.reduceSub, Int.reduceNeg, Int.reduceMul, Int.reduceToNat, Nat.reduceSub, Nat.reduceMul, Nat.reduceLeDiff, Nat.reduceAdd, Nat.reduceLT, Nat.reduceEqDiff, reduceCtorEq, ↓reduceIte, rqs]
  refine call_by (r) (by rfl) (by simp) ?_
  simp (disch := omega) only [wk, tis, Int.reduceNe, Int.reduceEq, Int.reduceLT, Int.reduceLE, Int.reduceAdd, Int.reduceSub, Int.reduceNeg, Int.reduceMul, Int.reduceToNat, Nat.reduceSub, Nat.reduceMul, Nat.reduceLeDiff, Nat.reduceAdd, Nat.reduceLT, Nat.reduceEqDiff, reduceCtorEq, ↓reduceIte, rqs]
  first | exact log_by (by kernel_rfl) | refine ⟨log_by (by kernel_rfl), ?_⟩
  try rfl

theorem hP_ok (n : Int) (d : Nat) (h : -9223372036854775808 < n) (h' : n < 9223372036854775808) (hd : d < 9223372036854775808) (h0 : d ≠ 0) : AC Tryz.prog 48 [ci n, ci d] none [cqz ((n : Rat) / (d : Rat))] := by
  have z := rZ_ok n h h'
  have w := rword_ok d hd
  have hz : zl n ≤ 2 ^ 38 := Nat.le_trans (zl_w (by simp only [W]; omega)) (by omega)
  have hw : (wd d).length ≤ 2 ^ 38 := Nat.le_trans (wd_w (by simp only [W]; omega)) (by omega)
  have r := rR_ok (canon n) (wd d) ((sz_canon _).mono hz) ⟨hw, lim_wd _⟩ (by rw [nv_wd]; exact h0)
  rw [iv_canon, nv_wd, Rat.mkRat_eq_div] at r
  refine AC.by_walk (rs := [.cell 4 31]) ords Tryz.func48 (by rfl) (by rfl) (by rfl) (by rfl) (by rfl) ?_
  simp (disch := omega) only [wk, tis, Int.reduceNe, Int.reduceEq, Int.reduceLT, Int.reduceLE, Int.reduceAdd, Int.reduceSub, Int.reduceNeg, Int.reduceMul, Int.reduceToNat, Nat.reduceSub, Nat.reduceMul, Nat.reduceLeDiff, Nat.reduceAdd, Nat.reduceLT, Nat.reduceEqDiff, reduceCtorEq, ↓reduceIte, rqs]
  refine call_by (z) (by rfl) (by simp) ?_
  simp (disch := omega) only [wk, tis, Int.reduceNe, Int.reduceEq, Int.reduceLT, Int.reduceLE, Int.reduceAdd, Int.reduceSub, Int.reduceNeg, Int.reduceMul, Int.reduceToNat, Nat.reduceSub, Nat.reduceMul, Nat.reduceLeDiff, Nat.reduceAdd, Nat.reduceLT, Nat.reduceEqDiff, reduceCtorEq, ↓reduceIte, rqs]
  refine call_by (w) (by rfl) (by simp) ?_
  simp (disch := omega) only [wk, tis, Int.reduceNe, Int.reduceEq, Int.reduceLT, Int.reduceLE, Int.reduceAdd, Int.reduceSub, Int.reduceNeg, Int.reduceMul, Int.reduceToNat, Nat.reduceSub, Nat.reduceMul, Nat.reduceLeDiff, Nat.reduceAdd, Nat.reduceLT, Nat.reduceEqDiff, reduceCtorEq, ↓reduceIte, rqs]
  refine call_by (r) (by rfl) (by simp) ?_
  simp (disch := omega) only [wk, tis, Int.reduceNe, Int.reduceEq, Int.reduceLT, Int.reduceLE, Int.reduceAdd, Int.reduceSub, Int.reduceNeg, Int.reduceMul, Int.reduceToNat, Nat.reduceSub, Nat.reduceMul, Nat.reduceLeDiff, Nat.reduceAdd, Nat.reduceLT, Nat.reduceEqDiff, reduceCtorEq, ↓reduceIte, rqs]
  try rfl

theorem hplus_ok (a b : RQ) (ha : SzQ (2 ^ 35) a) (hb : SzQ (2 ^ 35) b) (h0 : nv a.2 ≠ 0) (h1 : nv b.2 ≠ 0) : AC Tryz.prog 55 [cqq a, cqq b] none [cqz (qv a + qv b)] := by
  have z1 := zl_mul (iv a.1) (nv b.2 : Nat)
  have z2 := zl_mul (iv b.1) (nv a.2 : Nat)
  have y1 := zl_iv ha.1
  have y2 := zl_iv hb.1
  have y3 := nt_zl ha.2
  have y4 := nt_zl hb.2
  have i1 := rI_ok false b.2 hb.2.2 (Nat.le_trans hb.2.1 (by omega))
  have i2 := rI_ok false a.2 ha.2.2 (Nat.le_trans ha.2.1 (by omega))
  rw [sgf] at i1 i2
  have t1 := rMul_ok a.1 (canon (nv b.2 : Nat)) (ha.1.mono (by omega)) ((sz_canon _).mono (by omega))
  have t2 := rMul_ok b.1 (canon (nv a.2 : Nat)) (hb.1.mono (by omega)) ((sz_canon _).mono (by omega))
  rw [iv_canon] at t1 t2
  have z3 := zl_add (iv a.1 * (nv b.2 : Nat)) (iv b.1 * (nv a.2 : Nat))
  have s := rAdd_ok (canon (iv a.1 * (nv b.2 : Nat))) (canon (iv b.1 * (nv a.2 : Nat))) ((sz_canon _).mono (by omega)) ((sz_canon _).mono (by omega))
  rw [iv_canon, iv_canon] at s
  have m := rTimes_ok a.2 b.2 ha.2.2 hb.2.2 (Nat.le_trans ha.2.1 (by omega)) (Nat.le_trans hb.2.1 (by omega))
  have hw : (wd (nv a.2 * nv b.2)).length ≤ 2 ^ 35 + 2 ^ 35 := wd_len2 y3 y4
  have r := rR_ok (canon (iv a.1 * (nv b.2 : Nat) + iv b.1 * (nv a.2 : Nat))) (wd (nv a.2 * nv b.2)) ((sz_canon _).mono (by omega)) ⟨by omega, lim_wd _⟩ (by rw [nv_wd]; exact Nat.mul_ne_zero h0 h1)
  rw [iv_canon, nv_wd, mk_add h0 h1] at r
  refine AC.by_walk (rs := [.cell 4 31]) ords Tryz.func55 (by rfl) (by rfl) (by rfl) (by rfl) (by rfl) ?_
  simp (disch := omega) only [wk, tis, Int.reduceNe, Int.reduceEq, Int.reduceLT, Int.reduceLE, Int.reduceAdd, Int.reduceSub, Int.reduceNeg, Int.reduceMul, Int.reduceToNat, Nat.reduceSub, Nat.reduceMul, Nat.reduceLeDiff, Nat.reduceAdd, Nat.reduceLT, Nat.reduceEqDiff, reduceCtorEq, ↓reduceIte, rqs]
  refine ⟨tmps_by (by kernel_rfl), ?_⟩
  refine call_by (i1) (by rfl) (by simp) ?_
  simp (disch := omega) only [wk, tis, Int.reduceNe, Int.reduceEq, Int.reduceLT, Int.reduceLE, Int.reduceAdd, Int.reduceSub, Int.reduceNeg, Int.reduceMul, Int.reduceToNat, Nat.reduceSub, Nat.reduceMul, Nat.reduceLeDiff, Nat.reduceAdd, Nat.reduceLT, Nat.reduceEqDiff, reduceCtorEq, ↓reduceIte, rqs]
  refine call_by (t1) (by rfl) (by simp) ?_
  simp (disch := omega) only [wk, tis, Int.reduceNe, Int.reduceEq, Int.reduceLT, Int.reduceLE, Int.reduceAdd, Int.reduceSub, Int.reduceNeg, Int.reduceMul, Int.reduceToNat, Nat.reduceSub, Nat.reduceMul, Nat.reduceLeDiff, Nat.reduceAdd, Nat.reduceLT, Nat.reduceEqDiff, reduceCtorEq, ↓reduceIte, rqs]
  refine call_by (i2) (by rfl) (by simp) ?_
  simp (disch := omega) only [wk, tis, Int.reduceNe, Int.reduceEq, Int.reduceLT, Int.reduceLE, Int.reduceAdd, Int.reduceSub, Int.reduceNeg, Int.reduceMul, Int.reduceToNat, Nat.reduceSub, Nat.reduceMul, Nat.reduceLeDiff, Nat.reduceAdd, Nat.reduceLT, Nat.reduceEqDiff, reduceCtorEq, ↓reduceIte, rqs]
  refine call_by (t2) (by rfl) (by simp) ?_
  simp (disch := omega) only [wk, tis, Int.reduceNe, Int.reduceEq, Int.reduceLT, Int.reduceLE, Int.reduceAdd, Int.reduceSub, Int.reduceNeg, Int.reduceMul, Int.reduceToNat, Nat.reduceSub, Nat.reduceMul, Nat.reduceLeDiff, Nat.reduceAdd, Nat.reduceLT, Nat.reduceEqDiff, reduceCtorEq, ↓reduceIte, rqs]
  refine call_by (s) (by rfl) (by simp) ?_
  simp (disch := omega) only [wk, tis, Int.reduceNe, Int.reduceEq, Int.reduceLT, Int.reduceLE, Int.reduceAdd, Int.reduceSub, Int.reduceNeg, Int.reduceMul, Int.reduceToNat, Nat.reduceSub, Nat.reduceMul, Nat.reduceLeDiff, Nat.reduceAdd, Nat.reduceLT, Nat.reduceEqDiff, reduceCtorEq, ↓reduceIte, rqs]
  refine call_by (m) (by rfl) (by simp) ?_
  simp (disch := omega) only [wk, tis, Int.reduceNe, Int.reduceEq, Int.reduceLT, Int.reduceLE, Int.reduceAdd, Int.reduceSub, Int.reduceNeg, Int.reduceMul, Int.reduceToNat, Nat.reduceSub, Nat.reduceMul, Nat.reduceLeDiff, Nat.reduceAdd, Nat.reduceLT, Nat.reduceEqDiff, reduceCtorEq, ↓reduceIte, rqs]
  refine call_by (r) (by rfl) (by simp) ?_
  simp (disch := omega) only [wk, tis, Int.reduceNe, Int.reduceEq, Int.reduceLT, Int.reduceLE, Int.reduceAdd, Int.reduceSub, Int.reduceNeg, Int.reduceMul, Int.reduceToNat, Nat.reduceSub, Nat.reduceMul, Nat.reduceLeDiff, Nat.reduceAdd, Nat.reduceLT, Nat.reduceEqDiff, reduceCtorEq, ↓reduceIte, rqs]
  first | exact log_by (by kernel_rfl) | refine ⟨log_by (by kernel_rfl), ?_⟩
  try rfl

theorem htimes_ok (a b : RQ) (ha : SzQ (2 ^ 35) a) (hb : SzQ (2 ^ 35) b) (h0 : nv a.2 ≠ 0) (h1 : nv b.2 ≠ 0) : AC Tryz.prog 56 [cqq a, cqq b] none [cqz (qv a * qv b)] := by
  have z1 := zl_mul (iv a.1) (iv b.1)
  have y1 := zl_iv ha.1
  have y2 := zl_iv hb.1
  have y3 := nt_zl ha.2
  have y4 := nt_zl hb.2
  have s := rMul_ok a.1 b.1 (ha.1.mono (by omega)) (hb.1.mono (by omega))
  have m := rTimes_ok a.2 b.2 ha.2.2 hb.2.2 (Nat.le_trans ha.2.1 (by omega)) (Nat.le_trans hb.2.1 (by omega))
  have hw : (wd (nv a.2 * nv b.2)).length ≤ 2 ^ 35 + 2 ^ 35 := wd_len2 y3 y4
  have r := rR_ok (canon (iv a.1 * iv b.1)) (wd (nv a.2 * nv b.2)) ((sz_canon _).mono (by omega)) ⟨by omega, lim_wd _⟩ (by rw [nv_wd]; exact Nat.mul_ne_zero h0 h1)
  rw [iv_canon, nv_wd, mk_mul] at r
  refine AC.by_walk (rs := [.cell 4 31]) ords Tryz.func56 (by rfl) (by rfl) (by rfl) (by rfl) (by rfl) ?_
  simp (disch := omega) only [wk, tis, Int.reduceNe, Int.reduceEq, Int.reduceLT, Int.reduceLE, Int.reduceAdd, Int.reduceSub, Int.reduceNeg, Int.reduceMul, Int.reduceToNat, Nat.reduceSub, Nat.reduceMul, Nat.reduceLeDiff, Nat.reduceAdd, Nat.reduceLT, Nat.reduceEqDiff, reduceCtorEq, ↓reduceIte, rqs]
  refine ⟨tmps_by (by kernel_rfl), ?_⟩
  refine call_by (s) (by rfl) (by simp) ?_
  simp (disch := omega) only [wk, tis, Int.reduceNe, Int.reduceEq, Int.reduceLT, Int.reduceLE, Int.reduceAdd, Int.reduceSub, Int.reduceNeg, Int.reduceMul, Int.reduceToNat, Nat.reduceSub, Nat.reduceMul, Nat.reduceLeDiff, Nat.reduceAdd, Nat.reduceLT, Nat.reduceEqDiff, reduceCtorEq, ↓reduceIte, rqs]
  refine call_by (m) (by rfl) (by simp) ?_
  simp (disch := omega) only [wk, tis, Int.reduceNe, Int.reduceEq, Int.reduceLT, Int.reduceLE, Int.reduceAdd, Int.reduceSub, Int.reduceNeg, Int.reduceMul, Int.reduceToNat, Nat.reduceSub, Nat.reduceMul, Nat.reduceLeDiff, Nat.reduceAdd, Nat.reduceLT, Nat.reduceEqDiff, reduceCtorEq, ↓reduceIte, rqs]
  refine call_by (r) (by rfl) (by simp) ?_
  simp (disch := omega) only [wk, tis, Int.reduceNe, Int.reduceEq, Int.reduceLT, Int.reduceLE, Int.reduceAdd, Int.reduceSub, Int.reduceNeg, Int.reduceMul, Int.reduceToNat, Nat.reduceSub, Nat.reduceMul, Nat.reduceLeDiff, Nat.reduceAdd, Nat.reduceLT, Nat.reduceEqDiff, reduceCtorEq, ↓reduceIte, rqs]
  first | exact log_by (by kernel_rfl) | refine ⟨log_by (by kernel_rfl), ?_⟩
  try rfl

theorem over_raw {a b : RQ} (h0 : nv a.2 ≠ 0) (h1 : nv b.2 ≠ 0) (h2 : iv b.1 ≠ 0) : mkRat (iv a.1 * sg b.1.1 (nv b.2)) (nv a.2 * nv b.1.2) = qv a / qv b := by
  rw [qv_eq, qv_eq, Rat.mkRat_eq_div, Rat.intCast_mul, Rat.natCast_mul]
  have e0 : (nv a.2 : Rat) ≠ 0 := fun h => h0 (Rat.natCast_eq_zero_iff.mp h)
  have e1 : (nv b.2 : Rat) ≠ 0 := fun h => h1 (Rat.natCast_eq_zero_iff.mp h)
  have e2 : (nv b.1.2 : Rat) ≠ 0 := fun h => h2 (by rw [iv_sg, Rat.natCast_eq_zero_iff.mp h]; cases b.1.1 <;> rfl)
  have e3 : (iv b.1 : Rat) = if b.1.1 then -(nv b.1.2 : Rat) else (nv b.1.2 : Rat) := by
    unfold iv
    split
    · rw [Rat.intCast_neg, Rat.intCast_natCast]
    · rw [Rat.intCast_natCast]
  have e4 : ((sg b.1.1 (nv b.2) : Int) : Rat) = if b.1.1 then -(nv b.2 : Rat) else (nv b.2 : Rat) := by
    unfold sg
    split
    · rw [Rat.intCast_neg, Rat.intCast_natCast]
    · rw [Rat.intCast_natCast]
  rw [e3, e4]
  split <;> grind

theorem hover_ok (a b : RQ) (ha : SzQ (2 ^ 35) a) (hb : SzQ (2 ^ 35) b) (h0 : nv a.2 ≠ 0) (h1 : nv b.2 ≠ 0) (h2 : iv b.1 ≠ 0) : AC Tryz.prog 74 [cqq a, cqq b] none [cqz (qv a / qv b)] := by
  have i1 := rI_ok b.1.1 b.2 hb.2.2 (Nat.le_trans hb.2.1 (by omega))
  have y1 := zl_iv ha.1
  have y3 := nt_zl ha.2
  have y4 : zl (sg b.1.1 (nv b.2)) ≤ 2 ^ 35 := by rw [zl_sg]; exact nt_zl hb.2
  have y5 : (wd (nv b.1.2)).length ≤ 2 ^ 35 := Nat.le_trans (nv_len hb.1.2) hb.1.1
  have z1 := zl_mul (iv a.1) (sg b.1.1 (nv b.2))
  have s := rMul_ok a.1 (canon (sg b.1.1 (nv b.2))) (ha.1.mono (by omega)) ((sz_canon _).mono (by omega))
  rw [iv_canon] at s
  have m := rTimes_ok a.2 b.1.2 ha.2.2 hb.1.2 (Nat.le_trans ha.2.1 (by omega)) (Nat.le_trans hb.1.1 (by omega))
  have hw : (wd (nv a.2 * nv b.1.2)).length ≤ 2 ^ 35 + 2 ^ 35 := wd_len2 y3 y5
  have hn : nv b.1.2 ≠ 0 := fun h => h2 (by rw [iv_sg, h]; cases b.1.1 <;> rfl)
  have r := rR_ok (canon (iv a.1 * sg b.1.1 (nv b.2))) (wd (nv a.2 * nv b.1.2)) ((sz_canon _).mono (by omega)) ⟨by omega, lim_wd _⟩ (by rw [nv_wd]; exact Nat.mul_ne_zero h0 hn)
  rw [iv_canon, nv_wd, over_raw h0 h1 h2] at r
  refine AC.by_walk (rs := [.cell 4 31]) ords Tryz.func74 (by rfl) (by rfl) (by rfl) (by rfl) (by rfl) ?_
  simp (disch := omega) only [wk, tis, Int.reduceNe, Int.reduceEq, Int.reduceLT, Int.reduceLE, Int.reduceAdd, Int.reduceSub, Int.reduceNeg, Int.reduceMul, Int.reduceToNat, Nat.reduceSub, Nat.reduceMul, Nat.reduceLeDiff, Nat.reduceAdd, Nat.reduceLT, Nat.reduceEqDiff, reduceCtorEq, ↓reduceIte, rqs]
  refine ⟨tmps_by (by kernel_rfl), ?_⟩
  refine call_by (i1) (by rfl) (by simp) ?_
  simp (disch := omega) only [wk, tis, Int.reduceNe, Int.reduceEq, Int.reduceLT, Int.reduceLE, Int.reduceAdd, Int.reduceSub, Int.reduceNeg, Int.reduceMul, Int.reduceToNat, Nat.reduceSub, Nat.reduceMul, Nat.reduceLeDiff, Nat.reduceAdd, Nat.reduceLT, Nat.reduceEqDiff, reduceCtorEq, ↓reduceIte, rqs]
  refine call_by (s) (by rfl) (by simp) ?_
  simp (disch := omega) only [wk, tis, Int.reduceNe, Int.reduceEq, Int.reduceLT, Int.reduceLE, Int.reduceAdd, Int.reduceSub, Int.reduceNeg, Int.reduceMul, Int.reduceToNat, Nat.reduceSub, Nat.reduceMul, Nat.reduceLeDiff, Nat.reduceAdd, Nat.reduceLT, Nat.reduceEqDiff, reduceCtorEq, ↓reduceIte, rqs]
  refine call_by (m) (by rfl) (by simp) ?_
  simp (disch := omega) only [wk, tis, Int.reduceNe, Int.reduceEq, Int.reduceLT, Int.reduceLE, Int.reduceAdd, Int.reduceSub, Int.reduceNeg, Int.reduceMul, Int.reduceToNat, Nat.reduceSub, Nat.reduceMul, Nat.reduceLeDiff, Nat.reduceAdd, Nat.reduceLT, Nat.reduceEqDiff, reduceCtorEq, ↓reduceIte, rqs]
  refine call_by (r) (by rfl) (by simp) ?_
  simp (disch := omega) only [wk, tis, Int.reduceNe, Int.reduceEq, Int.reduceLT, Int.reduceLE, Int.reduceAdd, Int.reduceSub, Int.reduceNeg, Int.reduceMul, Int.reduceToNat, Nat.reduceSub, Nat.reduceMul, Nat.reduceLeDiff, Nat.reduceAdd, Nat.reduceLT, Nat.reduceEqDiff, reduceCtorEq, ↓reduceIte, rqs]
  first | exact log_by (by kernel_rfl) | refine ⟨log_by (by kernel_rfl), ?_⟩
  try rfl

theorem hsame_ok (a b : RQ) (ha : SzQ (2 ^ 43) a) (hb : SzQ (2 ^ 43) b) : AC Tryz.prog 15 [cqq a, cqq b] none [cb (decide (a = b))] := by
  have s := rSameInt_ok a.1 b.1 ha.1.1 hb.1.1
  have t := rSame_ok a.2 b.2 ha.2.1 hb.2.1
  refine AC.by_walk (rs := [.tmp 4]) ords Tryz.func15 (by rfl) (by rfl) (by rfl) (by rfl) (by rfl) ?_
  simp (disch := omega) only [wk, tis, Int.reduceNe, Int.reduceEq, Int.reduceLT, Int.reduceLE, Int.reduceAdd, Int.reduceSub, Int.reduceNeg, Int.reduceMul, Int.reduceToNat, Nat.reduceSub, Nat.reduceMul, Nat.reduceLeDiff, Nat.reduceAdd, Nat.reduceLT, Nat.reduceEqDiff, reduceCtorEq, ↓reduceIte, rqs]
  refine call_by (s) (by rfl) (by simp) ?_
  simp (disch := omega) only [wk, tis, Int.reduceNe, Int.reduceEq, Int.reduceLT, Int.reduceLE, Int.reduceAdd, Int.reduceSub, Int.reduceNeg, Int.reduceMul, Int.reduceToNat, Nat.reduceSub, Nat.reduceMul, Nat.reduceLeDiff, Nat.reduceAdd, Nat.reduceLT, Nat.reduceEqDiff, reduceCtorEq, ↓reduceIte, rqs]
  by_cases h1 : a.1 = b.1
  · simp (disch := omega) only [wk, tis, Int.reduceNe, Int.reduceEq, Int.reduceLT, Int.reduceLE, Int.reduceAdd, Int.reduceSub, Int.reduceNeg, Int.reduceMul, Int.reduceToNat, Nat.reduceSub, Nat.reduceMul, Nat.reduceLeDiff, Nat.reduceAdd, Nat.reduceLT, Nat.reduceEqDiff, reduceCtorEq, ↓reduceIte, rqs, h1]
    by_cases h2 : a.2 = b.2
    · have e : a = b := Prod.ext h1 h2
      subst e
      refine call_by (t) (by rfl) (by simp) ?_
      simp (disch := omega) only [wk, tis, Int.reduceNe, Int.reduceEq, Int.reduceLT, Int.reduceLE, Int.reduceAdd, Int.reduceSub, Int.reduceNeg, Int.reduceMul, Int.reduceToNat, Nat.reduceSub, Nat.reduceMul, Nat.reduceLeDiff, Nat.reduceAdd, Nat.reduceLT, Nat.reduceEqDiff, reduceCtorEq, ↓reduceIte, rqs]
      try rfl
    · have e : ¬ a = b := fun h => h2 (by rw [h])
      refine call_by (t) (by first | rfl | (simp only [tocvs, tocv, h1, h2, e]; rfl) | (simp only [tocvs, tocv, toboxes, tobox, updH_at, Nat.reduceEqDiff, ↓reduceIte, h1, h2, e]; rfl)) (by simp) ?_
      simp (disch := omega) only [wk, tis, Int.reduceNe, Int.reduceEq, Int.reduceLT, Int.reduceLE, Int.reduceAdd, Int.reduceSub, Int.reduceNeg, Int.reduceMul, Int.reduceToNat, Nat.reduceSub, Nat.reduceMul, Nat.reduceLeDiff, Nat.reduceAdd, Nat.reduceLT, Nat.reduceEqDiff, reduceCtorEq, ↓reduceIte, rqs, h1, h2, e]
      try rfl
  · have e : ¬ a = b := fun h => h1 (by rw [h])
    simp (disch := omega) only [wk, tis, Int.reduceNe, Int.reduceEq, Int.reduceLT, Int.reduceLE, Int.reduceAdd, Int.reduceSub, Int.reduceNeg, Int.reduceMul, Int.reduceToNat, Nat.reduceSub, Nat.reduceMul, Nat.reduceLeDiff, Nat.reduceAdd, Nat.reduceLT, Nat.reduceEqDiff, reduceCtorEq, ↓reduceIte, rqs, h1, e]
    try rfl
end Go.Proofs.YtjadkhkgmdikiaaGreat

namespace Go.Proofs.YtjadkhkgmdikiaaGreat
open Go Go.Proofs Go.AL
set_option linter.unusedSimpArgs false
set_option linter.unusedVariables false

/-! ### Lists of rationals: sizes -/
def BQ (n k : Nat) (p : List RQ) : Prop := p.length ≤ n ∧ ∀ r ∈ p, SzQ k r
def GQ (n k : Nat) (p : List RQ) : Prop := p.length ≤ n ∧ ∀ r ∈ p, SzQ k r ∧ nv r.2 ≠ 0
def QB (n k : Nat) (q : List Rat) : Prop := q.length ≤ n ∧ ∀ c ∈ q, qz c ≤ k
/-- Do all mean numbers? -/
def gd (p : List RQ) : Bool := p.all fun r => decide (nv r.2 ≠ 0)

theorem getq_mem {p : List RQ} {i : Nat} (h : i < p.length) : p.getD i q0 ∈ p := by rw [List.getD, List.getElem?_eq_getElem h, Option.getD_some]; exact List.getElem_mem h
theorem BQ.get {n k i : Nat} {p : List RQ} (h : BQ n k p) (hi : i < p.length) : SzQ k (p.getD i q0) := h.2 _ (getq_mem hi)
theorem GQ.get {n k i : Nat} {p : List RQ} (h : GQ n k p) (hi : i < p.length) : SzQ k (p.getD i q0) := (h.2 _ (getq_mem hi)).1
theorem GQ.den {n k i : Nat} {p : List RQ} (h : GQ n k p) (hi : i < p.length) : nv (p.getD i q0).2 ≠ 0 := (h.2 _ (getq_mem hi)).2
theorem GQ.bq {n k : Nat} {p : List RQ} (h : GQ n k p) : BQ n k p := ⟨h.1, fun r hr => (h.2 r hr).1⟩
theorem gd_iff {p : List RQ} : gd p = true ↔ ∀ r ∈ p, nv r.2 ≠ 0 := by simp [gd]
theorem GQ.gd {n k : Nat} {p : List RQ} (h : GQ n k p) : gd p = true := gd_iff.mpr fun r hr => (h.2 r hr).2
theorem BQ.gq {n k : Nat} {p : List RQ} (h : BQ n k p) (g : gd p = true) : GQ n k p := ⟨h.1, fun r hr => ⟨h.2 r hr, gd_iff.mp g r hr⟩⟩
theorem BQ.mono {n k n' k' : Nat} {p : List RQ} (h : BQ n k p) (hn : n ≤ n') (hk : k ≤ k') : BQ n' k' p := ⟨Nat.le_trans h.1 hn, fun r hr => (h.2 r hr).mono hk⟩
theorem GQ.mono {n k n' k' : Nat} {p : List RQ} (h : GQ n k p) (hn : n ≤ n') (hk : k ≤ k') : GQ n' k' p := ⟨Nat.le_trans h.1 hn, fun r hr => ⟨(h.2 r hr).1.mono hk, (h.2 r hr).2⟩⟩
theorem QB.mono {n k n' k' : Nat} {q : List Rat} (h : QB n k q) (hn : n ≤ n') (hk : k ≤ k') : QB n' k' q := ⟨Nat.le_trans h.1 hn, fun r hr => Nat.le_trans (h.2 r hr) hk⟩
theorem cfq_qvs (p : List RQ) (i : Nat) : cfq (qvs p) i = qv (p.getD i q0) := by
  unfold cfq qvs
  rw [List.getD_eq_getElem?_getD, List.getD_eq_getElem?_getD, List.getElem?_map]
  cases p[i]? with
  | none => decide +kernel
  | some x => rfl
theorem GQ.qb {n k : Nat} {p : List RQ} (h : GQ n k p) : QB n k (qvs p) := ⟨by rw [qvs_len]; exact h.1, fun c hc => by
  obtain ⟨r, hr, rfl⟩ := List.mem_map.1 hc
  exact qz_raw (h.2 r hr).1 (h.2 r hr).2⟩
theorem QB.gq {n k : Nat} {q : List Rat} (h : QB n k q) : GQ n k (q.map crat) := ⟨by rw [List.length_map]; exact h.1, fun r hr => by
  obtain ⟨c, hc, rfl⟩ := List.mem_map.1 hr
  exact ⟨szq_crat (h.2 c hc), nv_crat0 c⟩⟩
theorem QB.trimq {n k : Nat} {q : List Rat} (h : QB n k q) : QB n k (trimq q) := ⟨Nat.le_trans (by rw [trimq_len]; exact tzq_le q) h.1, fun c hc => h.2 c (List.mem_of_mem_take hc)⟩
theorem QB.gqs {n k : Nat} {q : List Rat} (h : QB n k q) : GQ n k (cqs q) := h.trimq.gq
theorem QB.cz {n k : Nat} {q : List Rat} (h : QB n k q) (hk : 1 ≤ k) (i : Nat) : qz (cfq q i) ≤ k := by
  unfold cfq
  rw [List.getD_eq_getElem?_getD]
  cases hi : q[i]? with
  | none => rw [Option.getD_none, qz_zero]; exact hk
  | some x => exact h.2 x (List.mem_of_getElem? hi)
theorem QB.of {n k : Nat} {q : List Rat} (hl : q.length ≤ n) (h : ∀ i, qz (cfq q i) ≤ k) : QB n k q := ⟨hl, fun c hc => by
  obtain ⟨i, hi, rfl⟩ := List.getElem_of_mem hc
  have := h i
  rwa [cfq_lt hi] at this⟩
theorem qv_zero {r : RQ} (h : nv r.2 ≠ 0) : qv r = 0 ↔ iv r.1 = 0 := Rat.mkRat_eq_zero h
theorem takeq_snoc {q : List Rat} {i : Nat} (h : i < q.length) : q.take (i + 1) = q.take i ++ [cfq q i] := by
  rw [List.take_add_one]
  congr 1
  simp [cfq, List.getD, h]
theorem cratq_len (q : List Rat) : (q.map crat).length = q.length := List.length_map _
theorem cqs_len (q : List Rat) : (cqs q).length = tzq q := by rw [cqs, cratq_len, trimq_len]
theorem qvs_cqs (q : List Rat) : qvs (cqs q) = trimq q := qvs_map _

/-- Polynomials over the integers, over the rationals. -/
def qp (p : List Int) : List Rat := p.map fun z : Int => (z : Rat)
theorem cfq_qp (p : List Int) (k : Nat) : cfq (qp p) k = (cf p k : Rat) := by
  unfold cfq qp cf
  rw [List.getD_eq_getElem?_getD, List.getD_eq_getElem?_getD, List.getElem?_map]
  cases p[k]? <;> rfl
theorem qz_int (z : Int) : qz (z : Rat) ≤ max (zl z) 1 := by
  unfold qz
  rw [Rat.num_intCast, Rat.den_intCast]
  have : (wd 1).length = 1 := by decide +kernel
  omega
theorem PB.ofZ {n k : Nat} {p : List Int} (h : PB n k p) (hk : 1 ≤ k) : QB n k (qp p) := ⟨by simp [qp]; exact h.1, fun c hc => by
  obtain ⟨z, hz, rfl⟩ := List.mem_map.1 hc
  have := h.2 z hz
  have := qz_int z
  omega⟩

/-! ### The references -/

theorem hnormq_ok (p : List RQ) (h : GQ (2 ^ 40) (2 ^ 38) p) : AC Tryz.prog 93 [cqw p] none [cqp (qvs p)] := by
  refine AC.by_walk (rs := [.tmp 2]) ords Tryz.func93 (by rfl) (by rfl) (by rfl) (by rfl) (by rfl) ?_
  have hl := h.1
  have htl := tzq_le (qvs p)
  rw [qvs_len] at htl
  simp (disch := omega) only [wk, tis, Int.reduceNe, Int.reduceEq, Int.reduceLT, Int.reduceLE, Int.reduceAdd, Int.reduceSub, Int.reduceNeg, Int.reduceMul, Int.reduceToNat, Nat.reduceSub, Nat.reduceMul, Nat.reduceLeDiff, Nat.reduceAdd, Nat.reduceLT, Nat.reduceEqDiff, reduceCtorEq, ↓reduceIte, rqs]
  refine aloop_by (fun f H => ∃ k : Nat, k ≤ p.length ∧ f 0 = .iv (.sl (rats p)) ∧ f 3 = .iv (.int .i64 k) ∧ tzq ((qvs p).take k) = tzq (qvs p)) (fun f H => (intAt f 3).toNat) ?_ ?_
  · exact ⟨p.length, Nat.le_refl _, by simp (disch := omega) only [wk, tis, Int.reduceNe, Int.reduceEq, Int.reduceLT, Int.reduceLE, Int.reduceAdd, Int.reduceSub, Int.reduceNeg, Int.reduceMul, Int.reduceToNat, Nat.reduceSub, Nat.reduceMul, Nat.reduceLeDiff, Nat.reduceAdd, Nat.reduceLT, Nat.reduceEqDiff, reduceCtorEq, ↓reduceIte, rqs], by simp (disch := omega) only [wk, tis, Int.reduceNe, Int.reduceEq, Int.reduceLT, Int.reduceLE, Int.reduceAdd, Int.reduceSub, Int.reduceNeg, Int.reduceMul, Int.reduceToNat, Nat.reduceSub, Nat.reduceMul, Nat.reduceLeDiff, Nat.reduceAdd, Nat.reduceLT, Nat.reduceEqDiff, reduceCtorEq, ↓reduceIte, rqs], by rw [← qvs_len p, List.take_length]⟩
  rintro f H ⟨k, hk, h0, h3, ht⟩
  rw [intAt_of h3]
  by_cases hc : 0 < (k : Int)
  · simp (disch := omega) only [wk, tis, Int.reduceNe, Int.reduceEq, Int.reduceLT, Int.reduceLE, Int.reduceAdd, Int.reduceSub, Int.reduceNeg, Int.reduceMul, Int.reduceToNat, Nat.reduceSub, Nat.reduceMul, Nat.reduceLeDiff, Nat.reduceAdd, Nat.reduceLT, Nat.reduceEqDiff, reduceCtorEq, ↓reduceIte, rqs, h0, h3, hc]
    have ek : ((k : Int) - 1).toNat = k - 1 := by omega
    have ek' : k = (k - 1) + 1 := by omega
    rw [ek]
    have hr := h.get (i := k - 1) (by omega)
    refine call_by ((hS_ok (p.getD (k - 1) q0) (hr.1.mono (by omega)))) (by first | rfl | (simp only [tocvs, tocv, h0, h3, hc]; rfl) | (simp only [tocvs, tocv, toboxes, tobox, updH_at, Nat.reduceEqDiff, ↓reduceIte, h0, h3, hc]; rfl)) (by simp) ?_
    simp (disch := omega) only [wk, tis, Int.reduceNe, Int.reduceEq, Int.reduceLT, Int.reduceLE, Int.reduceAdd, Int.reduceSub, Int.reduceNeg, Int.reduceMul, Int.reduceToNat, Nat.reduceSub, Nat.reduceMul, Nat.reduceLeDiff, Nat.reduceAdd, Nat.reduceLT, Nat.reduceEqDiff, reduceCtorEq, ↓reduceIte, rqs, h0, h3, hc]
    have hz' : (iv (p.getD (k - 1) q0).1).sign = 0 ↔ cfq (qvs p) (k - 1) = 0 := by rw [cfq_qvs, qv_zero (h.den (by omega))]; exact Int.sign_eq_zero_iff_zero
    refine if_by (fun hz => ?_) (fun hz => ?_)
    · simp (disch := omega) only [wk, tis, Int.reduceNe, Int.reduceEq, Int.reduceLT, Int.reduceLE, Int.reduceAdd, Int.reduceSub, Int.reduceNeg, Int.reduceMul, Int.reduceToNat, Nat.reduceSub, Nat.reduceMul, Nat.reduceLeDiff, Nat.reduceAdd, Nat.reduceLT, Nat.reduceEqDiff, reduceCtorEq, ↓reduceIte, rqs, h0, h3]
      refine ⟨⟨k - 1, by omega, by omega, ?_⟩, by omega⟩
      rw [← tzq_take_zero (k := k - 1) (by rw [qvs_len]; omega) (hz'.mp hz), ← ek', ht]
    · have hk : k = tzq (qvs p) := by
        have := tzq_full (q := qvs p) (k := k - 1) (by rw [qvs_len]; omega) (fun e => hz (hz'.mpr e))
        rw [← ek', ht] at this; exact this.symm
      simp (disch := omega) only [wk, tis, Int.reduceNe, Int.reduceEq, Int.reduceLT, Int.reduceLE, Int.reduceAdd, Int.reduceSub, Int.reduceNeg, Int.reduceMul, Int.reduceToNat, Nat.reduceSub, Nat.reduceMul, Nat.reduceLeDiff, Nat.reduceAdd, Nat.reduceLT, Nat.reduceEqDiff, reduceCtorEq, ↓reduceIte, rqs, h0, h3]
      subst hk
      refine aloop_nil 4 4 31 3 (by simp (disch := omega) only [wk, tis, Int.reduceNe, Int.reduceEq, Int.reduceLT, Int.reduceLE, Int.reduceAdd, Int.reduceSub, Int.reduceNeg, Int.reduceMul, Int.reduceToNat, Nat.reduceSub, Nat.reduceMul, Nat.reduceLeDiff, Nat.reduceAdd, Nat.reduceLT, Nat.reduceEqDiff, reduceCtorEq, ↓reduceIte, rqs]) (fun f H => ∃ (i st : Nat), i ≤ tzq (qvs p) ∧ f 5 = .iv (.int .i64 i) ∧ f 0 = .iv (.sl (rats p)) ∧ f 3 = .iv (.int .i64 (tzq (qvs p))) ∧ f 4 = .hs 4 st ∧ H 4 = .blk false st 31 3 (rats (((qvs p).take i).map crat))) (fun f H => (tzq (qvs p) - intAt f 5).toNat) ?_ ?_
      · refine ⟨0, (H 4).stamp + 1, by omega, ?_⟩
        simp (disch := omega) only [wk, tis, Int.reduceNe, Int.reduceEq, Int.reduceLT, Int.reduceLE, Int.reduceAdd, Int.reduceSub, Int.reduceNeg, Int.reduceMul, Int.reduceToNat, Nat.reduceSub, Nat.reduceMul, Nat.reduceLeDiff, Nat.reduceAdd, Nat.reduceLT, Nat.reduceEqDiff, reduceCtorEq, ↓reduceIte, rqs, ghostF, ghostH, List.take_zero, List.map_nil, h0, h3]
      rintro f H ⟨i, st, hi, hF⟩
      rw [intAt_of hF.1]
      simp (disch := omega) only [wk, tis, Int.reduceNe, Int.reduceEq, Int.reduceLT, Int.reduceLE, Int.reduceAdd, Int.reduceSub, Int.reduceNeg, Int.reduceMul, Int.reduceToNat, Nat.reduceSub, Nat.reduceMul, Nat.reduceLeDiff, Nat.reduceAdd, Nat.reduceLT, Nat.reduceEqDiff, reduceCtorEq, ↓reduceIte, rqs, hF]
      refine if_by (fun hlt => ?_) (fun hlt => ?_)
      · have hq : (((qvs p).take i).map crat).length = i := by rw [List.length_map, List.length_take, qvs_len]; omega
        have hr := h.get (i := i) (by omega)
        have m := rR_ok (p.getD i q0).1 (p.getD i q0).2 hr.1 hr.2 (h.den (by omega))
        rw [show mkRat (iv (p.getD i q0).1) (nv (p.getD i q0).2) = cfq (qvs p) i from (cfq_qvs p i).symm] at m
        simp (disch := omega) only [wk, tis, Int.reduceNe, Int.reduceEq, Int.reduceLT, Int.reduceLE, Int.reduceAdd, Int.reduceSub, Int.reduceNeg, Int.reduceMul, Int.reduceToNat, Nat.reduceSub, Nat.reduceMul, Nat.reduceLeDiff, Nat.reduceAdd, Nat.reduceLT, Nat.reduceEqDiff, reduceCtorEq, ↓reduceIte, rqs, hF, hq]
        refine ⟨tmps_by (by kernel_rfl), ?_⟩
        refine call_by (m) (by first | rfl | (simp only [tocvs, tocv, hF, hq]; rfl) | (simp only [tocvs, tocv, toboxes, tobox, updH_at, Nat.reduceEqDiff, ↓reduceIte, hF, hq]; rfl)) (by simp) ?_
        simp (disch := omega) only [wk, tis, Int.reduceNe, Int.reduceEq, Int.reduceLT, Int.reduceLE, Int.reduceAdd, Int.reduceSub, Int.reduceNeg, Int.reduceMul, Int.reduceToNat, Nat.reduceSub, Nat.reduceMul, Nat.reduceLeDiff, Nat.reduceAdd, Nat.reduceLT, Nat.reduceEqDiff, reduceCtorEq, ↓reduceIte, rqs, hF, hq]
        first | exact log_by (by kernel_rfl) | refine ⟨log_by (by kernel_rfl), ?_⟩
        have e := takeq_snoc (q := qvs p) (i := i) (by rw [qvs_len]; omega)
        refine ⟨⟨i + 1, st + 1, by omega, ?_⟩, by omega⟩
        rw [e, List.map_append]
        exact ⟨by omega, rfl, rfl⟩
      · simp (disch := omega) only [wk, tis, Int.reduceNe, Int.reduceEq, Int.reduceLT, Int.reduceLE, Int.reduceAdd, Int.reduceSub, Int.reduceNeg, Int.reduceMul, Int.reduceToNat, Nat.reduceSub, Nat.reduceMul, Nat.reduceLeDiff, Nat.reduceAdd, Nat.reduceLT, Nat.reduceEqDiff, reduceCtorEq, ↓reduceIte, rqs, hF]
        have ei : i = tzq (qvs p) := by omega
        rw [ei]
        try rfl
  · have hk : k = tzq (qvs p) := by
      obtain rfl : k = 0 := by omega
      rw [← ht]; rfl
    simp (disch := omega) only [wk, tis, Int.reduceNe, Int.reduceEq, Int.reduceLT, Int.reduceLE, Int.reduceAdd, Int.reduceSub, Int.reduceNeg, Int.reduceMul, Int.reduceToNat, Nat.reduceSub, Nat.reduceMul, Nat.reduceLeDiff, Nat.reduceAdd, Nat.reduceLT, Nat.reduceEqDiff, reduceCtorEq, ↓reduceIte, rqs, h0, h3, hc]
    subst hk
    refine aloop_nil 4 4 31 3 (by simp (disch := omega) only [wk, tis, Int.reduceNe, Int.reduceEq, Int.reduceLT, Int.reduceLE, Int.reduceAdd, Int.reduceSub, Int.reduceNeg, Int.reduceMul, Int.reduceToNat, Nat.reduceSub, Nat.reduceMul, Nat.reduceLeDiff, Nat.reduceAdd, Nat.reduceLT, Nat.reduceEqDiff, reduceCtorEq, ↓reduceIte, rqs]) (fun f H => ∃ (i st : Nat), i ≤ tzq (qvs p) ∧ f 5 = .iv (.int .i64 i) ∧ f 0 = .iv (.sl (rats p)) ∧ f 3 = .iv (.int .i64 (tzq (qvs p))) ∧ f 4 = .hs 4 st ∧ H 4 = .blk false st 31 3 (rats (((qvs p).take i).map crat))) (fun f H => (tzq (qvs p) - intAt f 5).toNat) ?_ ?_
    · refine ⟨0, (H 4).stamp + 1, by omega, ?_⟩
      simp (disch := omega) only [wk, tis, Int.reduceNe, Int.reduceEq, Int.reduceLT, Int.reduceLE, Int.reduceAdd, Int.reduceSub, Int.reduceNeg, Int.reduceMul, Int.reduceToNat, Nat.reduceSub, Nat.reduceMul, Nat.reduceLeDiff, Nat.reduceAdd, Nat.reduceLT, Nat.reduceEqDiff, reduceCtorEq, ↓reduceIte, rqs, ghostF, ghostH, List.take_zero, List.map_nil, h0, h3]
    rintro f H ⟨i, st, hi, hF⟩
    rw [intAt_of hF.1]
    simp (disch := omega) only [wk, tis, Int.reduceNe, Int.reduceEq, Int.reduceLT, Int.reduceLE, Int.reduceAdd, Int.reduceSub, Int.reduceNeg, Int.reduceMul, Int.reduceToNat, Nat.reduceSub, Nat.reduceMul, Nat.reduceLeDiff, Nat.reduceAdd, Nat.reduceLT, Nat.reduceEqDiff, reduceCtorEq, ↓reduceIte, rqs, hF]
    refine if_by (fun hlt => ?_) (fun hlt => ?_)
    · have hq : (((qvs p).take i).map crat).length = i := by rw [List.length_map, List.length_take, qvs_len]; omega
      have hr := h.get (i := i) (by omega)
      have m := rR_ok (p.getD i q0).1 (p.getD i q0).2 hr.1 hr.2 (h.den (by omega))
      rw [show mkRat (iv (p.getD i q0).1) (nv (p.getD i q0).2) = cfq (qvs p) i from (cfq_qvs p i).symm] at m
      simp (disch := omega) only [wk, tis, Int.reduceNe, Int.reduceEq, Int.reduceLT, Int.reduceLE, Int.reduceAdd, Int.reduceSub, Int.reduceNeg, Int.reduceMul, Int.reduceToNat, Nat.reduceSub, Nat.reduceMul, Nat.reduceLeDiff, Nat.reduceAdd, Nat.reduceLT, Nat.reduceEqDiff, reduceCtorEq, ↓reduceIte, rqs, hF, hq]
      refine ⟨tmps_by (by kernel_rfl), ?_⟩
      refine call_by (m) (by first | rfl | (simp only [tocvs, tocv, hF, hq]; rfl) | (simp only [tocvs, tocv, toboxes, tobox, updH_at, Nat.reduceEqDiff, ↓reduceIte, hF, hq]; rfl)) (by simp) ?_
      simp (disch := omega) only [wk, tis, Int.reduceNe, Int.reduceEq, Int.reduceLT, Int.reduceLE, Int.reduceAdd, Int.reduceSub, Int.reduceNeg, Int.reduceMul, Int.reduceToNat, Nat.reduceSub, Nat.reduceMul, Nat.reduceLeDiff, Nat.reduceAdd, Nat.reduceLT, Nat.reduceEqDiff, reduceCtorEq, ↓reduceIte, rqs, hF, hq]
      first | exact log_by (by kernel_rfl) | refine ⟨log_by (by kernel_rfl), ?_⟩
      have e := takeq_snoc (q := qvs p) (i := i) (by rw [qvs_len]; omega)
      refine ⟨⟨i + 1, st + 1, by omega, ?_⟩, by omega⟩
      rw [e, List.map_append]
      exact ⟨by omega, rfl, rfl⟩
    · simp (disch := omega) only [wk, tis, Int.reduceNe, Int.reduceEq, Int.reduceLT, Int.reduceLE, Int.reduceAdd, Int.reduceSub, Int.reduceNeg, Int.reduceMul, Int.reduceToNat, Nat.reduceSub, Nat.reduceMul, Nat.reduceLeDiff, Nat.reduceAdd, Nat.reduceLT, Nat.reduceEqDiff, reduceCtorEq, ↓reduceIte, rqs, hF]
      have ei : i = tzq (qvs p) := by omega
      rw [ei]
      try rfl

theorem hgood_ok (l : List RQ) (h : BQ (2 ^ 40) (2 ^ 38) l) : AC Tryz.prog 79 [cqw l] none [cb (gd l)] := by
  refine AC.by_walk (rs := [.tmp 2]) ords Tryz.func79 (by rfl) (by rfl) (by rfl) (by rfl) (by rfl) ?_
  have hl := h.1
  simp (disch := omega) only [wk, tis, Int.reduceNe, Int.reduceEq, Int.reduceLT, Int.reduceLE, Int.reduceAdd, Int.reduceSub, Int.reduceNeg, Int.reduceMul, Int.reduceToNat, Nat.reduceSub, Nat.reduceMul, Nat.reduceLeDiff, Nat.reduceAdd, Nat.reduceLT, Nat.reduceEqDiff, reduceCtorEq, ↓reduceIte, rqs]
  refine aloop_by (fun f H => ∃ (i : Nat), i ≤ l.length ∧ (∀ j, j < i → nv (l.getD j q0).2 ≠ 0) ∧ f 3 = .iv (.int .i64 i) ∧ f 0 = .iv (.sl (rats l))) (fun f H => (l.length - intAt f 3).toNat) ?_ ?_
  · refine ⟨0, by omega, fun j hj => by omega, ?_⟩
    simp (disch := omega) only [wk, tis, Int.reduceNe, Int.reduceEq, Int.reduceLT, Int.reduceLE, Int.reduceAdd, Int.reduceSub, Int.reduceNeg, Int.reduceMul, Int.reduceToNat, Nat.reduceSub, Nat.reduceMul, Nat.reduceLeDiff, Nat.reduceAdd, Nat.reduceLT, Nat.reduceEqDiff, reduceCtorEq, ↓reduceIte, rqs]
  rintro f H ⟨i, hi, hz, hF⟩
  rw [intAt_of hF.1]
  simp (disch := omega) only [wk, tis, Int.reduceNe, Int.reduceEq, Int.reduceLT, Int.reduceLE, Int.reduceAdd, Int.reduceSub, Int.reduceNeg, Int.reduceMul, Int.reduceToNat, Nat.reduceSub, Nat.reduceMul, Nat.reduceLeDiff, Nat.reduceAdd, Nat.reduceLT, Nat.reduceEqDiff, reduceCtorEq, ↓reduceIte, rqs, hF]
  refine if_by (fun hlt => ?_) (fun hlt => ?_)
  · have hr := h.get (i := i) (by omega)
    simp (disch := omega) only [wk, tis, Int.reduceNe, Int.reduceEq, Int.reduceLT, Int.reduceLE, Int.reduceAdd, Int.reduceSub, Int.reduceNeg, Int.reduceMul, Int.reduceToNat, Nat.reduceSub, Nat.reduceMul, Nat.reduceLeDiff, Nat.reduceAdd, Nat.reduceLT, Nat.reduceEqDiff, reduceCtorEq, ↓reduceIte, rqs, hF]
    refine call_by ((hok_ok (l.getD i q0) ⟨Nat.le_trans hr.2.1 (by omega), hr.2.2⟩)) (by first | rfl | (simp only [tocvs, tocv, hF]; rfl) | (simp only [tocvs, tocv, toboxes, tobox, updH_at, Nat.reduceEqDiff, ↓reduceIte, hF]; rfl)) (by simp) ?_
    simp (disch := omega) only [wk, tis, Int.reduceNe, Int.reduceEq, Int.reduceLT, Int.reduceLE, Int.reduceAdd, Int.reduceSub, Int.reduceNeg, Int.reduceMul, Int.reduceToNat, Nat.reduceSub, Nat.reduceMul, Nat.reduceLeDiff, Nat.reduceAdd, Nat.reduceLT, Nat.reduceEqDiff, reduceCtorEq, ↓reduceIte, rqs, hF]
    by_cases h0 : nv (l.getD i q0).2 = 0
    · have hb : gd l = false := by
        cases hg : gd l with
        | false => rfl
        | true => exact (gd_iff.mp hg _ (getq_mem (by omega)) h0).elim
      rw [hb]
      simp (disch := omega) only [wk, tis, Int.reduceNe, Int.reduceEq, Int.reduceLT, Int.reduceLE, Int.reduceAdd, Int.reduceSub, Int.reduceNeg, Int.reduceMul, Int.reduceToNat, Nat.reduceSub, Nat.reduceMul, Nat.reduceLeDiff, Nat.reduceAdd, Nat.reduceLT, Nat.reduceEqDiff, reduceCtorEq, ↓reduceIte, rqs, hF, h0, not_true_eq_false, decide_false, Bool.not_false]
    · simp (disch := omega) only [wk, tis, Int.reduceNe, Int.reduceEq, Int.reduceLT, Int.reduceLE, Int.reduceAdd, Int.reduceSub, Int.reduceNeg, Int.reduceMul, Int.reduceToNat, Nat.reduceSub, Nat.reduceMul, Nat.reduceLeDiff, Nat.reduceAdd, Nat.reduceLT, Nat.reduceEqDiff, reduceCtorEq, ↓reduceIte, rqs, hF, h0, not_false_eq_true, decide_true, Bool.not_true]
      refine ⟨⟨i + 1, by omega, fun j hj => ?_, by omega⟩, by omega⟩
      rcases Nat.lt_or_ge j i with hj' | hj'
      · exact hz j hj'
      · obtain rfl : j = i := by omega
        exact h0
  · have hg : gd l = true := gd_iff.mpr fun r hr => by
      obtain ⟨j, hj, rfl⟩ := List.getElem_of_mem hr
      have := hz j (by omega)
      rwa [List.getD, List.getElem?_eq_getElem hj, Option.getD_some] at this
    rw [hg]
    simp (disch := omega) only [wk, tis, Int.reduceNe, Int.reduceEq, Int.reduceLT, Int.reduceLE, Int.reduceAdd, Int.reduceSub, Int.reduceNeg, Int.reduceMul, Int.reduceToNat, Nat.reduceSub, Nat.reduceMul, Nat.reduceLeDiff, Nat.reduceAdd, Nat.reduceLT, Nat.reduceEqDiff, reduceCtorEq, ↓reduceIte, rqs, hF]

theorem hoverq_ok (p : List RI) (h : RP (2 ^ 40) (2 ^ 38) p) : AC Tryz.prog 75 [cw p] none [cqp (qp (pv p))] := by
  refine AC.by_walk (rs := [.tmp 2]) ords Tryz.func75 (by rfl) (by rfl) (by rfl) (by rfl) (by rfl) ?_
  have hl := h.1
  have hql : (qp (pv p)).length = p.length := by simp [qp, pv_len]
  simp (disch := omega) only [wk, tis, Int.reduceNe, Int.reduceEq, Int.reduceLT, Int.reduceLE, Int.reduceAdd, Int.reduceSub, Int.reduceNeg, Int.reduceMul, Int.reduceToNat, Nat.reduceSub, Nat.reduceMul, Nat.reduceLeDiff, Nat.reduceAdd, Nat.reduceLT, Nat.reduceEqDiff, reduceCtorEq, ↓reduceIte, rqs]
  refine aloop_nil 3 3 31 3 (by simp (disch := omega) only [wk, tis, Int.reduceNe, Int.reduceEq, Int.reduceLT, Int.reduceLE, Int.reduceAdd, Int.reduceSub, Int.reduceNeg, Int.reduceMul, Int.reduceToNat, Nat.reduceSub, Nat.reduceMul, Nat.reduceLeDiff, Nat.reduceAdd, Nat.reduceLT, Nat.reduceEqDiff, reduceCtorEq, ↓reduceIte, rqs]) (fun f H => ∃ (i st : Nat), i ≤ p.length ∧ f 4 = .iv (.int .i64 i) ∧ f 0 = .iv (.sl (raws p)) ∧ f 3 = .hs 3 st ∧ H 3 = .blk false st 31 3 (rats (((qp (pv p)).take i).map crat))) (fun f H => (p.length - intAt f 4).toNat) ?_ ?_
  · refine ⟨0, 1, by omega, ?_⟩
    simp (disch := omega) only [wk, tis, Int.reduceNe, Int.reduceEq, Int.reduceLT, Int.reduceLE, Int.reduceAdd, Int.reduceSub, Int.reduceNeg, Int.reduceMul, Int.reduceToNat, Nat.reduceSub, Nat.reduceMul, Nat.reduceLeDiff, Nat.reduceAdd, Nat.reduceLT, Nat.reduceEqDiff, reduceCtorEq, ↓reduceIte, rqs, ghostF, ghostH, List.take_zero, List.map_nil]
  rintro f H ⟨i, st, hi, hF⟩
  rw [intAt_of hF.1]
  simp (disch := omega) only [wk, tis, Int.reduceNe, Int.reduceEq, Int.reduceLT, Int.reduceLE, Int.reduceAdd, Int.reduceSub, Int.reduceNeg, Int.reduceMul, Int.reduceToNat, Nat.reduceSub, Nat.reduceMul, Nat.reduceLeDiff, Nat.reduceAdd, Nat.reduceLT, Nat.reduceEqDiff, reduceCtorEq, ↓reduceIte, rqs, hF]
  refine if_by (fun hlt => ?_) (fun hlt => ?_)
  · have hq : (((qp (pv p)).take i).map crat).length = i := by rw [List.length_map, List.length_take, hql]; omega
    have m := hZ_ok (p.getD i (false, [])) (h.get i)
    rw [← cf_pv, ← cfq_qp] at m
    simp (disch := omega) only [wk, tis, Int.reduceNe, Int.reduceEq, Int.reduceLT, Int.reduceLE, Int.reduceAdd, Int.reduceSub, Int.reduceNeg, Int.reduceMul, Int.reduceToNat, Nat.reduceSub, Nat.reduceMul, Nat.reduceLeDiff, Nat.reduceAdd, Nat.reduceLT, Nat.reduceEqDiff, reduceCtorEq, ↓reduceIte, rqs, hF, hq]
    refine call_by (m) (by first | rfl | (simp only [tocvs, tocv, hF, hq]; rfl) | (simp only [tocvs, tocv, toboxes, tobox, updH_at, Nat.reduceEqDiff, ↓reduceIte, hF, hq]; rfl)) (by simp) ?_
    simp (disch := omega) only [wk, tis, Int.reduceNe, Int.reduceEq, Int.reduceLT, Int.reduceLE, Int.reduceAdd, Int.reduceSub, Int.reduceNeg, Int.reduceMul, Int.reduceToNat, Nat.reduceSub, Nat.reduceMul, Nat.reduceLeDiff, Nat.reduceAdd, Nat.reduceLT, Nat.reduceEqDiff, reduceCtorEq, ↓reduceIte, rqs, hF, hq]
    have e := takeq_snoc (q := qp (pv p)) (i := i) (by omega)
    refine ⟨⟨i + 1, st + 1, by omega, ?_⟩, by omega⟩
    rw [e, List.map_append]
    exact ⟨by omega, rfl, rfl⟩
  · simp (disch := omega) only [wk, tis, Int.reduceNe, Int.reduceEq, Int.reduceLT, Int.reduceLE, Int.reduceAdd, Int.reduceSub, Int.reduceNeg, Int.reduceMul, Int.reduceToNat, Nat.reduceSub, Nat.reduceMul, Nat.reduceLeDiff, Nat.reduceAdd, Nat.reduceLT, Nat.reduceEqDiff, reduceCtorEq, ↓reduceIte, rqs, hF]
    rw [List.take_of_length_le (by omega)] at hF
    have b := PB.ofZ (h.pv.mono (k' := 2 ^ 38) (Nat.le_refl _) (by omega)) (by omega)
    have m := hnormq_ok ((qp (pv p)).map crat) b.gq
    rw [qvs_map] at m
    refine call_by (m) (by first | rfl | (simp only [tocvs, tocv, hF]; rfl) | (simp only [tocvs, tocv, toboxes, tobox, updH_at, Nat.reduceEqDiff, ↓reduceIte, hF]; rfl)) (by simp) ?_
    simp (disch := omega) only [wk, tis, Int.reduceNe, Int.reduceEq, Int.reduceLT, Int.reduceLE, Int.reduceAdd, Int.reduceSub, Int.reduceNeg, Int.reduceMul, Int.reduceToNat, Nat.reduceSub, Nat.reduceMul, Nat.reduceLeDiff, Nat.reduceAdd, Nat.reduceLT, Nat.reduceEqDiff, reduceCtorEq, ↓reduceIte, rqs, hF]
end Go.Proofs.YtjadkhkgmdikiaaGreat

namespace Go.Proofs.YtjadkhkgmdikiaaGreat
open Go Go.Proofs Go.AL
set_option linter.unusedSimpArgs false
set_option linter.unusedVariables false

/-! ### slices.ContainsFunc over rationals, qpoly.Good -/
theorem idxq_gen (l : List RQ) (g : Nat) (P : RQ → Bool) (e : Int) (hl : l.length ≤ 2 ^ 43) (hc : ∀ r ∈ l, AC Tryz.prog g [cqq r] none [cb (P r)])
    (h1 : ∀ i, i < l.length → (∀ j, j < i → P (l.getD j q0) = false) → P (l.getD i q0) = true → e = i) (h2 : (∀ j, j < l.length → P (l.getD j q0) = false) → e = -1) :
    AC Tryz.prog 165 [cqw l, .fn g []] none [ci e] := by
  refine AC.by_walk (rs := [.tmp 4]) ords Tryz.func165 (by rfl) (by rfl) (by rfl) (by rfl) (by rfl) ?_
  simp (disch := omega) only [wk, tis, Int.reduceNe, Int.reduceEq, Int.reduceLT, Int.reduceLE, Int.reduceAdd, Int.reduceSub, Int.reduceNeg, Int.reduceMul, Int.reduceToNat, Nat.reduceSub, Nat.reduceMul, Nat.reduceLeDiff, Nat.reduceAdd, Nat.reduceLT, Nat.reduceEqDiff, reduceCtorEq, ↓reduceIte, rqs]
  refine aloop_by (fun f H => ∃ (i : Nat), i ≤ l.length ∧ (∀ j, j < i → P (l.getD j q0) = false) ∧ f 8 = .iv (.int .i64 i) ∧ f 0 = .iv (.sl (rats l)) ∧ f 6 = .iv (.sl (rats l)) ∧ f 7 = .iv (.int .i64 l.length) ∧ f 1 = .fn g []) (fun f H => (l.length - intAt f 8).toNat) ?_ ?_
  · refine ⟨0, by omega, fun j hj => by omega, ?_⟩
    simp (disch := omega) only [wk, tis, Int.reduceNe, Int.reduceEq, Int.reduceLT, Int.reduceLE, Int.reduceAdd, Int.reduceSub, Int.reduceNeg, Int.reduceMul, Int.reduceToNat, Nat.reduceSub, Nat.reduceMul, Nat.reduceLeDiff, Nat.reduceAdd, Nat.reduceLT, Nat.reduceEqDiff, reduceCtorEq, ↓reduceIte, rqs, List.map_nil]
  rintro f H ⟨i, hi, hz, hF⟩
  rw [intAt_of hF.1]
  simp (disch := omega) only [wk, tis, Int.reduceNe, Int.reduceEq, Int.reduceLT, Int.reduceLE, Int.reduceAdd, Int.reduceSub, Int.reduceNeg, Int.reduceMul, Int.reduceToNat, Nat.reduceSub, Nat.reduceMul, Nat.reduceLeDiff, Nat.reduceAdd, Nat.reduceLT, Nat.reduceEqDiff, reduceCtorEq, ↓reduceIte, rqs, hF]
  refine if_by (fun hlt => ?_) (fun hlt => ?_)
  · have hlt' : i < l.length := by omega
    simp (disch := omega) only [wk, tis, Int.reduceNe, Int.reduceEq, Int.reduceLT, Int.reduceLE, Int.reduceAdd, Int.reduceSub, Int.reduceNeg, Int.reduceMul, Int.reduceToNat, Nat.reduceSub, Nat.reduceMul, Nat.reduceLeDiff, Nat.reduceAdd, Nat.reduceLT, Nat.reduceEqDiff, reduceCtorEq, ↓reduceIte, rqs, hF]
    refine call_by ((hc (l.getD i q0) (getq_mem hlt'))) (by first | rfl | (simp only [tocvs, tocv, hF]; rfl) | (simp only [tocvs, tocv, toboxes, tobox, updH_at, Nat.reduceEqDiff, ↓reduceIte, hF]; rfl)) (by simp) ?_
    simp (disch := omega) only [wk, tis, Int.reduceNe, Int.reduceEq, Int.reduceLT, Int.reduceLE, Int.reduceAdd, Int.reduceSub, Int.reduceNeg, Int.reduceMul, Int.reduceToNat, Nat.reduceSub, Nat.reduceMul, Nat.reduceLeDiff, Nat.reduceAdd, Nat.reduceLT, Nat.reduceEqDiff, reduceCtorEq, ↓reduceIte, rqs, hF]
    cases hP : P (l.getD i q0) with
    | true =>
      obtain rfl := h1 i hlt' hz hP
      simp (disch := omega) only [wk, tis, Int.reduceNe, Int.reduceEq, Int.reduceLT, Int.reduceLE, Int.reduceAdd, Int.reduceSub, Int.reduceNeg, Int.reduceMul, Int.reduceToNat, Nat.reduceSub, Nat.reduceMul, Nat.reduceLeDiff, Nat.reduceAdd, Nat.reduceLT, Nat.reduceEqDiff, reduceCtorEq, ↓reduceIte, rqs, hF]
    | false =>
      simp (disch := omega) only [wk, tis, Int.reduceNe, Int.reduceEq, Int.reduceLT, Int.reduceLE, Int.reduceAdd, Int.reduceSub, Int.reduceNeg, Int.reduceMul, Int.reduceToNat, Nat.reduceSub, Nat.reduceMul, Nat.reduceLeDiff, Nat.reduceAdd, Nat.reduceLT, Nat.reduceEqDiff, reduceCtorEq, ↓reduceIte, rqs, hF]
      refine ⟨⟨i + 1, by omega, fun j hj => ?_, by omega⟩, by omega⟩
      rcases Nat.lt_or_ge j i with hj' | hj'
      · exact hz j hj'
      · obtain rfl : j = i := by omega
        exact hP
  · obtain rfl := h2 fun j hj => hz j (by omega)
    simp (disch := omega) only [wk, tis, Int.reduceNe, Int.reduceEq, Int.reduceLT, Int.reduceLE, Int.reduceAdd, Int.reduceSub, Int.reduceNeg, Int.reduceMul, Int.reduceToNat, Nat.reduceSub, Nat.reduceMul, Nat.reduceLeDiff, Nat.reduceAdd, Nat.reduceLT, Nat.reduceEqDiff, reduceCtorEq, ↓reduceIte, rqs, hF]

theorem conq_ok (l : List RQ) (g : Nat) (P : RQ → Bool) (hl : l.length ≤ 2 ^ 43) (hc : ∀ r ∈ l, AC Tryz.prog g [cqq r] none [cb (P r)]) :
    AC Tryz.prog 111 [cqw l, .fn g []] none [cb (l.any P)] := by
  have key : ∃ e : Int, (0 ≤ e ↔ l.any P = true) ∧ AC Tryz.prog 165 [cqw l, .fn g []] none [ci e] := by
    by_cases h : ∃ i, i < l.length ∧ P (l.getD i q0) = true
    · obtain ⟨i, hi, hP, hz⟩ : ∃ i, i < l.length ∧ P (l.getD i q0) = true ∧ ∀ j, j < i → P (l.getD j q0) = false := by
        obtain ⟨i0, hi0⟩ := h
        induction i0 using Nat.strongRecOn with
        | _ n ih =>
          by_cases hm : ∃ m, m < n ∧ P (l.getD m q0) = true
          · obtain ⟨m, hm1, hm2⟩ := hm
            exact ih m hm1 ⟨by omega, hm2⟩
          · refine ⟨n, hi0.1, hi0.2, fun j hj => ?_⟩
            cases hj' : P (l.getD j q0) with
            | false => rfl
            | true => exact (hm ⟨j, hj, hj'⟩).elim
      refine ⟨i, ⟨fun _ => List.any_eq_true.mpr ⟨_, getq_mem hi, hP⟩, fun _ => by omega⟩, idxq_gen l g P i hl hc (fun k hk hkz hkP => ?_) (fun hall => ?_)⟩
      · have : k = i := by
          rcases Nat.lt_trichotomy k i with h | h | h
          · have := hz k h; rw [this] at hkP; cases hkP
          · exact h
          · have := hkz i h; rw [this] at hP; cases hP
        rw [this]
      · rw [hall i hi] at hP; cases hP
    · refine ⟨-1, ⟨fun h0 => by omega, fun h0 => ?_⟩, idxq_gen l g P (-1) hl hc (fun k hk _ hkP => (h ⟨k, hk, hkP⟩).elim) (fun _ => rfl)⟩
      obtain ⟨r, hr, hP⟩ := List.any_eq_true.mp h0
      obtain ⟨j, hj, rfl⟩ := List.getElem_of_mem hr
      exact (h ⟨j, hj, by rw [List.getD, List.getElem?_eq_getElem hj, Option.getD_some]; exact hP⟩).elim
  obtain ⟨e, he, m⟩ := key
  refine AC.by_walk (rs := [.tmp 4]) ords Tryz.func111 (by rfl) (by rfl) (by rfl) (by rfl) (by rfl) ?_
  simp (disch := omega) only [wk, tis, Int.reduceNe, Int.reduceEq, Int.reduceLT, Int.reduceLE, Int.reduceAdd, Int.reduceSub, Int.reduceNeg, Int.reduceMul, Int.reduceToNat, Nat.reduceSub, Nat.reduceMul, Nat.reduceLeDiff, Nat.reduceAdd, Nat.reduceLT, Nat.reduceEqDiff, reduceCtorEq, ↓reduceIte, rqs]
  refine call_by (m) (by rfl) (by simp) ?_
  simp (disch := omega) only [wk, tis, Int.reduceNe, Int.reduceEq, Int.reduceLT, Int.reduceLE, Int.reduceAdd, Int.reduceSub, Int.reduceNeg, Int.reduceMul, Int.reduceToNat, Nat.reduceSub, Nat.reduceMul, Nat.reduceLeDiff, Nat.reduceAdd, Nat.reduceLT, Nat.reduceEqDiff, reduceCtorEq, ↓reduceIte, rqs]
  cases hP : l.any P with
  | true => rw [decide_eq_true (he.mpr hP)]
  | false => rw [decide_eq_false fun h => by rw [he.mp h] at hP; cases hP]

theorem qgood1_ok (r : RQ) (h : Nt (2 ^ 42) r.2) : AC Tryz.prog 112 [cqq r] none [cb (decide (nv r.2 = 0))] := by
  refine AC.by_walk (rs := [.tmp 2]) ords Tryz.func112 (by rfl) (by rfl) (by rfl) (by rfl) (by rfl) ?_
  simp (disch := omega) only [wk, tis, Int.reduceNe, Int.reduceEq, Int.reduceLT, Int.reduceLE, Int.reduceAdd, Int.reduceSub, Int.reduceNeg, Int.reduceMul, Int.reduceToNat, Nat.reduceSub, Nat.reduceMul, Nat.reduceLeDiff, Nat.reduceAdd, Nat.reduceLT, Nat.reduceEqDiff, reduceCtorEq, ↓reduceIte, rqs]
  by_cases h0 : nv r.2 = 0
  · have h0' := h0
    refine call_by ((qcheck_bad r h h0)) (by rfl) (by simp) ?_
    simp (disch := omega) only [wk, tis, Int.reduceNe, Int.reduceEq, Int.reduceLT, Int.reduceLE, Int.reduceAdd, Int.reduceSub, Int.reduceNeg, Int.reduceMul, Int.reduceToNat, Nat.reduceSub, Nat.reduceMul, Nat.reduceLeDiff, Nat.reduceAdd, Nat.reduceLT, Nat.reduceEqDiff, reduceCtorEq, ↓reduceIte, rqs]
    rw [decide_eq_true h0]
    try rfl
  · have h0' := h0
    refine call_by ((qcheck_good r h h0)) (by rfl) (by simp) ?_
    simp (disch := omega) only [wk, tis, Int.reduceNe, Int.reduceEq, Int.reduceLT, Int.reduceLE, Int.reduceAdd, Int.reduceSub, Int.reduceNeg, Int.reduceMul, Int.reduceToNat, Nat.reduceSub, Nat.reduceMul, Nat.reduceLeDiff, Nat.reduceAdd, Nat.reduceLT, Nat.reduceEqDiff, reduceCtorEq, ↓reduceIte, rqs]
    rw [decide_eq_false h0]
    try rfl

theorem not_any {l : List RQ} : (!l.any fun r => decide (nv r.2 = 0)) = gd l := by
  unfold gd
  induction l with
  | nil => rfl
  | cons a l ih =>
    rw [List.any_cons, List.all_cons, Bool.not_or, ih]
    congr 1
    by_cases h : nv a.2 = 0 <;> simp [h]

theorem qgood_ok (l : List RQ) (h : BQ (2 ^ 40) (2 ^ 40) l) : AC Tryz.prog 39 [cqw l] none [cb (gd l)] := by
  have m := conq_ok l 112 (fun r => decide (nv r.2 = 0)) (Nat.le_trans h.1 (by omega)) (fun r hr => qgood1_ok r ⟨Nat.le_trans (h.2 r hr).2.1 (by omega), (h.2 r hr).2.2⟩)
  refine AC.by_walk (rs := [.tmp 2]) ords Tryz.func39 (by rfl) (by rfl) (by rfl) (by rfl) (by rfl) ?_
  simp (disch := omega) only [wk, tis, Int.reduceNe, Int.reduceEq, Int.reduceLT, Int.reduceLE, Int.reduceAdd, Int.reduceSub, Int.reduceNeg, Int.reduceMul, Int.reduceToNat, Nat.reduceSub, Nat.reduceMul, Nat.reduceLeDiff, Nat.reduceAdd, Nat.reduceLT, Nat.reduceEqDiff, reduceCtorEq, ↓reduceIte, rqs, List.map_nil]
  refine call_by (m) (by first | rfl | (simp only [tocvs, tocv, List.map_nil]; rfl) | (simp only [tocvs, tocv, toboxes, tobox, updH_at, Nat.reduceEqDiff, ↓reduceIte, List.map_nil]; rfl)) (by simp) ?_
  simp (disch := omega) only [wk, tis, Int.reduceNe, Int.reduceEq, Int.reduceLT, Int.reduceLE, Int.reduceAdd, Int.reduceSub, Int.reduceNeg, Int.reduceMul, Int.reduceToNat, Nat.reduceSub, Nat.reduceMul, Nat.reduceLeDiff, Nat.reduceAdd, Nat.reduceLT, Nat.reduceEqDiff, reduceCtorEq, ↓reduceIte, rqs, List.map_nil]
  exact not_any

/-! ### Values -/
theorem evq_nil (x : Rat) : evq [] x = 0 := rfl
theorem szq0 : qz 0 = 1 := qz_zero

/-- Bounds for the values of a polynomial. -/
structure VB (p : List RQ) (x : RQ) (B : Nat) : Prop where
  hp : GQ (2 ^ 30) B p
  hx : SzQ B x
  d : nv x.2 ≠ 0
  e : ∀ q : List Rat, q.length ≤ p.length → (∀ c ∈ q, c ∈ qvs p) → qz (evq q (qv x)) ≤ B
  w : ∀ i, i ≤ p.length → qz (qv x ^ i) ≤ B
  b : B ≤ 2 ^ 34
  one : 1 ≤ B
theorem VB.of {n K X B : Nat} {p : List RQ} {x : RQ} (hp : GQ n K p) (hx : SzQ X x) (hd : nv x.2 ≠ 0) (hn : n ≤ 2 ^ 30) (hB : n * (K + X + 1) + K + X + 1 ≤ B) (hB' : B ≤ 2 ^ 34) : VB p x B where
  hp := hp.mono hn (by omega)
  hx := hx.mono (by omega)
  d := hd
  e := fun q hq hc => by
    have h := qz_evq (K := K) (qz_raw hx hd) (p := q) fun c hc' => hp.qb.2 c (hc c hc')
    have h2 := Nat.mul_le_mul_right (K + X + 1) (Nat.le_trans hq hp.1)
    omega
  w := fun i hi => by
    have h := qz_pow (qz_raw hx hd) i
    have h2 := Nat.mul_le_mul_right X (Nat.le_trans hi hp.1)
    have h3 : n * X ≤ n * (K + X + 1) := Nat.mul_le_mul_left n (by omega)
    omega
  b := hB'
  one := by omega
theorem VB.take {p : List RQ} {x : RQ} {B : Nat} (v : VB p x B) (i : Nat) : qz (evq ((qvs p).take i) (qv x)) ≤ B :=
  v.e _ (by rw [List.length_take, qvs_len]; omega) fun c hc => List.mem_of_mem_take hc
theorem VB.drop {p : List RQ} {x : RQ} {B : Nat} (v : VB p x B) (i : Nat) : qz (evq ((qvs p).drop i) (qv x)) ≤ B :=
  v.e _ (by rw [List.length_drop, qvs_len]; omega) fun c hc => List.mem_of_mem_drop hc
theorem crat_zero' : qrow (crat 0) = qrow ((false, []), [1]) := by
  have := crat_int 0
  rw [canon_zero] at this
  exact congrArg qrow this

theorem hzero_ok : AC Tryz.prog 135 [] none [cqz 0] := by
  have m := hP_ok 0 1 (by omega) (by omega) (by omega) (by omega)
  rw [show ((0 : Int) : Rat) / ((1 : Nat) : Rat) = 0 by decide +kernel] at m
  refine AC.by_walk (rs := [.cell 0 31]) ords Tryz.func135 (by rfl) (by rfl) (by rfl) (by rfl) (by rfl) ?_
  simp (disch := omega) only [wk, tis, Int.reduceNe, Int.reduceEq, Int.reduceLT, Int.reduceLE, Int.reduceAdd, Int.reduceSub, Int.reduceNeg, Int.reduceMul, Int.reduceToNat, Nat.reduceSub, Nat.reduceMul, Nat.reduceLeDiff, Nat.reduceAdd, Nat.reduceLT, Nat.reduceEqDiff, reduceCtorEq, ↓reduceIte, rqs]
  refine call_by (m) (by rfl) (by simp) ?_
  simp (disch := omega) only [wk, tis, Int.reduceNe, Int.reduceEq, Int.reduceLT, Int.reduceLE, Int.reduceAdd, Int.reduceSub, Int.reduceNeg, Int.reduceMul, Int.reduceToNat, Nat.reduceSub, Nat.reduceMul, Nat.reduceLeDiff, Nat.reduceAdd, Nat.reduceLT, Nat.reduceEqDiff, reduceCtorEq, ↓reduceIte, rqs]
  try rfl
theorem hone_ok : AC Tryz.prog 48 [ci 1, ci 1] none [cqz 1] := by
  have m := hP_ok 1 1 (by omega) (by omega) (by omega) (by omega)
  rwa [show ((1 : Int) : Rat) / ((1 : Nat) : Rat) = 1 by decide +kernel] at m

theorem hat_ok (p : List RQ) (x : RQ) (B : Nat) (v : VB p x B) : AC Tryz.prog 80 [cqw p, cqq x] none [cqz (evq (qvs p) (qv x))] := by
  have hl := v.hp.1
  have hb := v.b
  have o := hone_ok
  refine AC.by_walk (rs := [.cell 4 31]) ords Tryz.func80 (by rfl) (by rfl) (by rfl) (by rfl) (by rfl) ?_
  simp (disch := omega) only [wk, tis, Int.reduceNe, Int.reduceEq, Int.reduceLT, Int.reduceLE, Int.reduceAdd, Int.reduceSub, Int.reduceNeg, Int.reduceMul, Int.reduceToNat, Nat.reduceSub, Nat.reduceMul, Nat.reduceLeDiff, Nat.reduceAdd, Nat.reduceLT, Nat.reduceEqDiff, reduceCtorEq, ↓reduceIte, rqs]
  refine call_by (hzero_ok) (by rfl) (by simp) ?_
  simp (disch := omega) only [wk, tis, Int.reduceNe, Int.reduceEq, Int.reduceLT, Int.reduceLE, Int.reduceAdd, Int.reduceSub, Int.reduceNeg, Int.reduceMul, Int.reduceToNat, Nat.reduceSub, Nat.reduceMul, Nat.reduceLeDiff, Nat.reduceAdd, Nat.reduceLT, Nat.reduceEqDiff, reduceCtorEq, ↓reduceIte, rqs]
  refine call_by (o) (by rfl) (by simp) ?_
  simp (disch := omega) only [wk, tis, Int.reduceNe, Int.reduceEq, Int.reduceLT, Int.reduceLE, Int.reduceAdd, Int.reduceSub, Int.reduceNeg, Int.reduceMul, Int.reduceToNat, Nat.reduceSub, Nat.reduceMul, Nat.reduceLeDiff, Nat.reduceAdd, Nat.reduceLT, Nat.reduceEqDiff, reduceCtorEq, ↓reduceIte, rqs]
  refine aloop_by (fun f H => ∃ (i st3 st5 st6 : Nat), i ≤ p.length ∧ f 7 = .iv (.int .i64 i) ∧ f 0 = .iv (.sl (rats p)) ∧ f 3 = .hp 3 st3 0 0 ∧ H 3 = .blk false st3 31 3 [qrow x] ∧ f 5 = .hp 5 st5 0 0 ∧ H 5 = .blk false st5 31 3 [qrow (crat (evq ((qvs p).take i) (qv x)))] ∧ f 6 = .hp 6 st6 0 0 ∧ H 6 = .blk false st6 31 3 [qrow (crat (qv x ^ i))] ∧ f 4 = .hp 4 1 0 0 ∧ H 4 = .blk false 1 31 3 [[.bool false, .sl [], .sl []]]) (fun f H => (p.length - intAt f 7).toNat) ?_ ?_
  · refine ⟨0, 1, 1, 1, by omega, ?_⟩
    simp (disch := omega) only [wk, tis, Int.reduceNe, Int.reduceEq, Int.reduceLT, Int.reduceLE, Int.reduceAdd, Int.reduceSub, Int.reduceNeg, Int.reduceMul, Int.reduceToNat, Nat.reduceSub, Nat.reduceMul, Nat.reduceLeDiff, Nat.reduceAdd, Nat.reduceLT, Nat.reduceEqDiff, reduceCtorEq, ↓reduceIte, rqs, List.take_zero, evq_nil, Rat.pow_zero]
  rintro f H ⟨i, st3, st5, st6, hi, hF⟩
  rw [intAt_of hF.1]
  simp (disch := omega) only [wk, tis, Int.reduceNe, Int.reduceEq, Int.reduceLT, Int.reduceLE, Int.reduceAdd, Int.reduceSub, Int.reduceNeg, Int.reduceMul, Int.reduceToNat, Nat.reduceSub, Nat.reduceMul, Nat.reduceLeDiff, Nat.reduceAdd, Nat.reduceLT, Nat.reduceEqDiff, reduceCtorEq, ↓reduceIte, rqs, hF]
  refine if_by (fun hlt => ?_) (fun hlt => ?_)
  · have hlt' : i < p.length := by omega
    have hr := v.hp.get hlt'
    have hrd := v.hp.den hlt'
    have z1 := v.take i
    have z2 := v.take (i + 1)
    have z3 := v.w i hi
    have z4 := v.w (i + 1) (by omega)
    have zc := qz_raw hr hrd
    have m := htimes_ok (p.getD i q0) (crat (qv x ^ i)) (hr.mono (by omega)) (szq_crat (by omega)) hrd (nv_crat0 _)
    rw [qv_crat, ← cfq_qvs] at m
    have zm := qz_mul (cfq (qvs p) i) (qv x ^ i)
    rw [← cfq_qvs] at zc
    have s := hplus_ok (crat (evq ((qvs p).take i) (qv x))) (crat (cfq (qvs p) i * qv x ^ i)) (szq_crat (by omega)) (szq_crat (by omega)) (nv_crat0 _) (nv_crat0 _)
    rw [qv_crat, qv_crat, show evq ((qvs p).take i) (qv x) + cfq (qvs p) i * qv x ^ i = evq ((qvs p).take (i + 1)) (qv x) from (evq_take (qvs p) (qv x) (by rw [qvs_len]; exact hlt')).symm] at s
    have w := htimes_ok (crat (qv x ^ i)) x (szq_crat (by omega)) (v.hx.mono (by omega)) (nv_crat0 _) v.d
    rw [qv_crat, ← Rat.pow_succ] at w
    simp (disch := omega) only [wk, tis, Int.reduceNe, Int.reduceEq, Int.reduceLT, Int.reduceLE, Int.reduceAdd, Int.reduceSub, Int.reduceNeg, Int.reduceMul, Int.reduceToNat, Nat.reduceSub, Nat.reduceMul, Nat.reduceLeDiff, Nat.reduceAdd, Nat.reduceLT, Nat.reduceEqDiff, reduceCtorEq, ↓reduceIte, rqs, hF]
    refine ⟨tmps_by (by kernel_rfl), ?_⟩
    refine call_by (m) (by first | rfl | (simp only [tocvs, tocv, hF]; rfl) | (simp only [tocvs, tocv, toboxes, tobox, updH_at, Nat.reduceEqDiff, ↓reduceIte, hF]; rfl)) (by simp) ?_
    simp (disch := omega) only [wk, tis, Int.reduceNe, Int.reduceEq, Int.reduceLT, Int.reduceLE, Int.reduceAdd, Int.reduceSub, Int.reduceNeg, Int.reduceMul, Int.reduceToNat, Nat.reduceSub, Nat.reduceMul, Nat.reduceLeDiff, Nat.reduceAdd, Nat.reduceLT, Nat.reduceEqDiff, reduceCtorEq, ↓reduceIte, rqs, hF]
    refine call_by (s) (by first | rfl | (simp only [tocvs, tocv, hF]; rfl) | (simp only [tocvs, tocv, toboxes, tobox, updH_at, Nat.reduceEqDiff, ↓reduceIte, hF]; rfl)) (by simp) ?_
    simp (disch := omega) only [wk, tis, Int.reduceNe, Int.reduceEq, Int.reduceLT, Int.reduceLE, Int.reduceAdd, Int.reduceSub, Int.reduceNeg, Int.reduceMul, Int.reduceToNat, Nat.reduceSub, Nat.reduceMul, Nat.reduceLeDiff, Nat.reduceAdd, Nat.reduceLT, Nat.reduceEqDiff, reduceCtorEq, ↓reduceIte, rqs, hF]
    first | exact log_by (by kernel_rfl) | refine ⟨log_by (by kernel_rfl), ?_⟩
    refine call_by (w) (by first | rfl | (simp only [tocvs, tocv, hF]; rfl) | (simp only [tocvs, tocv, toboxes, tobox, updH_at, Nat.reduceEqDiff, ↓reduceIte, hF]; rfl)) (by simp) ?_
    simp (disch := omega) only [wk, tis, Int.reduceNe, Int.reduceEq, Int.reduceLT, Int.reduceLE, Int.reduceAdd, Int.reduceSub, Int.reduceNeg, Int.reduceMul, Int.reduceToNat, Nat.reduceSub, Nat.reduceMul, Nat.reduceLeDiff, Nat.reduceAdd, Nat.reduceLT, Nat.reduceEqDiff, reduceCtorEq, ↓reduceIte, rqs, hF]
    exact ⟨⟨i + 1, st3, st5, st6, by omega, by omega, rfl, rfl, rfl, rfl, rfl, rfl⟩, by omega⟩
  · simp (disch := omega) only [wk, tis, Int.reduceNe, Int.reduceEq, Int.reduceLT, Int.reduceLE, Int.reduceAdd, Int.reduceSub, Int.reduceNeg, Int.reduceMul, Int.reduceToNat, Nat.reduceSub, Nat.reduceMul, Nat.reduceLeDiff, Nat.reduceAdd, Nat.reduceLT, Nat.reduceEqDiff, reduceCtorEq, ↓reduceIte, rqs, hF]
    rw [List.take_of_length_le (by rw [qvs_len]; omega)]
    try rfl

theorem hAt_ok (p : List RQ) (x : RQ) (B : Nat) (v : VB p x B) : AC Tryz.prog 12 [cqw p, cqq x] none [cqz (evq (qvs p) (qv x)), ci 0] := by
  have hb := v.b
  have g := hgood_ok p (v.hp.bq.mono (by omega) (by omega))
  rw [v.hp.gd] at g
  have o := hok_ok x ⟨Nat.le_trans v.hx.2.1 (by omega), v.hx.2.2⟩
  rw [decide_eq_true v.d] at o
  have m := hat_ok p x B v
  refine AC.by_walk (rs := [.cell 4 31, .tmp 5]) ords Tryz.func12 (by rfl) (by rfl) (by rfl) (by rfl) (by rfl) ?_
  simp (disch := omega) only [wk, tis, Int.reduceNe, Int.reduceEq, Int.reduceLT, Int.reduceLE, Int.reduceAdd, Int.reduceSub, Int.reduceNeg, Int.reduceMul, Int.reduceToNat, Nat.reduceSub, Nat.reduceMul, Nat.reduceLeDiff, Nat.reduceAdd, Nat.reduceLT, Nat.reduceEqDiff, reduceCtorEq, ↓reduceIte, rqs]
  refine call_by (g) (by rfl) (by simp) ?_
  simp (disch := omega) only [wk, tis, Int.reduceNe, Int.reduceEq, Int.reduceLT, Int.reduceLE, Int.reduceAdd, Int.reduceSub, Int.reduceNeg, Int.reduceMul, Int.reduceToNat, Nat.reduceSub, Nat.reduceMul, Nat.reduceLeDiff, Nat.reduceAdd, Nat.reduceLT, Nat.reduceEqDiff, reduceCtorEq, ↓reduceIte, rqs]
  refine call_by (o) (by rfl) (by simp) ?_
  simp (disch := omega) only [wk, tis, Int.reduceNe, Int.reduceEq, Int.reduceLT, Int.reduceLE, Int.reduceAdd, Int.reduceSub, Int.reduceNeg, Int.reduceMul, Int.reduceToNat, Nat.reduceSub, Nat.reduceMul, Nat.reduceLeDiff, Nat.reduceAdd, Nat.reduceLT, Nat.reduceEqDiff, reduceCtorEq, ↓reduceIte, rqs]
  refine call_by (m) (by rfl) (by simp) ?_
  simp (disch := omega) only [wk, tis, Int.reduceNe, Int.reduceEq, Int.reduceLT, Int.reduceLE, Int.reduceAdd, Int.reduceSub, Int.reduceNeg, Int.reduceMul, Int.reduceToNat, Nat.reduceSub, Nat.reduceMul, Nat.reduceLeDiff, Nat.reduceAdd, Nat.reduceLT, Nat.reduceEqDiff, reduceCtorEq, ↓reduceIte, rqs]
  try rfl

theorem hAt_bad (p : List RQ) (x : RQ) (hp : BQ (2 ^ 40) (2 ^ 38) p) (hx : SzQ (2 ^ 38) x) (h : gd p = false ∨ nv x.2 = 0) : AC Tryz.prog 12 [cqw p, cqq x] none [cqq q0, ci 1] := by
  have g := hgood_ok p hp
  have o := hok_ok x ⟨Nat.le_trans hx.2.1 (by omega), hx.2.2⟩
  refine AC.by_walk (rs := [.cell 4 31, .tmp 5]) ords Tryz.func12 (by rfl) (by rfl) (by rfl) (by rfl) (by rfl) ?_
  simp (disch := omega) only [wk, tis, Int.reduceNe, Int.reduceEq, Int.reduceLT, Int.reduceLE, Int.reduceAdd, Int.reduceSub, Int.reduceNeg, Int.reduceMul, Int.reduceToNat, Nat.reduceSub, Nat.reduceMul, Nat.reduceLeDiff, Nat.reduceAdd, Nat.reduceLT, Nat.reduceEqDiff, reduceCtorEq, ↓reduceIte, rqs]
  cases hg : gd p with
  | false =>
    rw [hg] at g
    refine call_by (g) (by rfl) (by simp) ?_
    simp (disch := omega) only [wk, tis, Int.reduceNe, Int.reduceEq, Int.reduceLT, Int.reduceLE, Int.reduceAdd, Int.reduceSub, Int.reduceNeg, Int.reduceMul, Int.reduceToNat, Nat.reduceSub, Nat.reduceMul, Nat.reduceLeDiff, Nat.reduceAdd, Nat.reduceLT, Nat.reduceEqDiff, reduceCtorEq, ↓reduceIte, rqs]
    try rfl
  | true =>
    rw [hg] at g
    have h0 : nv x.2 = 0 := h.resolve_left (by rw [hg]; decide)
    rw [decide_eq_false (fun h => h h0)] at o
    refine call_by (g) (by rfl) (by simp) ?_
    simp (disch := omega) only [wk, tis, Int.reduceNe, Int.reduceEq, Int.reduceLT, Int.reduceLE, Int.reduceAdd, Int.reduceSub, Int.reduceNeg, Int.reduceMul, Int.reduceToNat, Nat.reduceSub, Nat.reduceMul, Nat.reduceLeDiff, Nat.reduceAdd, Nat.reduceLT, Nat.reduceEqDiff, reduceCtorEq, ↓reduceIte, rqs]
    refine call_by (o) (by rfl) (by simp) ?_
    simp (disch := omega) only [wk, tis, Int.reduceNe, Int.reduceEq, Int.reduceLT, Int.reduceLE, Int.reduceAdd, Int.reduceSub, Int.reduceNeg, Int.reduceMul, Int.reduceToNat, Nat.reduceSub, Nat.reduceMul, Nat.reduceLeDiff, Nat.reduceAdd, Nat.reduceLT, Nat.reduceEqDiff, reduceCtorEq, ↓reduceIte, rqs]
    try rfl

theorem eAt_ok (p : List RQ) (x : RQ) (B : Nat) (v : VB p x B) : AC Tryz.prog 13 [cqw p, cqq x] none [cqz (evq (qvs p) (qv x)), ci 0] := by
  have hl := v.hp.1
  have hb := v.b
  have g := qgood_ok p (v.hp.bq.mono (by omega) (by omega))
  rw [v.hp.gd] at g
  have o := qcheck_good x ⟨Nat.le_trans v.hx.2.1 (by omega), v.hx.2.2⟩ v.d
  have w := ewhole_ok 0 (by omega) (by omega)
  rw [Rat.intCast_zero] at w
  have e0 : evq ((qvs p).drop p.length) (qv x) = 0 := by rw [← qvs_len p, List.drop_length]; rfl
  refine AC.by_walk (rs := [.cell 4 31, .tmp 5]) ords Tryz.func13 (by rfl) (by rfl) (by rfl) (by rfl) (by rfl) ?_
  simp (disch := omega) only [wk, tis, Int.reduceNe, Int.reduceEq, Int.reduceLT, Int.reduceLE, Int.reduceAdd, Int.reduceSub, Int.reduceNeg, Int.reduceMul, Int.reduceToNat, Nat.reduceSub, Nat.reduceMul, Nat.reduceLeDiff, Nat.reduceAdd, Nat.reduceLT, Nat.reduceEqDiff, reduceCtorEq, ↓reduceIte, rqs]
  refine call_by (g) (by rfl) (by simp) ?_
  simp (disch := omega) only [wk, tis, Int.reduceNe, Int.reduceEq, Int.reduceLT, Int.reduceLE, Int.reduceAdd, Int.reduceSub, Int.reduceNeg, Int.reduceMul, Int.reduceToNat, Nat.reduceSub, Nat.reduceMul, Nat.reduceLeDiff, Nat.reduceAdd, Nat.reduceLT, Nat.reduceEqDiff, reduceCtorEq, ↓reduceIte, rqs]
  refine call_by (o) (by rfl) (by simp) ?_
  simp (disch := omega) only [wk, tis, Int.reduceNe, Int.reduceEq, Int.reduceLT, Int.reduceLE, Int.reduceAdd, Int.reduceSub, Int.reduceNeg, Int.reduceMul, Int.reduceToNat, Nat.reduceSub, Nat.reduceMul, Nat.reduceLeDiff, Nat.reduceAdd, Nat.reduceLT, Nat.reduceEqDiff, reduceCtorEq, ↓reduceIte, rqs]
  refine call_by (w) (by rfl) (by simp) ?_
  simp (disch := omega) only [wk, tis, Int.reduceNe, Int.reduceEq, Int.reduceLT, Int.reduceLE, Int.reduceAdd, Int.reduceSub, Int.reduceNeg, Int.reduceMul, Int.reduceToNat, Nat.reduceSub, Nat.reduceMul, Nat.reduceLeDiff, Nat.reduceAdd, Nat.reduceLT, Nat.reduceEqDiff, reduceCtorEq, ↓reduceIte, rqs]
  refine aloop_by (fun f H => ∃ (i st3 st6 : Nat), i ≤ p.length ∧ f 7 = .iv (.int .i64 ((i : Int) - 1)) ∧ f 0 = .iv (.sl (rats p)) ∧ f 3 = .hp 3 st3 0 0 ∧ H 3 = .blk false st3 31 3 [qrow x] ∧ f 6 = .hp 6 st6 0 0 ∧ H 6 = .blk false st6 31 3 [qrow (crat (evq ((qvs p).drop i) (qv x)))] ∧ f 4 = .hp 4 1 0 0 ∧ H 4 = .blk false 1 31 3 [[.bool false, .sl [], .sl []]]) (fun f H => (intAt f 7 + 1).toNat) ?_ ?_
  · refine ⟨p.length, 1, 1, by omega, ?_⟩
    simp (disch := omega) only [wk, tis, Int.reduceNe, Int.reduceEq, Int.reduceLT, Int.reduceLE, Int.reduceAdd, Int.reduceSub, Int.reduceNeg, Int.reduceMul, Int.reduceToNat, Nat.reduceSub, Nat.reduceMul, Nat.reduceLeDiff, Nat.reduceAdd, Nat.reduceLT, Nat.reduceEqDiff, reduceCtorEq, ↓reduceIte, rqs, e0]
  rintro f H ⟨i, st3, st6, hi, hF⟩
  rw [intAt_of hF.1]
  simp (disch := omega) only [wk, tis, Int.reduceNe, Int.reduceEq, Int.reduceLT, Int.reduceLE, Int.reduceAdd, Int.reduceSub, Int.reduceNeg, Int.reduceMul, Int.reduceToNat, Nat.reduceSub, Nat.reduceMul, Nat.reduceLeDiff, Nat.reduceAdd, Nat.reduceLT, Nat.reduceEqDiff, reduceCtorEq, ↓reduceIte, rqs, hF]
  refine if_by (fun hlt => ?_) (fun hlt => ?_)
  · obtain ⟨j, rfl⟩ : ∃ j, i = j + 1 := ⟨i - 1, by omega⟩
    have ej : ((j + 1 : Nat) : Int) - 1 = (j : Int) := by omega
    rw [ej] at hF
    have hlt' : j < p.length := by omega
    have hr := v.hp.get hlt'
    have hrd := v.hp.den hlt'
    have z1 := v.drop (j + 1)
    have z2 := v.drop j
    have zx := qz_raw v.hx v.d
    have zm := qz_mul (evq ((qvs p).drop (j + 1)) (qv x)) (qv x)
    have m := qmul_ok (crat (evq ((qvs p).drop (j + 1)) (qv x))) x (szq_crat (by omega)) (v.hx.mono (by omega)) (nv_crat0 _) v.d
    rw [qv_crat] at m
    have s := qadd_ok (crat (evq ((qvs p).drop (j + 1)) (qv x) * qv x)) (p.getD j q0) (szq_crat (by omega)) (hr.mono (by omega)) (nv_crat0 _) hrd
    rw [qv_crat, ← cfq_qvs, show evq ((qvs p).drop (j + 1)) (qv x) * qv x + cfq (qvs p) j = evq ((qvs p).drop j) (qv x) from (evq_drop (qvs p) (qv x) (by rw [qvs_len]; exact hlt')).symm] at s
    simp (disch := omega) only [wk, tis, Int.reduceNe, Int.reduceEq, Int.reduceLT, Int.reduceLE, Int.reduceAdd, Int.reduceSub, Int.reduceNeg, Int.reduceMul, Int.reduceToNat, Nat.reduceSub, Nat.reduceMul, Nat.reduceLeDiff, Nat.reduceAdd, Nat.reduceLT, Nat.reduceEqDiff, reduceCtorEq, ↓reduceIte, rqs, hF, ej]
    refine call_by (m) (by first | rfl | (simp only [tocvs, tocv, hF, ej]; rfl) | (simp only [tocvs, tocv, toboxes, tobox, updH_at, Nat.reduceEqDiff, ↓reduceIte, hF, ej]; rfl)) (by simp) ?_
    simp (disch := omega) only [wk, tis, Int.reduceNe, Int.reduceEq, Int.reduceLT, Int.reduceLE, Int.reduceAdd, Int.reduceSub, Int.reduceNeg, Int.reduceMul, Int.reduceToNat, Nat.reduceSub, Nat.reduceMul, Nat.reduceLeDiff, Nat.reduceAdd, Nat.reduceLT, Nat.reduceEqDiff, reduceCtorEq, ↓reduceIte, rqs, hF, ej]
    refine ⟨tmps_by (by kernel_rfl), ?_⟩
    refine call_by (s) (by first | rfl | (simp only [tocvs, tocv, hF, ej]; rfl) | (simp only [tocvs, tocv, toboxes, tobox, updH_at, Nat.reduceEqDiff, ↓reduceIte, hF, ej]; rfl)) (by simp) ?_
    simp (disch := omega) only [wk, tis, Int.reduceNe, Int.reduceEq, Int.reduceLT, Int.reduceLE, Int.reduceAdd, Int.reduceSub, Int.reduceNeg, Int.reduceMul, Int.reduceToNat, Nat.reduceSub, Nat.reduceMul, Nat.reduceLeDiff, Nat.reduceAdd, Nat.reduceLT, Nat.reduceEqDiff, reduceCtorEq, ↓reduceIte, rqs, hF, ej]
    first | exact log_by (by kernel_rfl) | refine ⟨log_by (by kernel_rfl), ?_⟩
    refine ⟨⟨j, st3, st6, by omega, ?_⟩, by omega⟩
    (repeat' apply And.intro) <;> first | rfl | omega
  · have hi0 : i = 0 := by omega
    subst hi0
    rw [List.drop_zero] at hF
    simp (disch := omega) only [wk, tis, Int.reduceNe, Int.reduceEq, Int.reduceLT, Int.reduceLE, Int.reduceAdd, Int.reduceSub, Int.reduceNeg, Int.reduceMul, Int.reduceToNat, Nat.reduceSub, Nat.reduceMul, Nat.reduceLeDiff, Nat.reduceAdd, Nat.reduceLT, Nat.reduceEqDiff, reduceCtorEq, ↓reduceIte, rqs, hF]
    try rfl

theorem eAt_bad (p : List RQ) (x : RQ) (hp : BQ (2 ^ 40) (2 ^ 38) p) (hx : SzQ (2 ^ 38) x) (h : gd p = false ∨ nv x.2 = 0) : AC Tryz.prog 13 [cqw p, cqq x] none [cqq q0, ci 1] := by
  have g := qgood_ok p (hp.mono (by omega) (by omega))
  refine AC.by_walk (rs := [.cell 4 31, .tmp 5]) ords Tryz.func13 (by rfl) (by rfl) (by rfl) (by rfl) (by rfl) ?_
  simp (disch := omega) only [wk, tis, Int.reduceNe, Int.reduceEq, Int.reduceLT, Int.reduceLE, Int.reduceAdd, Int.reduceSub, Int.reduceNeg, Int.reduceMul, Int.reduceToNat, Nat.reduceSub, Nat.reduceMul, Nat.reduceLeDiff, Nat.reduceAdd, Nat.reduceLT, Nat.reduceEqDiff, reduceCtorEq, ↓reduceIte, rqs]
  cases hg : gd p with
  | false =>
    rw [hg] at g
    refine call_by (g) (by rfl) (by simp) ?_
    simp (disch := omega) only [wk, tis, Int.reduceNe, Int.reduceEq, Int.reduceLT, Int.reduceLE, Int.reduceAdd, Int.reduceSub, Int.reduceNeg, Int.reduceMul, Int.reduceToNat, Nat.reduceSub, Nat.reduceMul, Nat.reduceLeDiff, Nat.reduceAdd, Nat.reduceLT, Nat.reduceEqDiff, reduceCtorEq, ↓reduceIte, rqs]
    try rfl
  | true =>
    rw [hg] at g
    have h0 : nv x.2 = 0 := h.resolve_left (by rw [hg]; decide)
    have o := qcheck_bad x ⟨Nat.le_trans hx.2.1 (by omega), hx.2.2⟩ h0
    refine call_by (g) (by rfl) (by simp) ?_
    simp (disch := omega) only [wk, tis, Int.reduceNe, Int.reduceEq, Int.reduceLT, Int.reduceLE, Int.reduceAdd, Int.reduceSub, Int.reduceNeg, Int.reduceMul, Int.reduceToNat, Nat.reduceSub, Nat.reduceMul, Nat.reduceLeDiff, Nat.reduceAdd, Nat.reduceLT, Nat.reduceEqDiff, reduceCtorEq, ↓reduceIte, rqs]
    refine call_by (o) (by rfl) (by simp) ?_
    simp (disch := omega) only [wk, tis, Int.reduceNe, Int.reduceEq, Int.reduceLT, Int.reduceLE, Int.reduceAdd, Int.reduceSub, Int.reduceNeg, Int.reduceMul, Int.reduceToNat, Nat.reduceSub, Nat.reduceMul, Nat.reduceLeDiff, Nat.reduceAdd, Nat.reduceLT, Nat.reduceEqDiff, reduceCtorEq, ↓reduceIte, rqs]
    try rfl
end Go.Proofs.YtjadkhkgmdikiaaGreat

namespace Go.Proofs.YtjadkhkgmdikiaaGreat
open Go Go.Proofs Go.AL
set_option linter.unusedSimpArgs false
set_option linter.unusedVariables false

/-! ### Signs of rationals -/
def sgq (q : Rat) : Int := q.num.sign
theorem sgq_pos {q : Rat} (h : 0 < q) : sgq q = 1 := by
  refine Int.sign_eq_one_of_pos ?_
  have h1 : 0 ≤ q.num := Rat.num_nonneg.mpr (Rat.le_of_lt h)
  have h2 : q.num ≠ 0 := fun e => by rw [Rat.num_eq_zero.mp e] at h; exact Rat.lt_irrefl h
  omega
theorem sgq_neg {q : Rat} (h : q < 0) : sgq q = -1 := by
  refine Int.sign_eq_neg_one_of_neg ?_
  have h1 : ¬ 0 ≤ q.num := fun e => Rat.not_le.mpr h (Rat.num_nonneg.mp e)
  omega
theorem sgq_zero : sgq 0 = 0 := rfl
theorem sgq_cases (q : Rat) : (0 < q ∧ sgq q = 1) ∨ (q = 0 ∧ sgq q = 0) ∨ (q < 0 ∧ sgq q = -1) := by
  by_cases h : q < 0
  · exact .inr (.inr ⟨h, sgq_neg h⟩)
  · by_cases h0 : q = 0
    · exact .inr (.inl ⟨h0, by rw [h0]; rfl⟩)
    · have : 0 < q := Rat.lt_of_le_of_ne (Rat.not_lt.mp h) (fun e => h0 e.symm)
      exact .inl ⟨this, sgq_pos this⟩
theorem sgq_mul (p q : Rat) : sgq (p * q) = sgq p * sgq q := by
  have hn : ∀ {x : Rat}, x < 0 → 0 < -x := fun {x} h => by grind
  rcases sgq_cases p with ⟨h1, e1⟩ | ⟨h1, e1⟩ | ⟨h1, e1⟩ <;> rcases sgq_cases q with ⟨h2, e2⟩ | ⟨h2, e2⟩ | ⟨h2, e2⟩ <;> rw [e1, e2]
  · rw [sgq_pos (Rat.mul_pos h1 h2)]; rfl
  · rw [h2, Rat.mul_zero]; rfl
  · have := Rat.mul_pos h1 (hn h2)
    rw [sgq_neg (by rw [Rat.mul_neg] at this; grind)]; rfl
  · rw [h1, Rat.zero_mul]; rfl
  · rw [h1, Rat.zero_mul]; rfl
  · rw [h1, Rat.zero_mul]; rfl
  · have := Rat.mul_pos (hn h1) h2
    rw [sgq_neg (by rw [Rat.neg_mul] at this; grind)]; rfl
  · rw [h2, Rat.mul_zero]; rfl
  · have := Rat.mul_pos (hn h1) (hn h2)
    rw [sgq_pos (by rw [Rat.neg_mul, Rat.mul_neg, Rat.neg_neg] at this; exact this)]; rfl
theorem sgq_int (z : Int) : sgq (z : Rat) = z.sign := by rw [sgq, Rat.num_intCast]
theorem sgq_eq_zero {q : Rat} : sgq q = 0 ↔ q = 0 := by
  rcases sgq_cases q with ⟨h1, e1⟩ | ⟨h1, e1⟩ | ⟨h1, e1⟩ <;> rw [e1]
  · exact ⟨fun h => by omega, fun h => by rw [h] at h1; exact (Rat.lt_irrefl h1).elim⟩
  · exact ⟨fun _ => h1, fun _ => rfl⟩
  · exact ⟨fun h => by omega, fun h => by rw [h] at h1; exact (Rat.lt_irrefl h1).elim⟩
theorem sgq_qv {r : RQ} (h : nv r.2 ≠ 0) : (iv r.1).sign = sgq (qv r) := by
  rw [qv_eq]
  have hp : (0 : Rat) < (nv r.2 : Rat) := Rat.natCast_pos.mpr (by omega)
  have e : (iv r.1 : Rat) = (iv r.1 : Rat) / (nv r.2 : Rat) * (nv r.2 : Rat) := (Rat.div_mul_cancel (Rat.ne_of_gt hp)).symm
  have e2 := congrArg sgq e
  rw [sgq_mul, sgq_int, sgq_pos hp, Int.mul_one] at e2
  exact e2

theorem evq_trim (q : List Rat) (x : Rat) : evq (trimq q) x = evq q x := evq_ext x (cfq_trimq q)
theorem evq_qp_trim (p : List Int) (x : Rat) : evq (qp (trimz p)) x = evq (qp p) x := evq_ext x fun k => by rw [cfq_qp, cfq_qp, cf_trimz]
theorem ihom_evq {a b : Int} (hb : b ≠ 0) : ∀ p : List Int, ((ihom p a b : Int) : Rat) * (b : Rat) = (b : Rat) ^ p.length * evq (qp p) ((a : Rat) / (b : Rat))
  | [] => by
    rw [ihom, qp, List.map_nil, evq, Rat.intCast_zero]; grind
  | c :: p => by
    have ih := ihom_evq (a := a) hb p
    have hr : (b : Rat) ≠ 0 := fun h => hb (Rat.intCast_eq_zero_iff.mp h)
    have e : qp (c :: p) = (c : Rat) :: qp p := rfl
    rw [ihom, e, evq, List.length_cons, Rat.intCast_add, Rat.intCast_mul, Rat.intCast_mul, Rat.intCast_pow, Rat.pow_succ]
    have h2 : (a : Rat) / (b : Rat) * (b : Rat) = (a : Rat) := Rat.div_mul_cancel hr
    generalize (a : Rat) / (b : Rat) = x at *
    rw [← h2]
    grind
theorem ihom_sign {p : List Int} {a : Int} {b : Nat} (hb : b ≠ 0) : (ihom (trimz p) a (b : Int)).sign = sgq (evq (qp p) ((a : Rat) / (b : Rat))) := by
  have h := ihom_evq (a := a) (b := (b : Int)) (by omega) (trimz p)
  rw [Rat.intCast_natCast, evq_qp_trim] at h
  have hp : (0 : Rat) < (b : Rat) := Rat.natCast_pos.mpr (by omega)
  have e := congrArg sgq h
  rwa [sgq_mul, sgq_mul, sgq_int, sgq_pos hp, sgq_pos (Rat.pow_pos hp), Int.mul_one, Int.one_mul] at e

/-! ### At integers -/
theorem ev_snoc (p : List Int) (c t : Int) : ev (p ++ [c]) t = ev p t + c * t ^ p.length := by
  induction p with
  | nil => simp only [List.nil_append, ev, List.length_nil]; grind
  | cons d p ih => simp only [List.cons_append, ev, ih, List.length_cons]; grind
theorem ihom_snoc (p : List Int) (c a b : Int) : ihom (p ++ [c]) a b = ihom p a b * b + c * a ^ p.length := by
  induction p with
  | nil => simp only [List.nil_append, ihom, List.length_nil]; grind
  | cons d p ih => simp only [List.cons_append, ihom, ih, List.length_append, List.length_cons, List.length_nil]; grind
theorem takez_snoc {q : List Int} {i : Nat} (h : i < q.length) : q.take (i + 1) = q.take i ++ [cf q i] := by
  rw [List.take_add_one]
  congr 1
  simp [cf, List.getD, h]

theorem ev_bound {p : List RI} {t : Int} (hp : RP (2 ^ 10) (2 ^ 20) p) (zt : zl t ≤ 2 ^ 20) : ∀ q : List Int, q.length ≤ p.length → (∀ z ∈ q, z ∈ pv p) → zl (ev q t) ≤ 2 ^ 32 := fun q hq hz => by
  have h := zl_ev (K := 2 ^ 20) (p := q) zt fun z hz' => hp.pv.2 z (hz z hz')
  have h2 : q.length ≤ 2 ^ 10 := Nat.le_trans hq hp.1
  have h3 := Nat.mul_le_mul_right (2 ^ 20 + 1) h2
  have h4 : 2 ^ 20 + 2 ^ 10 * (2 ^ 20 + 1) ≤ 2 ^ 32 := by decide
  omega

theorem eatint_ok (p : List RI) (t : RI) (hp : RP (2 ^ 10) (2 ^ 20) p) (ht : Sz (2 ^ 20) t) : AC Tryz.prog 17 [cw p, cr t] none [cz (ev (pv p) (iv t))] := by
  have hl := hp.1
  have hpl := pv_len p
  have zt := zl_iv ht
  have hb : ∀ i, zl (ev ((pv p).drop i) (iv t)) ≤ 2 ^ 32 := fun i => ev_bound hp zt _ (by rw [List.length_drop]; omega) fun z hz => List.mem_of_mem_drop hz
  have e0 : canon (ev ((pv p).drop p.length) (iv t)) = canon 0 := by rw [List.drop_of_length_le (by omega), ev]
  refine AC.by_walk (rs := [.cell 4 29]) ords Tryz.func17 (by rfl) (by rfl) (by rfl) (by rfl) (by rfl) ?_
  simp (disch := omega) only [wk, tis, Int.reduceNe, Int.reduceEq, Int.reduceLT, Int.reduceLE, Int.reduceAdd, Int.reduceSub, Int.reduceNeg, Int.reduceMul, Int.reduceToNat, Nat.reduceSub, Nat.reduceMul, Nat.reduceLeDiff, Nat.reduceAdd, Nat.reduceLT, Nat.reduceEqDiff, reduceCtorEq, ↓reduceIte, rqs]
  refine call_by ((zOf_ok 0 (by omega) (by omega))) (by rfl) (by simp) ?_
  simp (disch := omega) only [wk, tis, Int.reduceNe, Int.reduceEq, Int.reduceLT, Int.reduceLE, Int.reduceAdd, Int.reduceSub, Int.reduceNeg, Int.reduceMul, Int.reduceToNat, Nat.reduceSub, Nat.reduceMul, Nat.reduceLeDiff, Nat.reduceAdd, Nat.reduceLT, Nat.reduceEqDiff, reduceCtorEq, ↓reduceIte, rqs]
  refine aloop_by (fun f H => ∃ (i st3 st4 st5 : Nat), i ≤ p.length ∧ f 6 = .iv (.int .i64 ((i : Int) - 1)) ∧ f 0 = .iv (.sl (raws p)) ∧ f 3 = .hp 3 st3 0 0 ∧ H 3 = .blk false st3 29 2 [prow t] ∧ f 4 = .hp 4 st4 0 0 ∧ H 4 = .blk false st4 29 2 [prow (false, [])] ∧ f 5 = .hp 5 st5 0 0 ∧ H 5 = .blk false st5 29 2 [prow (canon (ev ((pv p).drop i) (iv t)))]) (fun f H => (intAt f 6 + 1).toNat) ?_ ?_
  · refine ⟨p.length, 1, 1, 1, by omega, ?_⟩
    simp (disch := omega) only [wk, tis, Int.reduceNe, Int.reduceEq, Int.reduceLT, Int.reduceLE, Int.reduceAdd, Int.reduceSub, Int.reduceNeg, Int.reduceMul, Int.reduceToNat, Nat.reduceSub, Nat.reduceMul, Nat.reduceLeDiff, Nat.reduceAdd, Nat.reduceLT, Nat.reduceEqDiff, reduceCtorEq, ↓reduceIte, rqs, e0]
  rintro f H ⟨i, st3, st4, st5, hi, hF⟩
  rw [intAt_of hF.1]
  simp (disch := omega) only [wk, tis, Int.reduceNe, Int.reduceEq, Int.reduceLT, Int.reduceLE, Int.reduceAdd, Int.reduceSub, Int.reduceNeg, Int.reduceMul, Int.reduceToNat, Nat.reduceSub, Nat.reduceMul, Nat.reduceLeDiff, Nat.reduceAdd, Nat.reduceLT, Nat.reduceEqDiff, reduceCtorEq, ↓reduceIte, rqs, hF]
  refine if_by (fun hlt => ?_) (fun hlt => ?_)
  · obtain ⟨j, rfl⟩ : ∃ j, i = j + 1 := ⟨i - 1, by omega⟩
    have ej : ((j + 1 : Nat) : Int) - 1 = (j : Int) := by omega
    rw [ej] at hF
    have hd := drop_cf (pv p) (i := j) (by omega)
    have zj := hp.pv.cf j
    have zb := hb (j + 1)
    have zm := zl_mul (ev ((pv p).drop (j + 1)) (iv t)) (iv t)
    simp (disch := omega) only [wk, tis, Int.reduceNe, Int.reduceEq, Int.reduceLT, Int.reduceLE, Int.reduceAdd, Int.reduceSub, Int.reduceNeg, Int.reduceMul, Int.reduceToNat, Nat.reduceSub, Nat.reduceMul, Nat.reduceLeDiff, Nat.reduceAdd, Nat.reduceLT, Nat.reduceEqDiff, reduceCtorEq, ↓reduceIte, rqs, hF, ej]
    refine ⟨tmps_by (by kernel_rfl), ?_⟩
    have m := zmul_ok (canon (ev ((pv p).drop (j + 1)) (iv t))) t ((sz_canon _).mono (by omega)) (ht.mono (by omega))
    rw [iv_canon] at m
    refine call_by (m) (by first | rfl | (simp only [tocvs, tocv, hF, ej]; rfl) | (simp only [tocvs, tocv, toboxes, tobox, updH_at, Nat.reduceEqDiff, ↓reduceIte, hF, ej]; rfl)) (by simp) ?_
    simp (disch := omega) only [wk, tis, Int.reduceNe, Int.reduceEq, Int.reduceLT, Int.reduceLE, Int.reduceAdd, Int.reduceSub, Int.reduceNeg, Int.reduceMul, Int.reduceToNat, Nat.reduceSub, Nat.reduceMul, Nat.reduceLeDiff, Nat.reduceAdd, Nat.reduceLT, Nat.reduceEqDiff, reduceCtorEq, ↓reduceIte, rqs, hF, ej]
    have s := zadd_ok (canon (ev ((pv p).drop (j + 1)) (iv t) * iv t)) (p.getD j (false, [])) ((sz_canon _).mono (by omega)) ((hp.get j).mono (by omega))
    rw [iv_canon, ← cf_pv] at s
    refine call_by (s) (by first | rfl | (simp only [tocvs, tocv, hF, ej]; rfl) | (simp only [tocvs, tocv, toboxes, tobox, updH_at, Nat.reduceEqDiff, ↓reduceIte, hF, ej]; rfl)) (by simp) ?_
    simp (disch := omega) only [wk, tis, Int.reduceNe, Int.reduceEq, Int.reduceLT, Int.reduceLE, Int.reduceAdd, Int.reduceSub, Int.reduceNeg, Int.reduceMul, Int.reduceToNat, Nat.reduceSub, Nat.reduceMul, Nat.reduceLeDiff, Nat.reduceAdd, Nat.reduceLT, Nat.reduceEqDiff, reduceCtorEq, ↓reduceIte, rqs, hF, ej]
    first | exact log_by (by kernel_rfl) | refine ⟨log_by (by kernel_rfl), ?_⟩
    have ev' : ev ((pv p).drop (j + 1)) (iv t) * iv t + cf (pv p) j = ev ((pv p).drop j) (iv t) := by rw [hd, ev, Int.add_comm, Int.mul_comm]
    refine ⟨⟨j, st3, st4, st5, by omega, ?_⟩, by omega⟩
    rw [ev']
    (repeat' apply And.intro) <;> first | rfl | omega
  · have hi0 : i = 0 := by omega
    subst hi0
    rw [List.drop_zero] at hF
    simp (disch := omega) only [wk, tis, Int.reduceNe, Int.reduceEq, Int.reduceLT, Int.reduceLE, Int.reduceAdd, Int.reduceSub, Int.reduceNeg, Int.reduceMul, Int.reduceToNat, Nat.reduceSub, Nat.reduceMul, Nat.reduceLeDiff, Nat.reduceAdd, Nat.reduceLT, Nat.reduceEqDiff, reduceCtorEq, ↓reduceIte, rqs, hF]
    try rfl

theorem hatint_ok (p : List RI) (t : RI) (hp : RP (2 ^ 10) (2 ^ 20) p) (ht : Sz (2 ^ 20) t) : AC Tryz.prog 18 [cw p, cr t] none [cz (ev (pv p) (iv t))] := by
  have hl := hp.1
  have hpl := pv_len p
  have zt := zl_iv ht
  have hb : ∀ i, zl (ev ((pv p).take i) (iv t)) ≤ 2 ^ 32 := fun i => ev_bound hp zt _ (by rw [List.length_take]; omega) fun z hz => List.mem_of_mem_take hz
  have e0 : canon (ev ((pv p).take 0) (iv t)) = (false, []) := by rw [List.take_zero, ev, canon_zero]
  have e1 : canon (iv t ^ 0) = canon 1 := by rw [Int.pow_zero]
  refine AC.by_walk (rs := [.cell 4 29]) ords Tryz.func18 (by rfl) (by rfl) (by rfl) (by rfl) (by rfl) ?_
  simp (disch := omega) only [wk, tis, Int.reduceNe, Int.reduceEq, Int.reduceLT, Int.reduceLE, Int.reduceAdd, Int.reduceSub, Int.reduceNeg, Int.reduceMul, Int.reduceToNat, Nat.reduceSub, Nat.reduceMul, Nat.reduceLeDiff, Nat.reduceAdd, Nat.reduceLT, Nat.reduceEqDiff, reduceCtorEq, ↓reduceIte, rqs]
  refine call_by ((rZ_ok 1 (by omega) (by omega))) (by rfl) (by simp) ?_
  simp (disch := omega) only [wk, tis, Int.reduceNe, Int.reduceEq, Int.reduceLT, Int.reduceLE, Int.reduceAdd, Int.reduceSub, Int.reduceNeg, Int.reduceMul, Int.reduceToNat, Nat.reduceSub, Nat.reduceMul, Nat.reduceLeDiff, Nat.reduceAdd, Nat.reduceLT, Nat.reduceEqDiff, reduceCtorEq, ↓reduceIte, rqs]
  refine aloop_by (fun f H => ∃ (i st3 st4 st5 st6 : Nat), i ≤ p.length ∧ f 7 = .iv (.int .i64 i) ∧ f 0 = .iv (.sl (raws p)) ∧ f 3 = .hp 3 st3 0 0 ∧ H 3 = .blk false st3 29 2 [prow t] ∧ f 4 = .hp 4 st4 0 0 ∧ H 4 = .blk false st4 29 2 [prow (false, [])] ∧ f 5 = .hp 5 st5 0 0 ∧ H 5 = .blk false st5 29 2 [prow (canon (ev ((pv p).take i) (iv t)))] ∧ f 6 = .hp 6 st6 0 0 ∧ H 6 = .blk false st6 29 2 [prow (canon (iv t ^ i))]) (fun f H => (p.length - intAt f 7).toNat) ?_ ?_
  · refine ⟨0, 1, 1, 1, 1, by omega, ?_⟩
    simp (disch := omega) only [wk, tis, Int.reduceNe, Int.reduceEq, Int.reduceLT, Int.reduceLE, Int.reduceAdd, Int.reduceSub, Int.reduceNeg, Int.reduceMul, Int.reduceToNat, Nat.reduceSub, Nat.reduceMul, Nat.reduceLeDiff, Nat.reduceAdd, Nat.reduceLT, Nat.reduceEqDiff, reduceCtorEq, ↓reduceIte, rqs, e0, e1]
  rintro f H ⟨i, st3, st4, st5, st6, hi, hF⟩
  rw [intAt_of hF.1]
  simp (disch := omega) only [wk, tis, Int.reduceNe, Int.reduceEq, Int.reduceLT, Int.reduceLE, Int.reduceAdd, Int.reduceSub, Int.reduceNeg, Int.reduceMul, Int.reduceToNat, Nat.reduceSub, Nat.reduceMul, Nat.reduceLeDiff, Nat.reduceAdd, Nat.reduceLT, Nat.reduceEqDiff, reduceCtorEq, ↓reduceIte, rqs, hF]
  refine if_by (fun hlt => ?_) (fun hlt => ?_)
  · have zj := hp.pv.cf i
    have zb := hb i
    have zp := zl_pow_b zt (i := i) (by omega)
    have zm := zl_mul (cf (pv p) i) (iv t ^ i)
    have m := rMul_ok (p.getD i (false, [])) (canon (iv t ^ i)) ((hp.get i).mono (by omega)) ((sz_canon _).mono (by omega))
    rw [iv_canon, ← cf_pv] at m
    have s := rAdd_ok (canon (ev ((pv p).take i) (iv t))) (canon (cf (pv p) i * iv t ^ i)) ((sz_canon _).mono (by omega)) ((sz_canon _).mono (by omega))
    have el : ((pv p).take i).length = i := by rw [List.length_take]; omega
    have et := ev_snoc ((pv p).take i) (cf (pv p) i) (iv t)
    rw [el, ← takez_snoc (by omega)] at et
    rw [iv_canon, iv_canon, ← et] at s
    have w := rMul_ok (canon (iv t ^ i)) t ((sz_canon _).mono (by omega)) (ht.mono (by omega))
    rw [iv_canon, ← Int.pow_succ] at w
    simp (disch := omega) only [wk, tis, Int.reduceNe, Int.reduceEq, Int.reduceLT, Int.reduceLE, Int.reduceAdd, Int.reduceSub, Int.reduceNeg, Int.reduceMul, Int.reduceToNat, Nat.reduceSub, Nat.reduceMul, Nat.reduceLeDiff, Nat.reduceAdd, Nat.reduceLT, Nat.reduceEqDiff, reduceCtorEq, ↓reduceIte, rqs, hF]
    refine ⟨tmps_by (by kernel_rfl), ?_⟩
    refine call_by (m) (by first | rfl | (simp only [tocvs, tocv, hF]; rfl) | (simp only [tocvs, tocv, toboxes, tobox, updH_at, Nat.reduceEqDiff, ↓reduceIte, hF]; rfl)) (by simp) ?_
    simp (disch := omega) only [wk, tis, Int.reduceNe, Int.reduceEq, Int.reduceLT, Int.reduceLE, Int.reduceAdd, Int.reduceSub, Int.reduceNeg, Int.reduceMul, Int.reduceToNat, Nat.reduceSub, Nat.reduceMul, Nat.reduceLeDiff, Nat.reduceAdd, Nat.reduceLT, Nat.reduceEqDiff, reduceCtorEq, ↓reduceIte, rqs, hF]
    refine call_by (s) (by first | rfl | (simp only [tocvs, tocv, hF]; rfl) | (simp only [tocvs, tocv, toboxes, tobox, updH_at, Nat.reduceEqDiff, ↓reduceIte, hF]; rfl)) (by simp) ?_
    simp (disch := omega) only [wk, tis, Int.reduceNe, Int.reduceEq, Int.reduceLT, Int.reduceLE, Int.reduceAdd, Int.reduceSub, Int.reduceNeg, Int.reduceMul, Int.reduceToNat, Nat.reduceSub, Nat.reduceMul, Nat.reduceLeDiff, Nat.reduceAdd, Nat.reduceLT, Nat.reduceEqDiff, reduceCtorEq, ↓reduceIte, rqs, hF]
    first | exact log_by (by kernel_rfl) | refine ⟨log_by (by kernel_rfl), ?_⟩
    refine call_by (w) (by first | rfl | (simp only [tocvs, tocv, hF]; rfl) | (simp only [tocvs, tocv, toboxes, tobox, updH_at, Nat.reduceEqDiff, ↓reduceIte, hF]; rfl)) (by simp) ?_
    simp (disch := omega) only [wk, tis, Int.reduceNe, Int.reduceEq, Int.reduceLT, Int.reduceLE, Int.reduceAdd, Int.reduceSub, Int.reduceNeg, Int.reduceMul, Int.reduceToNat, Nat.reduceSub, Nat.reduceMul, Nat.reduceLeDiff, Nat.reduceAdd, Nat.reduceLT, Nat.reduceEqDiff, reduceCtorEq, ↓reduceIte, rqs, hF]
    refine ⟨⟨i + 1, st3, st4, st5, st6, by omega, ?_⟩, by omega⟩
    (repeat' apply And.intro) <;> first | rfl | omega
  · simp (disch := omega) only [wk, tis, Int.reduceNe, Int.reduceEq, Int.reduceLT, Int.reduceLE, Int.reduceAdd, Int.reduceSub, Int.reduceNeg, Int.reduceMul, Int.reduceToNat, Nat.reduceSub, Nat.reduceMul, Nat.reduceLeDiff, Nat.reduceAdd, Nat.reduceLT, Nat.reduceEqDiff, reduceCtorEq, ↓reduceIte, rqs, hF]
    rw [List.take_of_length_le (by omega)]
    try rfl

theorem ehomog_ok (p : List RI) (a b : RI) (hp : RP (2 ^ 10) (2 ^ 20) p) (ha : Sz (2 ^ 20) a) (hb : Sz (2 ^ 20) b) : AC Tryz.prog 19 [cw p, cr a, cr b] none [cz (ihom (trimz (pv p)) (iv a) (iv b))] := by
  have za := zl_iv ha
  have zb := zl_iv hb
  refine AC.by_walk (rs := [.cell 6 29]) ords Tryz.func19 (by rfl) (by rfl) (by rfl) (by rfl) (by rfl) ?_
  simp (disch := omega) only [wk, tis, Int.reduceNe, Int.reduceEq, Int.reduceLT, Int.reduceLE, Int.reduceAdd, Int.reduceSub, Int.reduceNeg, Int.reduceMul, Int.reduceToNat, Nat.reduceSub, Nat.reduceMul, Nat.reduceLeDiff, Nat.reduceAdd, Nat.reduceLT, Nat.reduceEqDiff, reduceCtorEq, ↓reduceIte, rqs]
  refine call_by ((pnorm_ok p (hp.mono (by omega) (by omega)))) (by rfl) (by simp) ?_
  simp (disch := omega) only [wk, tis, Int.reduceNe, Int.reduceEq, Int.reduceLT, Int.reduceLE, Int.reduceAdd, Int.reduceSub, Int.reduceNeg, Int.reduceMul, Int.reduceToNat, Nat.reduceSub, Nat.reduceMul, Nat.reduceLeDiff, Nat.reduceAdd, Nat.reduceLT, Nat.reduceEqDiff, reduceCtorEq, ↓reduceIte, rqs]
  have hA := hp.pv.trimz
  unfold cpoly
  generalize trimz (pv p) = A at *
  have hAl := hA.1
  have hq : (A.map canon).length = A.length := by simp
  have hB : ∀ i, zl (ihom (A.drop i) (iv a) (iv b)) ≤ 2 ^ 32 := fun i => by
    have h := zl_ihom (K := 2 ^ 20) (p := A.drop i) za zb fun z hz => hA.2 z (List.mem_of_mem_drop hz)
    have h2 : (A.drop i).length ≤ 2 ^ 10 := by rw [List.length_drop]; omega
    have h3 := Nat.mul_le_mul_right (2 ^ 20 + 1) h2
    have h4 : 2 ^ 20 + 2 ^ 10 * (2 ^ 20 + 1) + 1 ≤ 2 ^ 32 := by decide
    omega
  refine call_by ((zOf_ok 0 (by omega) (by omega))) (by first | rfl | (simp only [tocvs, tocv, hq]; rfl) | (simp only [tocvs, tocv, toboxes, tobox, updH_at, Nat.reduceEqDiff, ↓reduceIte, hq]; rfl)) (by simp) ?_
  simp (disch := omega) only [wk, tis, Int.reduceNe, Int.reduceEq, Int.reduceLT, Int.reduceLE, Int.reduceAdd, Int.reduceSub, Int.reduceNeg, Int.reduceMul, Int.reduceToNat, Nat.reduceSub, Nat.reduceMul, Nat.reduceLeDiff, Nat.reduceAdd, Nat.reduceLT, Nat.reduceEqDiff, reduceCtorEq, ↓reduceIte, rqs, hq]
  refine call_by ((zOf_ok 1 (by omega) (by omega))) (by first | rfl | (simp only [tocvs, tocv, hq]; rfl) | (simp only [tocvs, tocv, toboxes, tobox, updH_at, Nat.reduceEqDiff, ↓reduceIte, hq]; rfl)) (by simp) ?_
  simp (disch := omega) only [wk, tis, Int.reduceNe, Int.reduceEq, Int.reduceLT, Int.reduceLE, Int.reduceAdd, Int.reduceSub, Int.reduceNeg, Int.reduceMul, Int.reduceToNat, Nat.reduceSub, Nat.reduceMul, Nat.reduceLeDiff, Nat.reduceAdd, Nat.reduceLT, Nat.reduceEqDiff, reduceCtorEq, ↓reduceIte, rqs, hq]
  have e0 : canon (ihom (A.drop A.length) (iv a) (iv b)) = canon 0 := by rw [List.drop_length, ihom]
  have e1 : canon (iv b ^ (A.length - A.length)) = canon 1 := by rw [Nat.sub_self, Int.pow_zero]
  refine aloop_by (fun f H => ∃ (i st4 st5 st6 st7 st8 : Nat), i ≤ A.length ∧ f 9 = .iv (.int .i64 ((i : Int) - 1)) ∧ f 0 = .iv (.sl (raws (A.map canon))) ∧ f 4 = .hp 4 st4 0 0 ∧ H 4 = .blk false st4 29 2 [prow a] ∧ f 5 = .hp 5 st5 0 0 ∧ H 5 = .blk false st5 29 2 [prow b] ∧ f 6 = .hp 6 st6 0 0 ∧ H 6 = .blk false st6 29 2 [prow (false, [])] ∧ f 7 = .hp 7 st7 0 0 ∧ H 7 = .blk false st7 29 2 [prow (canon (ihom (A.drop i) (iv a) (iv b)))] ∧ f 8 = .hp 8 st8 0 0 ∧ H 8 = .blk false st8 29 2 [prow (canon (iv b ^ (A.length - i)))]) (fun f H => (intAt f 9 + 1).toNat) ?_ ?_
  · refine ⟨A.length, 1, 1, 1, 1, 1, by omega, ?_⟩
    simp (disch := omega) only [wk, tis, Int.reduceNe, Int.reduceEq, Int.reduceLT, Int.reduceLE, Int.reduceAdd, Int.reduceSub, Int.reduceNeg, Int.reduceMul, Int.reduceToNat, Nat.reduceSub, Nat.reduceMul, Nat.reduceLeDiff, Nat.reduceAdd, Nat.reduceLT, Nat.reduceEqDiff, reduceCtorEq, ↓reduceIte, rqs, e0, e1]
  rintro f H ⟨i, st4, st5, st6, st7, st8, hi, hF⟩
  rw [intAt_of hF.1]
  simp (disch := omega) only [wk, tis, Int.reduceNe, Int.reduceEq, Int.reduceLT, Int.reduceLE, Int.reduceAdd, Int.reduceSub, Int.reduceNeg, Int.reduceMul, Int.reduceToNat, Nat.reduceSub, Nat.reduceMul, Nat.reduceLeDiff, Nat.reduceAdd, Nat.reduceLT, Nat.reduceEqDiff, reduceCtorEq, ↓reduceIte, rqs, hF]
  refine if_by (fun hlt => ?_) (fun hlt => ?_)
  · obtain ⟨j, rfl⟩ : ∃ j, i = j + 1 := ⟨i - 1, by omega⟩
    have ej : ((j + 1 : Nat) : Int) - 1 = (j : Int) := by omega
    rw [ej] at hF
    have hd := drop_cf A (i := j) (by omega)
    have zj := hA.cf j
    have zh := hB (j + 1)
    have zp := zl_pow_b zb (i := A.length - (j + 1)) (by omega)
    have zm := zl_mul (ihom (A.drop (j + 1)) (iv a) (iv b)) (iv a)
    have zm2 := zl_mul (cf A j) (iv b ^ (A.length - (j + 1)))
    simp (disch := omega) only [wk, tis, Int.reduceNe, Int.reduceEq, Int.reduceLT, Int.reduceLE, Int.reduceAdd, Int.reduceSub, Int.reduceNeg, Int.reduceMul, Int.reduceToNat, Nat.reduceSub, Nat.reduceMul, Nat.reduceLeDiff, Nat.reduceAdd, Nat.reduceLT, Nat.reduceEqDiff, reduceCtorEq, ↓reduceIte, rqs, hF, ej, hq]
    refine ⟨tmps_by (by kernel_rfl), ?_⟩
    have m := zmul_ok (canon (ihom (A.drop (j + 1)) (iv a) (iv b))) a ((sz_canon _).mono (by omega)) (ha.mono (by omega))
    rw [iv_canon] at m
    refine call_by (m) (by first | rfl | (simp only [tocvs, tocv, hF, ej, hq]; rfl) | (simp only [tocvs, tocv, toboxes, tobox, updH_at, Nat.reduceEqDiff, ↓reduceIte, hF, ej, hq]; rfl)) (by simp) ?_
    simp (disch := omega) only [wk, tis, Int.reduceNe, Int.reduceEq, Int.reduceLT, Int.reduceLE, Int.reduceAdd, Int.reduceSub, Int.reduceNeg, Int.reduceMul, Int.reduceToNat, Nat.reduceSub, Nat.reduceMul, Nat.reduceLeDiff, Nat.reduceAdd, Nat.reduceLT, Nat.reduceEqDiff, reduceCtorEq, ↓reduceIte, rqs, hF, ej, hq]
    have m2 := zmul_ok (canon (cf A j)) (canon (iv b ^ (A.length - (j + 1)))) ((sz_canon _).mono (by omega)) ((sz_canon _).mono (by omega))
    rw [iv_canon, iv_canon] at m2
    refine call_by (m2) (by first | rfl | (simp only [tocvs, tocv, hF, ej, hq]; rfl) | (simp only [tocvs, tocv, toboxes, tobox, updH_at, Nat.reduceEqDiff, ↓reduceIte, hF, ej, hq]; rfl)) (by simp) ?_
    simp (disch := omega) only [wk, tis, Int.reduceNe, Int.reduceEq, Int.reduceLT, Int.reduceLE, Int.reduceAdd, Int.reduceSub, Int.reduceNeg, Int.reduceMul, Int.reduceToNat, Nat.reduceSub, Nat.reduceMul, Nat.reduceLeDiff, Nat.reduceAdd, Nat.reduceLT, Nat.reduceEqDiff, reduceCtorEq, ↓reduceIte, rqs, hF, ej, hq]
    have s := zadd_ok (canon (ihom (A.drop (j + 1)) (iv a) (iv b) * iv a)) (canon (cf A j * iv b ^ (A.length - (j + 1)))) ((sz_canon _).mono (by omega)) ((sz_canon _).mono (by omega))
    rw [iv_canon, iv_canon] at s
    refine call_by (s) (by first | rfl | (simp only [tocvs, tocv, hF, ej, hq]; rfl) | (simp only [tocvs, tocv, toboxes, tobox, updH_at, Nat.reduceEqDiff, ↓reduceIte, hF, ej, hq]; rfl)) (by simp) ?_
    simp (disch := omega) only [wk, tis, Int.reduceNe, Int.reduceEq, Int.reduceLT, Int.reduceLE, Int.reduceAdd, Int.reduceSub, Int.reduceNeg, Int.reduceMul, Int.reduceToNat, Nat.reduceSub, Nat.reduceMul, Nat.reduceLeDiff, Nat.reduceAdd, Nat.reduceLT, Nat.reduceEqDiff, reduceCtorEq, ↓reduceIte, rqs, hF, ej, hq]
    first | exact log_by (by kernel_rfl) | refine ⟨log_by (by kernel_rfl), ?_⟩
    have m3 := zmul_ok (canon (iv b ^ (A.length - (j + 1)))) b ((sz_canon _).mono (by omega)) (hb.mono (by omega))
    rw [iv_canon, ← Int.pow_succ, show (A.length - (j + 1)).succ = A.length - j by omega] at m3
    refine call_by (m3) (by first | rfl | (simp only [tocvs, tocv, hF, ej, hq]; rfl) | (simp only [tocvs, tocv, toboxes, tobox, updH_at, Nat.reduceEqDiff, ↓reduceIte, hF, ej, hq]; rfl)) (by simp) ?_
    simp (disch := omega) only [wk, tis, Int.reduceNe, Int.reduceEq, Int.reduceLT, Int.reduceLE, Int.reduceAdd, Int.reduceSub, Int.reduceNeg, Int.reduceMul, Int.reduceToNat, Nat.reduceSub, Nat.reduceMul, Nat.reduceLeDiff, Nat.reduceAdd, Nat.reduceLT, Nat.reduceEqDiff, reduceCtorEq, ↓reduceIte, rqs, hF, ej, hq]
    have e' : ihom (A.drop (j + 1)) (iv a) (iv b) * iv a + cf A j * iv b ^ (A.length - (j + 1)) = ihom (A.drop j) (iv a) (iv b) := by rw [hd, ihom, List.length_drop, Int.add_comm, Int.mul_comm (iv a)]
    refine ⟨⟨j, st4, st5, st6, st7, st8, by omega, ?_⟩, by omega⟩
    rw [e']
    (repeat' apply And.intro) <;> first | rfl | omega
  · have hi0 : i = 0 := by omega
    subst hi0
    rw [List.drop_zero] at hF
    simp (disch := omega) only [wk, tis, Int.reduceNe, Int.reduceEq, Int.reduceLT, Int.reduceLE, Int.reduceAdd, Int.reduceSub, Int.reduceNeg, Int.reduceMul, Int.reduceToNat, Nat.reduceSub, Nat.reduceMul, Nat.reduceLeDiff, Nat.reduceAdd, Nat.reduceLT, Nat.reduceEqDiff, reduceCtorEq, ↓reduceIte, rqs, hF]
    try rfl

/-- The term of the reference, so far. -/
def tmh (c a b : Int) (i k : Nat) : Int := c * a ^ min k i * b ^ (k - i)
theorem tmh_zero (c a b : Int) (i : Nat) : tmh c a b i 0 = c := by
  unfold tmh
  rw [Nat.zero_min, Nat.zero_sub]; simp
theorem tmh_lt {c a b : Int} {i k : Nat} (h : k < i) : tmh c a b i k * a = tmh c a b i (k + 1) := by
  unfold tmh
  rw [Nat.min_eq_left (by omega), Nat.min_eq_left (by omega), show k - i = 0 by omega, show k + 1 - i = 0 by omega, Int.pow_succ]
  simp only [Int.pow_zero, Int.mul_one]
  rw [Int.mul_assoc]
theorem tmh_ge {c a b : Int} {i k : Nat} (h : ¬ k < i) : tmh c a b i k * b = tmh c a b i (k + 1) := by
  unfold tmh
  rw [Nat.min_eq_right (by omega), Nat.min_eq_right (by omega), show k + 1 - i = (k - i) + 1 by omega, Int.pow_succ]
  rw [Int.mul_assoc]
theorem zl_tmh {c a b : Int} {i k : Nat} (hc : zl c ≤ 2 ^ 20) (ha : zl a ≤ 2 ^ 20) (hb : zl b ≤ 2 ^ 20) (hk : k ≤ 2 ^ 10) : zl (tmh c a b i k) ≤ 2 ^ 33 := by
  have h1 := zl_pow_b ha (i := min k i) (by omega)
  have h2 := zl_pow_b hb (i := k - i) (by omega)
  have h3 := zl_mul c (a ^ min k i)
  have h4 := zl_mul (c * a ^ min k i) (b ^ (k - i))
  unfold tmh
  omega
def ihs (A : List Int) (a b : Int) (i : Nat) : Int := ihom (A.take i) a b * b ^ (A.length - i)
theorem ihs_step {A : List Int} {a b : Int} {i : Nat} (h : i < A.length) : ihs A a b i + tmh (cf A i) a b i (A.length - 1) = ihs A a b (i + 1) := by
  unfold ihs tmh
  rw [takez_snoc h, ihom_snoc, List.length_take, Nat.min_eq_left (show i ≤ A.length by omega), Nat.min_eq_right (show i ≤ A.length - 1 by omega), show A.length - i = A.length - 1 - i + 1 by omega, show A.length - (i + 1) = A.length - 1 - i by omega, Int.pow_succ]
  grind

theorem hhomog_ok (p : List RI) (a b : RI) (hp : RP (2 ^ 10) (2 ^ 20) p) (ha : Sz (2 ^ 20) a) (hb : Sz (2 ^ 20) b) : AC Tryz.prog 20 [cw p, cr a, cr b] none [cz (ihom (trimz (pv p)) (iv a) (iv b))] := by
  have za := zl_iv ha
  have zb := zl_iv hb
  refine AC.by_walk (rs := [.cell 6 29]) ords Tryz.func20 (by rfl) (by rfl) (by rfl) (by rfl) (by rfl) ?_
  simp (disch := omega) only [wk, tis, Int.reduceNe, Int.reduceEq, Int.reduceLT, Int.reduceLE, Int.reduceAdd, Int.reduceSub, Int.reduceNeg, Int.reduceMul, Int.reduceToNat, Nat.reduceSub, Nat.reduceMul, Nat.reduceLeDiff, Nat.reduceAdd, Nat.reduceLT, Nat.reduceEqDiff, reduceCtorEq, ↓reduceIte, rqs]
  refine call_by ((snorm_ok p (hp.mono (by omega) (by omega)))) (by rfl) (by simp) ?_
  simp (disch := omega) only [wk, tis, Int.reduceNe, Int.reduceEq, Int.reduceLT, Int.reduceLE, Int.reduceAdd, Int.reduceSub, Int.reduceNeg, Int.reduceMul, Int.reduceToNat, Nat.reduceSub, Nat.reduceMul, Nat.reduceLeDiff, Nat.reduceAdd, Nat.reduceLT, Nat.reduceEqDiff, reduceCtorEq, ↓reduceIte, rqs]
  have hA := hp.pv.trimz
  unfold cpoly
  generalize trimz (pv p) = A at *
  have hAl := hA.1
  have hq : (A.map canon).length = A.length := by simp
  have hB : ∀ i, zl (ihs A (iv a) (iv b) i) ≤ 2 ^ 33 := fun i => by
    have h := zl_ihom (K := 2 ^ 20) (p := A.take i) za zb fun z hz => hA.2 z (List.mem_of_mem_take hz)
    have h2 : (A.take i).length ≤ 2 ^ 10 := by rw [List.length_take]; omega
    have h3 := Nat.mul_le_mul_right (2 ^ 20 + 1) h2
    have h4 : 2 ^ 20 + 2 ^ 10 * (2 ^ 20 + 1) + 1 ≤ 2 ^ 32 := by decide
    have h5 := zl_pow_b zb (i := A.length - i) (by omega)
    have h6 := zl_mul (ihom (A.take i) (iv a) (iv b)) (iv b ^ (A.length - i))
    unfold ihs
    omega
  have e0 : canon (ihs A (iv a) (iv b) 0) = (false, []) := by rw [ihs, List.take_zero, ihom, Int.zero_mul, canon_zero]
  refine aloop_by (fun f H => ∃ (i st4 st5 st6 st7 : Nat), i ≤ A.length ∧ f 8 = .iv (.int .i64 i) ∧ f 0 = .iv (.sl (raws (A.map canon))) ∧ f 4 = .hp 4 st4 0 0 ∧ H 4 = .blk false st4 29 2 [prow a] ∧ f 5 = .hp 5 st5 0 0 ∧ H 5 = .blk false st5 29 2 [prow b] ∧ f 6 = .hp 6 st6 0 0 ∧ H 6 = .blk false st6 29 2 [prow (false, [])] ∧ f 7 = .hp 7 st7 0 0 ∧ H 7 = .blk false st7 29 2 [prow (canon (ihs A (iv a) (iv b) i))]) (fun f H => (A.length - intAt f 8).toNat) ?_ ?_
  · refine ⟨0, 1, 1, 1, 1, by omega, ?_⟩
    simp (disch := omega) only [wk, tis, Int.reduceNe, Int.reduceEq, Int.reduceLT, Int.reduceLE, Int.reduceAdd, Int.reduceSub, Int.reduceNeg, Int.reduceMul, Int.reduceToNat, Nat.reduceSub, Nat.reduceMul, Nat.reduceLeDiff, Nat.reduceAdd, Nat.reduceLT, Nat.reduceEqDiff, reduceCtorEq, ↓reduceIte, rqs, e0, hq]
  rintro f H ⟨i, st4, st5, st6, st7, hi, hF⟩
  rw [intAt_of hF.1]
  simp (disch := omega) only [wk, tis, Int.reduceNe, Int.reduceEq, Int.reduceLT, Int.reduceLE, Int.reduceAdd, Int.reduceSub, Int.reduceNeg, Int.reduceMul, Int.reduceToNat, Nat.reduceSub, Nat.reduceMul, Nat.reduceLeDiff, Nat.reduceAdd, Nat.reduceLT, Nat.reduceEqDiff, reduceCtorEq, ↓reduceIte, rqs, hF]
  refine if_by (fun hlt => ?_) (fun hlt => ?_)
  · have hlt' : i < A.length := by simpa using hlt
    have zj := hA.cf i
    have et0 := tmh_zero (cf A i) (iv a) (iv b) i
    simp (disch := omega) only [wk, tis, Int.reduceNe, Int.reduceEq, Int.reduceLT, Int.reduceLE, Int.reduceAdd, Int.reduceSub, Int.reduceNeg, Int.reduceMul, Int.reduceToNat, Nat.reduceSub, Nat.reduceMul, Nat.reduceLeDiff, Nat.reduceAdd, Nat.reduceLT, Nat.reduceEqDiff, reduceCtorEq, ↓reduceIte, rqs, hF, hq]
    refine aloop_by (fun f H => ∃ (k st4 st5 st6 st7 st9 : Nat), k ≤ A.length - 1 ∧ f 10 = .iv (.int .i64 k) ∧ f 8 = .iv (.int .i64 i) ∧ f 0 = .iv (.sl (raws (A.map canon))) ∧ f 4 = .hp 4 st4 0 0 ∧ H 4 = .blk false st4 29 2 [prow a] ∧ f 5 = .hp 5 st5 0 0 ∧ H 5 = .blk false st5 29 2 [prow b] ∧ f 6 = .hp 6 st6 0 0 ∧ H 6 = .blk false st6 29 2 [prow (false, [])] ∧ f 7 = .hp 7 st7 0 0 ∧ H 7 = .blk false st7 29 2 [prow (canon (ihs A (iv a) (iv b) i))] ∧ f 9 = .hp 9 st9 0 0 ∧ H 9 = .blk false st9 29 2 [prow (canon (tmh (cf A i) (iv a) (iv b) i k))]) (fun f H => (A.length - intAt f 10).toNat) ?_ ?_
    · refine ⟨0, st4, st5, st6, st7, (H 9).stamp + 1, by omega, ?_⟩
      simp (disch := omega) only [wk, tis, Int.reduceNe, Int.reduceEq, Int.reduceLT, Int.reduceLE, Int.reduceAdd, Int.reduceSub, Int.reduceNeg, Int.reduceMul, Int.reduceToNat, Nat.reduceSub, Nat.reduceMul, Nat.reduceLeDiff, Nat.reduceAdd, Nat.reduceLT, Nat.reduceEqDiff, reduceCtorEq, ↓reduceIte, rqs, et0, hF, hq]
    rintro f H ⟨k, st4, st5, st6, st7, st9, hk, hF⟩
    rw [intAt_of hF.1]
    simp (disch := omega) only [wk, tis, Int.reduceNe, Int.reduceEq, Int.reduceLT, Int.reduceLE, Int.reduceAdd, Int.reduceSub, Int.reduceNeg, Int.reduceMul, Int.reduceToNat, Nat.reduceSub, Nat.reduceMul, Nat.reduceLeDiff, Nat.reduceAdd, Nat.reduceLT, Nat.reduceEqDiff, reduceCtorEq, ↓reduceIte, rqs, hF]
    refine if_by (fun hkt => ?_) (fun hkt => ?_)
    · have hkt' : k < A.length - 1 := by rw [hq] at hkt; omega
      have zt := zl_tmh (c := cf A i) (i := i) (k := k) zj za zb (by omega)
      by_cases hki : k < i
      · have hki' : (k : Int) < (i : Int) := by omega
        have m := rMul_ok (canon (tmh (cf A i) (iv a) (iv b) i k)) a ((sz_canon _).mono (by omega)) (ha.mono (by omega))
        rw [iv_canon, tmh_lt hki] at m
        simp (disch := omega) only [wk, tis, Int.reduceNe, Int.reduceEq, Int.reduceLT, Int.reduceLE, Int.reduceAdd, Int.reduceSub, Int.reduceNeg, Int.reduceMul, Int.reduceToNat, Nat.reduceSub, Nat.reduceMul, Nat.reduceLeDiff, Nat.reduceAdd, Nat.reduceLT, Nat.reduceEqDiff, reduceCtorEq, ↓reduceIte, rqs, hF, hq, hki']
        refine call_by (m) (by first | rfl | (simp only [tocvs, tocv, hF, hq, hki']; rfl) | (simp only [tocvs, tocv, toboxes, tobox, updH_at, Nat.reduceEqDiff, ↓reduceIte, hF, hq, hki']; rfl)) (by simp) ?_
        simp (disch := omega) only [wk, tis, Int.reduceNe, Int.reduceEq, Int.reduceLT, Int.reduceLE, Int.reduceAdd, Int.reduceSub, Int.reduceNeg, Int.reduceMul, Int.reduceToNat, Nat.reduceSub, Nat.reduceMul, Nat.reduceLeDiff, Nat.reduceAdd, Nat.reduceLT, Nat.reduceEqDiff, reduceCtorEq, ↓reduceIte, rqs, hF, hq, hki']
        refine ⟨⟨k + 1, st4, st5, st6, st7, st9, by omega, ?_⟩, by omega⟩
        (repeat' apply And.intro) <;> first | rfl | omega
      · have hki' : ¬ (k : Int) < (i : Int) := by omega
        have m := rMul_ok (canon (tmh (cf A i) (iv a) (iv b) i k)) b ((sz_canon _).mono (by omega)) (hb.mono (by omega))
        rw [iv_canon, tmh_ge hki] at m
        simp (disch := omega) only [wk, tis, Int.reduceNe, Int.reduceEq, Int.reduceLT, Int.reduceLE, Int.reduceAdd, Int.reduceSub, Int.reduceNeg, Int.reduceMul, Int.reduceToNat, Nat.reduceSub, Nat.reduceMul, Nat.reduceLeDiff, Nat.reduceAdd, Nat.reduceLT, Nat.reduceEqDiff, reduceCtorEq, ↓reduceIte, rqs, hF, hq, hki']
        refine call_by (m) (by first | rfl | (simp only [tocvs, tocv, hF, hq, hki']; rfl) | (simp only [tocvs, tocv, toboxes, tobox, updH_at, Nat.reduceEqDiff, ↓reduceIte, hF, hq, hki']; rfl)) (by simp) ?_
        simp (disch := omega) only [wk, tis, Int.reduceNe, Int.reduceEq, Int.reduceLT, Int.reduceLE, Int.reduceAdd, Int.reduceSub, Int.reduceNeg, Int.reduceMul, Int.reduceToNat, Nat.reduceSub, Nat.reduceMul, Nat.reduceLeDiff, Nat.reduceAdd, Nat.reduceLT, Nat.reduceEqDiff, reduceCtorEq, ↓reduceIte, rqs, hF, hq, hki']
        refine ⟨⟨k + 1, st4, st5, st6, st7, st9, by omega, ?_⟩, by omega⟩
        (repeat' apply And.intro) <;> first | rfl | omega
    · have hke : k = A.length - 1 := by rw [hq] at hkt; omega
      subst hke
      have zt := zl_tmh (c := cf A i) (i := i) (k := A.length - 1) zj za zb (by omega)
      have zs := hB i
      have s := rAdd_ok (canon (ihs A (iv a) (iv b) i)) (canon (tmh (cf A i) (iv a) (iv b) i (A.length - 1))) ((sz_canon _).mono (by omega)) ((sz_canon _).mono (by omega))
      rw [iv_canon, iv_canon, ihs_step hlt'] at s
      simp (disch := omega) only [wk, tis, Int.reduceNe, Int.reduceEq, Int.reduceLT, Int.reduceLE, Int.reduceAdd, Int.reduceSub, Int.reduceNeg, Int.reduceMul, Int.reduceToNat, Nat.reduceSub, Nat.reduceMul, Nat.reduceLeDiff, Nat.reduceAdd, Nat.reduceLT, Nat.reduceEqDiff, reduceCtorEq, ↓reduceIte, rqs, hF, hq]
      refine call_by (s) (by first | rfl | (simp only [tocvs, tocv, hF, hq]; rfl) | (simp only [tocvs, tocv, toboxes, tobox, updH_at, Nat.reduceEqDiff, ↓reduceIte, hF, hq]; rfl)) (by simp) ?_
      simp (disch := omega) only [wk, tis, Int.reduceNe, Int.reduceEq, Int.reduceLT, Int.reduceLE, Int.reduceAdd, Int.reduceSub, Int.reduceNeg, Int.reduceMul, Int.reduceToNat, Nat.reduceSub, Nat.reduceMul, Nat.reduceLeDiff, Nat.reduceAdd, Nat.reduceLT, Nat.reduceEqDiff, reduceCtorEq, ↓reduceIte, rqs, hF, hq]
      refine ⟨⟨i + 1, st4, st5, st6, st7, by omega, ?_⟩, by omega⟩
      (repeat' apply And.intro) <;> first | rfl | omega
  · have hie : i = A.length := by rw [hq] at hlt; omega
    subst hie
    have e : ihs A (iv a) (iv b) A.length = ihom A (iv a) (iv b) := by rw [ihs, List.take_length, Nat.sub_self, Int.pow_zero, Int.mul_one]
    rw [e] at hF
    simp (disch := omega) only [wk, tis, Int.reduceNe, Int.reduceEq, Int.reduceLT, Int.reduceLE, Int.reduceAdd, Int.reduceSub, Int.reduceNeg, Int.reduceMul, Int.reduceToNat, Nat.reduceSub, Nat.reduceMul, Nat.reduceLeDiff, Nat.reduceAdd, Nat.reduceLT, Nat.reduceEqDiff, reduceCtorEq, ↓reduceIte, rqs, hF]
    try rfl

/-! ### Signs -/
theorem esign_ok (p : List RI) (x : RQ) (hp : RP (2 ^ 10) (2 ^ 20) p) (hx : SzQ (2 ^ 20) x) (h0 : nv x.2 ≠ 0) : AC Tryz.prog 126 [cw p, cqq x] none [ci (sgq (evq (qp (pv p)) (qv x)))] := by
  have n := znatl_ok false x.2 hx.2.2 (Nat.le_trans hx.2.1 (by omega))
  rw [sgf] at n
  have za := zl_iv hx.1
  have zb := nt_zl hx.2
  have m := ehomog_ok p x.1 (canon (nv x.2 : Nat)) hp hx.1 ((sz_canon _).mono zb)
  rw [iv_canon] at m
  have zi : zl (ihom (trimz (pv p)) (iv x.1) (nv x.2 : Nat)) ≤ 2 ^ 33 := by
    have h := zl_ihom (K := 2 ^ 20) (p := trimz (pv p)) za zb fun z hz => hp.pv.trimz.2 z hz
    have h2 : (trimz (pv p)).length ≤ 2 ^ 10 := hp.pv.trimz.1
    have h3 := Nat.mul_le_mul_right (2 ^ 20 + 1) h2
    have h4 : 2 ^ 20 + 2 ^ 10 * (2 ^ 20 + 1) + 1 ≤ 2 ^ 32 := by decide
    omega
  have s := zsign_ok (canon (ihom (trimz (pv p)) (iv x.1) (nv x.2 : Nat))) ((sz_canon _).mono (by omega))
  rw [iv_canon, ihom_sign h0, ← qv_eq] at s
  refine AC.by_walk (rs := [.tmp 4]) ords Tryz.func126 (by rfl) (by rfl) (by rfl) (by rfl) (by rfl) ?_
  simp (disch := omega) only [wk, tis, Int.reduceNe, Int.reduceEq, Int.reduceLT, Int.reduceLE, Int.reduceAdd, Int.reduceSub, Int.reduceNeg, Int.reduceMul, Int.reduceToNat, Nat.reduceSub, Nat.reduceMul, Nat.reduceLeDiff, Nat.reduceAdd, Nat.reduceLT, Nat.reduceEqDiff, reduceCtorEq, ↓reduceIte, rqs]
  refine ⟨tmps_by (by kernel_rfl), ?_⟩
  refine call_by (n) (by rfl) (by simp) ?_
  simp (disch := omega) only [wk, tis, Int.reduceNe, Int.reduceEq, Int.reduceLT, Int.reduceLE, Int.reduceAdd, Int.reduceSub, Int.reduceNeg, Int.reduceMul, Int.reduceToNat, Nat.reduceSub, Nat.reduceMul, Nat.reduceLeDiff, Nat.reduceAdd, Nat.reduceLT, Nat.reduceEqDiff, reduceCtorEq, ↓reduceIte, rqs]
  refine call_by (m) (by rfl) (by simp) ?_
  simp (disch := omega) only [wk, tis, Int.reduceNe, Int.reduceEq, Int.reduceLT, Int.reduceLE, Int.reduceAdd, Int.reduceSub, Int.reduceNeg, Int.reduceMul, Int.reduceToNat, Nat.reduceSub, Nat.reduceMul, Nat.reduceLeDiff, Nat.reduceAdd, Nat.reduceLT, Nat.reduceEqDiff, reduceCtorEq, ↓reduceIte, rqs]
  refine call_by (s) (by rfl) (by simp) ?_
  simp (disch := omega) only [wk, tis, Int.reduceNe, Int.reduceEq, Int.reduceLT, Int.reduceLE, Int.reduceAdd, Int.reduceSub, Int.reduceNeg, Int.reduceMul, Int.reduceToNat, Nat.reduceSub, Nat.reduceMul, Nat.reduceLeDiff, Nat.reduceAdd, Nat.reduceLT, Nat.reduceEqDiff, reduceCtorEq, ↓reduceIte, rqs]
  first | exact log_by (by kernel_rfl) | refine ⟨log_by (by kernel_rfl), ?_⟩
  try rfl

theorem eSign_ok (p : List RI) (x : RQ) (hp : RP (2 ^ 10) (2 ^ 20) p) (hx : SzQ (2 ^ 20) x) (h0 : nv x.2 ≠ 0) : AC Tryz.prog 59 [cw p, cqq x] none [ci (sgq (evq (qp (pv p)) (qv x))), ci 0] := by
  have c := qcheck_good x ⟨Nat.le_trans hx.2.1 (by omega), hx.2.2⟩ h0
  have s := esign_ok p x hp hx h0
  refine AC.by_walk (rs := [.tmp 4, .tmp 5]) ords Tryz.func59 (by rfl) (by rfl) (by rfl) (by rfl) (by rfl) ?_
  simp (disch := omega) only [wk, tis, Int.reduceNe, Int.reduceEq, Int.reduceLT, Int.reduceLE, Int.reduceAdd, Int.reduceSub, Int.reduceNeg, Int.reduceMul, Int.reduceToNat, Nat.reduceSub, Nat.reduceMul, Nat.reduceLeDiff, Nat.reduceAdd, Nat.reduceLT, Nat.reduceEqDiff, reduceCtorEq, ↓reduceIte, rqs]
  refine call_by (c) (by rfl) (by simp) ?_
  simp (disch := omega) only [wk, tis, Int.reduceNe, Int.reduceEq, Int.reduceLT, Int.reduceLE, Int.reduceAdd, Int.reduceSub, Int.reduceNeg, Int.reduceMul, Int.reduceToNat, Nat.reduceSub, Nat.reduceMul, Nat.reduceLeDiff, Nat.reduceAdd, Nat.reduceLT, Nat.reduceEqDiff, reduceCtorEq, ↓reduceIte, rqs]
  refine call_by (s) (by rfl) (by simp) ?_
  simp (disch := omega) only [wk, tis, Int.reduceNe, Int.reduceEq, Int.reduceLT, Int.reduceLE, Int.reduceAdd, Int.reduceSub, Int.reduceNeg, Int.reduceMul, Int.reduceToNat, Nat.reduceSub, Nat.reduceMul, Nat.reduceLeDiff, Nat.reduceAdd, Nat.reduceLT, Nat.reduceEqDiff, reduceCtorEq, ↓reduceIte, rqs]
  try rfl
theorem eSign_bad (p : List RI) (x : RQ) (hx : Nt (2 ^ 42) x.2) (h0 : nv x.2 = 0) : AC Tryz.prog 59 [cw p, cqq x] none [ci 0, ci 1] := by
  have c := qcheck_bad x hx h0
  refine AC.by_walk (rs := [.tmp 4, .tmp 5]) ords Tryz.func59 (by rfl) (by rfl) (by rfl) (by rfl) (by rfl) ?_
  simp (disch := omega) only [wk, tis, Int.reduceNe, Int.reduceEq, Int.reduceLT, Int.reduceLE, Int.reduceAdd, Int.reduceSub, Int.reduceNeg, Int.reduceMul, Int.reduceToNat, Nat.reduceSub, Nat.reduceMul, Nat.reduceLeDiff, Nat.reduceAdd, Nat.reduceLT, Nat.reduceEqDiff, reduceCtorEq, ↓reduceIte, rqs]
  refine call_by (c) (by rfl) (by simp) ?_
  simp (disch := omega) only [wk, tis, Int.reduceNe, Int.reduceEq, Int.reduceLT, Int.reduceLE, Int.reduceAdd, Int.reduceSub, Int.reduceNeg, Int.reduceMul, Int.reduceToNat, Nat.reduceSub, Nat.reduceMul, Nat.reduceLeDiff, Nat.reduceAdd, Nat.reduceLT, Nat.reduceEqDiff, reduceCtorEq, ↓reduceIte, rqs]
  try rfl
end Go.Proofs.YtjadkhkgmdikiaaGreat

namespace Go.Proofs.YtjadkhkgmdikiaaGreat
open Go Go.Proofs Go.AL
set_option linter.unusedSimpArgs false
set_option linter.unusedVariables false

/-- Numbers of at most k words, at most n of them. -/
def NP (n k : Nat) (l : List (List Nat)) : Prop := l.length ≤ n ∧ ∀ a ∈ l, Lim a ∧ a.length ≤ k

theorem NP.get {n k : Nat} {l : List (List Nat)} (h : NP n k l) (i : Nat) : Lim (l.getD i []) ∧ (l.getD i []).length ≤ k := by
  by_cases hi : i < l.length
  · have e : l.getD i [] = l[i] := by simp [List.getD, hi]
    rw [e]; exact h.2 _ (List.getElem_mem hi)
  · rw [List.getD_eq_getElem?_getD, List.getElem?_eq_none (by omega)]
    exact ⟨Lim.nil, by simp⟩

def nsum (l : List (List Nat)) : Nat := l.foldl (fun s a => s + nv a) 0

theorem nsum_take {l : List (List Nat)} {i : Nat} (h : i < l.length) : nsum (l.take (i + 1)) = nsum (l.take i) + nv (l.getD i []) := by
  have e : l.take (i + 1) = l.take i ++ [l.getD i []] := by
    rw [List.take_add_one]; congr 1; simp [List.getD, h]
  rw [e, nsum, List.foldl_append]; rfl

theorem nsum_len {n k : Nat} {l : List (List Nat)} (h : NP n k l) : ∀ i, i ≤ l.length → (wd (nsum (l.take i))).length ≤ k + i
  | 0, _ => by simp [nsum, wd_zero]
  | i + 1, hi => by
    have h1 := nsum_len h i (by omega)
    have e : l.getD i [] = l[i] := by simp [List.getD, show i < l.length by omega]
    obtain ⟨h2, h3⟩ := h.2 l[i] (List.getElem_mem (by omega))
    have h4 := nv_len h2
    rw [nsum_take (by omega), e]
    have := wd_add_len (nsum (l.take i)) (nv l[i])
    omega

theorem nsum_snd (p : List RI) : nsum (p.map (·.2)) = wgt (pv p) := by
  unfold nsum wgt pv
  rw [List.foldl_map, List.foldl_map]
  congr 1
  funext s c
  rw [iv_abs]

theorem wgt_len {n k : Nat} {p : List RI} (h : RP n k p) (i : Nat) (hi : i ≤ p.length) : (wd (wgt ((pv p).take i))).length ≤ k + i := by
  have := nsum_len (n := n) (k := k) (l := p.map (·.2)) ⟨by simpa using h.1, fun a ha => by
      obtain ⟨c, hc, rfl⟩ := List.mem_map.mp ha
      exact ⟨(h.2 c hc).2, (h.2 c hc).1⟩⟩ i (by simpa using hi)
  rw [← List.map_take, nsum_snd] at this
  rwa [show pv (p.take i) = (pv p).take i by simp [pv, List.map_take]] at this

theorem pv_cn (q : List Int) : pv (cn q) = trimz q := by rw [cn, pv_canon]

theorem zl_ite {z : Int} {c : Prop} [Decidable c] {k : Nat} (h : zl z ≤ k) : zl (if c then 0 else z) ≤ k := by
  split
  · rw [zl_zero]; omega
  · exact h

theorem sameint_g {a b : Int} (e : a = b) (h : zl a ≤ 2 ^ 43) : AC Tryz.prog 16 [cz a, cz b] none [cb true] := by
  subst e
  have := rSameInt_ok (canon a) (canon a) h h
  rwa [decide_eq_true rfl] at this

theorem samenat_g {a : Nat} (h : (wd a).length ≤ 2 ^ 43) : AC Tryz.prog 37 [cl (wd a), cl (wd a)] none [cb true] := by
  have := rSame_ok (wd a) (wd a) h h
  rwa [decide_eq_true rfl] at this

/-- A case of the layer 9. -/
abbrev case9' (A B C : List RI) (K : RI) (N : Int) : List IV := [.sl (raws A), .sl (raws B), .sl (raws C), .bool K.1, .sl (lims K.2), .int .i64 N]

theorem hgt_len {n k : Nat} {p : List RI} (h : RP n k p) : ∀ i, i ≤ p.length → (wd (hgt ((pv p).take i))).length ≤ k
  | 0, _ => by simp [hgt, wd_zero]
  | i + 1, hi => by
    have h1 := hgt_len h i (by omega)
    have h2 := h.get i
    have h3 := nv_len h2.2
    have h4 := h2.1
    rw [hgt_take (by rw [pv_len]; omega), cf_pv, iv_abs]
    rcases Nat.le_total (hgt ((pv p).take i)) (nv (p.getD i (false, [])).2) with h | h
    · rw [Nat.max_eq_right h]; omega
    · rw [Nat.max_eq_left h]; omega

end Go.Proofs.YtjadkhkgmdikiaaGreat
