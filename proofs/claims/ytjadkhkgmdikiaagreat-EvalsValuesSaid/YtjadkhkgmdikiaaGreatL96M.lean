/-
  Contracts of the functions that the law reaches.
-/
import Derived.Test.YtjadkhkgmdikiaaGreatL36M
import Derived.Test.YtjadkhkgmdikiaaGreatL12M
import Derived.Test.YtjadkhkgmdikiaaGreatTyA
import Derived.Test.YtjadkhkgmdikiaaGreatL1M
import Derived.RangeFuncBox
import Derived.OwnWalkIn
import Derived.TacticsInMore
import Derived.LoopNIn
import Derived.LoopIn
import Derived.Test.YtjadkhkgmdikiaaGreatL59M
namespace Go.Proofs.YtjadkhkgmdikiaaGreat
open Go Go.Proofs Go.AL
set_option linter.unusedSimpArgs false
set_option linter.unusedVariables false

theorem qv_eq (r : RQ) : qv r = (iv r.1 : Rat) / (nv r.2 : Rat) := Rat.mkRat_eq_div _ _
theorem mk_add {r s : RQ} (hr : nv r.2 ≠ 0) (hs : nv s.2 ≠ 0) : mkRat (iv r.1 * nv s.2 + iv s.1 * nv r.2) (nv r.2 * nv s.2) = qv r + qv s := (Rat.mkRat_add_mkRat _ _ hr hs).symm
theorem mk_mul (r s : RQ) : mkRat (iv r.1 * iv s.1) (nv r.2 * nv s.2) = qv r * qv s := (Rat.mkRat_mul_mkRat _ _ _ _).symm
theorem crat_int (n : Int) : crat (n : Rat) = (canon n, [1]) := by
  unfold crat
  rw [Rat.num_intCast, Rat.den_intCast]
  have : wd 1 = [1] := by decide +kernel
  rw [this]
theorem iv_crat (q : Rat) : iv (crat q).1 = q.num := iv_canon _
theorem nv_crat (q : Rat) : nv (crat q).2 = q.den := nv_wd _
theorem nv_crat0 (q : Rat) : nv (crat q).2 ≠ 0 := den_crat q
theorem SzQ.mono {j k : Nat} {r : RQ} (h : SzQ j r) (hk : j ≤ k) : SzQ k r := ⟨h.1.mono hk, Nat.le_trans h.2.1 hk, h.2.2⟩
theorem szq_crat {q : Rat} {k : Nat} (h : qz q ≤ k) : SzQ k (crat q) := (sz_crat q).mono h

theorem znatl_ok (s : Bool) (l : List Nat) (h : Lim l) (hl : l.length ≤ 2 ^ 40) : AC Tryz.prog 99 [cb s, cl l] none [cz (sg s (nv l))] := by
  refine AC.by_walk (rs := [.cell 4 29]) ords Tryz.func99 (by rfl) (by rfl) (by rfl) (by rfl) (by rfl) ?_
  simp (disch := omega) only [wk, tis, Int.reduceNe, Int.reduceEq, Int.reduceLT, Int.reduceLE, Int.reduceAdd, Int.reduceSub, Int.reduceNeg, Int.reduceMul, Int.reduceToNat, Nat.reduceSub, Nat.reduceMul, Nat.reduceLeDiff, Nat.reduceAdd, Nat.reduceLT, Nat.reduceEqDiff, reduceCtorEq, ↓reduceIte, rats_len, rats_get, lay_rat, qrow_take, qrow_len, qrow_splice, qrow_row, rats_rows, rats_snoc, rats_set, rats_take, rats_rep, rats_nil, qrow_drop2, qrow_take2, qrow_drop1, qrow_spl0]
  have m := znorm_ok (s, l) ⟨hl, h⟩
  rw [iv_sg] at m
  refine call_by (m) (by rfl) (by simp) ?_
  simp (disch := omega) only [wk, tis, Int.reduceNe, Int.reduceEq, Int.reduceLT, Int.reduceLE, Int.reduceAdd, Int.reduceSub, Int.reduceNeg, Int.reduceMul, Int.reduceToNat, Nat.reduceSub, Nat.reduceMul, Nat.reduceLeDiff, Nat.reduceAdd, Nat.reduceLT, Nat.reduceEqDiff, reduceCtorEq, ↓reduceIte, rats_len, rats_get, lay_rat, qrow_take, qrow_len, qrow_splice, qrow_row, rats_rows, rats_snoc, rats_set, rats_take, rats_rep, rats_nil, qrow_drop2, qrow_take2, qrow_drop1, qrow_spl0]

theorem nt_zl {l : List Nat} {k : Nat} (h : Nt k l) : zl ((nv l : Nat) : Int) ≤ k := Nat.le_trans (nv_len h.2) h.1
theorem sgf (n : Nat) : sg false n = (n : Int) := rfl

theorem qtimes_ok (a : RI) (d : List Nat) (ha : Sz (2 ^ 36) a) (hd : Nt (2 ^ 36) d) : AC Tryz.prog 140 [cr a, cl d] none [cz (iv a * nv d)] := by
  have m := znatl_ok false d hd.2 (Nat.le_trans hd.1 (by omega))
  rw [sgf] at m
  have n := zmul_ok a (canon (nv d)) ha ((sz_canon _).mono (nt_zl hd))
  rw [iv_canon] at n
  refine AC.by_walk (rs := [.cell 4 29]) ords Tryz.func140 (by rfl) (by rfl) (by rfl) (by rfl) (by rfl) ?_
  simp (disch := omega) only [wk, tis, Int.reduceNe, Int.reduceEq, Int.reduceLT, Int.reduceLE, Int.reduceAdd, Int.reduceSub, Int.reduceNeg, Int.reduceMul, Int.reduceToNat, Nat.reduceSub, Nat.reduceMul, Nat.reduceLeDiff, Nat.reduceAdd, Nat.reduceLT, Nat.reduceEqDiff, reduceCtorEq, ↓reduceIte, rats_len, rats_get, lay_rat, qrow_take, qrow_len, qrow_splice, qrow_row, rats_rows, rats_snoc, rats_set, rats_take, rats_rep, rats_nil, qrow_drop2, qrow_take2, qrow_drop1, qrow_spl0]
  refine ⟨tmps_by (by kernel_rfl), ?_⟩
  refine call_by (m) (by rfl) (by simp) ?_
  simp (disch := omega) only [wk, tis, Int.reduceNe, Int.reduceEq, Int.reduceLT, Int.reduceLE, Int.reduceAdd, Int.reduceSub, Int.reduceNeg, Int.reduceMul, Int.reduceToNat, Nat.reduceSub, Nat.reduceMul, Nat.reduceLeDiff, Nat.reduceAdd, Nat.reduceLT, Nat.reduceEqDiff, reduceCtorEq, ↓reduceIte, rats_len, rats_get, lay_rat, qrow_take, qrow_len, qrow_splice, qrow_row, rats_rows, rats_snoc, rats_set, rats_take, rats_rep, rats_nil, qrow_drop2, qrow_take2, qrow_drop1, qrow_spl0]
  refine call_by (n) (by rfl) (by simp) ?_
  simp (disch := omega) only [wk, tis, Int.reduceNe, Int.reduceEq, Int.reduceLT, Int.reduceLE, Int.reduceAdd, Int.reduceSub, Int.reduceNeg, Int.reduceMul, Int.reduceToNat, Nat.reduceSub, Nat.reduceMul, Nat.reduceLeDiff, Nat.reduceAdd, Nat.reduceLT, Nat.reduceEqDiff, reduceCtorEq, ↓reduceIte, rats_len, rats_get, lay_rat, qrow_take, qrow_len, qrow_splice, qrow_row, rats_rows, rats_snoc, rats_set, rats_take, rats_rep, rats_nil, qrow_drop2, qrow_take2, qrow_drop1, qrow_spl0]
  first | exact log_by (by kernel_rfl) | refine ⟨log_by (by kernel_rfl), ?_⟩
  try rfl

theorem qchecks_two (a b : RQ) (ha : SzQ (2 ^ 36) a) (hb : SzQ (2 ^ 36) b) (h0 : nv a.2 ≠ 0) (h1 : nv b.2 ≠ 0) : AC Tryz.prog 137 [cqw [a, b]] none [ci 0] :=
  qchecks_gen [a, b] 0 (by simp) (fun r hr => by
    simp only [List.mem_cons, List.not_mem_nil, or_false] at hr
    rcases hr with rfl | rfl
    · exact ⟨Nat.le_trans ha.2.1 (by omega), ha.2.2⟩
    · exact ⟨Nat.le_trans hb.2.1 (by omega), hb.2.2⟩) (fun _ => rfl) (fun h => (h fun r hr => by
      simp only [List.mem_cons, List.not_mem_nil, or_false] at hr
      rcases hr with rfl | rfl
      · exact h0
      · exact h1).elim)
theorem qchecks_none (a b : RQ) (ha : SzQ (2 ^ 36) a) (hb : SzQ (2 ^ 36) b) (h0 : nv a.2 = 0 ∨ nv b.2 = 0) : AC Tryz.prog 137 [cqw [a, b]] none [ci 1] :=
  qchecks_gen [a, b] 1 (by simp) (fun r hr => by
    simp only [List.mem_cons, List.not_mem_nil, or_false] at hr
    rcases hr with rfl | rfl
    · exact ⟨Nat.le_trans ha.2.1 (by omega), ha.2.2⟩
    · exact ⟨Nat.le_trans hb.2.1 (by omega), hb.2.2⟩) (fun h => by
      rcases h0 with h0 | h0
      · exact (h a (by simp) h0).elim
      · exact (h b (by simp) h0).elim) (fun _ => rfl)

theorem rats_two (a b : RQ) : [qrow a, qrow b] = rats [a, b] := rfl

theorem wd_len2 {a b : Nat} {j k : Nat} (ha : (wd a).length ≤ j) (hb : (wd b).length ≤ k) : (wd (a * b)).length ≤ j + k := Nat.le_trans (AL.wd_mul_len a b) (Nat.add_le_add ha hb)

theorem qadd_ok (a b : RQ) (ha : SzQ (2 ^ 35) a) (hb : SzQ (2 ^ 35) b) (h0 : nv a.2 ≠ 0) (h1 : nv b.2 ≠ 0) : AC Tryz.prog 84 [cqq a, cqq b] none [cqz (qv a + qv b), ci 0] := by
  have c := qchecks_two a b (ha.mono (by omega)) (hb.mono (by omega)) h0 h1
  have t1 := qtimes_ok a.1 b.2 (ha.1.mono (by omega)) ⟨Nat.le_trans hb.2.1 (by omega), hb.2.2⟩
  have t2 := qtimes_ok b.1 a.2 (hb.1.mono (by omega)) ⟨Nat.le_trans ha.2.1 (by omega), ha.2.2⟩
  have z1 := zl_mul (iv a.1) (nv b.2 : Nat)
  have z2 := zl_mul (iv b.1) (nv a.2 : Nat)
  have y1 := zl_iv ha.1
  have y2 := zl_iv hb.1
  have y3 := nt_zl ha.2
  have y4 := nt_zl hb.2
  have z3 := zl_add (iv a.1 * (nv b.2 : Nat)) (iv b.1 * (nv a.2 : Nat))
  have s := zadd_ok (canon (iv a.1 * (nv b.2 : Nat))) (canon (iv b.1 * (nv a.2 : Nat))) ((sz_canon _).mono (by omega)) ((sz_canon _).mono (by omega))
  rw [iv_canon, iv_canon] at s
  have m := mmul_ok a.2 b.2 ha.2.2 hb.2.2 (Nat.le_trans ha.2.1 (by omega)) (Nat.le_trans hb.2.1 (by omega))
  have hw : (wd (nv a.2 * nv b.2)).length ≤ 2 ^ 35 + 2 ^ 35 := wd_len2 y3 y4
  have r := qred_ok (canon (iv a.1 * (nv b.2 : Nat) + iv b.1 * (nv a.2 : Nat))) (wd (nv a.2 * nv b.2)) ((sz_canon _).mono (by omega)) ⟨by omega, lim_wd _⟩ (by rw [nv_wd]; exact Nat.mul_ne_zero h0 h1)
  rw [iv_canon, nv_wd, mk_add h0 h1] at r
  refine AC.by_walk (rs := [.cell 4 31, .tmp 5]) ords Tryz.func84 (by rfl) (by rfl) (by rfl) (by rfl) (by rfl) ?_
  simp (disch := omega) only [wk, tis, Int.reduceNe, Int.reduceEq, Int.reduceLT, Int.reduceLE, Int.reduceAdd, Int.reduceSub, Int.reduceNeg, Int.reduceMul, Int.reduceToNat, Nat.reduceSub, Nat.reduceMul, Nat.reduceLeDiff, Nat.reduceAdd, Nat.reduceLT, Nat.reduceEqDiff, reduceCtorEq, ↓reduceIte, rats_len, rats_get, lay_rat, qrow_take, qrow_len, qrow_splice, qrow_row, rats_rows, rats_snoc, rats_set, rats_take, rats_rep, rats_nil, qrow_drop2, qrow_take2, qrow_drop1, qrow_spl0, rats_two]
  refine call_by (c) (by first | rfl | (simp only [tocvs, tocv, rats_two]; rfl) | (simp only [tocvs, tocv, toboxes, tobox, updH_at, Nat.reduceEqDiff, ↓reduceIte, rats_two]; rfl)) (by simp) ?_
  simp (disch := omega) only [wk, tis, Int.reduceNe, Int.reduceEq, Int.reduceLT, Int.reduceLE, Int.reduceAdd, Int.reduceSub, Int.reduceNeg, Int.reduceMul, Int.reduceToNat, Nat.reduceSub, Nat.reduceMul, Nat.reduceLeDiff, Nat.reduceAdd, Nat.reduceLT, Nat.reduceEqDiff, reduceCtorEq, ↓reduceIte, rats_len, rats_get, lay_rat, qrow_take, qrow_len, qrow_splice, qrow_row, rats_rows, rats_snoc, rats_set, rats_take, rats_rep, rats_nil, qrow_drop2, qrow_take2, qrow_drop1, qrow_spl0, rats_two]
  refine ⟨tmps_by (by kernel_rfl), ?_⟩
  refine call_by (t1) (by rfl) (by simp) ?_
  simp (disch := omega) only [wk, tis, Int.reduceNe, Int.reduceEq, Int.reduceLT, Int.reduceLE, Int.reduceAdd, Int.reduceSub, Int.reduceNeg, Int.reduceMul, Int.reduceToNat, Nat.reduceSub, Nat.reduceMul, Nat.reduceLeDiff, Nat.reduceAdd, Nat.reduceLT, Nat.reduceEqDiff, reduceCtorEq, ↓reduceIte, rats_len, rats_get, lay_rat, qrow_take, qrow_len, qrow_splice, qrow_row, rats_rows, rats_snoc, rats_set, rats_take, rats_rep, rats_nil, qrow_drop2, qrow_take2, qrow_drop1, qrow_spl0]
  refine call_by (t2) (by rfl) (by simp) ?_
  simp (disch := omega) only [wk, tis, Int.reduceNe, Int.reduceEq, Int.reduceLT, Int.reduceLE, Int.reduceAdd, Int.reduceSub, Int.reduceNeg, Int.reduceMul, Int.reduceToNat, Nat.reduceSub, Nat.reduceMul, Nat.reduceLeDiff, Nat.reduceAdd, Nat.reduceLT, Nat.reduceEqDiff, reduceCtorEq, ↓reduceIte, rats_len, rats_get, lay_rat, qrow_take, qrow_len, qrow_splice, qrow_row, rats_rows, rats_snoc, rats_set, rats_take, rats_rep, rats_nil, qrow_drop2, qrow_take2, qrow_drop1, qrow_spl0]
  refine call_by (s) (by rfl) (by simp) ?_
  simp (disch := omega) only [wk, tis, Int.reduceNe, Int.reduceEq, Int.reduceLT, Int.reduceLE, Int.reduceAdd, Int.reduceSub, Int.reduceNeg, Int.reduceMul, Int.reduceToNat, Nat.reduceSub, Nat.reduceMul, Nat.reduceLeDiff, Nat.reduceAdd, Nat.reduceLT, Nat.reduceEqDiff, reduceCtorEq, ↓reduceIte, rats_len, rats_get, lay_rat, qrow_take, qrow_len, qrow_splice, qrow_row, rats_rows, rats_snoc, rats_set, rats_take, rats_rep, rats_nil, qrow_drop2, qrow_take2, qrow_drop1, qrow_spl0]
  refine call_by (m) (by rfl) (by simp) ?_
  simp (disch := omega) only [wk, tis, Int.reduceNe, Int.reduceEq, Int.reduceLT, Int.reduceLE, Int.reduceAdd, Int.reduceSub, Int.reduceNeg, Int.reduceMul, Int.reduceToNat, Nat.reduceSub, Nat.reduceMul, Nat.reduceLeDiff, Nat.reduceAdd, Nat.reduceLT, Nat.reduceEqDiff, reduceCtorEq, ↓reduceIte, rats_len, rats_get, lay_rat, qrow_take, qrow_len, qrow_splice, qrow_row, rats_rows, rats_snoc, rats_set, rats_take, rats_rep, rats_nil, qrow_drop2, qrow_take2, qrow_drop1, qrow_spl0]
  refine call_by (r) (by rfl) (by simp) ?_
  simp (disch := omega) only [wk, tis, Int.reduceNe, Int.reduceEq, Int.reduceLT, Int.reduceLE, Int.reduceAdd, Int.reduceSub, Int.reduceNeg, Int.reduceMul, Int.reduceToNat, Nat.reduceSub, Nat.reduceMul, Nat.reduceLeDiff, Nat.reduceAdd, Nat.reduceLT, Nat.reduceEqDiff, reduceCtorEq, ↓reduceIte, rats_len, rats_get, lay_rat, qrow_take, qrow_len, qrow_splice, qrow_row, rats_rows, rats_snoc, rats_set, rats_take, rats_rep, rats_nil, qrow_drop2, qrow_take2, qrow_drop1, qrow_spl0]
  first | exact log_by (by kernel_rfl) | refine ⟨log_by (by kernel_rfl), ?_⟩
  try rfl

theorem qadd_bad (a b : RQ) (ha : SzQ (2 ^ 35) a) (hb : SzQ (2 ^ 35) b) (h0 : nv a.2 = 0 ∨ nv b.2 = 0) : AC Tryz.prog 84 [cqq a, cqq b] none [cqq q0, ci 1] := by
  have c := qchecks_none a b (ha.mono (by omega)) (hb.mono (by omega)) h0
  refine AC.by_walk (rs := [.cell 4 31, .tmp 5]) ords Tryz.func84 (by rfl) (by rfl) (by rfl) (by rfl) (by rfl) ?_
  simp (disch := omega) only [wk, tis, Int.reduceNe, Int.reduceEq, Int.reduceLT, Int.reduceLE, Int.reduceAdd, Int.reduceSub, Int.reduceNeg, Int.reduceMul, Int.reduceToNat, Nat.reduceSub, Nat.reduceMul, Nat.reduceLeDiff, Nat.reduceAdd, Nat.reduceLT, Nat.reduceEqDiff, reduceCtorEq, ↓reduceIte, rats_len, rats_get, lay_rat, qrow_take, qrow_len, qrow_splice, qrow_row, rats_rows, rats_snoc, rats_set, rats_take, rats_rep, rats_nil, qrow_drop2, qrow_take2, qrow_drop1, qrow_spl0, rats_two]
  refine call_by (c) (by first | rfl | (simp only [tocvs, tocv, rats_two]; rfl) | (simp only [tocvs, tocv, toboxes, tobox, updH_at, Nat.reduceEqDiff, ↓reduceIte, rats_two]; rfl)) (by simp) ?_
  simp (disch := omega) only [wk, tis, Int.reduceNe, Int.reduceEq, Int.reduceLT, Int.reduceLE, Int.reduceAdd, Int.reduceSub, Int.reduceNeg, Int.reduceMul, Int.reduceToNat, Nat.reduceSub, Nat.reduceMul, Nat.reduceLeDiff, Nat.reduceAdd, Nat.reduceLT, Nat.reduceEqDiff, reduceCtorEq, ↓reduceIte, rats_len, rats_get, lay_rat, qrow_take, qrow_len, qrow_splice, qrow_row, rats_rows, rats_snoc, rats_set, rats_take, rats_rep, rats_nil, qrow_drop2, qrow_take2, qrow_drop1, qrow_spl0, rats_two]
  try rfl

theorem qmul_ok (a b : RQ) (ha : SzQ (2 ^ 35) a) (hb : SzQ (2 ^ 35) b) (h0 : nv a.2 ≠ 0) (h1 : nv b.2 ≠ 0) : AC Tryz.prog 83 [cqq a, cqq b] none [cqz (qv a * qv b), ci 0] := by
  have c := qchecks_two a b (ha.mono (by omega)) (hb.mono (by omega)) h0 h1
  have z1 := zl_mul (iv a.1) (iv b.1)
  have y1 := zl_iv ha.1
  have y2 := zl_iv hb.1
  have y3 := nt_zl ha.2
  have y4 := nt_zl hb.2
  have s := zmul_ok a.1 b.1 (ha.1.mono (by omega)) (hb.1.mono (by omega))
  have m := mmul_ok a.2 b.2 ha.2.2 hb.2.2 (Nat.le_trans ha.2.1 (by omega)) (Nat.le_trans hb.2.1 (by omega))
  have hw : (wd (nv a.2 * nv b.2)).length ≤ 2 ^ 35 + 2 ^ 35 := wd_len2 y3 y4
  have r := qred_ok (canon (iv a.1 * iv b.1)) (wd (nv a.2 * nv b.2)) ((sz_canon _).mono (by omega)) ⟨by omega, lim_wd _⟩ (by rw [nv_wd]; exact Nat.mul_ne_zero h0 h1)
  rw [iv_canon, nv_wd, mk_mul] at r
  refine AC.by_walk (rs := [.cell 4 31, .tmp 5]) ords Tryz.func83 (by rfl) (by rfl) (by rfl) (by rfl) (by rfl) ?_
  simp (disch := omega) only [wk, tis, Int.reduceNe, Int.reduceEq, Int.reduceLT, Int.reduceLE, Int.reduceAdd, Int.reduceSub, Int.reduceNeg, Int.reduceMul, Int.reduceToNat, Nat.reduceSub, Nat.reduceMul, Nat.reduceLeDiff, Nat.reduceAdd, Nat.reduceLT, Nat.reduceEqDiff, reduceCtorEq, ↓reduceIte, rats_len, rats_get, lay_rat, qrow_take, qrow_len, qrow_splice, qrow_row, rats_rows, rats_snoc, rats_set, rats_take, rats_rep, rats_nil, qrow_drop2, qrow_take2, qrow_drop1, qrow_spl0, rats_two]
  refine call_by (c) (by first | rfl | (simp only [tocvs, tocv, rats_two]; rfl) | (simp only [tocvs, tocv, toboxes, tobox, updH_at, Nat.reduceEqDiff, ↓reduceIte, rats_two]; rfl)) (by simp) ?_
  simp (disch := omega) only [wk, tis, Int.reduceNe, Int.reduceEq, Int.reduceLT, Int.reduceLE, Int.reduceAdd, Int.reduceSub, Int.reduceNeg, Int.reduceMul, Int.reduceToNat, Nat.reduceSub, Nat.reduceMul, Nat.reduceLeDiff, Nat.reduceAdd, Nat.reduceLT, Nat.reduceEqDiff, reduceCtorEq, ↓reduceIte, rats_len, rats_get, lay_rat, qrow_take, qrow_len, qrow_splice, qrow_row, rats_rows, rats_snoc, rats_set, rats_take, rats_rep, rats_nil, qrow_drop2, qrow_take2, qrow_drop1, qrow_spl0, rats_two]
  refine ⟨tmps_by (by kernel_rfl), ?_⟩
  refine call_by (s) (by rfl) (by simp) ?_
  simp (disch := omega) only [wk, tis, Int.reduceNe, Int.reduceEq, Int.reduceLT, Int.reduceLE, Int.reduceAdd, Int.reduceSub, Int.reduceNeg, Int.reduceMul, Int.reduceToNat, Nat.reduceSub, Nat.reduceMul, Nat.reduceLeDiff, Nat.reduceAdd, Nat.reduceLT, Nat.reduceEqDiff, reduceCtorEq, ↓reduceIte, rats_len, rats_get, lay_rat, qrow_take, qrow_len, qrow_splice, qrow_row, rats_rows, rats_snoc, rats_set, rats_take, rats_rep, rats_nil, qrow_drop2, qrow_take2, qrow_drop1, qrow_spl0]
  refine call_by (m) (by rfl) (by simp) ?_
  simp (disch := omega) only [wk, tis, Int.reduceNe, Int.reduceEq, Int.reduceLT, Int.reduceLE, Int.reduceAdd, Int.reduceSub, Int.reduceNeg, Int.reduceMul, Int.reduceToNat, Nat.reduceSub, Nat.reduceMul, Nat.reduceLeDiff, Nat.reduceAdd, Nat.reduceLT, Nat.reduceEqDiff, reduceCtorEq, ↓reduceIte, rats_len, rats_get, lay_rat, qrow_take, qrow_len, qrow_splice, qrow_row, rats_rows, rats_snoc, rats_set, rats_take, rats_rep, rats_nil, qrow_drop2, qrow_take2, qrow_drop1, qrow_spl0]
  refine call_by (r) (by rfl) (by simp) ?_
  simp (disch := omega) only [wk, tis, Int.reduceNe, Int.reduceEq, Int.reduceLT, Int.reduceLE, Int.reduceAdd, Int.reduceSub, Int.reduceNeg, Int.reduceMul, Int.reduceToNat, Nat.reduceSub, Nat.reduceMul, Nat.reduceLeDiff, Nat.reduceAdd, Nat.reduceLT, Nat.reduceEqDiff, reduceCtorEq, ↓reduceIte, rats_len, rats_get, lay_rat, qrow_take, qrow_len, qrow_splice, qrow_row, rats_rows, rats_snoc, rats_set, rats_take, rats_rep, rats_nil, qrow_drop2, qrow_take2, qrow_drop1, qrow_spl0]
  first | exact log_by (by kernel_rfl) | refine ⟨log_by (by kernel_rfl), ?_⟩
  try rfl

theorem qmul_bad (a b : RQ) (ha : SzQ (2 ^ 35) a) (hb : SzQ (2 ^ 35) b) (h0 : nv a.2 = 0 ∨ nv b.2 = 0) : AC Tryz.prog 83 [cqq a, cqq b] none [cqq q0, ci 1] := by
  have c := qchecks_none a b (ha.mono (by omega)) (hb.mono (by omega)) h0
  refine AC.by_walk (rs := [.cell 4 31, .tmp 5]) ords Tryz.func83 (by rfl) (by rfl) (by rfl) (by rfl) (by rfl) ?_
  simp (disch := omega) only [wk, tis, Int.reduceNe, Int.reduceEq, Int.reduceLT, Int.reduceLE, Int.reduceAdd, Int.reduceSub, Int.reduceNeg, Int.reduceMul, Int.reduceToNat, Nat.reduceSub, Nat.reduceMul, Nat.reduceLeDiff, Nat.reduceAdd, Nat.reduceLT, Nat.reduceEqDiff, reduceCtorEq, ↓reduceIte, rats_len, rats_get, lay_rat, qrow_take, qrow_len, qrow_splice, qrow_row, rats_rows, rats_snoc, rats_set, rats_take, rats_rep, rats_nil, qrow_drop2, qrow_take2, qrow_drop1, qrow_spl0, rats_two]
  refine call_by (c) (by first | rfl | (simp only [tocvs, tocv, rats_two]; rfl) | (simp only [tocvs, tocv, toboxes, tobox, updH_at, Nat.reduceEqDiff, ↓reduceIte, rats_two]; rfl)) (by simp) ?_
  simp (disch := omega) only [wk, tis, Int.reduceNe, Int.reduceEq, Int.reduceLT, Int.reduceLE, Int.reduceAdd, Int.reduceSub, Int.reduceNeg, Int.reduceMul, Int.reduceToNat, Nat.reduceSub, Nat.reduceMul, Nat.reduceLeDiff, Nat.reduceAdd, Nat.reduceLT, Nat.reduceEqDiff, reduceCtorEq, ↓reduceIte, rats_len, rats_get, lay_rat, qrow_take, qrow_len, qrow_splice, qrow_row, rats_rows, rats_snoc, rats_set, rats_take, rats_rep, rats_nil, qrow_drop2, qrow_take2, qrow_drop1, qrow_spl0, rats_two]
  try rfl

theorem zneg_ok (c : RI) (h : Sz (2 ^ 40) c) : AC Tryz.prog 153 [cr c] none [cz (-iv c)] := by
  have e : sg (!c.1) (nv c.2) = -iv c := by
    rw [iv_sg]
    unfold sg
    cases c.1 <;> simp
  have m := zof_ok (!c.1) (nv c.2)
  rw [e] at m
  have n := norm_ok c.2 h.2 (Nat.le_trans h.1 (by omega))
  refine AC.by_walk (rs := [.cell 2 29]) ords Tryz.func153 (by rfl) (by rfl) (by rfl) (by rfl) (by rfl) ?_
  simp (disch := omega) only [wk, tis, Int.reduceNe, Int.reduceEq, Int.reduceLT, Int.reduceLE, Int.reduceAdd, Int.reduceSub, Int.reduceNeg, Int.reduceMul, Int.reduceToNat, Nat.reduceSub, Nat.reduceMul, Nat.reduceLeDiff, Nat.reduceAdd, Nat.reduceLT, Nat.reduceEqDiff, reduceCtorEq, ↓reduceIte, rats_len, rats_get, lay_rat, qrow_take, qrow_len, qrow_splice, qrow_row, rats_rows, rats_snoc, rats_set, rats_take, rats_rep, rats_nil, qrow_drop2, qrow_take2, qrow_drop1, qrow_spl0]
  refine ⟨tmps_by (by kernel_rfl), ?_⟩
  refine call_by (n) (by rfl) (by simp) ?_
  simp (disch := omega) only [wk, tis, Int.reduceNe, Int.reduceEq, Int.reduceLT, Int.reduceLE, Int.reduceAdd, Int.reduceSub, Int.reduceNeg, Int.reduceMul, Int.reduceToNat, Nat.reduceSub, Nat.reduceMul, Nat.reduceLeDiff, Nat.reduceAdd, Nat.reduceLT, Nat.reduceEqDiff, reduceCtorEq, ↓reduceIte, rats_len, rats_get, lay_rat, qrow_take, qrow_len, qrow_splice, qrow_row, rats_rows, rats_snoc, rats_set, rats_take, rats_rep, rats_nil, qrow_drop2, qrow_take2, qrow_drop1, qrow_spl0]
  refine call_by (m) (by rfl) (by simp) ?_
  simp (disch := omega) only [wk, tis, Int.reduceNe, Int.reduceEq, Int.reduceLT, Int.reduceLE, Int.reduceAdd, Int.reduceSub, Int.reduceNeg, Int.reduceMul, Int.reduceToNat, Nat.reduceSub, Nat.reduceMul, Nat.reduceLeDiff, Nat.reduceAdd, Nat.reduceLT, Nat.reduceEqDiff, reduceCtorEq, ↓reduceIte, rats_len, rats_get, lay_rat, qrow_take, qrow_len, qrow_splice, qrow_row, rats_rows, rats_snoc, rats_set, rats_take, rats_rep, rats_nil, qrow_drop2, qrow_take2, qrow_drop1, qrow_spl0]
  first | exact log_by (by kernel_rfl) | refine ⟨log_by (by kernel_rfl), ?_⟩
  try rfl

theorem neg_raw (c : RI) (x : List Nat) : qv (canon (-iv c), x) = -qv (c, x) := by
  unfold qv
  rw [iv_canon, Rat.neg_mkRat]

theorem qsub_ok (a b : RQ) (ha : SzQ (2 ^ 35) a) (hb : SzQ (2 ^ 35) b) (h0 : nv a.2 ≠ 0) (h1 : nv b.2 ≠ 0) : AC Tryz.prog 127 [cqq a, cqq b] none [cqz (qv a - qv b), ci 0] := by
  have n := zneg_ok b.1 (hb.1.mono (by omega))
  have z := zl_iv hb.1
  have m := qadd_ok a (canon (-iv b.1), b.2) ha ⟨(sz_canon _).mono (by rw [zl_neg]; exact z), hb.2⟩ h0 h1
  rw [neg_raw, ← Rat.sub_eq_add_neg] at m
  refine AC.by_walk (rs := [.cell 4 31, .tmp 5]) ords Tryz.func127 (by rfl) (by rfl) (by rfl) (by rfl) (by rfl) ?_
  simp (disch := omega) only [wk, tis, Int.reduceNe, Int.reduceEq, Int.reduceLT, Int.reduceLE, Int.reduceAdd, Int.reduceSub, Int.reduceNeg, Int.reduceMul, Int.reduceToNat, Nat.reduceSub, Nat.reduceMul, Nat.reduceLeDiff, Nat.reduceAdd, Nat.reduceLT, Nat.reduceEqDiff, reduceCtorEq, ↓reduceIte, rats_len, rats_get, lay_rat, qrow_take, qrow_len, qrow_splice, qrow_row, rats_rows, rats_snoc, rats_set, rats_take, rats_rep, rats_nil, qrow_drop2, qrow_take2, qrow_drop1, qrow_spl0]
  refine call_by (n) (by rfl) (by simp) ?_
  simp (disch := omega) only [wk, tis, Int.reduceNe, Int.reduceEq, Int.reduceLT, Int.reduceLE, Int.reduceAdd, Int.reduceSub, Int.reduceNeg, Int.reduceMul, Int.reduceToNat, Nat.reduceSub, Nat.reduceMul, Nat.reduceLeDiff, Nat.reduceAdd, Nat.reduceLT, Nat.reduceEqDiff, reduceCtorEq, ↓reduceIte, rats_len, rats_get, lay_rat, qrow_take, qrow_len, qrow_splice, qrow_row, rats_rows, rats_snoc, rats_set, rats_take, rats_rep, rats_nil, qrow_drop2, qrow_take2, qrow_drop1, qrow_spl0]
  refine call_by (m) (by rfl) (by simp) ?_
  simp (disch := omega) only [wk, tis, Int.reduceNe, Int.reduceEq, Int.reduceLT, Int.reduceLE, Int.reduceAdd, Int.reduceSub, Int.reduceNeg, Int.reduceMul, Int.reduceToNat, Nat.reduceSub, Nat.reduceMul, Nat.reduceLeDiff, Nat.reduceAdd, Nat.reduceLT, Nat.reduceEqDiff, reduceCtorEq, ↓reduceIte, rats_len, rats_get, lay_rat, qrow_take, qrow_len, qrow_splice, qrow_row, rats_rows, rats_snoc, rats_set, rats_take, rats_rep, rats_nil, qrow_drop2, qrow_take2, qrow_drop1, qrow_spl0]
  try rfl

theorem qsub_bad (a b : RQ) (ha : SzQ (2 ^ 35) a) (hb : SzQ (2 ^ 35) b) (h0 : nv a.2 = 0 ∨ nv b.2 = 0) : AC Tryz.prog 127 [cqq a, cqq b] none [cqq q0, ci 1] := by
  have n := zneg_ok b.1 (hb.1.mono (by omega))
  have z := zl_iv hb.1
  have m := qadd_bad a (canon (-iv b.1), b.2) ha ⟨(sz_canon _).mono (by rw [zl_neg]; exact z), hb.2⟩ h0
  refine AC.by_walk (rs := [.cell 4 31, .tmp 5]) ords Tryz.func127 (by rfl) (by rfl) (by rfl) (by rfl) (by rfl) ?_
  simp (disch := omega) only [wk, tis, Int.reduceNe, Int.reduceEq, Int.reduceLT, Int.reduceLE, Int.reduceAdd, Int.reduceSub, Int.reduceNeg, Int.reduceMul, Int.reduceToNat, Nat.reduceSub, Nat.reduceMul, Nat.reduceLeDiff, Nat.reduceAdd, Nat.reduceLT, Nat.reduceEqDiff, reduceCtorEq, ↓reduceIte, rats_len, rats_get, lay_rat, qrow_take, qrow_len, qrow_splice, qrow_row, rats_rows, rats_snoc, rats_set, rats_take, rats_rep, rats_nil, qrow_drop2, qrow_take2, qrow_drop1, qrow_spl0]
  refine call_by (n) (by rfl) (by simp) ?_
  simp (disch := omega) only [wk, tis, Int.reduceNe, Int.reduceEq, Int.reduceLT, Int.reduceLE, Int.reduceAdd, Int.reduceSub, Int.reduceNeg, Int.reduceMul, Int.reduceToNat, Nat.reduceSub, Nat.reduceMul, Nat.reduceLeDiff, Nat.reduceAdd, Nat.reduceLT, Nat.reduceEqDiff, reduceCtorEq, ↓reduceIte, rats_len, rats_get, lay_rat, qrow_take, qrow_len, qrow_splice, qrow_row, rats_rows, rats_snoc, rats_set, rats_take, rats_rep, rats_nil, qrow_drop2, qrow_take2, qrow_drop1, qrow_spl0]
  refine call_by (m) (by rfl) (by simp) ?_
  simp (disch := omega) only [wk, tis, Int.reduceNe, Int.reduceEq, Int.reduceLT, Int.reduceLE, Int.reduceAdd, Int.reduceSub, Int.reduceNeg, Int.reduceMul, Int.reduceToNat, Nat.reduceSub, Nat.reduceMul, Nat.reduceLeDiff, Nat.reduceAdd, Nat.reduceLT, Nat.reduceEqDiff, reduceCtorEq, ↓reduceIte, rats_len, rats_get, lay_rat, qrow_take, qrow_len, qrow_splice, qrow_row, rats_rows, rats_snoc, rats_set, rats_take, rats_rep, rats_nil, qrow_drop2, qrow_take2, qrow_drop1, qrow_spl0]
  try rfl

theorem zabsn_ok (c : RI) (h : Sz (2 ^ 40) c) : AC Tryz.prog 154 [cr c] none [cl (wd (iv c).natAbs)] := by
  have n := norm_ok c.2 h.2 (Nat.le_trans h.1 (by omega))
  rw [← iv_abs] at n
  refine AC.by_walk (rs := [.tmp 2]) ords Tryz.func154 (by rfl) (by rfl) (by rfl) (by rfl) (by rfl) ?_
  simp (disch := omega) only [wk, tis, Int.reduceNe, Int.reduceEq, Int.reduceLT, Int.reduceLE, Int.reduceAdd, Int.reduceSub, Int.reduceNeg, Int.reduceMul, Int.reduceToNat, Nat.reduceSub, Nat.reduceMul, Nat.reduceLeDiff, Nat.reduceAdd, Nat.reduceLT, Nat.reduceEqDiff, reduceCtorEq, ↓reduceIte, rats_len, rats_get, lay_rat, qrow_take, qrow_len, qrow_splice, qrow_row, rats_rows, rats_snoc, rats_set, rats_take, rats_rep, rats_nil, qrow_drop2, qrow_take2, qrow_drop1, qrow_spl0]
  refine call_by (n) (by rfl) (by simp) ?_
  simp (disch := omega) only [wk, tis, Int.reduceNe, Int.reduceEq, Int.reduceLT, Int.reduceLE, Int.reduceAdd, Int.reduceSub, Int.reduceNeg, Int.reduceMul, Int.reduceToNat, Nat.reduceSub, Nat.reduceMul, Nat.reduceLeDiff, Nat.reduceAdd, Nat.reduceLT, Nat.reduceEqDiff, reduceCtorEq, ↓reduceIte, rats_len, rats_get, lay_rat, qrow_take, qrow_len, qrow_splice, qrow_row, rats_rows, rats_snoc, rats_set, rats_take, rats_rep, rats_nil, qrow_drop2, qrow_take2, qrow_drop1, qrow_spl0]

theorem mk_div {a b : Int} (hb : b ≠ 0) : mkRat (if b < 0 then -a else a) b.natAbs = (a : Rat) / (b : Rat) := by
  have hr : (b : Rat) ≠ 0 := fun h => hb (Rat.intCast_eq_zero_iff.mp h)
  rw [Rat.mkRat_eq_div]
  by_cases h : b < 0
  · have e : ((b.natAbs : Nat) : Rat) = -(b : Rat) := by
      rw [← Rat.intCast_natCast, ← Rat.intCast_neg]
      congr 1
      omega
    rw [if_pos h, e, Rat.intCast_neg]
    grind
  · have e : ((b.natAbs : Nat) : Rat) = (b : Rat) := by
      rw [← Rat.intCast_natCast]
      congr 1
      omega
    rw [if_neg h, e]

theorem qmake_ok (a b : RI) (ha : Sz (2 ^ 38) a) (hb : Sz (2 ^ 38) b) (h0 : iv b ≠ 0) : AC Tryz.prog 100 [cr a, cr b] none [cqz ((iv a : Rat) / (iv b : Rat)), ci 0] := by
  have s := zsign_ok b (hb.mono (by omega))
  have hs0 : (iv b).sign ≠ 0 := fun h => h0 (Int.sign_eq_zero_iff_zero.mp h)
  have n := zneg_ok a (ha.mono (by omega))
  have w := zabsn_ok b (hb.mono (by omega))
  have za := zl_iv ha
  have zb := zl_iv hb
  have d := mk_div (a := iv a) h0
  refine AC.by_walk (rs := [.cell 4 31, .tmp 5]) ords Tryz.func100 (by rfl) (by rfl) (by rfl) (by rfl) (by rfl) ?_
  simp (disch := omega) only [wk, tis, Int.reduceNe, Int.reduceEq, Int.reduceLT, Int.reduceLE, Int.reduceAdd, Int.reduceSub, Int.reduceNeg, Int.reduceMul, Int.reduceToNat, Nat.reduceSub, Nat.reduceMul, Nat.reduceLeDiff, Nat.reduceAdd, Nat.reduceLT, Nat.reduceEqDiff, reduceCtorEq, ↓reduceIte, rats_len, rats_get, lay_rat, qrow_take, qrow_len, qrow_splice, qrow_row, rats_rows, rats_snoc, rats_set, rats_take, rats_rep, rats_nil, qrow_drop2, qrow_take2, qrow_drop1, qrow_spl0]
  refine call_by (s) (by rfl) (by simp) ?_
  simp (disch := omega) only [wk, tis, Int.reduceNe, Int.reduceEq, Int.reduceLT, Int.reduceLE, Int.reduceAdd, Int.reduceSub, Int.reduceNeg, Int.reduceMul, Int.reduceToNat, Nat.reduceSub, Nat.reduceMul, Nat.reduceLeDiff, Nat.reduceAdd, Nat.reduceLT, Nat.reduceEqDiff, reduceCtorEq, ↓reduceIte, rats_len, rats_get, lay_rat, qrow_take, qrow_len, qrow_splice, qrow_row, rats_rows, rats_snoc, rats_set, rats_take, rats_rep, rats_nil, qrow_drop2, qrow_take2, qrow_drop1, qrow_spl0]
  simp (disch := omega) only [wk, tis, Int.reduceNe, Int.reduceEq, Int.reduceLT, Int.reduceLE, Int.reduceAdd, Int.reduceSub, Int.reduceNeg, Int.reduceMul, Int.reduceToNat, Nat.reduceSub, Nat.reduceMul, Nat.reduceLeDiff, Nat.reduceAdd, Nat.reduceLT, Nat.reduceEqDiff, reduceCtorEq, ↓reduceIte, rats_len, rats_get, lay_rat, qrow_take, qrow_len, qrow_splice, qrow_row, rats_rows, rats_snoc, rats_set, rats_take, rats_rep, rats_nil, qrow_drop2, qrow_take2, qrow_drop1, qrow_spl0, hs0]
  refine call_by (s) (by first | rfl | (simp only [tocvs, tocv, hs0]; rfl) | (simp only [tocvs, tocv, toboxes, tobox, updH_at, Nat.reduceEqDiff, ↓reduceIte, hs0]; rfl)) (by simp) ?_
  simp (disch := omega) only [wk, tis, Int.reduceNe, Int.reduceEq, Int.reduceLT, Int.reduceLE, Int.reduceAdd, Int.reduceSub, Int.reduceNeg, Int.reduceMul, Int.reduceToNat, Nat.reduceSub, Nat.reduceMul, Nat.reduceLeDiff, Nat.reduceAdd, Nat.reduceLT, Nat.reduceEqDiff, reduceCtorEq, ↓reduceIte, rats_len, rats_get, lay_rat, qrow_take, qrow_len, qrow_splice, qrow_row, rats_rows, rats_snoc, rats_set, rats_take, rats_rep, rats_nil, qrow_drop2, qrow_take2, qrow_drop1, qrow_spl0, hs0]
  have hsg := sign_neg (iv b)
  by_cases h : iv b < 0
  · have h1 := hsg.mpr h
    rw [if_pos h] at d
    have r := qred_ok (canon (-iv a)) (wd (iv b).natAbs) ((sz_canon _).mono (by rw [zl_neg]; exact za)) ⟨zb, lim_wd _⟩ (by rw [nv_wd]; omega)
    rw [iv_canon, nv_wd, d] at r
    simp (disch := omega) only [wk, tis, Int.reduceNe, Int.reduceEq, Int.reduceLT, Int.reduceLE, Int.reduceAdd, Int.reduceSub, Int.reduceNeg, Int.reduceMul, Int.reduceToNat, Nat.reduceSub, Nat.reduceMul, Nat.reduceLeDiff, Nat.reduceAdd, Nat.reduceLT, Nat.reduceEqDiff, reduceCtorEq, ↓reduceIte, rats_len, rats_get, lay_rat, qrow_take, qrow_len, qrow_splice, qrow_row, rats_rows, rats_snoc, rats_set, rats_take, rats_rep, rats_nil, qrow_drop2, qrow_take2, qrow_drop1, qrow_spl0, h1]
    refine call_by (n) (by first | rfl | (simp only [tocvs, tocv, h1]; rfl) | (simp only [tocvs, tocv, toboxes, tobox, updH_at, Nat.reduceEqDiff, ↓reduceIte, h1]; rfl)) (by simp) ?_
    simp (disch := omega) only [wk, tis, Int.reduceNe, Int.reduceEq, Int.reduceLT, Int.reduceLE, Int.reduceAdd, Int.reduceSub, Int.reduceNeg, Int.reduceMul, Int.reduceToNat, Nat.reduceSub, Nat.reduceMul, Nat.reduceLeDiff, Nat.reduceAdd, Nat.reduceLT, Nat.reduceEqDiff, reduceCtorEq, ↓reduceIte, rats_len, rats_get, lay_rat, qrow_take, qrow_len, qrow_splice, qrow_row, rats_rows, rats_snoc, rats_set, rats_take, rats_rep, rats_nil, qrow_drop2, qrow_take2, qrow_drop1, qrow_spl0, h1]
    refine ⟨tmps_by (by kernel_rfl), ?_⟩
    refine call_by (w) (by rfl) (by simp) ?_
    simp (disch := omega) only [wk, tis, Int.reduceNe, Int.reduceEq, Int.reduceLT, Int.reduceLE, Int.reduceAdd, Int.reduceSub, Int.reduceNeg, Int.reduceMul, Int.reduceToNat, Nat.reduceSub, Nat.reduceMul, Nat.reduceLeDiff, Nat.reduceAdd, Nat.reduceLT, Nat.reduceEqDiff, reduceCtorEq, ↓reduceIte, rats_len, rats_get, lay_rat, qrow_take, qrow_len, qrow_splice, qrow_row, rats_rows, rats_snoc, rats_set, rats_take, rats_rep, rats_nil, qrow_drop2, qrow_take2, qrow_drop1, qrow_spl0]
    refine call_by (r) (by rfl) (by simp) ?_
    simp (disch := omega) only [wk, tis, Int.reduceNe, Int.reduceEq, Int.reduceLT, Int.reduceLE, Int.reduceAdd, Int.reduceSub, Int.reduceNeg, Int.reduceMul, Int.reduceToNat, Nat.reduceSub, Nat.reduceMul, Nat.reduceLeDiff, Nat.reduceAdd, Nat.reduceLT, Nat.reduceEqDiff, reduceCtorEq, ↓reduceIte, rats_len, rats_get, lay_rat, qrow_take, qrow_len, qrow_splice, qrow_row, rats_rows, rats_snoc, rats_set, rats_take, rats_rep, rats_nil, qrow_drop2, qrow_take2, qrow_drop1, qrow_spl0]
    first | exact log_by (by kernel_rfl) | refine ⟨log_by (by kernel_rfl), ?_⟩
    try rfl
  · have h1 : ¬ (iv b).sign < 0 := fun h' => h (hsg.mp h')
    rw [if_neg h] at d
    have r := qred_ok a (wd (iv b).natAbs) ha ⟨zb, lim_wd _⟩ (by rw [nv_wd]; omega)
    rw [nv_wd, d] at r
    simp (disch := omega) only [wk, tis, Int.reduceNe, Int.reduceEq, Int.reduceLT, Int.reduceLE, Int.reduceAdd, Int.reduceSub, Int.reduceNeg, Int.reduceMul, Int.reduceToNat, Nat.reduceSub, Nat.reduceMul, Nat.reduceLeDiff, Nat.reduceAdd, Nat.reduceLT, Nat.reduceEqDiff, reduceCtorEq, ↓reduceIte, rats_len, rats_get, lay_rat, qrow_take, qrow_len, qrow_splice, qrow_row, rats_rows, rats_snoc, rats_set, rats_take, rats_rep, rats_nil, qrow_drop2, qrow_take2, qrow_drop1, qrow_spl0, h1]
    refine ⟨tmps_by (by kernel_rfl), ?_⟩
    refine call_by (w) (by rfl) (by simp) ?_
    simp (disch := omega) only [wk, tis, Int.reduceNe, Int.reduceEq, Int.reduceLT, Int.reduceLE, Int.reduceAdd, Int.reduceSub, Int.reduceNeg, Int.reduceMul, Int.reduceToNat, Nat.reduceSub, Nat.reduceMul, Nat.reduceLeDiff, Nat.reduceAdd, Nat.reduceLT, Nat.reduceEqDiff, reduceCtorEq, ↓reduceIte, rats_len, rats_get, lay_rat, qrow_take, qrow_len, qrow_splice, qrow_row, rats_rows, rats_snoc, rats_set, rats_take, rats_rep, rats_nil, qrow_drop2, qrow_take2, qrow_drop1, qrow_spl0]
    refine call_by (r) (by rfl) (by simp) ?_
    simp (disch := omega) only [wk, tis, Int.reduceNe, Int.reduceEq, Int.reduceLT, Int.reduceLE, Int.reduceAdd, Int.reduceSub, Int.reduceNeg, Int.reduceMul, Int.reduceToNat, Nat.reduceSub, Nat.reduceMul, Nat.reduceLeDiff, Nat.reduceAdd, Nat.reduceLT, Nat.reduceEqDiff, reduceCtorEq, ↓reduceIte, rats_len, rats_get, lay_rat, qrow_take, qrow_len, qrow_splice, qrow_row, rats_rows, rats_snoc, rats_set, rats_take, rats_rep, rats_nil, qrow_drop2, qrow_take2, qrow_drop1, qrow_spl0]
    first | exact log_by (by kernel_rfl) | refine ⟨log_by (by kernel_rfl), ?_⟩
    try rfl

theorem qmake_bad (a b : RI) (hb : Sz (2 ^ 38) b) (h0 : iv b = 0) : AC Tryz.prog 100 [cr a, cr b] none [cqq q0, ci 1] := by
  have s := zsign_ok b (hb.mono (by omega))
  rw [h0, Int.sign_zero] at s
  refine AC.by_walk (rs := [.cell 4 31, .tmp 5]) ords Tryz.func100 (by rfl) (by rfl) (by rfl) (by rfl) (by rfl) ?_
  simp (disch := omega) only [wk, tis, Int.reduceNe, Int.reduceEq, Int.reduceLT, Int.reduceLE, Int.reduceAdd, Int.reduceSub, Int.reduceNeg, Int.reduceMul, Int.reduceToNat, Nat.reduceSub, Nat.reduceMul, Nat.reduceLeDiff, Nat.reduceAdd, Nat.reduceLT, Nat.reduceEqDiff, reduceCtorEq, ↓reduceIte, rats_len, rats_get, lay_rat, qrow_take, qrow_len, qrow_splice, qrow_row, rats_rows, rats_snoc, rats_set, rats_take, rats_rep, rats_nil, qrow_drop2, qrow_take2, qrow_drop1, qrow_spl0]
  refine call_by (s) (by rfl) (by simp) ?_
  simp (disch := omega) only [wk, tis, Int.reduceNe, Int.reduceEq, Int.reduceLT, Int.reduceLE, Int.reduceAdd, Int.reduceSub, Int.reduceNeg, Int.reduceMul, Int.reduceToNat, Nat.reduceSub, Nat.reduceMul, Nat.reduceLeDiff, Nat.reduceAdd, Nat.reduceLT, Nat.reduceEqDiff, reduceCtorEq, ↓reduceIte, rats_len, rats_get, lay_rat, qrow_take, qrow_len, qrow_splice, qrow_row, rats_rows, rats_snoc, rats_set, rats_take, rats_rep, rats_nil, qrow_drop2, qrow_take2, qrow_drop1, qrow_spl0]
  try rfl

theorem qv_div {a b : RQ} (h0 : nv a.2 ≠ 0) (h1 : nv b.2 ≠ 0) (h2 : iv b.1 ≠ 0) : ((iv a.1 * nv b.2 : Int) : Rat) / ((iv b.1 * nv a.2 : Int) : Rat) = qv a / qv b := by
  rw [qv_eq, qv_eq, Rat.intCast_mul, Rat.intCast_mul, Rat.intCast_natCast, Rat.intCast_natCast]
  have e0 : (nv a.2 : Rat) ≠ 0 := fun h => h0 (Rat.natCast_eq_zero_iff.mp h)
  have e1 : (nv b.2 : Rat) ≠ 0 := fun h => h1 (Rat.natCast_eq_zero_iff.mp h)
  have e2 : (iv b.1 : Rat) ≠ 0 := fun h => h2 (Rat.intCast_eq_zero_iff.mp h)
  grind

theorem qquo_ok (a b : RQ) (ha : SzQ (2 ^ 35) a) (hb : SzQ (2 ^ 35) b) (h0 : nv a.2 ≠ 0) (h1 : nv b.2 ≠ 0) (h2 : iv b.1 ≠ 0) : AC Tryz.prog 130 [cqq a, cqq b] none [cqz (qv a / qv b), ci 0] := by
  have c := qchecks_two a b (ha.mono (by omega)) (hb.mono (by omega)) h0 h1
  have t1 := qtimes_ok a.1 b.2 (ha.1.mono (by omega)) ⟨Nat.le_trans hb.2.1 (by omega), hb.2.2⟩
  have t2 := qtimes_ok b.1 a.2 (hb.1.mono (by omega)) ⟨Nat.le_trans ha.2.1 (by omega), ha.2.2⟩
  have z1 := zl_mul (iv a.1) (nv b.2 : Nat)
  have z2 := zl_mul (iv b.1) (nv a.2 : Nat)
  have y1 := zl_iv ha.1
  have y2 := zl_iv hb.1
  have y3 := nt_zl ha.2
  have y4 := nt_zl hb.2
  have r := qmake_ok (canon (iv a.1 * (nv b.2 : Nat))) (canon (iv b.1 * (nv a.2 : Nat))) ((sz_canon _).mono (by omega)) ((sz_canon _).mono (by omega)) (by rw [iv_canon]; exact Int.mul_ne_zero h2 (by omega))
  rw [iv_canon, iv_canon, qv_div h0 h1 h2] at r
  refine AC.by_walk (rs := [.cell 4 31, .tmp 5]) ords Tryz.func130 (by rfl) (by rfl) (by rfl) (by rfl) (by rfl) ?_
  simp (disch := omega) only [wk, tis, Int.reduceNe, Int.reduceEq, Int.reduceLT, Int.reduceLE, Int.reduceAdd, Int.reduceSub, Int.reduceNeg, Int.reduceMul, Int.reduceToNat, Nat.reduceSub, Nat.reduceMul, Nat.reduceLeDiff, Nat.reduceAdd, Nat.reduceLT, Nat.reduceEqDiff, reduceCtorEq, ↓reduceIte, rats_len, rats_get, lay_rat, qrow_take, qrow_len, qrow_splice, qrow_row, rats_rows, rats_snoc, rats_set, rats_take, rats_rep, rats_nil, qrow_drop2, qrow_take2, qrow_drop1, qrow_spl0, rats_two]
  refine call_by (c) (by first | rfl | (simp only [tocvs, tocv, rats_two]; rfl) | (simp only [tocvs, tocv, toboxes, tobox, updH_at, Nat.reduceEqDiff, ↓reduceIte, rats_two]; rfl)) (by simp) ?_
  simp (disch := omega) only [wk, tis, Int.reduceNe, Int.reduceEq, Int.reduceLT, Int.reduceLE, Int.reduceAdd, Int.reduceSub, Int.reduceNeg, Int.reduceMul, Int.reduceToNat, Nat.reduceSub, Nat.reduceMul, Nat.reduceLeDiff, Nat.reduceAdd, Nat.reduceLT, Nat.reduceEqDiff, reduceCtorEq, ↓reduceIte, rats_len, rats_get, lay_rat, qrow_take, qrow_len, qrow_splice, qrow_row, rats_rows, rats_snoc, rats_set, rats_take, rats_rep, rats_nil, qrow_drop2, qrow_take2, qrow_drop1, qrow_spl0, rats_two]
  refine ⟨tmps_by (by kernel_rfl), ?_⟩
  refine call_by (t1) (by rfl) (by simp) ?_
  simp (disch := omega) only [wk, tis, Int.reduceNe, Int.reduceEq, Int.reduceLT, Int.reduceLE, Int.reduceAdd, Int.reduceSub, Int.reduceNeg, Int.reduceMul, Int.reduceToNat, Nat.reduceSub, Nat.reduceMul, Nat.reduceLeDiff, Nat.reduceAdd, Nat.reduceLT, Nat.reduceEqDiff, reduceCtorEq, ↓reduceIte, rats_len, rats_get, lay_rat, qrow_take, qrow_len, qrow_splice, qrow_row, rats_rows, rats_snoc, rats_set, rats_take, rats_rep, rats_nil, qrow_drop2, qrow_take2, qrow_drop1, qrow_spl0]
  refine call_by (t2) (by rfl) (by simp) ?_
  simp (disch := omega) only [wk, tis, Int.reduceNe, Int.reduceEq, Int.reduceLT, Int.reduceLE, Int.reduceAdd, Int.reduceSub, Int.reduceNeg, Int.reduceMul, Int.reduceToNat, Nat.reduceSub, Nat.reduceMul, Nat.reduceLeDiff, Nat.reduceAdd, Nat.reduceLT, Nat.reduceEqDiff, reduceCtorEq, ↓reduceIte, rats_len, rats_get, lay_rat, qrow_take, qrow_len, qrow_splice, qrow_row, rats_rows, rats_snoc, rats_set, rats_take, rats_rep, rats_nil, qrow_drop2, qrow_take2, qrow_drop1, qrow_spl0]
  refine call_by (r) (by rfl) (by simp) ?_
  simp (disch := omega) only [wk, tis, Int.reduceNe, Int.reduceEq, Int.reduceLT, Int.reduceLE, Int.reduceAdd, Int.reduceSub, Int.reduceNeg, Int.reduceMul, Int.reduceToNat, Nat.reduceSub, Nat.reduceMul, Nat.reduceLeDiff, Nat.reduceAdd, Nat.reduceLT, Nat.reduceEqDiff, reduceCtorEq, ↓reduceIte, rats_len, rats_get, lay_rat, qrow_take, qrow_len, qrow_splice, qrow_row, rats_rows, rats_snoc, rats_set, rats_take, rats_rep, rats_nil, qrow_drop2, qrow_take2, qrow_drop1, qrow_spl0]
  first | exact log_by (by kernel_rfl) | refine ⟨log_by (by kernel_rfl), ?_⟩
  try rfl

theorem qnorm_ok (r : RQ) (h : SzQ (2 ^ 38) r) (h0 : nv r.2 ≠ 0) : AC Tryz.prog 115 [cqq r] none [cqz (qv r), ci 0] := by
  have c := qcheck_good r ⟨Nat.le_trans h.2.1 (by omega), h.2.2⟩ h0
  have m := qred_ok r.1 r.2 h.1 h.2 h0
  refine AC.by_walk (rs := [.cell 2 31, .tmp 3]) ords Tryz.func115 (by rfl) (by rfl) (by rfl) (by rfl) (by rfl) ?_
  simp (disch := omega) only [wk, tis, Int.reduceNe, Int.reduceEq, Int.reduceLT, Int.reduceLE, Int.reduceAdd, Int.reduceSub, Int.reduceNeg, Int.reduceMul, Int.reduceToNat, Nat.reduceSub, Nat.reduceMul, Nat.reduceLeDiff, Nat.reduceAdd, Nat.reduceLT, Nat.reduceEqDiff, reduceCtorEq, ↓reduceIte, rats_len, rats_get, lay_rat, qrow_take, qrow_len, qrow_splice, qrow_row, rats_rows, rats_snoc, rats_set, rats_take, rats_rep, rats_nil, qrow_drop2, qrow_take2, qrow_drop1, qrow_spl0]
  refine call_by (c) (by rfl) (by simp) ?_
  simp (disch := omega) only [wk, tis, Int.reduceNe, Int.reduceEq, Int.reduceLT, Int.reduceLE, Int.reduceAdd, Int.reduceSub, Int.reduceNeg, Int.reduceMul, Int.reduceToNat, Nat.reduceSub, Nat.reduceMul, Nat.reduceLeDiff, Nat.reduceAdd, Nat.reduceLT, Nat.reduceEqDiff, reduceCtorEq, ↓reduceIte, rats_len, rats_get, lay_rat, qrow_take, qrow_len, qrow_splice, qrow_row, rats_rows, rats_snoc, rats_set, rats_take, rats_rep, rats_nil, qrow_drop2, qrow_take2, qrow_drop1, qrow_spl0]
  refine call_by (m) (by rfl) (by simp) ?_
  simp (disch := omega) only [wk, tis, Int.reduceNe, Int.reduceEq, Int.reduceLT, Int.reduceLE, Int.reduceAdd, Int.reduceSub, Int.reduceNeg, Int.reduceMul, Int.reduceToNat, Nat.reduceSub, Nat.reduceMul, Nat.reduceLeDiff, Nat.reduceAdd, Nat.reduceLT, Nat.reduceEqDiff, reduceCtorEq, ↓reduceIte, rats_len, rats_get, lay_rat, qrow_take, qrow_len, qrow_splice, qrow_row, rats_rows, rats_snoc, rats_set, rats_take, rats_rep, rats_nil, qrow_drop2, qrow_take2, qrow_drop1, qrow_spl0]
  try rfl

theorem qnorm_bad (r : RQ) (h : Nt (2 ^ 42) r.2) (h0 : nv r.2 = 0) : AC Tryz.prog 115 [cqq r] none [cqq q0, ci 1] := by
  have c := qcheck_bad r h h0
  refine AC.by_walk (rs := [.cell 2 31, .tmp 3]) ords Tryz.func115 (by rfl) (by rfl) (by rfl) (by rfl) (by rfl) ?_
  simp (disch := omega) only [wk, tis, Int.reduceNe, Int.reduceEq, Int.reduceLT, Int.reduceLE, Int.reduceAdd, Int.reduceSub, Int.reduceNeg, Int.reduceMul, Int.reduceToNat, Nat.reduceSub, Nat.reduceMul, Nat.reduceLeDiff, Nat.reduceAdd, Nat.reduceLT, Nat.reduceEqDiff, reduceCtorEq, ↓reduceIte, rats_len, rats_get, lay_rat, qrow_take, qrow_len, qrow_splice, qrow_row, rats_rows, rats_snoc, rats_set, rats_take, rats_rep, rats_nil, qrow_drop2, qrow_take2, qrow_drop1, qrow_spl0]
  refine call_by (c) (by rfl) (by simp) ?_
  simp (disch := omega) only [wk, tis, Int.reduceNe, Int.reduceEq, Int.reduceLT, Int.reduceLE, Int.reduceAdd, Int.reduceSub, Int.reduceNeg, Int.reduceMul, Int.reduceToNat, Nat.reduceSub, Nat.reduceMul, Nat.reduceLeDiff, Nat.reduceAdd, Nat.reduceLT, Nat.reduceEqDiff, reduceCtorEq, ↓reduceIte, rats_len, rats_get, lay_rat, qrow_take, qrow_len, qrow_splice, qrow_row, rats_rows, rats_snoc, rats_set, rats_take, rats_rep, rats_nil, qrow_drop2, qrow_take2, qrow_drop1, qrow_spl0]
  try rfl

theorem qsign_ok (r : RQ) (h : SzQ (2 ^ 38) r) (h0 : nv r.2 ≠ 0) : AC Tryz.prog 94 [cqq r] none [ci (iv r.1).sign, ci 0] := by
  have c := qcheck_good r ⟨Nat.le_trans h.2.1 (by omega), h.2.2⟩ h0
  have m := zsign_ok r.1 (h.1.mono (by omega))
  refine AC.by_walk (rs := [.tmp 2, .tmp 3]) ords Tryz.func94 (by rfl) (by rfl) (by rfl) (by rfl) (by rfl) ?_
  simp (disch := omega) only [wk, tis, Int.reduceNe, Int.reduceEq, Int.reduceLT, Int.reduceLE, Int.reduceAdd, Int.reduceSub, Int.reduceNeg, Int.reduceMul, Int.reduceToNat, Nat.reduceSub, Nat.reduceMul, Nat.reduceLeDiff, Nat.reduceAdd, Nat.reduceLT, Nat.reduceEqDiff, reduceCtorEq, ↓reduceIte, rats_len, rats_get, lay_rat, qrow_take, qrow_len, qrow_splice, qrow_row, rats_rows, rats_snoc, rats_set, rats_take, rats_rep, rats_nil, qrow_drop2, qrow_take2, qrow_drop1, qrow_spl0]
  refine call_by (c) (by rfl) (by simp) ?_
  simp (disch := omega) only [wk, tis, Int.reduceNe, Int.reduceEq, Int.reduceLT, Int.reduceLE, Int.reduceAdd, Int.reduceSub, Int.reduceNeg, Int.reduceMul, Int.reduceToNat, Nat.reduceSub, Nat.reduceMul, Nat.reduceLeDiff, Nat.reduceAdd, Nat.reduceLT, Nat.reduceEqDiff, reduceCtorEq, ↓reduceIte, rats_len, rats_get, lay_rat, qrow_take, qrow_len, qrow_splice, qrow_row, rats_rows, rats_snoc, rats_set, rats_take, rats_rep, rats_nil, qrow_drop2, qrow_take2, qrow_drop1, qrow_spl0]
  refine call_by (m) (by rfl) (by simp) ?_
  simp (disch := omega) only [wk, tis, Int.reduceNe, Int.reduceEq, Int.reduceLT, Int.reduceLE, Int.reduceAdd, Int.reduceSub, Int.reduceNeg, Int.reduceMul, Int.reduceToNat, Nat.reduceSub, Nat.reduceMul, Nat.reduceLeDiff, Nat.reduceAdd, Nat.reduceLT, Nat.reduceEqDiff, reduceCtorEq, ↓reduceIte, rats_len, rats_get, lay_rat, qrow_take, qrow_len, qrow_splice, qrow_row, rats_rows, rats_snoc, rats_set, rats_take, rats_rep, rats_nil, qrow_drop2, qrow_take2, qrow_drop1, qrow_spl0]
  try rfl

theorem qof_ok (a b : Int) (ha : -9223372036854775808 ≤ a) (ha' : a ≤ 9223372036854775807) (hb : -9223372036854775808 ≤ b) (hb' : b ≤ 9223372036854775807) (h0 : b ≠ 0) : AC Tryz.prog 128 [ci a, ci b] none [cqz ((a : Rat) / (b : Rat)), ci 0] := by
  have z1 := zOf_ok a ha ha'
  have z2 := zOf_ok b hb hb'
  have s : ∀ x : Int, -9223372036854775808 ≤ x → x ≤ 9223372036854775807 → zl x ≤ 1 := fun x h1 h2 => zl_le.mpr (by rw [Nat.pow_one]; simp only [W]; omega)
  have r := qmake_ok (canon a) (canon b) ((sz_canon _).mono (Nat.le_trans (s a ha ha') (by omega))) ((sz_canon _).mono (Nat.le_trans (s b hb hb') (by omega))) (by rw [iv_canon]; exact h0)
  rw [iv_canon, iv_canon] at r
  refine AC.by_walk (rs := [.cell 4 31, .tmp 5]) ords Tryz.func128 (by rfl) (by rfl) (by rfl) (by rfl) (by rfl) ?_
  simp (disch := omega) only [wk, tis, Int.reduceNe, Int.reduceEq, Int.reduceLT, Int.reduceLE, Int.reduceAdd, Int.reduceSub, Int.reduceNeg, Int.reduceMul, Int.reduceToNat, Nat.reduceSub, Nat.reduceMul, Nat.reduceLeDiff, Nat.reduceAdd, Nat.reduceLT, Nat.reduceEqDiff, reduceCtorEq, ↓reduceIte, rats_len, rats_get, lay_rat, qrow_take, qrow_len, qrow_splice, qrow_row, rats_rows, rats_snoc, rats_set, rats_take, rats_rep, rats_nil, qrow_drop2, qrow_take2, qrow_drop1, qrow_spl0]
  refine call_by (z1) (by rfl) (by simp) ?_
  simp (disch := omega) only [wk, tis, Int.reduceNe, Int.reduceEq, Int.reduceLT, Int.reduceLE, Int.reduceAdd, Int.reduceSub, Int.reduceNeg, Int.reduceMul, Int.reduceToNat, Nat.reduceSub, Nat.reduceMul, Nat.reduceLeDiff, Nat.reduceAdd, Nat.reduceLT, Nat.reduceEqDiff, reduceCtorEq, ↓reduceIte, rats_len, rats_get, lay_rat, qrow_take, qrow_len, qrow_splice, qrow_row, rats_rows, rats_snoc, rats_set, rats_take, rats_rep, rats_nil, qrow_drop2, qrow_take2, qrow_drop1, qrow_spl0]
  refine call_by (z2) (by rfl) (by simp) ?_
  simp (disch := omega) only [wk, tis, Int.reduceNe, Int.reduceEq, Int.reduceLT, Int.reduceLE, Int.reduceAdd, Int.reduceSub, Int.reduceNeg, Int.reduceMul, Int.reduceToNat, Nat.reduceSub, Nat.reduceMul, Nat.reduceLeDiff, Nat.reduceAdd, Nat.reduceLT, Nat.reduceEqDiff, reduceCtorEq, ↓reduceIte, rats_len, rats_get, lay_rat, qrow_take, qrow_len, qrow_splice, qrow_row, rats_rows, rats_snoc, rats_set, rats_take, rats_rep, rats_nil, qrow_drop2, qrow_take2, qrow_drop1, qrow_spl0]
  refine call_by (r) (by rfl) (by simp) ?_
  simp (disch := omega) only [wk, tis, Int.reduceNe, Int.reduceEq, Int.reduceLT, Int.reduceLE, Int.reduceAdd, Int.reduceSub, Int.reduceNeg, Int.reduceMul, Int.reduceToNat, Nat.reduceSub, Nat.reduceMul, Nat.reduceLeDiff, Nat.reduceAdd, Nat.reduceLT, Nat.reduceEqDiff, reduceCtorEq, ↓reduceIte, rats_len, rats_get, lay_rat, qrow_take, qrow_len, qrow_splice, qrow_row, rats_rows, rats_snoc, rats_set, rats_take, rats_rep, rats_nil, qrow_drop2, qrow_take2, qrow_drop1, qrow_spl0]
  try rfl

theorem ewhole_ok (n : Int) (h : -9223372036854775808 ≤ n) (h' : n ≤ 9223372036854775807) : AC Tryz.prog 82 [ci n] none [cqz (n : Rat)] := by
  have z := zOf_ok n h h'
  rw [show cqz (n : Rat) = cqq (canon n, [1]) from congrArg cqq (crat_int n)]
  refine AC.by_walk (rs := [.cell 2 31]) ords Tryz.func82 (by rfl) (by rfl) (by rfl) (by rfl) (by rfl) ?_
  simp (disch := omega) only [wk, tis, Int.reduceNe, Int.reduceEq, Int.reduceLT, Int.reduceLE, Int.reduceAdd, Int.reduceSub, Int.reduceNeg, Int.reduceMul, Int.reduceToNat, Nat.reduceSub, Nat.reduceMul, Nat.reduceLeDiff, Nat.reduceAdd, Nat.reduceLT, Nat.reduceEqDiff, reduceCtorEq, ↓reduceIte, rats_len, rats_get, lay_rat, qrow_take, qrow_len, qrow_splice, qrow_row, rats_rows, rats_snoc, rats_set, rats_take, rats_rep, rats_nil, qrow_drop2, qrow_take2, qrow_drop1, qrow_spl0]
  refine call_by (z) (by rfl) (by simp) ?_
  simp (disch := omega) only [wk, tis, Int.reduceNe, Int.reduceEq, Int.reduceLT, Int.reduceLE, Int.reduceAdd, Int.reduceSub, Int.reduceNeg, Int.reduceMul, Int.reduceToNat, Nat.reduceSub, Nat.reduceMul, Nat.reduceLeDiff, Nat.reduceAdd, Nat.reduceLT, Nat.reduceEqDiff, reduceCtorEq, ↓reduceIte, rats_len, rats_get, lay_rat, qrow_take, qrow_len, qrow_splice, qrow_row, rats_rows, rats_snoc, rats_set, rats_take, rats_rep, rats_nil, qrow_drop2, qrow_take2, qrow_drop1, qrow_spl0]
  try rfl
end Go.Proofs.YtjadkhkgmdikiaaGreat

namespace Go.Proofs.YtjadkhkgmdikiaaGreat
open Go Go.Proofs Go.AL
set_option linter.unusedSimpArgs false
set_option linter.unusedVariables false

/-! ### A polynomial at a fraction of power series -/

/-- The sum of c_i * f^i * g^(n-1-i). -/
def hom : List Int → PS → PS → PS
  | [], _, _ => 0
  | c :: p, f, g => PS.C c * PS.pw g p.length + f * hom p f g

theorem pw_one1 (n : Nat) : PS.pw 1 n = 1 := by
  induction n with
  | zero => rfl
  | succ n ih => rw [PS.pw, ih, PS.mul_one]

theorem hom_snoc (p : List Int) (c : Int) (f g : PS) : hom (p ++ [c]) f g = hom p f g * g + PS.C c * PS.pw f p.length := by
  induction p with
  | nil => simp only [List.nil_append, hom, List.length_nil, PS.pw, PS.mul_one, PS.mul_zero, PS.zero_mul, PS.add_zero, PS.zero_add]
  | cons x p ih =>
    simp only [List.cons_append, hom, ih, List.length_append, List.length_cons, List.length_nil, PS.pw, PS.add_mul, PS.mul_add]
    ac_rfl

/-- At a power series. -/
def cmp (p : List Int) (f : PS) : PS := hom p f 1
theorem cmp_nil (f : PS) : cmp [] f = 0 := rfl
theorem cmp_cons (c : Int) (p : List Int) (f : PS) : cmp (c :: p) f = PS.C c + f * cmp p f := by
  simp only [cmp, hom, pw_one1, PS.mul_one]

theorem cmp_zero {p : List Int} (f : PS) (h : ∀ k, cf p k = 0) : cmp p f = 0 := by
  induction p with
  | nil => rfl
  | cons c p ih =>
    have h0 := h 0
    rw [cmp_cons, ih (fun k => by have := h (k + 1); simpa [cf] using this), show c = 0 by simpa [cf] using h0, PS.C_zero, PS.mul_zero, PS.add_zero]

theorem cmp_ext {p q : List Int} (f : PS) (h : ∀ k, cf p k = cf q k) : cmp p f = cmp q f := by
  induction p generalizing q with
  | nil => rw [cmp_nil, cmp_zero f (fun k => (h k).symm.trans (cf_nil k))]
  | cons c p ih =>
    cases q with
    | nil => rw [cmp_nil, cmp_zero f (fun k => (h k).trans (cf_nil k))]
    | cons d q =>
      have h0 := h 0
      rw [cmp_cons, cmp_cons, ih (fun k => by have := h (k + 1); simpa [cf] using this), show c = d by simpa [cf] using h0]
theorem cmp_ps {p q : List Int} (f : PS) (h : ps p = ps q) : cmp p f = cmp q f := cmp_ext f (ps_eq h)

theorem cf_padd_cons (c d : Int) (p q : List Int) (k : Nat) : cf (padd (c :: p) (d :: q)) k = cf ((c + d) :: padd p q) k := by
  rw [cf_padd]
  cases k with
  | zero => simp [cf]
  | succ k => simp only [cf, List.getD_cons_succ]; exact (cf_padd p q k).symm

theorem cmp_padd (p q : List Int) (f : PS) : cmp (padd p q) f = cmp p f + cmp q f := by
  induction p generalizing q with
  | nil => rw [cmp_nil, PS.zero_add]; exact cmp_ext f fun k => by rw [cf_padd, cf_nil, Int.zero_add]
  | cons c p ih =>
    cases q with
    | nil => rw [cmp_nil, PS.add_zero]; exact cmp_ext f fun k => by rw [cf_padd, cf_nil, Int.add_zero]
    | cons d q =>
      rw [cmp_ext f (cf_padd_cons c d p q), cmp_cons, cmp_cons, cmp_cons, ih, PS.C_add, PS.mul_add]
      ac_rfl

theorem cmp_pscale (c : Int) (p : List Int) (f : PS) : cmp (pscale c p) f = PS.C c * cmp p f := by
  induction p with
  | nil => rw [cmp_nil, PS.mul_zero]; rfl
  | cons d p ih =>
    have : pscale c (d :: p) = (d * c) :: pscale c p := rfl
    rw [this, cmp_cons, cmp_cons, ih, PS.C_mul, PS.mul_add]
    ac_rfl

theorem cmp_pmul (p q : List Int) (f : PS) : cmp (pmul p q) f = cmp p f * cmp q f := by
  induction p with
  | nil => rw [cmp_nil, PS.zero_mul]; exact cmp_zero f fun k => by rw [cf_pmul]; rfl
  | cons c p ih =>
    have e : ∀ k, cf (pmul (c :: p) q) k = cf (padd (pscale c q) (0 :: pmul p q)) k := fun k => by
      rw [cf_pmul_cons, cf_padd, cf_pscale, Int.mul_comm c]
      congr 1
      cases k with
      | zero => rfl
      | succ k => rfl
    rw [cmp_ext f e, cmp_padd, cmp_pscale, cmp_cons, cmp_cons, ih, PS.C_zero, PS.zero_add, PS.add_mul, PS.mul_assoc]

theorem ps_X : ps [0, 1] = PS.X := PS.ext fun k => by
  rw [ps_c, PS.X]
  match k with
  | 0 => rfl
  | 1 => rfl
  | k + 2 => simp [cf]

theorem cmp_X (p : List Int) : cmp p PS.X = ps p := by
  induction p with
  | nil => rw [cmp_nil, ps_nil]
  | cons c p ih =>
    rw [cmp_cons, ih, ← ps_X, ← ps_pmul, ← ps_const, ← ps_padd]
    refine ps_ext fun k => ?_
    rw [cf_padd, cf_pmul_cons]
    cases k with
    | zero => simp [cf, shiftf]
    | succ k =>
      rw [shiftf, cf_pmul_cons]
      have hn : ∀ n, cf (pmul [] p) n = 0 := fun n => by rw [cf_pmul]; rfl
      have hs : shiftf (cf (pmul [] p)) k = 0 := by cases k <;> simp [shiftf, hn]
      rw [hs]
      simp [cf]

/-! ### In lists -/

def lhom : List Int → List Int → List Int → List Int
  | [], _, _ => []
  | c :: p, f, g => padd (pscale c (ppow g p.length)) (pmul f (lhom p f g))

theorem ps_lhom (p f g : List Int) : ps (lhom p f g) = hom p (ps f) (ps g) := by
  induction p with
  | nil => rw [lhom, hom, ps_nil]
  | cons c p ih => rw [lhom, hom, ps_padd, ps_pscale, ps_ppow, ps_pmul, ih]

theorem cmp_ppow (g : List Int) (n : Nat) (F : PS) : cmp (ppow g n) F = PS.pw (cmp g F) n := by
  induction n with
  | zero => rw [ppow, PS.pw, cmp_cons, cmp_nil, PS.mul_zero, PS.add_zero]; rfl
  | succ n ih => rw [ppow, PS.pw, cmp_pmul, ih]; try exact PS.mul_comm _ _

theorem cmp_lhom (p f g : List Int) (F : PS) : cmp (lhom p f g) F = hom p (cmp f F) (cmp g F) := by
  induction p with
  | nil => rfl
  | cons c p ih => rw [lhom, hom, cmp_padd, cmp_pscale, cmp_pmul, cmp_ppow, ih]

theorem pb_lhom {N K : Nat} {f g : List Int} (hf : PB N K f) (hg : PB N K g) (hN : N < 2 ^ 20) : ∀ {p : List Int} {m : Nat}, m < 2 ^ 20 → PB m K p → PB (p.length * N + 1) (p.length * (K + 2) + K + 3) (lhom p f g)
  | [], _, _, _ => ⟨by simp [lhom], fun z hz => by simp [lhom] at hz⟩
  | c :: p, m, hm, hp => by
    have h1 : PB m K p := ⟨by have := hp.1; simp at this; omega, fun z hz => hp.2 z (List.mem_cons_of_mem _ hz)⟩
    have ih := pb_lhom hf hg hN hm h1
    have hc := hp.2 c (by simp)
    have hpl : p.length ≤ 2 ^ 20 := by have := hp.1; simp at this; omega
    have hW : ∀ x, x < 2 ^ 60 → x < W := fun x hx => by simp only [W]; omega
    have q := (hg.ppow (hW N (by omega)) p.length).pscale (c := c)
    have r := hf.pmul ih (hW N (by omega))
    have e1 : (p.length + 1) * N = p.length * N + N := Nat.succ_mul _ _
    have e2 : (p.length + 1) * (K + 2) = p.length * (K + 2) + (K + 2) := Nat.succ_mul _ _
    have e3 : p.length * (K + 2) = p.length * (K + 1) + p.length := by rw [show K + 2 = K + 1 + 1 from rfl, Nat.mul_succ]
    have hlen : (c :: p).length = p.length + 1 := rfl
    rw [hlen, e1, e2]
    exact (q.padd r).mono (by omega) (by omega)
end Go.Proofs.YtjadkhkgmdikiaaGreat

namespace Go.Proofs.YtjadkhkgmdikiaaGreat
open Go Go.Proofs Go.AL
set_option linter.unusedSimpArgs false
set_option linter.unusedVariables false

theorem gz_greatest (q : List Int) (d : Nat) (h : ∀ k, (d : Int) ∣ cf q k) : d ∣ gz q := by
  have key : ∀ i, i ≤ q.length → d ∣ gz (q.take i) := by
    intro i
    induction i with
    | zero => intro _; exact Nat.dvd_zero _
    | succ i ih =>
      intro hi
      rw [gz_take (by omega)]
      exact Nat.dvd_gcd (ih (by omega)) (Int.ofNat_dvd_left.mp (h i))
  have := key q.length (Nat.le_refl _)
  rwa [List.take_of_length_le (Nat.le_refl _)] at this

theorem gz_eq {p q : List Int} (h : ∀ k, cf p k = cf q k) : gz p = gz q :=
  Nat.dvd_antisymm (gz_greatest q _ fun k => by rw [← h]; exact gz_dvd p k) (gz_greatest p _ fun k => by rw [h]; exact gz_dvd q k)

theorem gz_scale (c : Int) (q : List Int) : gz (pscale c q) = c.natAbs * gz q := by
  have key : ∀ (q : List Int) (g : Nat), (pscale c q).foldl (fun g x => Nat.gcd g x.natAbs) (c.natAbs * g) = c.natAbs * q.foldl (fun g x => Nat.gcd g x.natAbs) g := by
    intro q
    induction q with
    | nil => intro g; rfl
    | cons x xs ih =>
      intro g
      have e : pscale c (x :: xs) = (x * c) :: pscale c xs := rfl
      rw [e, List.foldl_cons, List.foldl_cons, Int.natAbs_mul, Nat.mul_comm x.natAbs, Nat.gcd_mul_left, ih]
  exact key q 0

/-- A divisor that cannot be split. -/
theorem prime_fac : ∀ n : Nat, 1 < n → ∃ r, 1 < r ∧ r ∣ n ∧ ∀ x : Nat, r ∣ x ∨ Nat.gcd r x = 1 := by
  intro n
  induction n using Nat.strongRecOn with
  | _ n ih =>
    intro hn
    by_cases h : ∀ x : Nat, n ∣ x ∨ Nat.gcd n x = 1
    · exact ⟨n, hn, Nat.dvd_refl _, h⟩
    · obtain ⟨x, hx⟩ := Classical.not_forall.mp h
      have h1 : ¬ n ∣ x := fun h => hx (.inl h)
      have h2 : ¬ Nat.gcd n x = 1 := fun h => hx (.inr h)
      have h3 : Nat.gcd n x ≤ n := Nat.gcd_le_left _ (by omega)
      have h4 : Nat.gcd n x ≠ n := fun h => h1 (by rw [← h]; exact Nat.gcd_dvd_right _ _)
      have h5 : Nat.gcd n x ≠ 0 := fun h => by have := Nat.eq_zero_of_gcd_eq_zero_left h; omega
      obtain ⟨r, hr, hrd, hp⟩ := ih (Nat.gcd n x) (by omega) (by omega)
      exact ⟨r, hr, Nat.dvd_trans hrd (Nat.gcd_dvd_left _ _), hp⟩

theorem prime_mul {r : Nat} (hp : ∀ x : Nat, r ∣ x ∨ Nat.gcd r x = 1) {x y : Int} (h : (r : Int) ∣ x * y) : (r : Int) ∣ x ∨ (r : Int) ∣ y := by
  have h1 := Int.ofNat_dvd_left.mp h
  rw [Int.natAbs_mul] at h1
  rcases hp x.natAbs with h2 | h2
  · exact .inl (Int.ofNat_dvd_left.mpr h2)
  · exact .inr (Int.ofNat_dvd_left.mpr (Nat.Coprime.dvd_of_dvd_mul_left h2 h1))

theorem sumN_dvd {r : Int} : ∀ {n : Nat} {f : Nat → Int}, (∀ k, k < n → r ∣ f k) → r ∣ sumN n f
  | 0, f, _ => Int.dvd_zero _
  | n + 1, f, h => Int.dvd_add (sumN_dvd fun k hk => h k (by omega)) (h n (by omega))

theorem sumN_dvd_one {r : Int} {n i : Nat} {f : Nat → Int} (hi : i < n) (h : ∀ k, k < n → k ≠ i → r ∣ f k) (hs : r ∣ sumN n f) : r ∣ f i := by
  have e : sumN n f = sumN n (fun k => if k = i then 0 else f k) + f i := by
    have h1 : sumN n (fun k => if k = i then f k else 0) = f i := by
      rw [sumN_one _ hi fun k _ hk => if_neg hk, if_pos rfl]
    rw [← h1, ← sumN_add]
    refine sumN_congr fun k _ => ?_
    by_cases hk : k = i
    · rw [if_pos hk, if_pos hk, Int.zero_add]
    · rw [if_neg hk, if_neg hk, Int.add_zero]
  have h2 : r ∣ sumN n (fun k => if k = i then 0 else f k) := sumN_dvd fun k hk => by
    by_cases hki : k = i
    · simp only [if_pos hki]; exact Int.dvd_zero _
    · simp only [if_neg hki]; exact h k hk hki
  rw [e] at hs
  exact (Int.dvd_add_right h2).mp hs

theorem gauss_prime {r : Nat} (hp : ∀ x : Nat, r ∣ x ∨ Nat.gcd r x = 1) {p q : List Int} (h : ∀ k, (r : Int) ∣ cf (pmul p q) k) : ∀ n i j, i + j = n → (r : Int) ∣ cf p i ∨ (r : Int) ∣ cf q j := by
  intro n
  induction n using Nat.strongRecOn with
  | _ n ih =>
    intro i j hij
    by_cases h1 : (r : Int) ∣ cf p i
    · exact .inl h1
    by_cases h2 : (r : Int) ∣ cf q j
    · exact .inr h2
    exfalso
    have h3 := h n
    rw [cf_pmul, PS.cv_conv, PS.conv] at h3
    have h4 := sumN_dvd_one (i := i) (by omega) (fun k hk hki => ?_) h3
    · rw [show n - i = j by omega] at h4
      rcases prime_mul hp h4 with h5 | h5
      · exact h1 h5
      · exact h2 h5
    · rcases Nat.lt_or_ge k i with h5 | h5
      · rcases ih (k + j) (by omega) k j rfl with h6 | h6
        · exact Int.dvd_trans h6 (Int.dvd_mul_right _ _)
        · exact absurd h6 h2
      · rcases ih (i + (n - k)) (by omega) i (n - k) rfl with h6 | h6
        · exact absurd h6 h1
        · exact Int.dvd_trans h6 (Int.dvd_mul_left _ _)

theorem gauss_gz {p q : List Int} (hp : gz p = 1) (hq : gz q = 1) : gz (pmul p q) = 1 := by
  rcases Nat.lt_trichotomy (gz (pmul p q)) 1 with h | h | h
  · exfalso
    obtain ⟨r, hr, hrd, hpr⟩ := prime_fac 2 (by decide)
    have h0 : gz (pmul p q) = 0 := by omega
    have hd : ∀ k, (r : Int) ∣ cf (pmul p q) k := fun k => by
      have := gz_dvd (pmul p q) k
      rw [h0] at this
      rw [Int.zero_dvd.mp this]
      exact Int.dvd_zero _
    have key := gauss_prime hpr hd
    by_cases ha : ∀ i, (r : Int) ∣ cf p i
    · have := gz_greatest p r ha
      rw [hp] at this
      have := Nat.le_of_dvd (by decide) this
      omega
    · obtain ⟨i, hi⟩ := Classical.not_forall.mp ha
      have := gz_greatest q r fun j => (key _ i j rfl).resolve_left hi
      rw [hq] at this
      have := Nat.le_of_dvd (by decide) this
      omega
  · exact h
  · exfalso
    obtain ⟨r, hr, hrd, hpr⟩ := prime_fac _ h
    have hd : ∀ k, (r : Int) ∣ cf (pmul p q) k := fun k => Int.dvd_trans (Int.natCast_dvd_natCast.mpr hrd) (gz_dvd _ k)
    have key := gauss_prime hpr hd
    by_cases ha : ∀ i, (r : Int) ∣ cf p i
    · have := gz_greatest p r ha
      rw [hp] at this
      have := Nat.le_of_dvd (by decide) this
      omega
    · obtain ⟨i, hi⟩ := Classical.not_forall.mp ha
      have := gz_greatest q r fun j => (key _ i j rfl).resolve_left hi
      rw [hq] at this
      have := Nat.le_of_dvd (by decide) this
      omega

theorem lc_spec {q : List Int} {n : Nat} (h : cf q n ≠ 0) (h0 : ∀ k, n < k → cf q k = 0) : lc q = cf q n := by
  unfold lc
  rw [tz_spec h h0, Nat.add_sub_cancel]

theorem lc_ne {q : List Int} (h : gz q ≠ 0) : tz q ≠ 0 ∧ lc q ≠ 0 := by
  have h1 : tz q ≠ 0 := fun h1 => by
    have h2 : (0 : Nat) ∣ gz q := gz_greatest q 0 fun k => by rw [tz_zero_iff.mp h1 k]; exact Int.dvd_zero _
    exact h (Nat.eq_zero_of_zero_dvd h2)
  exact ⟨h1, cf_tz_pred h1⟩

/-- Primitive, with a positive leading coefficient. -/
def Prm (q : List Int) : Prop := gz q = 1 ∧ 0 < lc q

theorem lc_scale {T R : List Int} {c : Int} (h : ∀ k, cf T k = c * cf R k) (hR : lc R ≠ 0) : lc T = c * lc R := by
  have hR' : tz R ≠ 0 := fun h0 => hR (by unfold lc; exact tz_zero_iff.mp h0 _)
  by_cases hc : c = 0
  · unfold lc; rw [h, hc, Int.zero_mul, Int.zero_mul]
  · have e : lc T = cf T (tz R - 1) := lc_spec (by rw [h]; exact Int.mul_ne_zero hc hR) fun k hk => by rw [h, cf_ge_tz R (by omega), Int.mul_zero]
    rw [e, h]; rfl

theorem gz_mul {T R : List Int} {c : Int} (h : ∀ k, cf T k = c * cf R k) : gz T = c.natAbs * gz R := by
  rw [← gz_scale]
  exact gz_eq fun k => by rw [h, cf_pscale, Int.mul_comm]

theorem sg_abs {c l : Int} (hl : 0 < l) : sg (decide (c * l < 0)) c.natAbs = c := by
  unfold sg
  by_cases hc : c < 0
  · rw [decide_eq_true (Int.mul_neg_of_neg_of_pos hc hl)]
    simp only [↓reduceIte]; omega
  · have h1 : ¬ c * l < 0 := by have := Int.mul_nonneg (show 0 ≤ c by omega) (show 0 ≤ l by omega); omega
    rw [decide_eq_false h1]
    simp only [Bool.false_eq_true, ↓reduceIte]; omega

theorem cont_of {T R : List Int} {c : Int} (hR : Prm R) (h : ∀ k, cf T k = c * cf R k) : cont T = c := by
  unfold cont
  rw [gz_mul h, hR.1, Nat.mul_one, lc_scale h (by have := hR.2; omega)]
  exact sg_abs hR.2

theorem prim_of {T R : List Int} {c : Int} (hR : Prm R) (hc : c ≠ 0) (h : ∀ k, cf T k = c * cf R k) (k : Nat) : cf (prim T) k = cf R k := by
  unfold prim
  rw [cf_pdivs, cont_of hR h, h, Int.mul_ediv_cancel_left _ hc]

theorem cf_prim (q : List Int) (k : Nat) : cf q k = cont q * cf (prim q) k := by
  unfold prim
  rw [cf_pdivs, Int.mul_ediv_cancel' (cont_dvd q k)]

theorem prm_prim {q : List Int} (h : cont q ≠ 0) : Prm (prim q) := by
  have h0 : gz q ≠ 0 := fun h0 => h (Int.natAbs_eq_zero.mp (by rw [cont_natAbs]; exact h0))
  have h1 := gz_mul (cf_prim q)
  rw [cont_natAbs] at h1
  have h2 : gz (prim q) = 1 := by
    have : gz q * gz (prim q) = gz q * 1 := by omega
    exact Nat.eq_of_mul_eq_mul_left (by omega) this
  refine ⟨h2, ?_⟩
  have h3 := (lc_ne (q := prim q) (by omega)).2
  have h4 := lc_scale (cf_prim q) h3
  have h5 := (lc_ne h0).2
  rcases Int.lt_trichotomy (lc (prim q)) 0 with h6 | h6 | h6
  · exfalso
    rcases Int.lt_or_gt_of_ne h5 with h7 | h7
    · have h8 : cont q < 0 := by
        unfold cont sg
        rw [decide_eq_true h7]
        simp only [↓reduceIte]; omega
      have := Int.mul_pos_of_neg_of_neg h8 h6
      omega
    · have h8 : 0 < cont q := by
        unfold cont sg
        rw [decide_eq_false (by omega)]
        simp only [Bool.false_eq_true, ↓reduceIte]; omega
      have := Int.mul_neg_of_pos_of_neg h8 h6
      omega
  · exact absurd h6 h3
  · exact h6

theorem lc_pmul {P Q : List Int} (hP : lc P ≠ 0) (hQ : lc Q ≠ 0) : lc (pmul P Q) = lc P * lc Q := by
  have hP' : tz P ≠ 0 := fun h0 => hP (by unfold lc; exact tz_zero_iff.mp h0 _)
  have hQ' : tz Q ≠ 0 := fun h0 => hQ (by unfold lc; exact tz_zero_iff.mp h0 _)
  have e1 : cf (pmul P Q) (tz P - 1 + (tz Q - 1)) = lc P * lc Q := by
    rw [cf_pmul, PS.cv_conv, PS.conv, sumN_one (j := tz P - 1) _ (by omega) fun i hi hne => ?_]
    · rw [show tz P - 1 + (tz Q - 1) - (tz P - 1) = tz Q - 1 by omega]; rfl
    · rcases Nat.lt_or_ge i (tz P - 1) with h | h
      · rw [cf_ge_tz Q (by omega), Int.mul_zero]
      · rw [cf_ge_tz P (by omega), Int.zero_mul]
  rw [lc_spec (n := tz P - 1 + (tz Q - 1)) (by rw [e1]; exact Int.mul_ne_zero hP hQ) fun k hk => ?_, e1]
  rw [cf_pmul, PS.cv_conv, PS.conv]
  refine sumN_zero fun i hi => ?_
  rcases Nat.lt_or_ge i (tz P) with h | h
  · rw [cf_ge_tz Q (by omega), Int.mul_zero]
  · rw [cf_ge_tz P (by omega), Int.zero_mul]

theorem prm_mul {P Q : List Int} (hP : Prm P) (hQ : Prm Q) : Prm (pmul P Q) := by
  refine ⟨gauss_gz hP.1 hQ.1, ?_⟩
  have h1 := hP.2
  have h2 := hQ.2
  rw [lc_pmul (by omega) (by omega)]
  exact Int.mul_pos h1 h2

theorem prim_zero {q : List Int} (h : cont q = 0) (k : Nat) : cf (prim q) k = 0 ∧ cf q k = 0 := by
  constructor
  · unfold prim
    rw [cf_pdivs, h, Int.ediv_zero]
  · rw [cf_prim, h, Int.zero_mul]

theorem pscale_eq (c : Int) (q : List Int) : ps (pscale c q) = PS.C c * ps q := ps_pscale c q

theorem ps_prim (q : List Int) : ps q = PS.C (cont q) * ps (prim q) := PS.ext fun k => by
  rw [PS.C_mul_c, ps_c, ps_c]; exact cf_prim q k

theorem mul_prims (p q : List Int) (k : Nat) : cf (pmul p q) k = cont p * cont q * cf (pmul (prim p) (prim q)) k := by
  have h : ps (pmul p q) = PS.C (cont p * cont q) * ps (pmul (prim p) (prim q)) := by
    rw [ps_pmul, ps_pmul, ps_prim p, ps_prim q, PS.C_mul]
    rw [← ps_prim p, ← ps_prim q]
    conv => lhs; rw [ps_prim p, ps_prim q]
    rw [PS.mul_assoc, PS.mul_assoc, ← PS.mul_assoc (ps (prim p)), PS.mul_comm (ps (prim p)) (PS.C _), PS.mul_assoc]
  have := congrArg (fun f => f.c k) h
  simp only [ps_c, PS.C_mul_c] at this
  exact this

/-- Gauss' lemma. -/
theorem cont_mul (p q : List Int) : cont (pmul p q) = cont p * cont q := by
  by_cases hp : cont p = 0
  · have h0 : ∀ k, cf (pmul p q) k = 0 := fun k => by rw [mul_prims, hp, Int.zero_mul, Int.zero_mul]
    have h1 : gz (pmul p q) = 0 := Nat.eq_zero_of_zero_dvd (gz_greatest _ 0 fun k => by rw [h0]; exact Int.dvd_zero _)
    rw [hp, Int.zero_mul]
    exact Int.natAbs_eq_zero.mp (by rw [cont_natAbs]; exact h1)
  by_cases hq : cont q = 0
  · have h0 : ∀ k, cf (pmul p q) k = 0 := fun k => by rw [mul_prims, hq, Int.mul_zero, Int.zero_mul]
    have h1 : gz (pmul p q) = 0 := Nat.eq_zero_of_zero_dvd (gz_greatest _ 0 fun k => by rw [h0]; exact Int.dvd_zero _)
    rw [hq, Int.mul_zero]
    exact Int.natAbs_eq_zero.mp (by rw [cont_natAbs]; exact h1)
  exact cont_of (prm_mul (prm_prim hp) (prm_prim hq)) (mul_prims p q)

theorem ps_zero {q : List Int} (h : ∀ k, cf q k = 0) : ps q = 0 := PS.ext h

theorem prim_mul (p q : List Int) : ps (prim (pmul p q)) = ps (pmul (prim p) (prim q)) := by
  by_cases hp : cont p = 0
  · have h1 : ps (prim p) = 0 := ps_zero fun k => (prim_zero hp k).1
    rw [ps_pmul, h1, PS.zero_mul]
    exact ps_zero fun k => (prim_zero (by rw [cont_mul, hp, Int.zero_mul]) k).1
  by_cases hq : cont q = 0
  · have h1 : ps (prim q) = 0 := ps_zero fun k => (prim_zero hq k).1
    rw [ps_pmul, h1, PS.mul_zero]
    exact ps_zero fun k => (prim_zero (by rw [cont_mul, hq, Int.mul_zero]) k).1
  exact ps_ext fun k => prim_of (prm_mul (prm_prim hp) (prm_prim hq)) (Int.mul_ne_zero hp hq) (mul_prims p q) k

theorem prm_self {q : List Int} (h : Prm q) : cont q = 1 ∧ ps (prim q) = ps q :=
  ⟨cont_of h fun k => (Int.one_mul _).symm, ps_ext fun k => prim_of h (by decide) (fun k => (Int.one_mul _).symm) k⟩

theorem cont_zero_iff {q : List Int} : cont q = 0 ↔ tz q = 0 := by
  constructor
  · intro h; exact tz_zero_iff.mpr fun k => (prim_zero h k).2
  · intro h
    refine Int.natAbs_eq_zero.mp ?_
    rw [cont_natAbs]
    exact Nat.eq_zero_of_zero_dvd (gz_greatest _ 0 fun k => by rw [tz_zero_iff.mp h k]; exact Int.dvd_zero _)

end Go.Proofs.YtjadkhkgmdikiaaGreat

namespace Go.Proofs.YtjadkhkgmdikiaaGreat
open Go Go.Proofs Go.AL
set_option linter.unusedSimpArgs false
set_option linter.unusedVariables false

theorem zsame_ok (a b : List RI) (ha : RP (2 ^ 40) (2 ^ 43) a) (hb : RP (2 ^ 40) (2 ^ 43) b) : AC Tryz.prog 38 [cw a, cw b] none [cb (decide (a = b))] := by
  refine AC.by_walk (rs := [.tmp 4]) ords Tryz.func38 (by rfl) (by rfl) (by rfl) (by rfl) (by rfl) ?_
  have hla := ha.1
  have hlb := hb.1
  simp (disch := omega) only [wk, tis, Int.reduceNe, Int.reduceEq, Int.reduceLT, Int.reduceLE, Int.reduceAdd, Int.reduceSub, Int.reduceNeg, Int.reduceMul, Int.reduceToNat, Nat.reduceSub, Nat.reduceMul, Nat.reduceLeDiff, Nat.reduceAdd, Nat.reduceLT, Nat.reduceEqDiff, reduceCtorEq, ↓reduceIte, cpoly_len]
  refine if_by (fun hz => ?_) (fun hz => ?_)
  · simp (disch := omega) only [wk, tis, Int.reduceNe, Int.reduceEq, Int.reduceLT, Int.reduceLE, Int.reduceAdd, Int.reduceSub, Int.reduceNeg, Int.reduceMul, Int.reduceToNat, Nat.reduceSub, Nat.reduceMul, Nat.reduceLeDiff, Nat.reduceAdd, Nat.reduceLT, Nat.reduceEqDiff, reduceCtorEq, ↓reduceIte, cpoly_len]
    exact (decide_eq_false (fun e => hz (by rw [e]))).symm
  have hl : a.length = b.length := by omega
  simp (disch := omega) only [wk, tis, Int.reduceNe, Int.reduceEq, Int.reduceLT, Int.reduceLE, Int.reduceAdd, Int.reduceSub, Int.reduceNeg, Int.reduceMul, Int.reduceToNat, Nat.reduceSub, Nat.reduceMul, Nat.reduceLeDiff, Nat.reduceAdd, Nat.reduceLT, Nat.reduceEqDiff, reduceCtorEq, ↓reduceIte, cpoly_len]
  refine aloop_by (fun f H => ∃ i : Nat, i ≤ a.length ∧ a.take i = b.take i ∧ f 0 = .iv (.sl (raws a)) ∧ f 1 = .iv (.sl (raws b)) ∧ f 5 = .iv (.int .i64 i)) (fun f H => (a.length - intAt f 5).toNat) ?_ ?_
  · exact ⟨0, by omega, rfl, by simp (disch := omega) only [wk, tis, Int.reduceNe, Int.reduceEq, Int.reduceLT, Int.reduceLE, Int.reduceAdd, Int.reduceSub, Int.reduceNeg, Int.reduceMul, Int.reduceToNat, Nat.reduceSub, Nat.reduceMul, Nat.reduceLeDiff, Nat.reduceAdd, Nat.reduceLT, Nat.reduceEqDiff, reduceCtorEq, ↓reduceIte, cpoly_len], by simp (disch := omega) only [wk, tis, Int.reduceNe, Int.reduceEq, Int.reduceLT, Int.reduceLE, Int.reduceAdd, Int.reduceSub, Int.reduceNeg, Int.reduceMul, Int.reduceToNat, Nat.reduceSub, Nat.reduceMul, Nat.reduceLeDiff, Nat.reduceAdd, Nat.reduceLT, Nat.reduceEqDiff, reduceCtorEq, ↓reduceIte, cpoly_len], by simp (disch := omega) only [wk, tis, Int.reduceNe, Int.reduceEq, Int.reduceLT, Int.reduceLE, Int.reduceAdd, Int.reduceSub, Int.reduceNeg, Int.reduceMul, Int.reduceToNat, Nat.reduceSub, Nat.reduceMul, Nat.reduceLeDiff, Nat.reduceAdd, Nat.reduceLT, Nat.reduceEqDiff, reduceCtorEq, ↓reduceIte, cpoly_len]⟩
  rintro f H ⟨i, hi, he, h0, h1, h5⟩
  rw [intAt_of h5]
  simp (disch := omega) only [wk, tis, Int.reduceNe, Int.reduceEq, Int.reduceLT, Int.reduceLE, Int.reduceAdd, Int.reduceSub, Int.reduceNeg, Int.reduceMul, Int.reduceToNat, Nat.reduceSub, Nat.reduceMul, Nat.reduceLeDiff, Nat.reduceAdd, Nat.reduceLT, Nat.reduceEqDiff, reduceCtorEq, ↓reduceIte, cpoly_len, h0, h1, h5]
  refine if_by (fun hlt => ?_) (fun hlt => ?_)
  · simp (disch := omega) only [wk, tis, Int.reduceNe, Int.reduceEq, Int.reduceLT, Int.reduceLE, Int.reduceAdd, Int.reduceSub, Int.reduceNeg, Int.reduceMul, Int.reduceToNat, Nat.reduceSub, Nat.reduceMul, Nat.reduceLeDiff, Nat.reduceAdd, Nat.reduceLT, Nat.reduceEqDiff, reduceCtorEq, ↓reduceIte, cpoly_len, h0, h1, h5]
    refine ⟨tmps_by (by kernel_rfl), ?_⟩
    refine call_by ((rSameInt_ok (a.getD i (false, [])) (b.getD i (false, [])) (ha.get i).1 (hb.get i).1)) (by first | rfl | (simp only [tocvs, tocv, h0, h1, h5]; rfl) | (simp only [tocvs, tocv, toboxes, tobox, updH_at, Nat.reduceEqDiff, ↓reduceIte, h0, h1, h5]; rfl)) (by simp) ?_
    simp (disch := omega) only [wk, tis, Int.reduceNe, Int.reduceEq, Int.reduceLT, Int.reduceLE, Int.reduceAdd, Int.reduceSub, Int.reduceNeg, Int.reduceMul, Int.reduceToNat, Nat.reduceSub, Nat.reduceMul, Nat.reduceLeDiff, Nat.reduceAdd, Nat.reduceLT, Nat.reduceEqDiff, reduceCtorEq, ↓reduceIte, cpoly_len, h0, h1, h5]
    first | exact log_by (by kernel_rfl) | refine ⟨log_by (by kernel_rfl), ?_⟩
    by_cases hne : a.getD i (false, []) = b.getD i (false, [])
    · simp (disch := omega) only [wk, tis, Int.reduceNe, Int.reduceEq, Int.reduceLT, Int.reduceLE, Int.reduceAdd, Int.reduceSub, Int.reduceNeg, Int.reduceMul, Int.reduceToNat, Nat.reduceSub, Nat.reduceMul, Nat.reduceLeDiff, Nat.reduceAdd, Nat.reduceLT, Nat.reduceEqDiff, reduceCtorEq, ↓reduceIte, cpoly_len, h0, h1, h5, hne, Bool.not_true]
      refine ⟨⟨i + 1, by omega, ?_, by omega⟩, by omega⟩
      have hia : i < a.length := by omega
      have hib : i < b.length := by omega
      rw [List.take_add_one, List.take_add_one, he, List.getElem?_eq_getElem hia, List.getElem?_eq_getElem hib]
      have e1 : a.getD i (false, []) = a[i] := by simp [List.getD, hia]
      have e2 : b.getD i (false, []) = b[i] := by simp [List.getD, hib]
      rw [← e1, ← e2, hne]
    · simp (disch := omega) only [wk, tis, Int.reduceNe, Int.reduceEq, Int.reduceLT, Int.reduceLE, Int.reduceAdd, Int.reduceSub, Int.reduceNeg, Int.reduceMul, Int.reduceToNat, Nat.reduceSub, Nat.reduceMul, Nat.reduceLeDiff, Nat.reduceAdd, Nat.reduceLT, Nat.reduceEqDiff, reduceCtorEq, ↓reduceIte, cpoly_len, h0, h1, h5, hne, Bool.not_false]
      exact (decide_eq_false (fun e => hne (by rw [e]))).symm
  · simp (disch := omega) only [wk, tis, Int.reduceNe, Int.reduceEq, Int.reduceLT, Int.reduceLE, Int.reduceAdd, Int.reduceSub, Int.reduceNeg, Int.reduceMul, Int.reduceToNat, Nat.reduceSub, Nat.reduceMul, Nat.reduceLeDiff, Nat.reduceAdd, Nat.reduceLT, Nat.reduceEqDiff, reduceCtorEq, ↓reduceIte, cpoly_len, h0, h1, h5]
    rw [List.take_of_length_le (by omega), List.take_of_length_le (by omega)] at he
    exact (decide_eq_true he).symm

theorem zabs_ok (c : RI) (h : Sz (2 ^ 40) c) : AC Tryz.prog 154 [cr c] none [cl (wd (iv c).natAbs)] := by
  refine AC.by_walk (rs := [.tmp 2]) ords Tryz.func154 (by rfl) (by rfl) (by rfl) (by rfl) (by rfl) ?_
  have hl := h.1
  simp (disch := omega) only [wk, tis, Int.reduceNe, Int.reduceEq, Int.reduceLT, Int.reduceLE, Int.reduceAdd, Int.reduceSub, Int.reduceNeg, Int.reduceMul, Int.reduceToNat, Nat.reduceSub, Nat.reduceMul, Nat.reduceLeDiff, Nat.reduceAdd, Nat.reduceLT, Nat.reduceEqDiff, reduceCtorEq, ↓reduceIte, cpoly_len]
  refine call_by ((norm_ok c.2 h.2 (by omega))) (by rfl) (by simp) ?_
  simp (disch := omega) only [wk, tis, Int.reduceNe, Int.reduceEq, Int.reduceLT, Int.reduceLE, Int.reduceAdd, Int.reduceSub, Int.reduceNeg, Int.reduceMul, Int.reduceToNat, Nat.reduceSub, Nat.reduceMul, Nat.reduceLeDiff, Nat.reduceAdd, Nat.reduceLT, Nat.reduceEqDiff, reduceCtorEq, ↓reduceIte, cpoly_len]
  rw [iv_abs]

def rowsAt (f : Fr) (t : Nat) : Nat := match f t with
  | .iv (.sl rows) => rows.length
  | _ => 0

theorem rowsAt_of {f : Fr} {t : Nat} {rows : List (List IV)} (h : f t = .iv (.sl rows)) : rowsAt f t = rows.length := by
  unfold rowsAt; rw [h]

end Go.Proofs.YtjadkhkgmdikiaaGreat

namespace Go.Proofs.YtjadkhkgmdikiaaGreat
open Go Go.Proofs Go.AL
set_option linter.unusedSimpArgs false
set_option linter.unusedVariables false

theorem tz_take_snoc (q : List Int) {i : Nat} (h : i < q.length) : tz (q.take (i + 1)) = if cf q i ≠ 0 then i + 1 else tz (q.take i) := by
  by_cases hz : cf q i = 0
  · rw [if_neg (by simpa using hz)]; exact tz_take_zero h hz
  · rw [if_pos hz]; exact tz_full h hz

end Go.Proofs.YtjadkhkgmdikiaaGreat

namespace Go.Proofs.YtjadkhkgmdikiaaGreat
open Go Go.Proofs Go.AL
open Go.RowKit Go.Shelf
set_option linter.unusedSimpArgs false
set_option linter.unusedVariables false
attribute [local go_sem] Oper.semAt_some

/-- A row's cells in memory. -/
theorem agg_row {w : World} {D : Nat → Prop} {r : List IV} {cell : Nat → Value} (h : ∀ (j : Nat) (x : IV), r[j]? = some x → Rep w D x (cell j)) : Reps w D r ((List.range r.length).map cell) := by
  refine Reps.of_get (by simp) fun j x hj => ?_
  have hlt : j < r.length := (List.getElem?_eq_some_iff.1 hj).1
  exact ⟨cell j, by simp [hlt], h j x hj⟩

end Go.Proofs.YtjadkhkgmdikiaaGreat

namespace Go.Proofs.YtjadkhkgmdikiaaGreat
open Go Go.Proofs Go.AL
set_option linter.unusedSimpArgs false
set_option linter.unusedVariables false

theorem pnormo_ok (p : List RI) (h : RP (2 ^ 40) (2 ^ 40) p) : AC Tryz.prog 89 [cw p] (some (0, 29, 2, cpoly (pv p))) [cp (pv p)] := by
  refine AC.by_walk (rs := [.tmp 2]) ords Tryz.func89 (by rfl) (by rfl) (by rfl) (by rfl) (by rfl) ?_
  have hl := h.1
  have htl := tz_le (pv p)
  rw [pv_len] at htl
  simp (disch := omega) only [wk, tis, Int.reduceNe, Int.reduceEq, Int.reduceLT, Int.reduceLE, Int.reduceAdd, Int.reduceSub, Int.reduceNeg, Int.reduceMul, Int.reduceToNat, Nat.reduceSub, Nat.reduceMul, Nat.reduceLeDiff, Nat.reduceAdd, Nat.reduceLT, Nat.reduceEqDiff, reduceCtorEq, ↓reduceIte]
  refine call_by ((size_ok p h)) (by rfl) (by simp) ?_
  simp (disch := omega) only [wk, tis, Int.reduceNe, Int.reduceEq, Int.reduceLT, Int.reduceLE, Int.reduceAdd, Int.reduceSub, Int.reduceNeg, Int.reduceMul, Int.reduceToNat, Nat.reduceSub, Nat.reduceMul, Nat.reduceLeDiff, Nat.reduceAdd, Nat.reduceLT, Nat.reduceEqDiff, reduceCtorEq, ↓reduceIte]
  refine aloop_nil 3 3 29 2 (by simp (disch := omega) only [wk, tis, Int.reduceNe, Int.reduceEq, Int.reduceLT, Int.reduceLE, Int.reduceAdd, Int.reduceSub, Int.reduceNeg, Int.reduceMul, Int.reduceToNat, Nat.reduceSub, Nat.reduceMul, Nat.reduceLeDiff, Nat.reduceAdd, Nat.reduceLT, Nat.reduceEqDiff, reduceCtorEq, ↓reduceIte]) (fun f H => ∃ (k st : Nat), k ≤ tz (pv p) ∧ f 0 = .iv (.sl (raws p)) ∧ f 3 = .hs 3 st ∧ f 6 = .iv (.int .i64 (tz (pv p))) ∧ f 7 = .iv (.int .i64 k) ∧ H 3 = .blk false st 29 2 (raws (((trimz (pv p)).take k).map canon))) (fun f H => (tz (pv p) - intAt f 7).toNat) ?_ ?_
  · refine ⟨0, 1, by omega, ?_⟩
    simp (disch := omega) only [wk, tis, Int.reduceNe, Int.reduceEq, Int.reduceLT, Int.reduceLE, Int.reduceAdd, Int.reduceSub, Int.reduceNeg, Int.reduceMul, Int.reduceToNat, Nat.reduceSub, Nat.reduceMul, Nat.reduceLeDiff, Nat.reduceAdd, Nat.reduceLT, Nat.reduceEqDiff, reduceCtorEq, ↓reduceIte, ghostF, ghostH, List.take_zero]
  rintro f H ⟨k, st, hk, h0, h3, h6, h7, hH⟩
  rw [intAt_of h7]
  simp (disch := omega) only [wk, tis, Int.reduceNe, Int.reduceEq, Int.reduceLT, Int.reduceLE, Int.reduceAdd, Int.reduceSub, Int.reduceNeg, Int.reduceMul, Int.reduceToNat, Nat.reduceSub, Nat.reduceMul, Nat.reduceLeDiff, Nat.reduceAdd, Nat.reduceLT, Nat.reduceEqDiff, reduceCtorEq, ↓reduceIte, h0, h3, h6, h7, hH]
  refine if_by (fun hlt => ?_) (fun hlt => ?_)
  · simp (disch := omega) only [wk, tis, Int.reduceNe, Int.reduceEq, Int.reduceLT, Int.reduceLE, Int.reduceAdd, Int.reduceSub, Int.reduceNeg, Int.reduceMul, Int.reduceToNat, Nat.reduceSub, Nat.reduceMul, Nat.reduceLeDiff, Nat.reduceAdd, Nat.reduceLT, Nat.reduceEqDiff, reduceCtorEq, ↓reduceIte, h0, h3, h6, h7, hH]
    have hq : (((trimz (pv p)).take k).map canon).length = k := by rw [List.length_map, List.length_take, trimz_len]; omega
    refine call_by ((znorm_ok (p.getD k (false, [])) (h.get _))) (by first | rfl | (simp only [tocvs, tocv, h0, h3, h6, h7, hH, hq]; rfl) | (simp only [tocvs, tocv, toboxes, tobox, updH_at, Nat.reduceEqDiff, ↓reduceIte, h0, h3, h6, h7, hH, hq]; rfl)) (by simp) ?_
    simp (disch := omega) only [wk, tis, Int.reduceNe, Int.reduceEq, Int.reduceLT, Int.reduceLE, Int.reduceAdd, Int.reduceSub, Int.reduceNeg, Int.reduceMul, Int.reduceToNat, Nat.reduceSub, Nat.reduceMul, Nat.reduceLeDiff, Nat.reduceAdd, Nat.reduceLT, Nat.reduceEqDiff, reduceCtorEq, ↓reduceIte, h0, h3, h6, h7, hH, hq]
    refine ⟨⟨k + 1, st + 1, by omega, rfl, by omega, ?_⟩, by omega⟩
    rw [trimz_take_succ (by omega), cf_pv]
  · simp (disch := omega) only [wk, tis, Int.reduceNe, Int.reduceEq, Int.reduceLT, Int.reduceLE, Int.reduceAdd, Int.reduceSub, Int.reduceNeg, Int.reduceMul, Int.reduceToNat, Nat.reduceSub, Nat.reduceMul, Nat.reduceLeDiff, Nat.reduceAdd, Nat.reduceLT, Nat.reduceEqDiff, reduceCtorEq, ↓reduceIte, h0, h3, h6, h7, hH]
    have hk : k = tz (pv p) := by omega
    rw [hk, List.take_of_length_le (by rw [trimz_len]; exact Nat.le_refl _)]
    rfl


theorem cpoly_two (q : List Int) : ∀ r ∈ cpoly q, r.length = 2 := fun r hr => by
  obtain ⟨c, _, rfl⟩ := List.mem_map.1 hr
  rfl
theorem cpoly_len' (q : List Int) : (cpoly q).length = tz q := by simp [cpoly, raws, trimz_len]
theorem cpoly_getD (q : List Int) {i : Nat} (h : i < tz q) : (cpoly q).getD i [] = prow (canon (cf q i)) := by
  have hl : i < (trimz q).length := by rw [trimz_len]; exact h
  have e : cf q i = (trimz q)[i] := by rw [← cf_trimz]; simp [cf, List.getD, hl]
  rw [e]
  simp [cpoly, raws, List.getD, hl]
theorem drop_trimz (q : List Int) {i : Nat} (h : i < tz q) : (trimz q).drop i = cf q i :: (trimz q).drop (i + 1) := by
  have hl : i < (trimz q).length := by rw [trimz_len]; exact h
  have e : cf q i = (trimz q)[i] := by rw [← cf_trimz]; simp [cf, List.getD, hl]
  rw [e, List.drop_eq_getElem_cons hl]

theorem lh_bounds {m : Nat} (h : m ≤ 2 ^ 10) : m * 2 ^ 10 + 1 ≤ 2 ^ 20 + 1 ∧ m * (2 ^ 20 + 2) + 2 ^ 20 + 3 ≤ 2 ^ 32 := by
  constructor <;> omega

end Go.Proofs.YtjadkhkgmdikiaaGreat

namespace Go.Proofs.YtjadkhkgmdikiaaGreat
open Go Go.Proofs Go.AL
set_option linter.unusedSimpArgs false
set_option linter.unusedVariables false

theorem pv_one (c : RI) : pv [c] = [iv c] := rfl
theorem pv_two (b a : RI) : pv [b, a] = [iv b, iv a] := rfl
theorem trimz_cn (q : List Int) : trimz (pv (cn q)) = trimz q := trimz_ext (ps_eq (ps_cn q))
theorem pb_two {b a : RI} {K : Nat} (hb : Sz K b) (ha : Sz K a) : PB (2 ^ 10) K [iv b, iv a] := ⟨by simp, fun z hz => by
  rcases List.mem_cons.1 hz with rfl | hz
  · exact zl_iv hb
  · rw [List.mem_singleton.1 hz]; exact zl_iv ha⟩

theorem moeb_step {out Q R : PS} {c : Int} {p : List Int} {n : Nat} (hn : p.length = n) (h : out = hom p Q R) : out * Q + PS.C c * PS.pw R n = hom (c :: p) Q R := by
  rw [hom, h, hn]
  ac_rfl

end Go.Proofs.YtjadkhkgmdikiaaGreat

namespace Go.Proofs.YtjadkhkgmdikiaaGreat
open Go Go.Proofs Go.AL
set_option linter.unusedSimpArgs false
set_option linter.unusedVariables false

theorem sg_mul_pow (c : RI) (n : Nat) : sg c.1 (nv c.2 * 2 ^ n) = iv c * 2 ^ n := by
  rw [iv_sg]
  unfold sg
  split
  · rw [Int.neg_mul]; push_cast; rfl
  · push_cast; rfl

theorem zl_pow2 (n : Nat) : zl (2 ^ n) ≤ n / 64 + 1 := by
  refine zl_le.mpr ?_
  have e : (2 ^ n : Int).natAbs = 2 ^ n := by rw [Int.natAbs_pow]; rfl
  rw [e, show W = 2 ^ 64 from rfl, ← Nat.pow_mul]
  exact Nat.pow_lt_pow_right (by decide) (by omega)

/-- Each coefficient weighed. -/
def wt (t : Int) : List Int → List Int
  | [] => []
  | c :: p => c * t ^ p.length :: wt t p
theorem wt_len (t : Int) (p : List Int) : (wt t p).length = p.length := by induction p <;> simp_all [wt]
theorem cf_wt (t : Int) (p : List Int) (i : Nat) : cf (wt t p) i = cf p i * t ^ (p.length - 1 - i) := by
  induction p generalizing i with
  | nil => simp [wt, cf]
  | cons c p ih =>
    cases i with
    | zero => simp [wt, cf]
    | succ i =>
      have := ih i
      simp only [wt, cf, List.getD_cons_succ, List.length_cons] at this ⊢
      rw [this]
      congr 2
      omega
theorem C_pow (t : Int) (n : Nat) : PS.pw (PS.C t) n = PS.C (t ^ n) := by
  induction n with
  | zero => rw [Int.pow_zero]; rfl
  | succ n ih => rw [PS.pw, ih, Int.pow_succ, PS.C_mul]
theorem hom_C (p : List Int) (f : PS) (t : Int) : hom p f (PS.C t) = cmp (wt t p) f := by
  induction p with
  | nil => rfl
  | cons c p ih => rw [hom, ih, C_pow, wt, cmp_cons, PS.C_mul]
theorem ext_cf {p q : List Int} (hl : p.length = q.length) (h : ∀ k, k < p.length → cf p k = cf q k) : p = q :=
  List.ext_getElem hl fun i h1 h2 => by have := h i h1; simpa [cf, List.getD, h1, h2] using this
theorem trimz_of_last {p : List Int} (h : p ≠ [] → cf p (p.length - 1) ≠ 0) : trimz p = p := by
  by_cases e : p = []
  · subst e; rfl
  · have hl : 0 < p.length := List.length_pos_iff.2 e
    have := tz_full (q := p) (k := p.length - 1) (by omega) (h e)
    rw [show p.length - 1 + 1 = p.length by omega, List.take_length] at this
    rw [trimz, this, List.take_length]
theorem trimz_wt {t : Int} (ht : t ≠ 0) (p : List Int) : trimz (wt t (trimz p)) = wt t (trimz p) := by
  refine trimz_of_last fun hne => ?_
  rw [wt_len, cf_wt, cf_trimz, trimz_len]
  have hz : tz p ≠ 0 := fun e => hne (by rw [trimz_nil e]; rfl)
  rw [show tz p - 1 - (tz p - 1) = 0 by omega, Int.pow_zero, Int.mul_one]
  exact cf_tz_pred hz

theorem two_pow_ne (k : Nat) : (2 : Int) ^ k ≠ 0 := Int.pow_ne_zero (by decide)

theorem zl_wt2 {N K k : Nat} {p : List Int} (h : PB N K p) (hk : N * k ≤ 2 ^ 28) : PB N (K + (N * k) / 64 + 1) (wt (2 ^ k) p) := .of (by rw [wt_len]; exact h.1) fun i => by
  rw [cf_wt, ← Int.pow_mul]
  have h1 := zl_mul (cf p i) (2 ^ (k * (p.length - 1 - i)))
  have h2 := zl_pow2 (k * (p.length - 1 - i))
  have h3 := h.cf i
  have h4 : k * (p.length - 1 - i) ≤ N * k := by rw [Nat.mul_comm N]; exact Nat.mul_le_mul_left _ (by have := h.1; omega)
  omega

end Go.Proofs.YtjadkhkgmdikiaaGreat

namespace Go.Proofs.YtjadkhkgmdikiaaGreat
open Go Go.Proofs Go.AL
set_option linter.unusedSimpArgs false
set_option linter.unusedVariables false

theorem one_sz {K : Nat} (h : 1 ≤ K) : Sz K (canon 1) := (sz_canon 1).mono (by have : zl 1 ≤ 1 := zl_le.mpr (by decide); omega)

theorem pv_canon_trim (q : List Int) : ps (pv (cn q)) = ps q := ps_cn q

/-- A cell. -/
abbrev ccell (a : RI) (e : Int) (b : Bool) : CV := .agg [.bool a.1, .sl (lims a.2), .int .i64 e, .bool b]

end Go.Proofs.YtjadkhkgmdikiaaGreat

namespace Go.Proofs.YtjadkhkgmdikiaaGreat
open Go Go.Proofs Go.AL
set_option linter.unusedSimpArgs false
set_option linter.unusedVariables false

/-- Each coefficient times a power of a. -/
def sc (a : Int) : List Int → List Int
  | [] => []
  | c :: p => c :: pscale a (sc a p)
theorem pscale_len (a : Int) (p : List Int) : (pscale a p).length = p.length := by simp [pscale]
theorem sc_len (a : Int) (p : List Int) : (sc a p).length = p.length := by
  induction p with
  | nil => rfl
  | cons c p ih => rw [sc, List.length_cons, pscale_len, ih, List.length_cons]
theorem cf_sc (a : Int) (p : List Int) (i : Nat) : cf (sc a p) i = cf p i * a ^ i := by
  induction p generalizing i with
  | nil => simp [sc, cf]
  | cons c p ih =>
    cases i with
    | zero => simp [sc, cf]
    | succ i =>
      have e : cf (sc a (c :: p)) (i + 1) = cf (pscale a (sc a p)) i := by simp [sc, cf]
      have e2 : cf (c :: p) (i + 1) = cf p i := by simp [cf]
      rw [e, e2, cf_pscale, ih, Int.pow_succ, Int.mul_assoc]
theorem ps_cons (c : Int) (p : List Int) : ps (c :: p) = PS.C c + PS.X * ps p := by
  rw [← cmp_X, cmp_cons, cmp_X]
theorem ps_sc (a : Int) (p : List Int) : ps (sc a p) = cmp p (PS.C a * PS.X) := by
  induction p with
  | nil => rw [sc, cmp_nil, ps_nil]
  | cons c p ih =>
    rw [sc, ps_cons, ps_pscale, ih, cmp_cons]
    ac_rfl

theorem zl_pow {a : Int} {K : Nat} (h : zl a ≤ K) (i : Nat) : zl (a ^ i) ≤ i * K + 1 := by
  induction i with
  | zero => rw [Int.pow_zero]; have : zl 1 ≤ 1 := zl_le.mpr (by decide); omega
  | succ i ih =>
    rw [Int.pow_succ]
    have := zl_mul (a ^ i) a
    rw [Nat.succ_mul]
    omega

theorem zl_pow_b {a : Int} (h : zl a ≤ 2 ^ 20) {i : Nat} (hi : i ≤ 2 ^ 10) : zl (a ^ i) ≤ 2 ^ 31 := by
  have h1 := zl_pow h i
  have h2 : i * 2 ^ 20 ≤ 2 ^ 10 * 2 ^ 20 := Nat.mul_le_mul_right _ hi
  have h3 : (2 ^ 10 * 2 ^ 20 : Nat) = 2 ^ 30 := by decide
  omega

/-- Turned round. -/
def rv (m : Nat) (p : List Int) : List Int := (List.range (m + 1)).map fun j => cf p (m - j)
theorem cf_rv (m : Nat) (p : List Int) (j : Nat) : cf (rv m p) j = if j ≤ m then cf p (m - j) else 0 := by
  unfold rv
  by_cases h : j ≤ m
  · rw [if_pos h]; simp [cf, List.getD, show j < m + 1 by omega]
  · rw [if_neg h]; exact cf_ge (by simp; omega)

theorem rv_bad {m : Int} {n : Nat} (hm : m < 0 ∨ m < (n : Int) - 1 ∨ 65536 < m) : m < 0 ∨ (¬ m < 0 ∧ m < (n : Int) - 1) ∨ (¬ m < 0 ∧ ¬ m < (n : Int) - 1 ∧ 65536 < m) := by omega

end Go.Proofs.YtjadkhkgmdikiaaGreat

namespace Go.Proofs.YtjadkhkgmdikiaaGreat
open Go Go.Proofs Go.AL
set_option linter.unusedSimpArgs false
set_option linter.unusedVariables false

theorem vl_top (q x : Nat) : vl D16 ((List.replicate (q + 1) 0).set q x) = D16 ^ q * x := by
  induction q with
  | zero => simp [vl]
  | succ q ih =>
    rw [List.replicate_succ, List.set_cons_succ, vl, ih, Nat.pow_succ]
    rw [Nat.zero_add, ← Nat.mul_assoc, Nat.mul_comm D16]
theorem dig_top (q x : Nat) (hx : x < D16) : Dig ((List.replicate (q + 1) 0).set q x) := (Dig.replicate _).set hx

end Go.Proofs.YtjadkhkgmdikiaaGreat

namespace Go.Proofs.YtjadkhkgmdikiaaGreat
open Go Go.Proofs Go.AL
set_option linter.unusedSimpArgs false
set_option linter.unusedVariables false

/-- Of at most three words. -/
def fi (a : RI) : RI := (a.1, a.2.take 3)
def fr (r : RQ) : RQ := (fi r.1, r.2.take 3)
def fp (p : List RI) : List RI := (p.take 9).map fi
def fq (p : List RQ) : List RQ := (p.take 7).map fr
def nearZ (k : Int) : Int := if 200 < k ∧ k ≤ 65536 then k.tmod 200 else k

theorem take_min {α : Type} (l : List α) (n : Nat) : l.take (min (l.length : Int) n).toNat = l.take n := by
  rcases Nat.le_total l.length n with h | h
  · rw [List.take_of_length_le (i := n) h, List.take_of_length_le (by omega)]
  · congr 1; omega

theorem prow_len2 (c : RI) : (prow c).length = 2 := rfl
theorem splice3 (c : RI) (x y z : IV) : splice [x, y, z] 0 (prow c) = [.bool c.1, .sl (lims c.2), z] := rfl

/-- A case. -/
structure C11 where
  (P R : List RI) (A B C D : RI) (K M : Int) (At : RI) (E : Int) (Pt : Bool) (F G : List RQ) (X : RQ)
abbrev case11 (x : C11) : List IV := [.sl (raws x.P), .sl (raws x.R), .bool x.A.1, .sl (lims x.A.2), .bool x.B.1, .sl (lims x.B.2), .bool x.C.1, .sl (lims x.C.2), .bool x.D.1, .sl (lims x.D.2), .int .i64 x.K, .int .i64 x.M,
  .bool x.At.1, .sl (lims x.At.2), .int .i64 x.E, .bool x.Pt, .sl (rats x.F), .sl (rats x.G), .bool x.X.1.1, .sl (lims x.X.1.2), .sl (lims x.X.2)]
def lessC (x : C11) : C11 := ⟨fp x.P, fp x.R, fi x.A, fi x.B, fi x.C, fi x.D, nearZ x.K, nearZ x.M, fi x.At, nearZ x.E, x.Pt, fq x.F, fq x.G, fr x.X⟩

theorem lay_cell (c : RI) (x y : IV) : lay (fun i => [(0, 2), (2, 1), (3, 1)][i]?) [.bool false, .sl [], .int .i64 0, .bool false] ([0, 1, 2].zip [prow c, [x], [y]]) = some ((2 = 2 ∧ 0 + 2 ≤ 4) ∧ (1 = 1 ∧ 2 + 1 ≤ 4) ∧ (1 = 1 ∧ 3 + 1 ≤ 4) ∧ True, [.bool c.1, .sl (lims c.2), x, y]) := rfl

end Go.Proofs.YtjadkhkgmdikiaaGreat

namespace Go.Proofs.YtjadkhkgmdikiaaGreat
open Go Go.Proofs Go.AL
set_option linter.unusedSimpArgs false
set_option linter.unusedVariables false

theorem smc {l : List Int} (hl : l.length ≤ 2 ^ 8) (h : ∀ z ∈ l, z.natAbs < W) : RP (2 ^ 8) (2 ^ 10) (cn l) := rp_cn ((small_pb l (2 ^ 8) hl h).mono (Nat.le_refl _) (by omega))
theorem sms {l : List Int} (hl : l.length ≤ 2 ^ 8) (h : ∀ z ∈ l, z.natAbs < W) : PB (2 ^ 40) (2 ^ 43) l := (small_pb l (2 ^ 8) hl h).mono (by omega) (by omega)
theorem hom_of {p f g out : List Int} (h : trimz (lhom p f g) = trimz out) : ps out = hom p (ps f) (ps g) := by
  rw [← ps_lhom]
  exact ps_ext fun k => (trimz_eq_iff.1 h k).symm
theorem cmp_of {p f out : List Int} (h : trimz (lhom p f [1]) = trimz out) : ps out = cmp p (ps f) := by
  have := hom_of h
  rwa [ps_one] at this
theorem cp_of {p q : List Int} (h : trimz p = trimz q) : cp p = cp q := cp_ext (trimz_eq_iff.1 h)

theorem lay_cell2 (c : RI) (x : IV) : lay (fun i => [(0, 2), (2, 1), (3, 1)][i]?) [.bool false, .sl [], .int .i64 0, .bool false] ([0, 1].zip [prow c, [x]]) = some ((2 = 2 ∧ 0 + 2 ≤ 4) ∧ (1 = 1 ∧ 2 + 1 ≤ 4) ∧ True, [.bool c.1, .sl (lims c.2), x, .bool false]) := rfl

end Go.Proofs.YtjadkhkgmdikiaaGreat

namespace Go.Proofs.YtjadkhkgmdikiaaGreat
open Go Go.Proofs Go.AL
set_option linter.unusedSimpArgs false
set_option linter.unusedVariables false

/-- An exponent that is small, or out of range. -/
def NearOk (k : Int) : Prop := k < 0 ∨ 65536 < k ∨ ∃ n : Nat, k = n ∧ n ≤ 200
theorem nearOk (k : Int) : NearOk (nearZ k) := by
  unfold NearOk nearZ
  by_cases h : 200 < k ∧ k ≤ 65536
  · rw [if_pos h]
    have e := Int.tmod_eq_emod_of_nonneg (a := k) (b := 200) (by omega)
    refine .inr (.inr ⟨(k % 200).toNat, by omega, by omega⟩)
  · rw [if_neg h]
    by_cases h0 : k < 0
    · exact .inl h0
    · by_cases h1 : 65536 < k
      · exact .inr (.inl h1)
      · exact .inr (.inr ⟨k.toNat, by omega, by omega⟩)

theorem fi_sz {a : RI} {k : Nat} (h : Sz k a) : Sz 3 (fi a) := ⟨by simp [fi]; omega, fun x hx => h.2 x (List.mem_of_mem_take hx)⟩
theorem fp_rp {p : List RI} (h : Raw p) : RP 9 3 (fp p) := ⟨by simp [fp]; omega, fun c hc => by
  obtain ⟨d, hd, rfl⟩ := List.mem_map.1 hc
  exact fi_sz (h.2 d (List.mem_of_mem_take hd))⟩

structure Few (y : C11) : Prop where
  P : RP 9 3 y.P
  R : RP 9 3 y.R
  A : Sz 3 y.A
  B : Sz 3 y.B
  C : Sz 3 y.C
  D : Sz 3 y.D
  At : Sz 3 y.At
  K : NearOk y.K
  M : NearOk y.M
  E : NearOk y.E

/-- A case, as it is handed. -/
structure Ok11 (x : C11) : Prop where
  P : Raw x.P
  R : Raw x.R
  A : Sz 9223372036854775807 x.A
  B : Sz 9223372036854775807 x.B
  C : Sz 9223372036854775807 x.C
  D : Sz 9223372036854775807 x.D
  K : -9223372036854775808 ≤ x.K ∧ x.K ≤ 9223372036854775807
  M : -9223372036854775808 ≤ x.M ∧ x.M ≤ 9223372036854775807
  At : Sz 9223372036854775807 x.At
  E : -9223372036854775808 ≤ x.E ∧ x.E ≤ 9223372036854775807
  F : RawQ x.F
  G : RawQ x.G
  X : SzQ 9223372036854775807 x.X

theorem ok11 (P R : List RI) (A B C D : RI) (K M : Int) (At : RI) (E : Int) (Pt : Bool) (F G : List RQ) (X : RQ) (hP : Raw P) (hR : Raw R) (hA : Sz 9223372036854775807 A) (hB : Sz 9223372036854775807 B) (hC : Sz 9223372036854775807 C) (hD : Sz 9223372036854775807 D)
    (hK1 : -9223372036854775808 ≤ K) (hK2 : K ≤ 9223372036854775807) (hM1 : -9223372036854775808 ≤ M) (hM2 : M ≤ 9223372036854775807) (hAt : Sz 9223372036854775807 At) (hE1 : -9223372036854775808 ≤ E) (hE2 : E ≤ 9223372036854775807) (hF : RawQ F) (hG : RawQ G) (hX : SzQ 9223372036854775807 X) :
    Ok11 ⟨P, R, A, B, C, D, K, M, At, E, Pt, F, G, X⟩ := ⟨hP, hR, hA, hB, hC, hD, ⟨hK1, hK2⟩, ⟨hM1, hM2⟩, hAt, ⟨hE1, hE2⟩, hF, hG, hX⟩

theorem few_less {x : C11} (h : Ok11 x) : Few (lessC x) := ⟨fp_rp h.P, fp_rp h.R, fi_sz h.A, fi_sz h.B, fi_sz h.C, fi_sz h.D, fi_sz h.At, nearOk _, nearOk _, nearOk _⟩

theorem ps_lin (b a : Int) : ps [b, a] = PS.C b + PS.C a * PS.X := by
  rw [ps_cons, ps_const, PS.mul_comm]
end Go.Proofs.YtjadkhkgmdikiaaGreat

namespace Go.Proofs.YtjadkhkgmdikiaaGreat
open Go Go.Proofs Go.AL
set_option linter.unusedSimpArgs false
set_option linter.unusedVariables false

/-- A value at an integer. -/
def ev : List Int → Int → Int
  | [], _ => 0
  | c :: p, t => c + t * ev p t
theorem C_ev (p : List Int) (t : Int) : PS.C (ev p t) = cmp p (PS.C t) := by
  induction p with
  | nil => rw [ev, cmp_nil, PS.C_zero]
  | cons c p ih => rw [ev, cmp_cons, PS.C_add, PS.C_mul, ih]
theorem C_inj {a b : Int} (h : PS.C a = PS.C b) : a = b := by
  have := congrArg (fun f => PS.c f 0) h
  simpa [PS.c_C] using this
/-- The sum of c_i * a^i * b^(n-1-i). -/
def ihom : List Int → Int → Int → Int
  | [], _, _ => 0
  | c :: p, a, b => c * b ^ p.length + a * ihom p a b
theorem C_ihom (p : List Int) (a b : Int) : PS.C (ihom p a b) = hom p (PS.C a) (PS.C b) := by
  induction p with
  | nil => rw [ihom, hom, PS.C_zero]
  | cons c p ih => rw [ihom, hom, PS.C_add, PS.C_mul, PS.C_mul, C_pow, ih]

theorem zl_ev {K kt : Nat} {t : Int} (ht : zl t ≤ kt) : ∀ {p : List Int}, (∀ z ∈ p, zl z ≤ K) → zl (ev p t) ≤ K + p.length * (kt + 1)
  | [], _ => by rw [ev, zl_zero]; omega
  | c :: p, h => by
    have ih := zl_ev (p := p) ht fun z hz => h z (List.mem_cons_of_mem _ hz)
    have h1 := zl_add c (t * ev p t)
    have h2 := zl_mul t (ev p t)
    have h3 := h c (by simp)
    rw [ev, List.length_cons, Nat.succ_mul]
    omega
theorem zl_ihom {K k : Nat} {a b : Int} (ha : zl a ≤ k) (hb : zl b ≤ k) : ∀ {p : List Int}, (∀ z ∈ p, zl z ≤ K) → zl (ihom p a b) ≤ K + p.length * (k + 1) + 1
  | [], _ => by rw [ihom, zl_zero]; omega
  | c :: p, h => by
    have ih := zl_ihom (p := p) ha hb fun z hz => h z (List.mem_cons_of_mem _ hz)
    have h1 := zl_add (c * b ^ p.length) (a * ihom p a b)
    have h2 := zl_mul a (ihom p a b)
    have h3 := h c (by simp)
    have h4 := zl_mul c (b ^ p.length)
    have h5 := zl_pow hb p.length
    rw [ihom, List.length_cons, Nat.succ_mul]
    rw [Nat.mul_succ] at ih ⊢
    omega

theorem drop_cf (q : List Int) {i : Nat} (h : i < q.length) : q.drop i = cf q i :: q.drop (i + 1) := by
  rw [List.drop_eq_getElem_cons h]
  simp [cf, List.getD, h]

end Go.Proofs.YtjadkhkgmdikiaaGreat

namespace Go.Proofs.YtjadkhkgmdikiaaGreat
open Go Go.Proofs Go.AL
set_option linter.unusedSimpArgs false
set_option linter.unusedVariables false

theorem zl_w {x : Int} (h : x.natAbs < W) : zl x ≤ 1 := zl_le.mpr (by rwa [Nat.pow_one])
theorem wd_w {d : Nat} (h : d < W) : (wd d).length ≤ 1 := wd_len_le.mpr (by rwa [Nat.pow_one])

theorem hok_ok (r : RQ) (h : Nt (2 ^ 40) r.2) : AC Tryz.prog 54 [cqq r] none [cb (decide (nv r.2 ≠ 0))] := by
  have z := rZero_ok r.2 h.2 h.1
  refine AC.by_walk (rs := [.tmp 2]) ords Tryz.func54 (by rfl) (by rfl) (by rfl) (by rfl) (by rfl) ?_
  simp (disch := omega) only [wk, tis, Int.reduceNe, Int.reduceEq, Int.reduceLT, Int.reduceLE, Int.reduceAdd, Int.reduceSub, Int.reduceNeg, Int.reduceMul, Int.reduceToNat, Nat.reduceSub, Nat.reduceMul, Nat.reduceLeDiff, Nat.reduceAdd, Nat.reduceLT, Nat.reduceEqDiff, reduceCtorEq, ↓reduceIte, rats_len, rats_get, lay_rat, qrow_take, qrow_len, qrow_splice, qrow_row, rats_rows, rats_snoc, rats_set, rats_take, rats_rep, rats_nil, qrow_drop2, qrow_take2, qrow_drop1, qrow_spl0]
  refine call_by (z) (by rfl) (by simp) ?_
  simp (disch := omega) only [wk, tis, Int.reduceNe, Int.reduceEq, Int.reduceLT, Int.reduceLE, Int.reduceAdd, Int.reduceSub, Int.reduceNeg, Int.reduceMul, Int.reduceToNat, Nat.reduceSub, Nat.reduceMul, Nat.reduceLeDiff, Nat.reduceAdd, Nat.reduceLT, Nat.reduceEqDiff, reduceCtorEq, ↓reduceIte, rats_len, rats_get, lay_rat, qrow_take, qrow_len, qrow_splice, qrow_row, rats_rows, rats_snoc, rats_set, rats_take, rats_rep, rats_nil, qrow_drop2, qrow_take2, qrow_drop1, qrow_spl0]
  try rfl
  try simp

theorem hS_ok (r : RQ) (h : Sz (2 ^ 40) r.1) : AC Tryz.prog 66 [cqq r] none [ci (iv r.1).sign] := by
  have z := rSign_ok r.1 h
  refine AC.by_walk (rs := [.tmp 2]) ords Tryz.func66 (by rfl) (by rfl) (by rfl) (by rfl) (by rfl) ?_
  simp (disch := omega) only [wk, tis, Int.reduceNe, Int.reduceEq, Int.reduceLT, Int.reduceLE, Int.reduceAdd, Int.reduceSub, Int.reduceNeg, Int.reduceMul, Int.reduceToNat, Nat.reduceSub, Nat.reduceMul, Nat.reduceLeDiff, Nat.reduceAdd, Nat.reduceLT, Nat.reduceEqDiff, reduceCtorEq, ↓reduceIte, rats_len, rats_get, lay_rat, qrow_take, qrow_len, qrow_splice, qrow_row, rats_rows, rats_snoc, rats_set, rats_take, rats_rep, rats_nil, qrow_drop2, qrow_take2, qrow_drop1, qrow_spl0]
  refine call_by (z) (by rfl) (by simp) ?_
  simp (disch := omega) only [wk, tis, Int.reduceNe, Int.reduceEq, Int.reduceLT, Int.reduceLE, Int.reduceAdd, Int.reduceSub, Int.reduceNeg, Int.reduceMul, Int.reduceToNat, Nat.reduceSub, Nat.reduceMul, Nat.reduceLeDiff, Nat.reduceAdd, Nat.reduceLT, Nat.reduceEqDiff, reduceCtorEq, ↓reduceIte, rats_len, rats_get, lay_rat, qrow_take, qrow_len, qrow_splice, qrow_row, rats_rows, rats_snoc, rats_set, rats_take, rats_rep, rats_nil, qrow_drop2, qrow_take2, qrow_drop1, qrow_spl0]
  try rfl

theorem hZ_ok (n : RI) (h : Sz (2 ^ 38) n) : AC Tryz.prog 96 [cr n] none [cqz (iv n : Rat)] := by
  have w := rword_ok 1 (by omega)
  have hw : (wd 1).length ≤ 2 ^ 38 := by decide +kernel
  have r := rR_ok n (wd 1) h ⟨hw, lim_wd _⟩ (by rw [nv_wd]; omega)
  rw [nv_wd, Rat.mkRat_one] at r
  refine AC.by_walk (rs := [.cell 2 31]) ords Tryz.func96 (by rfl) (by rfl) (by rfl) (by rfl) (by rfl) ?_
  simp (disch := omega) only [wk, tis, Int.reduceNe, Int.reduceEq, Int.reduceLT, Int.reduceLE, Int.reduceAdd, Int.reduceSub, Int.reduceNeg, Int.reduceMul, Int.reduceToNat, Nat.reduceSub, Nat.reduceMul, Nat.reduceLeDiff, Nat.reduceAdd, Nat.reduceLT, Nat.reduceEqDiff, reduceCtorEq, ↓reduceIte, rats_len, rats_get, lay_rat, qrow_take, qrow_len, qrow_splice, qrow_row, rats_rows, rats_snoc, rats_set, rats_take, rats_rep, rats_nil, qrow_drop2, qrow_take2, qrow_drop1, qrow_spl0]
  refine ⟨tmps_by (by kernel_rfl), ?_⟩
  refine call_by (w) (by rfl) (by simp) ?_
  simp (disch := omega) only [wk, tis, Int.reduceNe, Int.reduceEq, Int.reduceLT, Int.reduceLE, Int.reduceAdd, Int.reduceSub, Int.reduceNeg, Int.reduceMul, Int.reduceToNat, Nat.reduceSub, Nat.reduceMul, Nat.reduceLeDiff, Nat.reduceAdd, Nat.reduceLT, Nat.reduceEqDiff, reduceCtorEq, ↓reduceIte, rats_len, rats_get, lay_rat, qrow_take, qrow_len, qrow_splice, qrow_row, rats_rows, rats_snoc, rats_set, rats_take, rats_rep, rats_nil, qrow_drop2, qrow_take2, qrow_drop1, qrow_spl0]
  refine call_by (r) (by rfl) (by simp) ?_
  simp (disch := omega) only [wk, tis, Int.reduceNe, Int.reduceEq, Int.reduceLT, Int.reduceLE, Int.reduceAdd, Int.reduceSub, Int.reduceNeg, Int.reduceMul, Int.reduceToNat, Nat.reduceSub, Nat.reduceMul, Nat.reduceLeDiff, Nat.reduceAdd, Nat.reduceLT, Nat.reduceEqDiff, reduceCtorEq, ↓reduceIte, rats_len, rats_get, lay_rat, qrow_take, qrow_len, qrow_splice, qrow_row, rats_rows, rats_snoc, rats_set, rats_take, rats_rep, rats_nil, qrow_drop2, qrow_take2, qrow_drop1, qrow_spl0]
  first | exact log_by (by kernel_rfl) | refine ⟨log_by (by kernel_rfl), ?_⟩
  try rfl

theorem hP_ok (n : Int) (d : Nat) (h : -9223372036854775808 < n) (h' : n < 9223372036854775808) (hd : d < 9223372036854775808) (h0 : d ≠ 0) : AC Tryz.prog 48 [ci n, ci d] none [cqz ((n : Rat) / (d : Rat))] := by
  have z := rZ_ok n h h'
  have w := rword_ok d hd
  have hz : zl n ≤ 2 ^ 38 := Nat.le_trans (zl_w (by simp only [W]; omega)) (by omega)
  have hw : (wd d).length ≤ 2 ^ 38 := Nat.le_trans (wd_w (by simp only [W]; omega)) (by omega)
  have r := rR_ok (canon n) (wd d) ((sz_canon _).mono hz) ⟨hw, lim_wd _⟩ (by rw [nv_wd]; exact h0)
  rw [iv_canon, nv_wd, Rat.mkRat_eq_div] at r
  refine AC.by_walk (rs := [.cell 4 31]) ords Tryz.func48 (by rfl) (by rfl) (by rfl) (by rfl) (by rfl) ?_
  simp (disch := omega) only [wk, tis, Int.reduceNe, Int.reduceEq, Int.reduceLT, Int.reduceLE, Int.reduceAdd, Int.reduceSub, Int.reduceNeg, Int.reduceMul, Int.reduceToNat, Nat.reduceSub, Nat.reduceMul, Nat.reduceLeDiff, Nat.reduceAdd, Nat.reduceLT, Nat.reduceEqDiff, reduceCtorEq, ↓reduceIte, rats_len, rats_get, lay_rat, qrow_take, qrow_len, qrow_splice, qrow_row, rats_rows, rats_snoc, rats_set, rats_take, rats_rep, rats_nil, qrow_drop2, qrow_take2, qrow_drop1, qrow_spl0]
  refine call_by (z) (by rfl) (by simp) ?_
  simp (disch := omega) only [wk, tis, Int.reduceNe, Int.reduceEq, Int.reduceLT, Int.reduceLE, Int.reduceAdd, Int.reduceSub, Int.reduceNeg, Int.reduceMul, Int.reduceToNat, Nat.reduceSub, Nat.reduceMul, Nat.reduceLeDiff, Nat.reduceAdd, Nat.reduceLT, Nat.reduceEqDiff, reduceCtorEq, ↓reduceIte, rats_len, rats_get, lay_rat, qrow_take, qrow_len, qrow_splice, qrow_row, rats_rows, rats_snoc, rats_set, rats_take, rats_rep, rats_nil, qrow_drop2, qrow_take2, qrow_drop1, qrow_spl0]
  refine call_by (w) (by rfl) (by simp) ?_
  simp (disch := omega) only [wk, tis, Int.reduceNe, Int.reduceEq, Int.reduceLT, Int.reduceLE, Int.reduceAdd, Int.reduceSub, Int.reduceNeg, Int.reduceMul, Int.reduceToNat, Nat.reduceSub, Nat.reduceMul, Nat.reduceLeDiff, Nat.reduceAdd, Nat.reduceLT, Nat.reduceEqDiff, reduceCtorEq, ↓reduceIte, rats_len, rats_get, lay_rat, qrow_take, qrow_len, qrow_splice, qrow_row, rats_rows, rats_snoc, rats_set, rats_take, rats_rep, rats_nil, qrow_drop2, qrow_take2, qrow_drop1, qrow_spl0]
  refine call_by (r) (by rfl) (by simp) ?_
  simp (disch := omega) only [wk, tis, Int.reduceNe, Int.reduceEq, Int.reduceLT, Int.reduceLE, Int.reduceAdd, Int.reduceSub, Int.reduceNeg, Int.reduceMul, Int.reduceToNat, Nat.reduceSub, Nat.reduceMul, Nat.reduceLeDiff, Nat.reduceAdd, Nat.reduceLT, Nat.reduceEqDiff, reduceCtorEq, ↓reduceIte, rats_len, rats_get, lay_rat, qrow_take, qrow_len, qrow_splice, qrow_row, rats_rows, rats_snoc, rats_set, rats_take, rats_rep, rats_nil, qrow_drop2, qrow_take2, qrow_drop1, qrow_spl0]
  try rfl

theorem hplus_ok (a b : RQ) (ha : SzQ (2 ^ 35) a) (hb : SzQ (2 ^ 35) b) (h0 : nv a.2 ≠ 0) (h1 : nv b.2 ≠ 0) : AC Tryz.prog 55 [cqq a, cqq b] none [cqz (qv a + qv b)] := by
  have z1 := zl_mul (iv a.1) (nv b.2 : Nat)
  have z2 := zl_mul (iv b.1) (nv a.2 : Nat)
  have y1 := zl_iv ha.1
  have y2 := zl_iv hb.1
  have y3 := nt_zl ha.2
  have y4 := nt_zl hb.2
  have i1 := rI_ok false b.2 hb.2.2 (Nat.le_trans hb.2.1 (by omega))
  have i2 := rI_ok false a.2 ha.2.2 (Nat.le_trans ha.2.1 (by omega))
  rw [sgf] at i1 i2
  have t1 := rMul_ok a.1 (canon (nv b.2 : Nat)) (ha.1.mono (by omega)) ((sz_canon _).mono (by omega))
  have t2 := rMul_ok b.1 (canon (nv a.2 : Nat)) (hb.1.mono (by omega)) ((sz_canon _).mono (by omega))
  rw [iv_canon] at t1 t2
  have z3 := zl_add (iv a.1 * (nv b.2 : Nat)) (iv b.1 * (nv a.2 : Nat))
  have s := rAdd_ok (canon (iv a.1 * (nv b.2 : Nat))) (canon (iv b.1 * (nv a.2 : Nat))) ((sz_canon _).mono (by omega)) ((sz_canon _).mono (by omega))
  rw [iv_canon, iv_canon] at s
  have m := rTimes_ok a.2 b.2 ha.2.2 hb.2.2 (Nat.le_trans ha.2.1 (by omega)) (Nat.le_trans hb.2.1 (by omega))
  have hw : (wd (nv a.2 * nv b.2)).length ≤ 2 ^ 35 + 2 ^ 35 := wd_len2 y3 y4
  have r := rR_ok (canon (iv a.1 * (nv b.2 : Nat) + iv b.1 * (nv a.2 : Nat))) (wd (nv a.2 * nv b.2)) ((sz_canon _).mono (by omega)) ⟨by omega, lim_wd _⟩ (by rw [nv_wd]; exact Nat.mul_ne_zero h0 h1)
  rw [iv_canon, nv_wd, mk_add h0 h1] at r
  refine AC.by_walk (rs := [.cell 4 31]) ords Tryz.func55 (by rfl) (by rfl) (by rfl) (by rfl) (by rfl) ?_
  simp (disch := omega) only [wk, tis, Int.reduceNe, Int.reduceEq, Int.reduceLT, Int.reduceLE, Int.reduceAdd, Int.reduceSub, Int.reduceNeg, Int.reduceMul, Int.reduceToNat, Nat.reduceSub, Nat.reduceMul, Nat.reduceLeDiff, Nat.reduceAdd, Nat.reduceLT, Nat.reduceEqDiff, reduceCtorEq, ↓reduceIte, rats_len, rats_get, lay_rat, qrow_take, qrow_len, qrow_splice, qrow_row, rats_rows, rats_snoc, rats_set, rats_take, rats_rep, rats_nil, qrow_drop2, qrow_take2, qrow_drop1, qrow_spl0]
  refine ⟨tmps_by (by kernel_rfl), ?_⟩
  refine call_by (i1) (by rfl) (by simp) ?_
  simp (disch := omega) only [wk, tis, Int.reduceNe, Int.reduceEq, Int.reduceLT, Int.reduceLE, Int.reduceAdd, Int.reduceSub, Int.reduceNeg, Int.reduceMul, Int.reduceToNat, Nat.reduceSub, Nat.reduceMul, Nat.reduceLeDiff, Nat.reduceAdd, Nat.reduceLT, Nat.reduceEqDiff, reduceCtorEq, ↓reduceIte, rats_len, rats_get, lay_rat, qrow_take, qrow_len, qrow_splice, qrow_row, rats_rows, rats_snoc, rats_set, rats_take, rats_rep, rats_nil, qrow_drop2, qrow_take2, qrow_drop1, qrow_spl0]
  refine call_by (t1) (by rfl) (by simp) ?_
  simp (disch := omega) only [wk, tis, Int.reduceNe, Int.reduceEq, Int.reduceLT, Int.reduceLE, Int.reduceAdd, Int.reduceSub, Int.reduceNeg, Int.reduceMul, Int.reduceToNat, Nat.reduceSub, Nat.reduceMul, Nat.reduceLeDiff, Nat.reduceAdd, Nat.reduceLT, Nat.reduceEqDiff, reduceCtorEq, ↓reduceIte, rats_len, rats_get, lay_rat, qrow_take, qrow_len, qrow_splice, qrow_row, rats_rows, rats_snoc, rats_set, rats_take, rats_rep, rats_nil, qrow_drop2, qrow_take2, qrow_drop1, qrow_spl0]
  refine call_by (i2) (by rfl) (by simp) ?_
  simp (disch := omega) only [wk, tis, Int.reduceNe, Int.reduceEq, Int.reduceLT, Int.reduceLE, Int.reduceAdd, Int.reduceSub, Int.reduceNeg, Int.reduceMul, Int.reduceToNat, Nat.reduceSub, Nat.reduceMul, Nat.reduceLeDiff, Nat.reduceAdd, Nat.reduceLT, Nat.reduceEqDiff, reduceCtorEq, ↓reduceIte, rats_len, rats_get, lay_rat, qrow_take, qrow_len, qrow_splice, qrow_row, rats_rows, rats_snoc, rats_set, rats_take, rats_rep, rats_nil, qrow_drop2, qrow_take2, qrow_drop1, qrow_spl0]
  refine call_by (t2) (by rfl) (by simp) ?_
  simp (disch := omega) only [wk, tis, Int.reduceNe, Int.reduceEq, Int.reduceLT, Int.reduceLE, Int.reduceAdd, Int.reduceSub, Int.reduceNeg, Int.reduceMul, Int.reduceToNat, Nat.reduceSub, Nat.reduceMul, Nat.reduceLeDiff, Nat.reduceAdd, Nat.reduceLT, Nat.reduceEqDiff, reduceCtorEq, ↓reduceIte, rats_len, rats_get, lay_rat, qrow_take, qrow_len, qrow_splice, qrow_row, rats_rows, rats_snoc, rats_set, rats_take, rats_rep, rats_nil, qrow_drop2, qrow_take2, qrow_drop1, qrow_spl0]
  refine call_by (s) (by rfl) (by simp) ?_
  simp (disch := omega) only [wk, tis, Int.reduceNe, Int.reduceEq, Int.reduceLT, Int.reduceLE, Int.reduceAdd, Int.reduceSub, Int.reduceNeg, Int.reduceMul, Int.reduceToNat, Nat.reduceSub, Nat.reduceMul, Nat.reduceLeDiff, Nat.reduceAdd, Nat.reduceLT, Nat.reduceEqDiff, reduceCtorEq, ↓reduceIte, rats_len, rats_get, lay_rat, qrow_take, qrow_len, qrow_splice, qrow_row, rats_rows, rats_snoc, rats_set, rats_take, rats_rep, rats_nil, qrow_drop2, qrow_take2, qrow_drop1, qrow_spl0]
  refine call_by (m) (by rfl) (by simp) ?_
  simp (disch := omega) only [wk, tis, Int.reduceNe, Int.reduceEq, Int.reduceLT, Int.reduceLE, Int.reduceAdd, Int.reduceSub, Int.reduceNeg, Int.reduceMul, Int.reduceToNat, Nat.reduceSub, Nat.reduceMul, Nat.reduceLeDiff, Nat.reduceAdd, Nat.reduceLT, Nat.reduceEqDiff, reduceCtorEq, ↓reduceIte, rats_len, rats_get, lay_rat, qrow_take, qrow_len, qrow_splice, qrow_row, rats_rows, rats_snoc, rats_set, rats_take, rats_rep, rats_nil, qrow_drop2, qrow_take2, qrow_drop1, qrow_spl0]
  refine call_by (r) (by rfl) (by simp) ?_
  simp (disch := omega) only [wk, tis, Int.reduceNe, Int.reduceEq, Int.reduceLT, Int.reduceLE, Int.reduceAdd, Int.reduceSub, Int.reduceNeg, Int.reduceMul, Int.reduceToNat, Nat.reduceSub, Nat.reduceMul, Nat.reduceLeDiff, Nat.reduceAdd, Nat.reduceLT, Nat.reduceEqDiff, reduceCtorEq, ↓reduceIte, rats_len, rats_get, lay_rat, qrow_take, qrow_len, qrow_splice, qrow_row, rats_rows, rats_snoc, rats_set, rats_take, rats_rep, rats_nil, qrow_drop2, qrow_take2, qrow_drop1, qrow_spl0]
  first | exact log_by (by kernel_rfl) | refine ⟨log_by (by kernel_rfl), ?_⟩
  try rfl

theorem htimes_ok (a b : RQ) (ha : SzQ (2 ^ 35) a) (hb : SzQ (2 ^ 35) b) (h0 : nv a.2 ≠ 0) (h1 : nv b.2 ≠ 0) : AC Tryz.prog 56 [cqq a, cqq b] none [cqz (qv a * qv b)] := by
  have z1 := zl_mul (iv a.1) (iv b.1)
  have y1 := zl_iv ha.1
  have y2 := zl_iv hb.1
  have y3 := nt_zl ha.2
  have y4 := nt_zl hb.2
  have s := rMul_ok a.1 b.1 (ha.1.mono (by omega)) (hb.1.mono (by omega))
  have m := rTimes_ok a.2 b.2 ha.2.2 hb.2.2 (Nat.le_trans ha.2.1 (by omega)) (Nat.le_trans hb.2.1 (by omega))
  have hw : (wd (nv a.2 * nv b.2)).length ≤ 2 ^ 35 + 2 ^ 35 := wd_len2 y3 y4
  have r := rR_ok (canon (iv a.1 * iv b.1)) (wd (nv a.2 * nv b.2)) ((sz_canon _).mono (by omega)) ⟨by omega, lim_wd _⟩ (by rw [nv_wd]; exact Nat.mul_ne_zero h0 h1)
  rw [iv_canon, nv_wd, mk_mul] at r
  refine AC.by_walk (rs := [.cell 4 31]) ords Tryz.func56 (by rfl) (by rfl) (by rfl) (by rfl) (by rfl) ?_
  simp (disch := omega) only [wk, tis, Int.reduceNe, Int.reduceEq, Int.reduceLT, Int.reduceLE, Int.reduceAdd, Int.reduceSub, Int.reduceNeg, Int.reduceMul, Int.reduceToNat, Nat.reduceSub, Nat.reduceMul, Nat.reduceLeDiff, Nat.reduceAdd, Nat.reduceLT, Nat.reduceEqDiff, reduceCtorEq, ↓reduceIte, rats_len, rats_get, lay_rat, qrow_take, qrow_len, qrow_splice, qrow_row, rats_rows, rats_snoc, rats_set, rats_take, rats_rep, rats_nil, qrow_drop2, qrow_take2, qrow_drop1, qrow_spl0]
  refine ⟨tmps_by (by kernel_rfl), ?_⟩
  refine call_by (s) (by rfl) (by simp) ?_
  simp (disch := omega) only [wk, tis, Int.reduceNe, Int.reduceEq, Int.reduceLT, Int.reduceLE, Int.reduceAdd, Int.reduceSub, Int.reduceNeg, Int.reduceMul, Int.reduceToNat, Nat.reduceSub, Nat.reduceMul, Nat.reduceLeDiff, Nat.reduceAdd, Nat.reduceLT, Nat.reduceEqDiff, reduceCtorEq, ↓reduceIte, rats_len, rats_get, lay_rat, qrow_take, qrow_len, qrow_splice, qrow_row, rats_rows, rats_snoc, rats_set, rats_take, rats_rep, rats_nil, qrow_drop2, qrow_take2, qrow_drop1, qrow_spl0]
  refine call_by (m) (by rfl) (by simp) ?_
  simp (disch := omega) only [wk, tis, Int.reduceNe, Int.reduceEq, Int.reduceLT, Int.reduceLE, Int.reduceAdd, Int.reduceSub, Int.reduceNeg, Int.reduceMul, Int.reduceToNat, Nat.reduceSub, Nat.reduceMul, Nat.reduceLeDiff, Nat.reduceAdd, Nat.reduceLT, Nat.reduceEqDiff, reduceCtorEq, ↓reduceIte, rats_len, rats_get, lay_rat, qrow_take, qrow_len, qrow_splice, qrow_row, rats_rows, rats_snoc, rats_set, rats_take, rats_rep, rats_nil, qrow_drop2, qrow_take2, qrow_drop1, qrow_spl0]
  refine call_by (r) (by rfl) (by simp) ?_
  simp (disch := omega) only [wk, tis, Int.reduceNe, Int.reduceEq, Int.reduceLT, Int.reduceLE, Int.reduceAdd, Int.reduceSub, Int.reduceNeg, Int.reduceMul, Int.reduceToNat, Nat.reduceSub, Nat.reduceMul, Nat.reduceLeDiff, Nat.reduceAdd, Nat.reduceLT, Nat.reduceEqDiff, reduceCtorEq, ↓reduceIte, rats_len, rats_get, lay_rat, qrow_take, qrow_len, qrow_splice, qrow_row, rats_rows, rats_snoc, rats_set, rats_take, rats_rep, rats_nil, qrow_drop2, qrow_take2, qrow_drop1, qrow_spl0]
  first | exact log_by (by kernel_rfl) | refine ⟨log_by (by kernel_rfl), ?_⟩
  try rfl

theorem over_raw {a b : RQ} (h0 : nv a.2 ≠ 0) (h1 : nv b.2 ≠ 0) (h2 : iv b.1 ≠ 0) : mkRat (iv a.1 * sg b.1.1 (nv b.2)) (nv a.2 * nv b.1.2) = qv a / qv b := by
  rw [qv_eq, qv_eq, Rat.mkRat_eq_div, Rat.intCast_mul, Rat.natCast_mul]
  have e0 : (nv a.2 : Rat) ≠ 0 := fun h => h0 (Rat.natCast_eq_zero_iff.mp h)
  have e1 : (nv b.2 : Rat) ≠ 0 := fun h => h1 (Rat.natCast_eq_zero_iff.mp h)
  have e2 : (nv b.1.2 : Rat) ≠ 0 := fun h => h2 (by rw [iv_sg, Rat.natCast_eq_zero_iff.mp h]; cases b.1.1 <;> rfl)
  have e3 : (iv b.1 : Rat) = if b.1.1 then -(nv b.1.2 : Rat) else (nv b.1.2 : Rat) := by
    unfold iv
    split
    · rw [Rat.intCast_neg, Rat.intCast_natCast]
    · rw [Rat.intCast_natCast]
  have e4 : ((sg b.1.1 (nv b.2) : Int) : Rat) = if b.1.1 then -(nv b.2 : Rat) else (nv b.2 : Rat) := by
    unfold sg
    split
    · rw [Rat.intCast_neg, Rat.intCast_natCast]
    · rw [Rat.intCast_natCast]
  rw [e3, e4]
  split <;> grind

theorem hover_ok (a b : RQ) (ha : SzQ (2 ^ 35) a) (hb : SzQ (2 ^ 35) b) (h0 : nv a.2 ≠ 0) (h1 : nv b.2 ≠ 0) (h2 : iv b.1 ≠ 0) : AC Tryz.prog 74 [cqq a, cqq b] none [cqz (qv a / qv b)] := by
  have i1 := rI_ok b.1.1 b.2 hb.2.2 (Nat.le_trans hb.2.1 (by omega))
  have y1 := zl_iv ha.1
  have y3 := nt_zl ha.2
  have y4 : zl (sg b.1.1 (nv b.2)) ≤ 2 ^ 35 := by rw [zl_sg]; exact nt_zl hb.2
  have y5 : (wd (nv b.1.2)).length ≤ 2 ^ 35 := Nat.le_trans (nv_len hb.1.2) hb.1.1
  have z1 := zl_mul (iv a.1) (sg b.1.1 (nv b.2))
  have s := rMul_ok a.1 (canon (sg b.1.1 (nv b.2))) (ha.1.mono (by omega)) ((sz_canon _).mono (by omega))
  rw [iv_canon] at s
  have m := rTimes_ok a.2 b.1.2 ha.2.2 hb.1.2 (Nat.le_trans ha.2.1 (by omega)) (Nat.le_trans hb.1.1 (by omega))
  have hw : (wd (nv a.2 * nv b.1.2)).length ≤ 2 ^ 35 + 2 ^ 35 := wd_len2 y3 y5
  have hn : nv b.1.2 ≠ 0 := fun h => h2 (by rw [iv_sg, h]; cases b.1.1 <;> rfl)
  have r := rR_ok (canon (iv a.1 * sg b.1.1 (nv b.2))) (wd (nv a.2 * nv b.1.2)) ((sz_canon _).mono (by omega)) ⟨by omega, lim_wd _⟩ (by rw [nv_wd]; exact Nat.mul_ne_zero h0 hn)
  rw [iv_canon, nv_wd, over_raw h0 h1 h2] at r
  refine AC.by_walk (rs := [.cell 4 31]) ords Tryz.func74 (by rfl) (by rfl) (by rfl) (by rfl) (by rfl) ?_
  simp (disch := omega) only [wk, tis, Int.reduceNe, Int.reduceEq, Int.reduceLT, Int.reduceLE, Int.reduceAdd, Int.reduceSub, Int.reduceNeg, Int.reduceMul, Int.reduceToNat, Nat.reduceSub, Nat.reduceMul, Nat.reduceLeDiff, Nat.reduceAdd, Nat.reduceLT, Nat.reduceEqDiff, reduceCtorEq, ↓reduceIte, rats_len, rats_get, lay_rat, qrow_take, qrow_len, qrow_splice, qrow_row, rats_rows, rats_snoc, rats_set, rats_take, rats_rep, rats_nil, qrow_drop2, qrow_take2, qrow_drop1, qrow_spl0]
  refine ⟨tmps_by (by kernel_rfl), ?_⟩
  refine call_by (i1) (by rfl) (by simp) ?_
  simp (disch := omega) only [wk, tis, Int.reduceNe, Int.reduceEq, Int.reduceLT, Int.reduceLE, Int.reduceAdd, Int.reduceSub, Int.reduceNeg, Int.reduceMul, Int.reduceToNat, Nat.reduceSub, Nat.reduceMul, Nat.reduceLeDiff, Nat.reduceAdd, Nat.reduceLT, Nat.reduceEqDiff, reduceCtorEq, ↓reduceIte, rats_len, rats_get, lay_rat, qrow_take, qrow_len, qrow_splice, qrow_row, rats_rows, rats_snoc, rats_set, rats_take, rats_rep, rats_nil, qrow_drop2, qrow_take2, qrow_drop1, qrow_spl0]
  refine call_by (s) (by rfl) (by simp) ?_
  simp (disch := omega) only [wk, tis, Int.reduceNe, Int.reduceEq, Int.reduceLT, Int.reduceLE, Int.reduceAdd, Int.reduceSub, Int.reduceNeg, Int.reduceMul, Int.reduceToNat, Nat.reduceSub, Nat.reduceMul, Nat.reduceLeDiff, Nat.reduceAdd, Nat.reduceLT, Nat.reduceEqDiff, reduceCtorEq, ↓reduceIte, rats_len, rats_get, lay_rat, qrow_take, qrow_len, qrow_splice, qrow_row, rats_rows, rats_snoc, rats_set, rats_take, rats_rep, rats_nil, qrow_drop2, qrow_take2, qrow_drop1, qrow_spl0]
  refine call_by (m) (by rfl) (by simp) ?_
  simp (disch := omega) only [wk, tis, Int.reduceNe, Int.reduceEq, Int.reduceLT, Int.reduceLE, Int.reduceAdd, Int.reduceSub, Int.reduceNeg, Int.reduceMul, Int.reduceToNat, Nat.reduceSub, Nat.reduceMul, Nat.reduceLeDiff, Nat.reduceAdd, Nat.reduceLT, Nat.reduceEqDiff, reduceCtorEq, ↓reduceIte, rats_len, rats_get, lay_rat, qrow_take, qrow_len, qrow_splice, qrow_row, rats_rows, rats_snoc, rats_set, rats_take, rats_rep, rats_nil, qrow_drop2, qrow_take2, qrow_drop1, qrow_spl0]
  refine call_by (r) (by rfl) (by simp) ?_
  simp (disch := omega) only [wk, tis, Int.reduceNe, Int.reduceEq, Int.reduceLT, Int.reduceLE, Int.reduceAdd, Int.reduceSub, Int.reduceNeg, Int.reduceMul, Int.reduceToNat, Nat.reduceSub, Nat.reduceMul, Nat.reduceLeDiff, Nat.reduceAdd, Nat.reduceLT, Nat.reduceEqDiff, reduceCtorEq, ↓reduceIte, rats_len, rats_get, lay_rat, qrow_take, qrow_len, qrow_splice, qrow_row, rats_rows, rats_snoc, rats_set, rats_take, rats_rep, rats_nil, qrow_drop2, qrow_take2, qrow_drop1, qrow_spl0]
  first | exact log_by (by kernel_rfl) | refine ⟨log_by (by kernel_rfl), ?_⟩
  try rfl

theorem hsame_ok (a b : RQ) (ha : SzQ (2 ^ 43) a) (hb : SzQ (2 ^ 43) b) : AC Tryz.prog 15 [cqq a, cqq b] none [cb (decide (a = b))] := by
  have s := rSameInt_ok a.1 b.1 ha.1.1 hb.1.1
  have t := rSame_ok a.2 b.2 ha.2.1 hb.2.1
  refine AC.by_walk (rs := [.tmp 4]) ords Tryz.func15 (by rfl) (by rfl) (by rfl) (by rfl) (by rfl) ?_
  simp (disch := omega) only [wk, tis, Int.reduceNe, Int.reduceEq, Int.reduceLT, Int.reduceLE, Int.reduceAdd, Int.reduceSub, Int.reduceNeg, Int.reduceMul, Int.reduceToNat, Nat.reduceSub, Nat.reduceMul, Nat.reduceLeDiff, Nat.reduceAdd, Nat.reduceLT, Nat.reduceEqDiff, reduceCtorEq, ↓reduceIte, rats_len, rats_get, lay_rat, qrow_take, qrow_len, qrow_splice, qrow_row, rats_rows, rats_snoc, rats_set, rats_take, rats_rep, rats_nil, qrow_drop2, qrow_take2, qrow_drop1, qrow_spl0]
  refine call_by (s) (by rfl) (by simp) ?_
  simp (disch := omega) only [wk, tis, Int.reduceNe, Int.reduceEq, Int.reduceLT, Int.reduceLE, Int.reduceAdd, Int.reduceSub, Int.reduceNeg, Int.reduceMul, Int.reduceToNat, Nat.reduceSub, Nat.reduceMul, Nat.reduceLeDiff, Nat.reduceAdd, Nat.reduceLT, Nat.reduceEqDiff, reduceCtorEq, ↓reduceIte, rats_len, rats_get, lay_rat, qrow_take, qrow_len, qrow_splice, qrow_row, rats_rows, rats_snoc, rats_set, rats_take, rats_rep, rats_nil, qrow_drop2, qrow_take2, qrow_drop1, qrow_spl0]
  by_cases h1 : a.1 = b.1
  · simp (disch := omega) only [wk, tis, Int.reduceNe, Int.reduceEq, Int.reduceLT, Int.reduceLE, Int.reduceAdd, Int.reduceSub, Int.reduceNeg, Int.reduceMul, Int.reduceToNat, Nat.reduceSub, Nat.reduceMul, Nat.reduceLeDiff, Nat.reduceAdd, Nat.reduceLT, Nat.reduceEqDiff, reduceCtorEq, ↓reduceIte, rats_len, rats_get, lay_rat, qrow_take, qrow_len, qrow_splice, qrow_row, rats_rows, rats_snoc, rats_set, rats_take, rats_rep, rats_nil, qrow_drop2, qrow_take2, qrow_drop1, qrow_spl0, h1]
    by_cases h2 : a.2 = b.2
    · have e : a = b := Prod.ext h1 h2
      subst e
      refine call_by (t) (by rfl) (by simp) ?_
      simp (disch := omega) only [wk, tis, Int.reduceNe, Int.reduceEq, Int.reduceLT, Int.reduceLE, Int.reduceAdd, Int.reduceSub, Int.reduceNeg, Int.reduceMul, Int.reduceToNat, Nat.reduceSub, Nat.reduceMul, Nat.reduceLeDiff, Nat.reduceAdd, Nat.reduceLT, Nat.reduceEqDiff, reduceCtorEq, ↓reduceIte, rats_len, rats_get, lay_rat, qrow_take, qrow_len, qrow_splice, qrow_row, rats_rows, rats_snoc, rats_set, rats_take, rats_rep, rats_nil, qrow_drop2, qrow_take2, qrow_drop1, qrow_spl0]
      try rfl
    · have e : ¬ a = b := fun h => h2 (by rw [h])
      refine call_by (t) (by first | rfl | (simp only [tocvs, tocv, h1, h2, e]; rfl) | (simp only [tocvs, tocv, toboxes, tobox, updH_at, Nat.reduceEqDiff, ↓reduceIte, h1, h2, e]; rfl)) (by simp) ?_
      simp (disch := omega) only [wk, tis, Int.reduceNe, Int.reduceEq, Int.reduceLT, Int.reduceLE, Int.reduceAdd, Int.reduceSub, Int.reduceNeg, Int.reduceMul, Int.reduceToNat, Nat.reduceSub, Nat.reduceMul, Nat.reduceLeDiff, Nat.reduceAdd, Nat.reduceLT, Nat.reduceEqDiff, reduceCtorEq, ↓reduceIte, rats_len, rats_get, lay_rat, qrow_take, qrow_len, qrow_splice, qrow_row, rats_rows, rats_snoc, rats_set, rats_take, rats_rep, rats_nil, qrow_drop2, qrow_take2, qrow_drop1, qrow_spl0, h1, h2, e]
      try rfl
  · have e : ¬ a = b := fun h => h1 (by rw [h])
    simp (disch := omega) only [wk, tis, Int.reduceNe, Int.reduceEq, Int.reduceLT, Int.reduceLE, Int.reduceAdd, Int.reduceSub, Int.reduceNeg, Int.reduceMul, Int.reduceToNat, Nat.reduceSub, Nat.reduceMul, Nat.reduceLeDiff, Nat.reduceAdd, Nat.reduceLT, Nat.reduceEqDiff, reduceCtorEq, ↓reduceIte, rats_len, rats_get, lay_rat, qrow_take, qrow_len, qrow_splice, qrow_row, rats_rows, rats_snoc, rats_set, rats_take, rats_rep, rats_nil, qrow_drop2, qrow_take2, qrow_drop1, qrow_spl0, h1, e]
    try rfl
end Go.Proofs.YtjadkhkgmdikiaaGreat

namespace Go.Proofs.YtjadkhkgmdikiaaGreat
open Go Go.Proofs Go.AL
set_option linter.unusedSimpArgs false
set_option linter.unusedVariables false

/-! ### Lists of rationals: sizes -/
def BQ (n k : Nat) (p : List RQ) : Prop := p.length ≤ n ∧ ∀ r ∈ p, SzQ k r
def GQ (n k : Nat) (p : List RQ) : Prop := p.length ≤ n ∧ ∀ r ∈ p, SzQ k r ∧ nv r.2 ≠ 0
def QB (n k : Nat) (q : List Rat) : Prop := q.length ≤ n ∧ ∀ c ∈ q, qz c ≤ k
/-- Do all mean numbers? -/
def gd (p : List RQ) : Bool := p.all fun r => decide (nv r.2 ≠ 0)

theorem getq_mem {p : List RQ} {i : Nat} (h : i < p.length) : p.getD i q0 ∈ p := by rw [List.getD, List.getElem?_eq_getElem h, Option.getD_some]; exact List.getElem_mem h
theorem BQ.get {n k i : Nat} {p : List RQ} (h : BQ n k p) (hi : i < p.length) : SzQ k (p.getD i q0) := h.2 _ (getq_mem hi)
theorem GQ.get {n k i : Nat} {p : List RQ} (h : GQ n k p) (hi : i < p.length) : SzQ k (p.getD i q0) := (h.2 _ (getq_mem hi)).1
theorem GQ.den {n k i : Nat} {p : List RQ} (h : GQ n k p) (hi : i < p.length) : nv (p.getD i q0).2 ≠ 0 := (h.2 _ (getq_mem hi)).2
theorem GQ.bq {n k : Nat} {p : List RQ} (h : GQ n k p) : BQ n k p := ⟨h.1, fun r hr => (h.2 r hr).1⟩
theorem gd_iff {p : List RQ} : gd p = true ↔ ∀ r ∈ p, nv r.2 ≠ 0 := by simp [gd]
theorem GQ.gd {n k : Nat} {p : List RQ} (h : GQ n k p) : gd p = true := gd_iff.mpr fun r hr => (h.2 r hr).2
theorem BQ.gq {n k : Nat} {p : List RQ} (h : BQ n k p) (g : gd p = true) : GQ n k p := ⟨h.1, fun r hr => ⟨h.2 r hr, gd_iff.mp g r hr⟩⟩
theorem BQ.mono {n k n' k' : Nat} {p : List RQ} (h : BQ n k p) (hn : n ≤ n') (hk : k ≤ k') : BQ n' k' p := ⟨Nat.le_trans h.1 hn, fun r hr => (h.2 r hr).mono hk⟩
theorem GQ.mono {n k n' k' : Nat} {p : List RQ} (h : GQ n k p) (hn : n ≤ n') (hk : k ≤ k') : GQ n' k' p := ⟨Nat.le_trans h.1 hn, fun r hr => ⟨(h.2 r hr).1.mono hk, (h.2 r hr).2⟩⟩
theorem QB.mono {n k n' k' : Nat} {q : List Rat} (h : QB n k q) (hn : n ≤ n') (hk : k ≤ k') : QB n' k' q := ⟨Nat.le_trans h.1 hn, fun r hr => Nat.le_trans (h.2 r hr) hk⟩
theorem cfq_qvs (p : List RQ) (i : Nat) : cfq (qvs p) i = qv (p.getD i q0) := by
  unfold cfq qvs
  rw [List.getD_eq_getElem?_getD, List.getD_eq_getElem?_getD, List.getElem?_map]
  cases p[i]? with
  | none => decide +kernel
  | some x => rfl
theorem GQ.qb {n k : Nat} {p : List RQ} (h : GQ n k p) : QB n k (qvs p) := ⟨by rw [qvs_len]; exact h.1, fun c hc => by
  obtain ⟨r, hr, rfl⟩ := List.mem_map.1 hc
  exact qz_raw (h.2 r hr).1 (h.2 r hr).2⟩
theorem QB.gq {n k : Nat} {q : List Rat} (h : QB n k q) : GQ n k (q.map crat) := ⟨by rw [List.length_map]; exact h.1, fun r hr => by
  obtain ⟨c, hc, rfl⟩ := List.mem_map.1 hr
  exact ⟨szq_crat (h.2 c hc), nv_crat0 c⟩⟩
theorem QB.trimq {n k : Nat} {q : List Rat} (h : QB n k q) : QB n k (trimq q) := ⟨Nat.le_trans (by rw [trimq_len]; exact tzq_le q) h.1, fun c hc => h.2 c (List.mem_of_mem_take hc)⟩
theorem QB.gqs {n k : Nat} {q : List Rat} (h : QB n k q) : GQ n k (cqs q) := h.trimq.gq
theorem QB.cz {n k : Nat} {q : List Rat} (h : QB n k q) (hk : 1 ≤ k) (i : Nat) : qz (cfq q i) ≤ k := by
  unfold cfq
  rw [List.getD_eq_getElem?_getD]
  cases hi : q[i]? with
  | none => rw [Option.getD_none, qz_zero]; exact hk
  | some x => exact h.2 x (List.mem_of_getElem? hi)
theorem QB.of {n k : Nat} {q : List Rat} (hl : q.length ≤ n) (h : ∀ i, qz (cfq q i) ≤ k) : QB n k q := ⟨hl, fun c hc => by
  obtain ⟨i, hi, rfl⟩ := List.getElem_of_mem hc
  have := h i
  rwa [cfq_lt hi] at this⟩
theorem qv_zero {r : RQ} (h : nv r.2 ≠ 0) : qv r = 0 ↔ iv r.1 = 0 := Rat.mkRat_eq_zero h
theorem takeq_snoc {q : List Rat} {i : Nat} (h : i < q.length) : q.take (i + 1) = q.take i ++ [cfq q i] := by
  rw [List.take_add_one]
  congr 1
  simp [cfq, List.getD, h]
theorem cratq_len (q : List Rat) : (q.map crat).length = q.length := List.length_map _
theorem cqs_len (q : List Rat) : (cqs q).length = tzq q := by rw [cqs, cratq_len, trimq_len]
theorem qvs_cqs (q : List Rat) : qvs (cqs q) = trimq q := qvs_map _

/-- Polynomials over the integers, over the rationals. -/
def qp (p : List Int) : List Rat := p.map fun z : Int => (z : Rat)
theorem cfq_qp (p : List Int) (k : Nat) : cfq (qp p) k = (cf p k : Rat) := by
  unfold cfq qp cf
  rw [List.getD_eq_getElem?_getD, List.getD_eq_getElem?_getD, List.getElem?_map]
  cases p[k]? <;> rfl
theorem qz_int (z : Int) : qz (z : Rat) ≤ max (zl z) 1 := by
  unfold qz
  rw [Rat.num_intCast, Rat.den_intCast]
  have : (wd 1).length = 1 := by decide +kernel
  omega
theorem PB.ofZ {n k : Nat} {p : List Int} (h : PB n k p) (hk : 1 ≤ k) : QB n k (qp p) := ⟨by simp [qp]; exact h.1, fun c hc => by
  obtain ⟨z, hz, rfl⟩ := List.mem_map.1 hc
  have := h.2 z hz
  have := qz_int z
  omega⟩

/-! ### The references -/

theorem hnormq_ok (p : List RQ) (h : GQ (2 ^ 40) (2 ^ 38) p) : AC Tryz.prog 93 [cqw p] none [cqp (qvs p)] := by
  refine AC.by_walk (rs := [.tmp 2]) ords Tryz.func93 (by rfl) (by rfl) (by rfl) (by rfl) (by rfl) ?_
  have hl := h.1
  have htl := tzq_le (qvs p)
  rw [qvs_len] at htl
  simp (disch := omega) only [wk, tis, Int.reduceNe, Int.reduceEq, Int.reduceLT, Int.reduceLE, Int.reduceAdd, Int.reduceSub, Int.reduceNeg, Int.reduceMul, Int.reduceToNat, Nat.reduceSub, Nat.reduceMul, Nat.reduceLeDiff, Nat.reduceAdd, Nat.reduceLT, Nat.reduceEqDiff, reduceCtorEq, ↓reduceIte, rats_len, rats_get, lay_rat, qrow_take, qrow_len, qrow_splice, qrow_row, rats_rows, rats_snoc, rats_set, rats_take, rats_rep, rats_nil, qrow_drop2, qrow_take2, qrow_drop1, qrow_spl0]
  refine aloop_by (fun f H => ∃ k : Nat, k ≤ p.length ∧ f 0 = .iv (.sl (rats p)) ∧ f 3 = .iv (.int .i64 k) ∧ tzq ((qvs p).take k) = tzq (qvs p)) (fun f H => (intAt f 3).toNat) ?_ ?_
  · exact ⟨p.length, Nat.le_refl _, by simp (disch := omega) only [wk, tis, Int.reduceNe, Int.reduceEq, Int.reduceLT, Int.reduceLE, Int.reduceAdd, Int.reduceSub, Int.reduceNeg, Int.reduceMul, Int.reduceToNat, Nat.reduceSub, Nat.reduceMul, Nat.reduceLeDiff, Nat.reduceAdd, Nat.reduceLT, Nat.reduceEqDiff, reduceCtorEq, ↓reduceIte, rats_len, rats_get, lay_rat, qrow_take, qrow_len, qrow_splice, qrow_row, rats_rows, rats_snoc, rats_set, rats_take, rats_rep, rats_nil, qrow_drop2, qrow_take2, qrow_drop1, qrow_spl0], by simp (disch := omega) only [wk, tis, Int.reduceNe, Int.reduceEq, Int.reduceLT, Int.reduceLE, Int.reduceAdd, Int.reduceSub, Int.reduceNeg, Int.reduceMul, Int.reduceToNat, Nat.reduceSub, Nat.reduceMul, Nat.reduceLeDiff, Nat.reduceAdd, Nat.reduceLT, Nat.reduceEqDiff, reduceCtorEq, ↓reduceIte, rats_len, rats_get, lay_rat, qrow_take, qrow_len, qrow_splice, qrow_row, rats_rows, rats_snoc, rats_set, rats_take, rats_rep, rats_nil, qrow_drop2, qrow_take2, qrow_drop1, qrow_spl0], by rw [← qvs_len p, List.take_length]⟩
  rintro f H ⟨k, hk, h0, h3, ht⟩
  rw [intAt_of h3]
  by_cases hc : 0 < (k : Int)
  · simp (disch := omega) only [wk, tis, Int.reduceNe, Int.reduceEq, Int.reduceLT, Int.reduceLE, Int.reduceAdd, Int.reduceSub, Int.reduceNeg, Int.reduceMul, Int.reduceToNat, Nat.reduceSub, Nat.reduceMul, Nat.reduceLeDiff, Nat.reduceAdd, Nat.reduceLT, Nat.reduceEqDiff, reduceCtorEq, ↓reduceIte, rats_len, rats_get, lay_rat, qrow_take, qrow_len, qrow_splice, qrow_row, rats_rows, rats_snoc, rats_set, rats_take, rats_rep, rats_nil, qrow_drop2, qrow_take2, qrow_drop1, qrow_spl0, h0, h3, hc]
    have ek : ((k : Int) - 1).toNat = k - 1 := by omega
    have ek' : k = (k - 1) + 1 := by omega
    rw [ek]
    have hr := h.get (i := k - 1) (by omega)
    refine call_by ((hS_ok (p.getD (k - 1) q0) (hr.1.mono (by omega)))) (by first | rfl | (simp only [tocvs, tocv, h0, h3, hc]; rfl) | (simp only [tocvs, tocv, toboxes, tobox, updH_at, Nat.reduceEqDiff, ↓reduceIte, h0, h3, hc]; rfl)) (by simp) ?_
    simp (disch := omega) only [wk, tis, Int.reduceNe, Int.reduceEq, Int.reduceLT, Int.reduceLE, Int.reduceAdd, Int.reduceSub, Int.reduceNeg, Int.reduceMul, Int.reduceToNat, Nat.reduceSub, Nat.reduceMul, Nat.reduceLeDiff, Nat.reduceAdd, Nat.reduceLT, Nat.reduceEqDiff, reduceCtorEq, ↓reduceIte, rats_len, rats_get, lay_rat, qrow_take, qrow_len, qrow_splice, qrow_row, rats_rows, rats_snoc, rats_set, rats_take, rats_rep, rats_nil, qrow_drop2, qrow_take2, qrow_drop1, qrow_spl0, h0, h3, hc]
    have hz' : (iv (p.getD (k - 1) q0).1).sign = 0 ↔ cfq (qvs p) (k - 1) = 0 := by rw [cfq_qvs, qv_zero (h.den (by omega))]; exact Int.sign_eq_zero_iff_zero
    refine if_by (fun hz => ?_) (fun hz => ?_)
    · simp (disch := omega) only [wk, tis, Int.reduceNe, Int.reduceEq, Int.reduceLT, Int.reduceLE, Int.reduceAdd, Int.reduceSub, Int.reduceNeg, Int.reduceMul, Int.reduceToNat, Nat.reduceSub, Nat.reduceMul, Nat.reduceLeDiff, Nat.reduceAdd, Nat.reduceLT, Nat.reduceEqDiff, reduceCtorEq, ↓reduceIte, rats_len, rats_get, lay_rat, qrow_take, qrow_len, qrow_splice, qrow_row, rats_rows, rats_snoc, rats_set, rats_take, rats_rep, rats_nil, qrow_drop2, qrow_take2, qrow_drop1, qrow_spl0, h0, h3]
      refine ⟨⟨k - 1, by omega, by omega, ?_⟩, by omega⟩
      rw [← tzq_take_zero (k := k - 1) (by rw [qvs_len]; omega) (hz'.mp hz), ← ek', ht]
    · have hk : k = tzq (qvs p) := by
        have := tzq_full (q := qvs p) (k := k - 1) (by rw [qvs_len]; omega) (fun e => hz (hz'.mpr e))
        rw [← ek', ht] at this; exact this.symm
      simp (disch := omega) only [wk, tis, Int.reduceNe, Int.reduceEq, Int.reduceLT, Int.reduceLE, Int.reduceAdd, Int.reduceSub, Int.reduceNeg, Int.reduceMul, Int.reduceToNat, Nat.reduceSub, Nat.reduceMul, Nat.reduceLeDiff, Nat.reduceAdd, Nat.reduceLT, Nat.reduceEqDiff, reduceCtorEq, ↓reduceIte, rats_len, rats_get, lay_rat, qrow_take, qrow_len, qrow_splice, qrow_row, rats_rows, rats_snoc, rats_set, rats_take, rats_rep, rats_nil, qrow_drop2, qrow_take2, qrow_drop1, qrow_spl0, h0, h3]
      subst hk
      refine aloop_nil 4 4 31 3 (by simp (disch := omega) only [wk, tis, Int.reduceNe, Int.reduceEq, Int.reduceLT, Int.reduceLE, Int.reduceAdd, Int.reduceSub, Int.reduceNeg, Int.reduceMul, Int.reduceToNat, Nat.reduceSub, Nat.reduceMul, Nat.reduceLeDiff, Nat.reduceAdd, Nat.reduceLT, Nat.reduceEqDiff, reduceCtorEq, ↓reduceIte, rats_len, rats_get, lay_rat, qrow_take, qrow_len, qrow_splice, qrow_row, rats_rows, rats_snoc, rats_set, rats_take, rats_rep, rats_nil, qrow_drop2, qrow_take2, qrow_drop1, qrow_spl0]) (fun f H => ∃ (i st : Nat), i ≤ tzq (qvs p) ∧ f 5 = .iv (.int .i64 i) ∧ f 0 = .iv (.sl (rats p)) ∧ f 3 = .iv (.int .i64 (tzq (qvs p))) ∧ f 4 = .hs 4 st ∧ H 4 = .blk false st 31 3 (rats (((qvs p).take i).map crat))) (fun f H => (tzq (qvs p) - intAt f 5).toNat) ?_ ?_
      · refine ⟨0, (H 4).stamp + 1, by omega, ?_⟩
        simp (disch := omega) only [wk, tis, Int.reduceNe, Int.reduceEq, Int.reduceLT, Int.reduceLE, Int.reduceAdd, Int.reduceSub, Int.reduceNeg, Int.reduceMul, Int.reduceToNat, Nat.reduceSub, Nat.reduceMul, Nat.reduceLeDiff, Nat.reduceAdd, Nat.reduceLT, Nat.reduceEqDiff, reduceCtorEq, ↓reduceIte, rats_len, rats_get, lay_rat, qrow_take, qrow_len, qrow_splice, qrow_row, rats_rows, rats_snoc, rats_set, rats_take, rats_rep, rats_nil, qrow_drop2, qrow_take2, qrow_drop1, qrow_spl0, ghostF, ghostH, List.take_zero, List.map_nil, h0, h3]
      rintro f H ⟨i, st, hi, hF⟩
      rw [intAt_of hF.1]
      simp (disch := omega) only [wk, tis, Int.reduceNe, Int.reduceEq, Int.reduceLT, Int.reduceLE, Int.reduceAdd, Int.reduceSub, Int.reduceNeg, Int.reduceMul, Int.reduceToNat, Nat.reduceSub, Nat.reduceMul, Nat.reduceLeDiff, Nat.reduceAdd, Nat.reduceLT, Nat.reduceEqDiff, reduceCtorEq, ↓reduceIte, rats_len, rats_get, lay_rat, qrow_take, qrow_len, qrow_splice, qrow_row, rats_rows, rats_snoc, rats_set, rats_take, rats_rep, rats_nil, qrow_drop2, qrow_take2, qrow_drop1, qrow_spl0, hF]
      refine if_by (fun hlt => ?_) (fun hlt => ?_)
      · have hq : (((qvs p).take i).map crat).length = i := by rw [List.length_map, List.length_take, qvs_len]; omega
        have hr := h.get (i := i) (by omega)
        have m := rR_ok (p.getD i q0).1 (p.getD i q0).2 hr.1 hr.2 (h.den (by omega))
        rw [show mkRat (iv (p.getD i q0).1) (nv (p.getD i q0).2) = cfq (qvs p) i from (cfq_qvs p i).symm] at m
        simp (disch := omega) only [wk, tis, Int.reduceNe, Int.reduceEq, Int.reduceLT, Int.reduceLE, Int.reduceAdd, Int.reduceSub, Int.reduceNeg, Int.reduceMul, Int.reduceToNat, Nat.reduceSub, Nat.reduceMul, Nat.reduceLeDiff, Nat.reduceAdd, Nat.reduceLT, Nat.reduceEqDiff, reduceCtorEq, ↓reduceIte, rats_len, rats_get, lay_rat, qrow_take, qrow_len, qrow_splice, qrow_row, rats_rows, rats_snoc, rats_set, rats_take, rats_rep, rats_nil, qrow_drop2, qrow_take2, qrow_drop1, qrow_spl0, hF, hq]
        refine ⟨tmps_by (by kernel_rfl), ?_⟩
        refine call_by (m) (by first | rfl | (simp only [tocvs, tocv, hF, hq]; rfl) | (simp only [tocvs, tocv, toboxes, tobox, updH_at, Nat.reduceEqDiff, ↓reduceIte, hF, hq]; rfl)) (by simp) ?_
        simp (disch := omega) only [wk, tis, Int.reduceNe, Int.reduceEq, Int.reduceLT, Int.reduceLE, Int.reduceAdd, Int.reduceSub, Int.reduceNeg, Int.reduceMul, Int.reduceToNat, Nat.reduceSub, Nat.reduceMul, Nat.reduceLeDiff, Nat.reduceAdd, Nat.reduceLT, Nat.reduceEqDiff, reduceCtorEq, ↓reduceIte, rats_len, rats_get, lay_rat, qrow_take, qrow_len, qrow_splice, qrow_row, rats_rows, rats_snoc, rats_set, rats_take, rats_rep, rats_nil, qrow_drop2, qrow_take2, qrow_drop1, qrow_spl0, hF, hq]
        first | exact log_by (by kernel_rfl) | refine ⟨log_by (by kernel_rfl), ?_⟩
        have e := takeq_snoc (q := qvs p) (i := i) (by rw [qvs_len]; omega)
        refine ⟨⟨i + 1, st + 1, by omega, ?_⟩, by omega⟩
        rw [e, List.map_append]
        exact ⟨by omega, rfl, rfl⟩
      · simp (disch := omega) only [wk, tis, Int.reduceNe, Int.reduceEq, Int.reduceLT, Int.reduceLE, Int.reduceAdd, Int.reduceSub, Int.reduceNeg, Int.reduceMul, Int.reduceToNat, Nat.reduceSub, Nat.reduceMul, Nat.reduceLeDiff, Nat.reduceAdd, Nat.reduceLT, Nat.reduceEqDiff, reduceCtorEq, ↓reduceIte, rats_len, rats_get, lay_rat, qrow_take, qrow_len, qrow_splice, qrow_row, rats_rows, rats_snoc, rats_set, rats_take, rats_rep, rats_nil, qrow_drop2, qrow_take2, qrow_drop1, qrow_spl0, hF]
        have ei : i = tzq (qvs p) := by omega
        rw [ei]
        try rfl
  · have hk : k = tzq (qvs p) := by
      obtain rfl : k = 0 := by omega
      rw [← ht]; rfl
    simp (disch := omega) only [wk, tis, Int.reduceNe, Int.reduceEq, Int.reduceLT, Int.reduceLE, Int.reduceAdd, Int.reduceSub, Int.reduceNeg, Int.reduceMul, Int.reduceToNat, Nat.reduceSub, Nat.reduceMul, Nat.reduceLeDiff, Nat.reduceAdd, Nat.reduceLT, Nat.reduceEqDiff, reduceCtorEq, ↓reduceIte, rats_len, rats_get, lay_rat, qrow_take, qrow_len, qrow_splice, qrow_row, rats_rows, rats_snoc, rats_set, rats_take, rats_rep, rats_nil, qrow_drop2, qrow_take2, qrow_drop1, qrow_spl0, h0, h3, hc]
    subst hk
    refine aloop_nil 4 4 31 3 (by simp (disch := omega) only [wk, tis, Int.reduceNe, Int.reduceEq, Int.reduceLT, Int.reduceLE, Int.reduceAdd, Int.reduceSub, Int.reduceNeg, Int.reduceMul, Int.reduceToNat, Nat.reduceSub, Nat.reduceMul, Nat.reduceLeDiff, Nat.reduceAdd, Nat.reduceLT, Nat.reduceEqDiff, reduceCtorEq, ↓reduceIte, rats_len, rats_get, lay_rat, qrow_take, qrow_len, qrow_splice, qrow_row, rats_rows, rats_snoc, rats_set, rats_take, rats_rep, rats_nil, qrow_drop2, qrow_take2, qrow_drop1, qrow_spl0]) (fun f H => ∃ (i st : Nat), i ≤ tzq (qvs p) ∧ f 5 = .iv (.int .i64 i) ∧ f 0 = .iv (.sl (rats p)) ∧ f 3 = .iv (.int .i64 (tzq (qvs p))) ∧ f 4 = .hs 4 st ∧ H 4 = .blk false st 31 3 (rats (((qvs p).take i).map crat))) (fun f H => (tzq (qvs p) - intAt f 5).toNat) ?_ ?_
    · refine ⟨0, (H 4).stamp + 1, by omega, ?_⟩
      simp (disch := omega) only [wk, tis, Int.reduceNe, Int.reduceEq, Int.reduceLT, Int.reduceLE, Int.reduceAdd, Int.reduceSub, Int.reduceNeg, Int.reduceMul, Int.reduceToNat, Nat.reduceSub, Nat.reduceMul, Nat.reduceLeDiff, Nat.reduceAdd, Nat.reduceLT, Nat.reduceEqDiff, reduceCtorEq, ↓reduceIte, rats_len, rats_get, lay_rat, qrow_take, qrow_len, qrow_splice, qrow_row, rats_rows, rats_snoc, rats_set, rats_take, rats_rep, rats_nil, qrow_drop2, qrow_take2, qrow_drop1, qrow_spl0, ghostF, ghostH, List.take_zero, List.map_nil, h0, h3]
    rintro f H ⟨i, st, hi, hF⟩
    rw [intAt_of hF.1]
    simp (disch := omega) only [wk, tis, Int.reduceNe, Int.reduceEq, Int.reduceLT, Int.reduceLE, Int.reduceAdd, Int.reduceSub, Int.reduceNeg, Int.reduceMul, Int.reduceToNat, Nat.reduceSub, Nat.reduceMul, Nat.reduceLeDiff, Nat.reduceAdd, Nat.reduceLT, Nat.reduceEqDiff, reduceCtorEq, ↓reduceIte, rats_len, rats_get, lay_rat, qrow_take, qrow_len, qrow_splice, qrow_row, rats_rows, rats_snoc, rats_set, rats_take, rats_rep, rats_nil, qrow_drop2, qrow_take2, qrow_drop1, qrow_spl0, hF]
    refine if_by (fun hlt => ?_) (fun hlt => ?_)
    · have hq : (((qvs p).take i).map crat).length = i := by rw [List.length_map, List.length_take, qvs_len]; omega
      have hr := h.get (i := i) (by omega)
      have m := rR_ok (p.getD i q0).1 (p.getD i q0).2 hr.1 hr.2 (h.den (by omega))
      rw [show mkRat (iv (p.getD i q0).1) (nv (p.getD i q0).2) = cfq (qvs p) i from (cfq_qvs p i).symm] at m
      simp (disch := omega) only [wk, tis, Int.reduceNe, Int.reduceEq, Int.reduceLT, Int.reduceLE, Int.reduceAdd, Int.reduceSub, Int.reduceNeg, Int.reduceMul, Int.reduceToNat, Nat.reduceSub, Nat.reduceMul, Nat.reduceLeDiff, Nat.reduceAdd, Nat.reduceLT, Nat.reduceEqDiff, reduceCtorEq, ↓reduceIte, rats_len, rats_get, lay_rat, qrow_take, qrow_len, qrow_splice, qrow_row, rats_rows, rats_snoc, rats_set, rats_take, rats_rep, rats_nil, qrow_drop2, qrow_take2, qrow_drop1, qrow_spl0, hF, hq]
      refine ⟨tmps_by (by kernel_rfl), ?_⟩
      refine call_by (m) (by first | rfl | (simp only [tocvs, tocv, hF, hq]; rfl) | (simp only [tocvs, tocv, toboxes, tobox, updH_at, Nat.reduceEqDiff, ↓reduceIte, hF, hq]; rfl)) (by simp) ?_
      simp (disch := omega) only [wk, tis, Int.reduceNe, Int.reduceEq, Int.reduceLT, Int.reduceLE, Int.reduceAdd, Int.reduceSub, Int.reduceNeg, Int.reduceMul, Int.reduceToNat, Nat.reduceSub, Nat.reduceMul, Nat.reduceLeDiff, Nat.reduceAdd, Nat.reduceLT, Nat.reduceEqDiff, reduceCtorEq, ↓reduceIte, rats_len, rats_get, lay_rat, qrow_take, qrow_len, qrow_splice, qrow_row, rats_rows, rats_snoc, rats_set, rats_take, rats_rep, rats_nil, qrow_drop2, qrow_take2, qrow_drop1, qrow_spl0, hF, hq]
      first | exact log_by (by kernel_rfl) | refine ⟨log_by (by kernel_rfl), ?_⟩
      have e := takeq_snoc (q := qvs p) (i := i) (by rw [qvs_len]; omega)
      refine ⟨⟨i + 1, st + 1, by omega, ?_⟩, by omega⟩
      rw [e, List.map_append]
      exact ⟨by omega, rfl, rfl⟩
    · simp (disch := omega) only [wk, tis, Int.reduceNe, Int.reduceEq, Int.reduceLT, Int.reduceLE, Int.reduceAdd, Int.reduceSub, Int.reduceNeg, Int.reduceMul, Int.reduceToNat, Nat.reduceSub, Nat.reduceMul, Nat.reduceLeDiff, Nat.reduceAdd, Nat.reduceLT, Nat.reduceEqDiff, reduceCtorEq, ↓reduceIte, rats_len, rats_get, lay_rat, qrow_take, qrow_len, qrow_splice, qrow_row, rats_rows, rats_snoc, rats_set, rats_take, rats_rep, rats_nil, qrow_drop2, qrow_take2, qrow_drop1, qrow_spl0, hF]
      have ei : i = tzq (qvs p) := by omega
      rw [ei]
      try rfl

theorem hgood_ok (l : List RQ) (h : BQ (2 ^ 40) (2 ^ 38) l) : AC Tryz.prog 79 [cqw l] none [cb (gd l)] := by
  refine AC.by_walk (rs := [.tmp 2]) ords Tryz.func79 (by rfl) (by rfl) (by rfl) (by rfl) (by rfl) ?_
  have hl := h.1
  simp (disch := omega) only [wk, tis, Int.reduceNe, Int.reduceEq, Int.reduceLT, Int.reduceLE, Int.reduceAdd, Int.reduceSub, Int.reduceNeg, Int.reduceMul, Int.reduceToNat, Nat.reduceSub, Nat.reduceMul, Nat.reduceLeDiff, Nat.reduceAdd, Nat.reduceLT, Nat.reduceEqDiff, reduceCtorEq, ↓reduceIte, rats_len, rats_get, lay_rat, qrow_take, qrow_len, qrow_splice, qrow_row, rats_rows, rats_snoc, rats_set, rats_take, rats_rep, rats_nil, qrow_drop2, qrow_take2, qrow_drop1, qrow_spl0]
  refine aloop_by (fun f H => ∃ (i : Nat), i ≤ l.length ∧ (∀ j, j < i → nv (l.getD j q0).2 ≠ 0) ∧ f 3 = .iv (.int .i64 i) ∧ f 0 = .iv (.sl (rats l))) (fun f H => (l.length - intAt f 3).toNat) ?_ ?_
  · refine ⟨0, by omega, fun j hj => by omega, ?_⟩
    simp (disch := omega) only [wk, tis, Int.reduceNe, Int.reduceEq, Int.reduceLT, Int.reduceLE, Int.reduceAdd, Int.reduceSub, Int.reduceNeg, Int.reduceMul, Int.reduceToNat, Nat.reduceSub, Nat.reduceMul, Nat.reduceLeDiff, Nat.reduceAdd, Nat.reduceLT, Nat.reduceEqDiff, reduceCtorEq, ↓reduceIte, rats_len, rats_get, lay_rat, qrow_take, qrow_len, qrow_splice, qrow_row, rats_rows, rats_snoc, rats_set, rats_take, rats_rep, rats_nil, qrow_drop2, qrow_take2, qrow_drop1, qrow_spl0]
  rintro f H ⟨i, hi, hz, hF⟩
  rw [intAt_of hF.1]
  simp (disch := omega) only [wk, tis, Int.reduceNe, Int.reduceEq, Int.reduceLT, Int.reduceLE, Int.reduceAdd, Int.reduceSub, Int.reduceNeg, Int.reduceMul, Int.reduceToNat, Nat.reduceSub, Nat.reduceMul, Nat.reduceLeDiff, Nat.reduceAdd, Nat.reduceLT, Nat.reduceEqDiff, reduceCtorEq, ↓reduceIte, rats_len, rats_get, lay_rat, qrow_take, qrow_len, qrow_splice, qrow_row, rats_rows, rats_snoc, rats_set, rats_take, rats_rep, rats_nil, qrow_drop2, qrow_take2, qrow_drop1, qrow_spl0, hF]
  refine if_by (fun hlt => ?_) (fun hlt => ?_)
  · have hr := h.get (i := i) (by omega)
    simp (disch := omega) only [wk, tis, Int.reduceNe, Int.reduceEq, Int.reduceLT, Int.reduceLE, Int.reduceAdd, Int.reduceSub, Int.reduceNeg, Int.reduceMul, Int.reduceToNat, Nat.reduceSub, Nat.reduceMul, Nat.reduceLeDiff, Nat.reduceAdd, Nat.reduceLT, Nat.reduceEqDiff, reduceCtorEq, ↓reduceIte, rats_len, rats_get, lay_rat, qrow_take, qrow_len, qrow_splice, qrow_row, rats_rows, rats_snoc, rats_set, rats_take, rats_rep, rats_nil, qrow_drop2, qrow_take2, qrow_drop1, qrow_spl0, hF]
    refine call_by ((hok_ok (l.getD i q0) ⟨Nat.le_trans hr.2.1 (by omega), hr.2.2⟩)) (by first | rfl | (simp only [tocvs, tocv, hF]; rfl) | (simp only [tocvs, tocv, toboxes, tobox, updH_at, Nat.reduceEqDiff, ↓reduceIte, hF]; rfl)) (by simp) ?_
    simp (disch := omega) only [wk, tis, Int.reduceNe, Int.reduceEq, Int.reduceLT, Int.reduceLE, Int.reduceAdd, Int.reduceSub, Int.reduceNeg, Int.reduceMul, Int.reduceToNat, Nat.reduceSub, Nat.reduceMul, Nat.reduceLeDiff, Nat.reduceAdd, Nat.reduceLT, Nat.reduceEqDiff, reduceCtorEq, ↓reduceIte, rats_len, rats_get, lay_rat, qrow_take, qrow_len, qrow_splice, qrow_row, rats_rows, rats_snoc, rats_set, rats_take, rats_rep, rats_nil, qrow_drop2, qrow_take2, qrow_drop1, qrow_spl0, hF]
    by_cases h0 : nv (l.getD i q0).2 = 0
    · have hb : gd l = false := by
        cases hg : gd l with
        | false => rfl
        | true => exact (gd_iff.mp hg _ (getq_mem (by omega)) h0).elim
      rw [hb]
      simp (disch := omega) only [wk, tis, Int.reduceNe, Int.reduceEq, Int.reduceLT, Int.reduceLE, Int.reduceAdd, Int.reduceSub, Int.reduceNeg, Int.reduceMul, Int.reduceToNat, Nat.reduceSub, Nat.reduceMul, Nat.reduceLeDiff, Nat.reduceAdd, Nat.reduceLT, Nat.reduceEqDiff, reduceCtorEq, ↓reduceIte, rats_len, rats_get, lay_rat, qrow_take, qrow_len, qrow_splice, qrow_row, rats_rows, rats_snoc, rats_set, rats_take, rats_rep, rats_nil, qrow_drop2, qrow_take2, qrow_drop1, qrow_spl0, hF, h0, not_true_eq_false, decide_false, Bool.not_false]
    · simp (disch := omega) only [wk, tis, Int.reduceNe, Int.reduceEq, Int.reduceLT, Int.reduceLE, Int.reduceAdd, Int.reduceSub, Int.reduceNeg, Int.reduceMul, Int.reduceToNat, Nat.reduceSub, Nat.reduceMul, Nat.reduceLeDiff, Nat.reduceAdd, Nat.reduceLT, Nat.reduceEqDiff, reduceCtorEq, ↓reduceIte, rats_len, rats_get, lay_rat, qrow_take, qrow_len, qrow_splice, qrow_row, rats_rows, rats_snoc, rats_set, rats_take, rats_rep, rats_nil, qrow_drop2, qrow_take2, qrow_drop1, qrow_spl0, hF, h0, not_false_eq_true, decide_true, Bool.not_true]
      refine ⟨⟨i + 1, by omega, fun j hj => ?_, by omega⟩, by omega⟩
      rcases Nat.lt_or_ge j i with hj' | hj'
      · exact hz j hj'
      · obtain rfl : j = i := by omega
        exact h0
  · have hg : gd l = true := gd_iff.mpr fun r hr => by
      obtain ⟨j, hj, rfl⟩ := List.getElem_of_mem hr
      have := hz j (by omega)
      rwa [List.getD, List.getElem?_eq_getElem hj, Option.getD_some] at this
    rw [hg]
    simp (disch := omega) only [wk, tis, Int.reduceNe, Int.reduceEq, Int.reduceLT, Int.reduceLE, Int.reduceAdd, Int.reduceSub, Int.reduceNeg, Int.reduceMul, Int.reduceToNat, Nat.reduceSub, Nat.reduceMul, Nat.reduceLeDiff, Nat.reduceAdd, Nat.reduceLT, Nat.reduceEqDiff, reduceCtorEq, ↓reduceIte, rats_len, rats_get, lay_rat, qrow_take, qrow_len, qrow_splice, qrow_row, rats_rows, rats_snoc, rats_set, rats_take, rats_rep, rats_nil, qrow_drop2, qrow_take2, qrow_drop1, qrow_spl0, hF]

theorem hoverq_ok (p : List RI) (h : RP (2 ^ 40) (2 ^ 38) p) : AC Tryz.prog 75 [cw p] none [cqp (qp (pv p))] := by
  refine AC.by_walk (rs := [.tmp 2]) ords Tryz.func75 (by rfl) (by rfl) (by rfl) (by rfl) (by rfl) ?_
  have hl := h.1
  have hql : (qp (pv p)).length = p.length := by simp [qp, pv_len]
  simp (disch := omega) only [wk, tis, Int.reduceNe, Int.reduceEq, Int.reduceLT, Int.reduceLE, Int.reduceAdd, Int.reduceSub, Int.reduceNeg, Int.reduceMul, Int.reduceToNat, Nat.reduceSub, Nat.reduceMul, Nat.reduceLeDiff, Nat.reduceAdd, Nat.reduceLT, Nat.reduceEqDiff, reduceCtorEq, ↓reduceIte, rats_len, rats_get, lay_rat, qrow_take, qrow_len, qrow_splice, qrow_row, rats_rows, rats_snoc, rats_set, rats_take, rats_rep, rats_nil, qrow_drop2, qrow_take2, qrow_drop1, qrow_spl0]
  refine aloop_nil 3 3 31 3 (by simp (disch := omega) only [wk, tis, Int.reduceNe, Int.reduceEq, Int.reduceLT, Int.reduceLE, Int.reduceAdd, Int.reduceSub, Int.reduceNeg, Int.reduceMul, Int.reduceToNat, Nat.reduceSub, Nat.reduceMul, Nat.reduceLeDiff, Nat.reduceAdd, Nat.reduceLT, Nat.reduceEqDiff, reduceCtorEq, ↓reduceIte, rats_len, rats_get, lay_rat, qrow_take, qrow_len, qrow_splice, qrow_row, rats_rows, rats_snoc, rats_set, rats_take, rats_rep, rats_nil, qrow_drop2, qrow_take2, qrow_drop1, qrow_spl0]) (fun f H => ∃ (i st : Nat), i ≤ p.length ∧ f 4 = .iv (.int .i64 i) ∧ f 0 = .iv (.sl (raws p)) ∧ f 3 = .hs 3 st ∧ H 3 = .blk false st 31 3 (rats (((qp (pv p)).take i).map crat))) (fun f H => (p.length - intAt f 4).toNat) ?_ ?_
  · refine ⟨0, 1, by omega, ?_⟩
    simp (disch := omega) only [wk, tis, Int.reduceNe, Int.reduceEq, Int.reduceLT, Int.reduceLE, Int.reduceAdd, Int.reduceSub, Int.reduceNeg, Int.reduceMul, Int.reduceToNat, Nat.reduceSub, Nat.reduceMul, Nat.reduceLeDiff, Nat.reduceAdd, Nat.reduceLT, Nat.reduceEqDiff, reduceCtorEq, ↓reduceIte, rats_len, rats_get, lay_rat, qrow_take, qrow_len, qrow_splice, qrow_row, rats_rows, rats_snoc, rats_set, rats_take, rats_rep, rats_nil, qrow_drop2, qrow_take2, qrow_drop1, qrow_spl0, ghostF, ghostH, List.take_zero, List.map_nil]
  rintro f H ⟨i, st, hi, hF⟩
  rw [intAt_of hF.1]
  simp (disch := omega) only [wk, tis, Int.reduceNe, Int.reduceEq, Int.reduceLT, Int.reduceLE, Int.reduceAdd, Int.reduceSub, Int.reduceNeg, Int.reduceMul, Int.reduceToNat, Nat.reduceSub, Nat.reduceMul, Nat.reduceLeDiff, Nat.reduceAdd, Nat.reduceLT, Nat.reduceEqDiff, reduceCtorEq, ↓reduceIte, rats_len, rats_get, lay_rat, qrow_take, qrow_len, qrow_splice, qrow_row, rats_rows, rats_snoc, rats_set, rats_take, rats_rep, rats_nil, qrow_drop2, qrow_take2, qrow_drop1, qrow_spl0, hF]
  refine if_by (fun hlt => ?_) (fun hlt => ?_)
  · have hq : (((qp (pv p)).take i).map crat).length = i := by rw [List.length_map, List.length_take, hql]; omega
    have m := hZ_ok (p.getD i (false, [])) (h.get i)
    rw [← cf_pv, ← cfq_qp] at m
    simp (disch := omega) only [wk, tis, Int.reduceNe, Int.reduceEq, Int.reduceLT, Int.reduceLE, Int.reduceAdd, Int.reduceSub, Int.reduceNeg, Int.reduceMul, Int.reduceToNat, Nat.reduceSub, Nat.reduceMul, Nat.reduceLeDiff, Nat.reduceAdd, Nat.reduceLT, Nat.reduceEqDiff, reduceCtorEq, ↓reduceIte, rats_len, rats_get, lay_rat, qrow_take, qrow_len, qrow_splice, qrow_row, rats_rows, rats_snoc, rats_set, rats_take, rats_rep, rats_nil, qrow_drop2, qrow_take2, qrow_drop1, qrow_spl0, hF, hq]
    refine call_by (m) (by first | rfl | (simp only [tocvs, tocv, hF, hq]; rfl) | (simp only [tocvs, tocv, toboxes, tobox, updH_at, Nat.reduceEqDiff, ↓reduceIte, hF, hq]; rfl)) (by simp) ?_
    simp (disch := omega) only [wk, tis, Int.reduceNe, Int.reduceEq, Int.reduceLT, Int.reduceLE, Int.reduceAdd, Int.reduceSub, Int.reduceNeg, Int.reduceMul, Int.reduceToNat, Nat.reduceSub, Nat.reduceMul, Nat.reduceLeDiff, Nat.reduceAdd, Nat.reduceLT, Nat.reduceEqDiff, reduceCtorEq, ↓reduceIte, rats_len, rats_get, lay_rat, qrow_take, qrow_len, qrow_splice, qrow_row, rats_rows, rats_snoc, rats_set, rats_take, rats_rep, rats_nil, qrow_drop2, qrow_take2, qrow_drop1, qrow_spl0, hF, hq]
    have e := takeq_snoc (q := qp (pv p)) (i := i) (by omega)
    refine ⟨⟨i + 1, st + 1, by omega, ?_⟩, by omega⟩
    rw [e, List.map_append]
    exact ⟨by omega, rfl, rfl⟩
  · simp (disch := omega) only [wk, tis, Int.reduceNe, Int.reduceEq, Int.reduceLT, Int.reduceLE, Int.reduceAdd, Int.reduceSub, Int.reduceNeg, Int.reduceMul, Int.reduceToNat, Nat.reduceSub, Nat.reduceMul, Nat.reduceLeDiff, Nat.reduceAdd, Nat.reduceLT, Nat.reduceEqDiff, reduceCtorEq, ↓reduceIte, rats_len, rats_get, lay_rat, qrow_take, qrow_len, qrow_splice, qrow_row, rats_rows, rats_snoc, rats_set, rats_take, rats_rep, rats_nil, qrow_drop2, qrow_take2, qrow_drop1, qrow_spl0, hF]
    rw [List.take_of_length_le (by omega)] at hF
    have b := PB.ofZ (h.pv.mono (k' := 2 ^ 38) (Nat.le_refl _) (by omega)) (by omega)
    have m := hnormq_ok ((qp (pv p)).map crat) b.gq
    rw [qvs_map] at m
    refine call_by (m) (by first | rfl | (simp only [tocvs, tocv, hF]; rfl) | (simp only [tocvs, tocv, toboxes, tobox, updH_at, Nat.reduceEqDiff, ↓reduceIte, hF]; rfl)) (by simp) ?_
    simp (disch := omega) only [wk, tis, Int.reduceNe, Int.reduceEq, Int.reduceLT, Int.reduceLE, Int.reduceAdd, Int.reduceSub, Int.reduceNeg, Int.reduceMul, Int.reduceToNat, Nat.reduceSub, Nat.reduceMul, Nat.reduceLeDiff, Nat.reduceAdd, Nat.reduceLT, Nat.reduceEqDiff, reduceCtorEq, ↓reduceIte, rats_len, rats_get, lay_rat, qrow_take, qrow_len, qrow_splice, qrow_row, rats_rows, rats_snoc, rats_set, rats_take, rats_rep, rats_nil, qrow_drop2, qrow_take2, qrow_drop1, qrow_spl0, hF]
end Go.Proofs.YtjadkhkgmdikiaaGreat
