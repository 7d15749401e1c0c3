/-
  Contracts of the functions that the law reaches.
-/
import Derived.Test.YtjadkhkgmdikiaaGreatL98M
namespace Go.Proofs.YtjadkhkgmdikiaaGreat
open Go Go.Proofs Go.AL
set_option linter.unusedSimpArgs false
set_option linter.unusedVariables false

/-! ### Over a number -/
def divl (L : List Int) (D : Int) : List Rat := L.map fun c : Int => (c : Rat) / (D : Rat)
theorem divl_len (L : List Int) (D : Int) : (divl L D).length = L.length := List.length_map _
theorem zero_divr (x : Rat) : (0 : Rat) / x = 0 := by rw [Rat.div_def, Rat.zero_mul]
theorem cfq_divl (L : List Int) (D : Int) (k : Nat) : cfq (divl L D) k = (cf L k : Rat) / (D : Rat) := by
  unfold divl cfq cf
  rw [List.getD_eq_getElem?_getD, List.getD_eq_getElem?_getD, List.getElem?_map]
  cases L[k]? with
  | none => simp only [Option.map_none, Option.getD_none]; rw [Rat.intCast_zero, zero_divr]
  | some x => rfl
theorem qz_divn {c : Int} {d M : Nat} (hd : d ≠ 0) (hc : zl c ≤ M) (hw : (wd d).length ≤ M) : qz ((c : Rat) / (((d : Nat) : Int) : Rat)) ≤ M := by
  rw [Rat.intCast_natCast, ← Rat.mkRat_eq_div]
  exact qz_mk hd hc hw
theorem QB.divl {n M : Nat} {L : List Int} {d : Nat} (h : PB n M L) (hd : d ≠ 0) (hw : (wd d).length ≤ M) : QB n M (divl L (d : Int)) := .of (by rw [divl_len]; exact h.1) fun i => by
  rw [cfq_divl]
  exact qz_divn hd (h.cf i) hw

theorem qover_ok (L : List Int) (d e : Nat) (hL : PB (2 ^ 31) (2 ^ 37) L) (hd : (wd d).length ≤ 2 ^ 35) (he : (wd e).length ≤ 2 ^ 35) (hd0 : d ≠ 0) (he0 : e ≠ 0) : AC Tryz.prog 121 [cw (L.map canon), cl (wd d), cl (wd e)] none [cqp (divl L ((d * e : Nat) : Int)), ci 0] := by
  have hl := hL.1
  have hq : (L.map canon).length = L.length := List.length_map _
  have hrl := divl_len L ((d * e : Nat) : Int)
  have n1 := znat_ok false d (by omega)
  have n2 := znat_ok false e (by omega)
  rw [sgf] at n1 n2
  have m := zmul_ok (canon (d : Int)) (canon (e : Int)) ((sz_canon _).mono (by rw [zl_nat]; omega)) ((sz_canon _).mono (by rw [zl_nat]; omega))
  rw [iv_canon, iv_canon, ← Int.natCast_mul] at m
  have hde : d * e ≠ 0 := Nat.mul_ne_zero hd0 he0
  have hw : (wd (d * e)).length ≤ 2 ^ 35 + 2 ^ 35 := wd_len2 hd he
  have hR : QB (2 ^ 40) (2 ^ 38) (divl L ((d * e : Nat) : Int)) := (QB.divl hL hde (by omega)).mono (by omega) (by omega)
  refine AC.by_walk (rs := [.tmp 6, .tmp 7]) ords Tryz.func121 (by rfl) (by rfl) (by rfl) (by rfl) (by rfl) ?_
  simp (disch := omega) only [wk, tis, Int.reduceNe, Int.reduceEq, Int.reduceLT, Int.reduceLE, Int.reduceAdd, Int.reduceSub, Int.reduceNeg, Int.reduceMul, Int.reduceToNat, Nat.reduceSub, Nat.reduceMul, Nat.reduceLeDiff, Nat.reduceAdd, Nat.reduceLT, Nat.reduceEqDiff, reduceCtorEq, ↓reduceIte, rqs]
  refine call_by (n1) (by rfl) (by simp) ?_
  simp (disch := omega) only [wk, tis, Int.reduceNe, Int.reduceEq, Int.reduceLT, Int.reduceLE, Int.reduceAdd, Int.reduceSub, Int.reduceNeg, Int.reduceMul, Int.reduceToNat, Nat.reduceSub, Nat.reduceMul, Nat.reduceLeDiff, Nat.reduceAdd, Nat.reduceLT, Nat.reduceEqDiff, reduceCtorEq, ↓reduceIte, rqs]
  refine call_by (n2) (by rfl) (by simp) ?_
  simp (disch := omega) only [wk, tis, Int.reduceNe, Int.reduceEq, Int.reduceLT, Int.reduceLE, Int.reduceAdd, Int.reduceSub, Int.reduceNeg, Int.reduceMul, Int.reduceToNat, Nat.reduceSub, Nat.reduceMul, Nat.reduceLeDiff, Nat.reduceAdd, Nat.reduceLT, Nat.reduceEqDiff, reduceCtorEq, ↓reduceIte, rqs]
  refine call_by (m) (by rfl) (by simp) ?_
  simp (disch := omega) only [wk, tis, Int.reduceNe, Int.reduceEq, Int.reduceLT, Int.reduceLE, Int.reduceAdd, Int.reduceSub, Int.reduceNeg, Int.reduceMul, Int.reduceToNat, Nat.reduceSub, Nat.reduceMul, Nat.reduceLeDiff, Nat.reduceAdd, Nat.reduceLT, Nat.reduceEqDiff, reduceCtorEq, ↓reduceIte, rqs]
  refine aloop_nil 9 9 31 3 (by simp (disch := omega) only [wk, tis, Int.reduceNe, Int.reduceEq, Int.reduceLT, Int.reduceLE, Int.reduceAdd, Int.reduceSub, Int.reduceNeg, Int.reduceMul, Int.reduceToNat, Nat.reduceSub, Nat.reduceMul, Nat.reduceLeDiff, Nat.reduceAdd, Nat.reduceLT, Nat.reduceEqDiff, reduceCtorEq, ↓reduceIte, rqs]) (fun f H => ∃ (i st st8 : Nat), i ≤ L.length ∧ f 21 = .iv (.int .i64 i) ∧ f 19 = .iv (.sl (raws (L.map canon))) ∧ f 20 = .iv (.int .i64 L.length) ∧ f 8 = .hp 8 st8 0 0 ∧ H 8 = .blk false st8 29 2 [prow (canon ((d * e : Nat) : Int))] ∧ f 9 = .hs 9 st ∧ H 9 = .blk false st 31 3 (rats (((divl L ((d * e : Nat) : Int)).take i).map crat))) (fun f H => (L.length - intAt f 21).toNat) ?_ ?_
  · refine ⟨0, 1, 1, by omega, ?_⟩
    simp (disch := omega) only [wk, tis, Int.reduceNe, Int.reduceEq, Int.reduceLT, Int.reduceLE, Int.reduceAdd, Int.reduceSub, Int.reduceNeg, Int.reduceMul, Int.reduceToNat, Nat.reduceSub, Nat.reduceMul, Nat.reduceLeDiff, Nat.reduceAdd, Nat.reduceLT, Nat.reduceEqDiff, reduceCtorEq, ↓reduceIte, rqs, ghostF, ghostH, hq, List.take_zero, List.map_nil]
  rintro f H ⟨i, st, st8, hi, hF⟩
  rw [intAt_of hF.1]
  simp (disch := omega) only [wk, tis, Int.reduceNe, Int.reduceEq, Int.reduceLT, Int.reduceLE, Int.reduceAdd, Int.reduceSub, Int.reduceNeg, Int.reduceMul, Int.reduceToNat, Nat.reduceSub, Nat.reduceMul, Nat.reduceLeDiff, Nat.reduceAdd, Nat.reduceLT, Nat.reduceEqDiff, reduceCtorEq, ↓reduceIte, rqs, hF]
  refine if_by (fun hlt => ?_) (fun hlt => ?_)
  · have hlt' : i < L.length := by omega
    have hrq : (((divl L ((d * e : Nat) : Int)).take i).map crat).length = i := by rw [List.length_map, List.length_take]; omega
    have e1 := canon_getD L i
    have hz := hL.cf i
    have k := qmake_ok (canon (cf L i)) (canon ((d * e : Nat) : Int)) ((sz_canon _).mono (by omega)) ((sz_canon _).mono (by rw [zl_nat]; omega)) (by rw [iv_canon]; omega)
    rw [iv_canon, iv_canon, ← cfq_divl] at k
    simp (disch := omega) only [wk, tis, Int.reduceNe, Int.reduceEq, Int.reduceLT, Int.reduceLE, Int.reduceAdd, Int.reduceSub, Int.reduceNeg, Int.reduceMul, Int.reduceToNat, Nat.reduceSub, Nat.reduceMul, Nat.reduceLeDiff, Nat.reduceAdd, Nat.reduceLT, Nat.reduceEqDiff, reduceCtorEq, ↓reduceIte, rqs, hF, hq, hrq, e1]
    refine call_by (k) (by first | rfl | (simp only [tocvs, tocv, hF, hq, hrq, e1]; rfl) | (simp only [tocvs, tocv, toboxes, tobox, updH_at, Nat.reduceEqDiff, ↓reduceIte, hF, hq, hrq, e1]; rfl)) (by simp) ?_
    simp (disch := omega) only [wk, tis, Int.reduceNe, Int.reduceEq, Int.reduceLT, Int.reduceLE, Int.reduceAdd, Int.reduceSub, Int.reduceNeg, Int.reduceMul, Int.reduceToNat, Nat.reduceSub, Nat.reduceMul, Nat.reduceLeDiff, Nat.reduceAdd, Nat.reduceLT, Nat.reduceEqDiff, reduceCtorEq, ↓reduceIte, rqs, hF, hq, hrq, e1]
    have et := takeq_snoc (q := divl L ((d * e : Nat) : Int)) (i := i) (by omega)
    refine ⟨⟨i + 1, st + 1, st8, by omega, ?_⟩, by omega⟩
    rw [et, List.map_append]
    (repeat' apply And.intro) <;> first | rfl | omega
  · simp (disch := omega) only [wk, tis, Int.reduceNe, Int.reduceEq, Int.reduceLT, Int.reduceLE, Int.reduceAdd, Int.reduceSub, Int.reduceNeg, Int.reduceMul, Int.reduceToNat, Nat.reduceSub, Nat.reduceMul, Nat.reduceLeDiff, Nat.reduceAdd, Nat.reduceLT, Nat.reduceEqDiff, reduceCtorEq, ↓reduceIte, rqs, hF]
    rw [List.take_of_length_le (by omega)] at hF
    have m := qtrim_own _ hR
    refine call_by (m) (by first | rfl | (simp only [tocvs, tocv, hF]; rfl) | (simp only [tocvs, tocv, toboxes, tobox, updH_at, Nat.reduceEqDiff, ↓reduceIte, hF]; rfl)) (by simp) ?_
    simp (disch := omega) only [wk, tis, Int.reduceNe, Int.reduceEq, Int.reduceLT, Int.reduceLE, Int.reduceAdd, Int.reduceSub, Int.reduceNeg, Int.reduceMul, Int.reduceToNat, Nat.reduceSub, Nat.reduceMul, Nat.reduceLeDiff, Nat.reduceAdd, Nat.reduceLT, Nat.reduceEqDiff, reduceCtorEq, ↓reduceIte, rqs, hF]

/-! ### The product -/
theorem cv_cast (g : Nat → Int) : ∀ (p : List Int) (k : Nat), ((cv p g k : Int) : Rat) = cvq (qp p) (fun j => (g j : Rat)) k
  | [], k => by simp only [cv, qp, List.map_nil, cvq]; rfl
  | x :: xs, 0 => by
    have e : qp (x :: xs) = (x : Rat) :: qp xs := rfl
    rw [e]
    simp only [cv, cvq]
    rw [Int.add_zero, Rat.intCast_mul, Rat.add_zero]
  | x :: xs, k + 1 => by
    have e : qp (x :: xs) = (x : Rat) :: qp xs := rfl
    have ih := cv_cast g xs k
    rw [e]
    simp only [cv, cvq]
    rw [Rat.intCast_add, Rat.intCast_mul, ih]
theorem cfq_qp_pmul (x y : List Int) (k : Nat) : cfq (qp (pmul x y)) k = cfq (mulq (qp x) (qp y)) k := by
  rw [cfq_qp, cf_pmul, cfq_mulq, cv_cast]
  exact cvq_congr _ _ fun j => (cfq_qp y j).symm
theorem pq_clr (A : List Rat) : pq (qp (clr A)) = PQ.C (cden A : Rat) * pq A := PQ.ext fun k => by
  rw [PQ.C_mul_c, pq_c, pq_c, cfq_qp, cf_clr, Rat.mul_comm]
theorem cfq_clear_mul (A B : List Rat) (k : Nat) : cfq (divl (trimz (pmul (clr A) (clr B))) ((cden A * cden B : Nat) : Int)) k = cfq (mulq A B) k := by
  have h1 := natr_ne (cden_ne A)
  have h2 := natr_ne (cden_ne B)
  rw [cfq_divl, cf_trimz, ← cfq_qp, cfq_qp_pmul]
  have e : pq (mulq (qp (clr A)) (qp (clr B))) = PQ.C ((cden A : Rat) * (cden B : Rat)) * pq (mulq A B) := by
    rw [pq_mulq, pq_clr, pq_clr, PQ.C_mul, pq_mulq]
    ac_rfl
  have e2 := congrArg (fun f => PQ.c f k) e
  simp only [PQ.C_mul_c, pq_c] at e2
  rw [e2, Rat.intCast_natCast, Rat.natCast_mul]
  grind
theorem mulq_def (A B : List Rat) : mulq A B = (List.range (A.length + B.length)).map (cvq A (cfq B)) := rfl
/-- .. and its size. -/
theorem QB.mulq {n k M : Nat} {A B : List Rat} (hA : QB n k A) (hB : QB n k B) (hn : n < W) (hM : n * k + k + 1 ≤ M) (hk : 1 ≤ k) : QB (2 * n) (2 * M + 1) (mulq A B) := by
  have pA := hA.clr.mono (n' := n) (k' := M) (Nat.le_refl _) (by omega)
  have pB := hB.clr.mono (n' := n) (k' := M) (Nat.le_refl _) (by omega)
  have pm := (pA.pmul pB hn).trimz
  have c1 := cden_len hA
  have c2 := cden_len hB
  have hw : (wd (cden A * cden B)).length ≤ M + M := wd_len2 (by omega) (by omega)
  have q := QB.divl (pm.mono (n' := n + n) (k' := M + M + 1) (Nat.le_refl _) (by omega)) (Nat.mul_ne_zero (cden_ne A) (cden_ne B)) (by omega)
  refine .of (by simp only [mulq_def, List.length_map, List.length_range]; have := hA.1; have := hB.1; omega) fun i => ?_
  rw [← cfq_clear_mul]
  have := q.cz (by omega) i
  omega
theorem mulq_trim (A B : List Rat) (k : Nat) : cfq (mulq (trimq A) (trimq B)) k = cfq (mulq A B) k := mulq_congr (cfq_trimq A) (cfq_trimq B) k
theorem mulq_nil {A B : List Rat} (h : trimq A = [] ∨ trimq B = []) : cqs (mulq A B) = [] := by
  have hz : ∀ k, cfq (mulq A B) k = 0 := fun k => by
    rw [← mulq_trim]
    rcases h with h | h
    · rw [h, cfq_mulq]; rfl
    · rw [h, cfq_mulq, cvq_none]
  have : tzq (mulq A B) = 0 := tzq_zero_iff.mpr hz
  rw [cqs, show trimq (mulq A B) = [] by rw [trimq, this, List.take_zero]]; rfl

theorem qpmul_ok (p q : List RQ) (n k : Nat) (hp : GQ n k p) (hq : GQ n k q) (hn : n ≤ 2 ^ 28) (hM : n * k + k + 2 ≤ 2 ^ 34) (hk : 1 ≤ k) : AC Tryz.prog 53 [cqw p, cqw q] none [cqp (mulq (qvs p) (qvs q)), ci 0] := by
  have m := qboth_ok p q (hp.mono (by omega) (by omega)) (hq.mono (by omega) (by omega))
  have hA := hp.qb.trimq
  have hB := hq.qb.trimq
  have e : cqp (mulq (qvs p) (qvs q)) = cqp (mulq (trimq (qvs p)) (trimq (qvs q))) := congrArg cqw (cqs_ext fun k => (mulq_trim _ _ k).symm)
  have tA := trimq_trimq (qvs p)
  have tB := trimq_trimq (qvs q)
  rw [e]
  refine AC.by_walk (rs := [.tmp 4, .tmp 5]) ords Tryz.func53 (by rfl) (by rfl) (by rfl) (by rfl) (by rfl) ?_
  simp (disch := omega) only [wk, tis, Int.reduceNe, Int.reduceEq, Int.reduceLT, Int.reduceLE, Int.reduceAdd, Int.reduceSub, Int.reduceNeg, Int.reduceMul, Int.reduceToNat, Nat.reduceSub, Nat.reduceMul, Nat.reduceLeDiff, Nat.reduceAdd, Nat.reduceLT, Nat.reduceEqDiff, reduceCtorEq, ↓reduceIte, rqs]
  refine call_by (m) (by rfl) (by simp) ?_
  simp (disch := omega) only [wk, tis, Int.reduceNe, Int.reduceEq, Int.reduceLT, Int.reduceLE, Int.reduceAdd, Int.reduceSub, Int.reduceNeg, Int.reduceMul, Int.reduceToNat, Nat.reduceSub, Nat.reduceMul, Nat.reduceLeDiff, Nat.reduceAdd, Nat.reduceLT, Nat.reduceEqDiff, reduceCtorEq, ↓reduceIte, rqs]
  unfold cqs
  generalize trimq (qvs p) = A at *
  generalize trimq (qvs q) = B at *
  have hqa : (A.map crat).length = A.length := List.length_map _
  have hqb : (B.map crat).length = B.length := List.length_map _
  by_cases ha : A.length = 0
  · have ha' : ((A.map crat).length : Int) = 0 := by omega
    have hn := mulq_nil (A := A) (B := B) (.inl (by rw [tA]; exact List.length_eq_zero_iff.mp ha))
    rw [show cqp (mulq A B) = cqw [] from congrArg cqw hn]
    simp (disch := omega) only [wk, tis, Int.reduceNe, Int.reduceEq, Int.reduceLT, Int.reduceLE, Int.reduceAdd, Int.reduceSub, Int.reduceNeg, Int.reduceMul, Int.reduceToNat, Nat.reduceSub, Nat.reduceMul, Nat.reduceLeDiff, Nat.reduceAdd, Nat.reduceLT, Nat.reduceEqDiff, reduceCtorEq, ↓reduceIte, rqs, ha']
    try rfl
  have ha' : ¬ ((A.map crat).length : Int) = 0 := by omega
  by_cases hb : B.length = 0
  · have hb' : ((B.map crat).length : Int) = 0 := by omega
    have hn := mulq_nil (A := A) (B := B) (.inr (by rw [tB]; exact List.length_eq_zero_iff.mp hb))
    rw [show cqp (mulq A B) = cqw [] from congrArg cqw hn]
    simp (disch := omega) only [wk, tis, Int.reduceNe, Int.reduceEq, Int.reduceLT, Int.reduceLE, Int.reduceAdd, Int.reduceSub, Int.reduceNeg, Int.reduceMul, Int.reduceToNat, Nat.reduceSub, Nat.reduceMul, Nat.reduceLeDiff, Nat.reduceAdd, Nat.reduceLT, Nat.reduceEqDiff, reduceCtorEq, ↓reduceIte, rqs, ha', hb']
    try rfl
  have hb' : ¬ ((B.map crat).length : Int) = 0 := by omega
  have c1 := qclear_ok (A.map crat) n k hA.gq hn hM
  have c2 := qclear_ok (B.map crat) n k hB.gq hn hM
  rw [qvs_map, tA] at c1
  rw [qvs_map, tB] at c2
  have pA := hA.clr.mono (n' := 2 ^ 30) (k' := 2 ^ 35) (by omega) (by omega)
  have pB := hB.clr.mono (n' := 2 ^ 30) (k' := 2 ^ 35) (by omega) (by omega)
  have z := pmul_ok ((clr A).map canon) ((clr B).map canon) (RP.canon pA) (RP.canon pB)
  rw [pv_canon, pv_canon] at z
  have l1 := cden_len hA
  have l2 := cden_len hB
  have pm := (pA.pmul pB (by decide)).trimz
  have o := qover_ok (trimz (pmul (clr A) (clr B))) (cden A) (cden B) (pm.mono (by omega) (by omega)) (by omega) (by omega) (cden_ne A) (cden_ne B)
  have ee : cqs (divl (trimz (pmul (clr A) (clr B))) ((cden A * cden B : Nat) : Int)) = cqs (mulq A B) := cqs_ext (cfq_clear_mul A B)
  rw [show cqp (divl (trimz (pmul (clr A) (clr B))) ((cden A * cden B : Nat) : Int)) = cqw (cqs (mulq A B)) from congrArg cqw ee] at o
  simp (disch := omega) only [wk, tis, Int.reduceNe, Int.reduceEq, Int.reduceLT, Int.reduceLE, Int.reduceAdd, Int.reduceSub, Int.reduceNeg, Int.reduceMul, Int.reduceToNat, Nat.reduceSub, Nat.reduceMul, Nat.reduceLeDiff, Nat.reduceAdd, Nat.reduceLT, Nat.reduceEqDiff, reduceCtorEq, ↓reduceIte, rqs, ha', hb']
  refine call_by (c1) (by rfl) (by simp) ?_
  simp (disch := omega) only [wk, tis, Int.reduceNe, Int.reduceEq, Int.reduceLT, Int.reduceLE, Int.reduceAdd, Int.reduceSub, Int.reduceNeg, Int.reduceMul, Int.reduceToNat, Nat.reduceSub, Nat.reduceMul, Nat.reduceLeDiff, Nat.reduceAdd, Nat.reduceLT, Nat.reduceEqDiff, reduceCtorEq, ↓reduceIte, rqs]
  refine call_by (c2) (by rfl) (by simp) ?_
  simp (disch := omega) only [wk, tis, Int.reduceNe, Int.reduceEq, Int.reduceLT, Int.reduceLE, Int.reduceAdd, Int.reduceSub, Int.reduceNeg, Int.reduceMul, Int.reduceToNat, Nat.reduceSub, Nat.reduceMul, Nat.reduceLeDiff, Nat.reduceAdd, Nat.reduceLT, Nat.reduceEqDiff, reduceCtorEq, ↓reduceIte, rqs]
  refine call_by (z) (by rfl) (by simp) ?_
  simp (disch := omega) only [wk, tis, Int.reduceNe, Int.reduceEq, Int.reduceLT, Int.reduceLE, Int.reduceAdd, Int.reduceSub, Int.reduceNeg, Int.reduceMul, Int.reduceToNat, Nat.reduceSub, Nat.reduceMul, Nat.reduceLeDiff, Nat.reduceAdd, Nat.reduceLT, Nat.reduceEqDiff, reduceCtorEq, ↓reduceIte, rqs]
  refine call_by (o) (by rfl) (by simp) ?_
  simp (disch := omega) only [wk, tis, Int.reduceNe, Int.reduceEq, Int.reduceLT, Int.reduceLE, Int.reduceAdd, Int.reduceSub, Int.reduceNeg, Int.reduceMul, Int.reduceToNat, Nat.reduceSub, Nat.reduceMul, Nat.reduceLeDiff, Nat.reduceAdd, Nat.reduceLT, Nat.reduceEqDiff, reduceCtorEq, ↓reduceIte, rqs]
  try rfl
theorem qpmul_bad (p q : List RQ) (hp : BQ (2 ^ 40) (2 ^ 38) p) (hq : BQ (2 ^ 40) (2 ^ 38) q) (h : gd p = false ∨ gd q = false) : AC Tryz.prog 53 [cqw p, cqw q] none [cqw [], ci 1] := by
  have m := qboth_bad p q hp hq h
  refine AC.by_walk (rs := [.tmp 4, .tmp 5]) ords Tryz.func53 (by rfl) (by rfl) (by rfl) (by rfl) (by rfl) ?_
  simp (disch := omega) only [wk, tis, Int.reduceNe, Int.reduceEq, Int.reduceLT, Int.reduceLE, Int.reduceAdd, Int.reduceSub, Int.reduceNeg, Int.reduceMul, Int.reduceToNat, Nat.reduceSub, Nat.reduceMul, Nat.reduceLeDiff, Nat.reduceAdd, Nat.reduceLT, Nat.reduceEqDiff, reduceCtorEq, ↓reduceIte, rqs]
  refine call_by (m) (by rfl) (by simp) ?_
  simp (disch := omega) only [wk, tis, Int.reduceNe, Int.reduceEq, Int.reduceLT, Int.reduceLE, Int.reduceAdd, Int.reduceSub, Int.reduceNeg, Int.reduceMul, Int.reduceToNat, Nat.reduceSub, Nat.reduceMul, Nat.reduceLeDiff, Nat.reduceAdd, Nat.reduceLT, Nat.reduceEqDiff, reduceCtorEq, ↓reduceIte, rqs]
  try rfl
end Go.Proofs.YtjadkhkgmdikiaaGreat

namespace Go.Proofs.YtjadkhkgmdikiaaGreat
open Go Go.Proofs Go.AL
set_option linter.unusedSimpArgs false
set_option linter.unusedVariables false

/-! ### Values are a homomorphism -/
theorem evq_addq : ∀ (p q : List Rat) (x : Rat), evq (addq p q) x = evq p x + evq q x
  | [], q, x => by
    rw [evq_ext x (q := q) fun k => by rw [cfq_addq, cfq_nil, Rat.zero_add], evq, Rat.zero_add]
  | c :: p, [], x => by
    rw [evq_ext x (q := c :: p) fun k => by rw [cfq_addq, cfq_nil, Rat.add_zero], evq_nil, Rat.add_zero]
  | c :: p, d :: q, x => by
    have e : ∀ k, cfq (addq (c :: p) (d :: q)) k = cfq ((c + d) :: addq p q) k := fun k => by
      rw [cfq_addq]
      cases k with
      | zero => rfl
      | succ k => rw [cfq_cons_succ, cfq_cons_succ, cfq_cons_succ, cfq_addq]
    rw [evq_ext x e, evq, evq, evq, evq_addq p q x]
    grind
theorem evq_sclq (c : Rat) (p : List Rat) (x : Rat) : evq (sclq c p) x = c * evq p x := by
  induction p with
  | nil => rw [show sclq c [] = [] from rfl, evq]; grind
  | cons d p ih =>
    rw [show sclq c (d :: p) = (d * c) :: sclq c p from rfl, evq, evq, ih]
    grind
theorem evq_mulq : ∀ (p q : List Rat) (x : Rat), evq (mulq p q) x = evq p x * evq q x
  | [], q, x => by
    rw [evq_ext x (q := []) fun k => by rw [cfq_mulq]; rfl, evq]
    grind
  | c :: p, q, x => by
    have e : ∀ k, cfq (mulq (c :: p) q) k = cfq (addq (sclq c q) (0 :: mulq p q)) k := fun k => by
      rw [cfq_mulq_cons, cfq_addq, cfq_sclq, Rat.mul_comm c]
      congr 1
      cases k with
      | zero => rfl
      | succ k => rfl
    rw [evq_ext x e, evq_addq, evq_sclq, evq, evq, evq_mulq p q x]
    grind

/-! ### .. at fractions of integers -/
def hzr (a b : Int) : Nat → (Nat → Int) → Int
  | 0, f => f 0
  | n + 1, f => f 0 * b ^ (n + 1) + a * hzr a b n (fun k => f (k + 1))
theorem hzr_ext {a b : Int} : ∀ {n : Nat} {f g : Nat → Int}, (∀ k, k ≤ n → f k = g k) → hzr a b n f = hzr a b n g
  | 0, f, g, h => h 0 (Nat.le_refl _)
  | n + 1, f, g, h => by rw [hzr, hzr, h 0 (by omega), hzr_ext (n := n) fun k hk => h (k + 1) (by omega)]
theorem hzr_add {a b : Int} : ∀ (n : Nat) (f g : Nat → Int), hzr a b n (fun k => f k + g k) = hzr a b n f + hzr a b n g
  | 0, f, g => rfl
  | n + 1, f, g => by rw [hzr, hzr, hzr, hzr_add n]; grind
theorem hzr_smul {a b : Int} (c : Int) : ∀ (n : Nat) (f : Nat → Int), hzr a b n (fun k => c * f k) = c * hzr a b n f
  | 0, f => rfl
  | n + 1, f => by rw [hzr, hzr, hzr_smul c n]; grind
theorem hzr_zero {a b : Int} : ∀ (n : Nat), hzr a b n (fun _ => 0) = 0
  | 0 => rfl
  | n + 1 => by rw [hzr, hzr_zero n]; grind
theorem hzr_up {a b : Int} : ∀ {n : Nat} {f : Nat → Int}, f (n + 1) = 0 → hzr a b (n + 1) f = b * hzr a b n f
  | 0, f, h => by rw [hzr, hzr, hzr]; simp only [h]; grind
  | n + 1, f, h => by rw [hzr, hzr_up (n := n) (f := fun k => f (k + 1)) h, hzr]; grind
theorem hzr_ups {a b : Int} {m : Nat} {f : Nat → Int} (h : ∀ k, m < k → f k = 0) : ∀ n : Nat, hzr a b (m + n) f = b ^ n * hzr a b m f
  | 0 => by rw [Nat.add_zero, Int.pow_zero, Int.one_mul]
  | n + 1 => by rw [← Nat.add_assoc, hzr_up (h _ (by omega)), hzr_ups h n, Int.pow_succ]; grind
theorem hzr_mul {a b : Int} {m : Nat} {q : List Int} (hq : ∀ k, m < k → cf q k = 0) : ∀ (p : List Int) (n : Nat), (∀ k, n < k → cf p k = 0) → hzr a b (n + m) (cf (pmul p q)) = hzr a b n (cf p) * hzr a b m (cf q)
  | [], n, _ => by
    rw [hzr_ext (g := fun _ => 0) fun k _ => by rw [cf_pmul]; rfl, hzr_zero, hzr_ext (n := n) (f := cf []) (g := fun _ => 0) fun k _ => cf_nil k, hzr_zero, Int.zero_mul]
  | c :: p, 0, h => by
    have hp : ∀ k, cf p k = 0 := fun k => h (k + 1) (by omega)
    have hz : ∀ k, cf (pmul p q) k = 0 := fun k => by
      rw [cf_pmul, cv_cf_congr (p' := []) (fun j => by rw [hp j, cf_nil])]; rfl
    rw [Nat.zero_add, hzr_ext (g := fun k => c * cf q k) fun k _ => by
      rw [cf_pmul_cons]
      have : shiftf (cf (pmul p q)) k = 0 := by cases k with
        | zero => rfl
        | succ k => exact hz k
      rw [this, Int.add_zero], hzr_smul]
    rfl
  | c :: p, n + 1, h => by
    have ih := hzr_mul (a := a) (b := b) hq p n fun k hk => h (k + 1) (by omega)
    rw [hzr_ext (g := fun k => c * cf q k + shiftf (cf (pmul p q)) k) fun k _ => cf_pmul_cons c p q k, hzr_add, hzr_smul]
    rw [show n + 1 + m = m + (n + 1) by omega, hzr_ups hq, show m + (n + 1) = (n + m) + 1 by omega, hzr, hzr]
    rw [show hzr a b (n + m) (fun k => shiftf (cf (pmul p q)) (k + 1)) = hzr a b (n + m) (cf (pmul p q)) from rfl, ih]
    rw [show (fun k => cf (c :: p) (k + 1)) = cf p from rfl, show cf (c :: p) 0 = c from rfl, show shiftf (cf (pmul p q)) 0 = 0 from rfl]
    grind
theorem ihom_hzr {a b : Int} : ∀ p : List Int, p.length ≠ 0 → ihom p a b = hzr a b (p.length - 1) (cf p)
  | [], h => (h rfl).elim
  | [c], _ => by rw [ihom, ihom]; show c * b ^ 0 + a * 0 = c; simp
  | c :: d :: p, _ => by
    rw [ihom, ihom_hzr (d :: p) (by simp)]
    rfl
theorem ihom_mul (p q : List Int) (a b : Int) : ihom (trimz (pmul p q)) a b = ihom (trimz p) a b * ihom (trimz q) a b := by
  by_cases hp : tz p = 0
  · have e1 : trimz p = [] := by rw [trimz, hp, List.take_zero]
    have e2 : trimz (pmul p q) = [] := by rw [trimz, tz_pmul_zero (.inl hp), List.take_zero]
    rw [e1, e2, ihom, Int.zero_mul]
  by_cases hq : tz q = 0
  · have e1 : trimz q = [] := by rw [trimz, hq, List.take_zero]
    have e2 : trimz (pmul p q) = [] := by rw [trimz, tz_pmul_zero (.inr hq), List.take_zero]
    rw [e1, e2, ihom, Int.mul_zero]
  have ht := tz_pmul hp hq
  rw [ihom_hzr _ (by rw [trimz_len]; omega), ihom_hzr (trimz p) (by rw [trimz_len]; omega), ihom_hzr (trimz q) (by rw [trimz_len]; omega), trimz_len, trimz_len, trimz_len]
  rw [hzr_ext (g := cf (pmul p q)) fun k _ => cf_trimz _ k, hzr_ext (f := cf (trimz p)) (g := cf p) fun k _ => cf_trimz _ k, hzr_ext (f := cf (trimz q)) (g := cf q) fun k _ => cf_trimz _ k]
  rw [show tz (pmul p q) - 1 = (tz p - 1) + (tz q - 1) by omega]
  exact hzr_mul (fun k hk => cf_ge_tz q (by omega)) p (tz p - 1) fun k hk => cf_ge_tz p (by omega)
theorem ihom_one : ∀ (p : List Int) (a : Int), ihom p a 1 = ev p a
  | [], a => rfl
  | c :: p, a => by rw [ihom, ev, ihom_one p a, Int.one_pow, Int.mul_one]
theorem ev_cast : ∀ (p : List Int) (t : Int), ((ev p t : Int) : Rat) = evq (qp p) (t : Rat)
  | [], t => by rw [ev]; rfl
  | c :: p, t => by
    rw [ev, show qp (c :: p) = (c : Rat) :: qp p from rfl, evq, Rat.intCast_add, Rat.intCast_mul, ev_cast p t]
theorem ev_trim (p : List Int) (t : Int) : ev (trimz p) t = ev p t := by
  have : ((ev (trimz p) t : Int) : Rat) = ((ev p t : Int) : Rat) := by rw [ev_cast, ev_cast, evq_qp_trim]
  exact Rat.intCast_inj.mp this

/-! ### Far out -/
def sfar (q : List Int) (b : Bool) : Int := if b = false ∧ ((tz q : Int) - 1).tmod 2 = 1 then -(lc q).sign else (lc q).sign
theorem sfar_zero {q : List Int} (b : Bool) (h : tz q = 0) : sfar q b = 0 := by
  have : lc q = 0 := by unfold lc; exact cf_ge_tz q (by omega)
  unfold sfar
  rw [this, Int.sign_zero]; simp
theorem sfar_mul (p q : List Int) (b : Bool) : sfar (pmul p q) b = sfar p b * sfar q b := by
  by_cases hp : tz p = 0
  · rw [sfar_zero b hp, sfar_zero b (tz_pmul_zero (.inl hp)), Int.zero_mul]
  by_cases hq : tz q = 0
  · rw [sfar_zero b hq, sfar_zero b (tz_pmul_zero (.inr hq)), Int.mul_zero]
  have ht := tz_pmul hp hq
  have hl : lc (pmul p q) = lc p * lc q := by
    obtain ⟨h1, _⟩ := cv_top (g := cf q) (n := tz q - 1) (fun j hj => cf_ge_tz q (by omega)) p (tz p - 1) (fun j hj => cf_ge_tz p (by omega))
    unfold lc
    rw [ht, cf_pmul, show tz p + tz q - 1 - 1 = (tz p - 1) + (tz q - 1) by omega, h1]
  unfold sfar
  rw [hl, Int.sign_mul, ht]
  cases b with
  | true => simp
  | false =>
    obtain ⟨m, hm⟩ : ∃ m, tz p = m + 1 := ⟨tz p - 1, by omega⟩
    obtain ⟨n, hn⟩ : ∃ n, tz q = n + 1 := ⟨tz q - 1, by omega⟩
    have e1 : ((tz p : Nat) : Int) - 1 = (m : Int) := by omega
    have e2 : ((tz q : Nat) : Int) - 1 = (n : Int) := by omega
    have e3 : ((tz p + tz q - 1 : Nat) : Int) - 1 = ((m + n : Nat) : Int) := by omega
    have t : ∀ x : Nat, ((x : Int)).tmod 2 = ((x % 2 : Nat) : Int) := fun x => by rw [Int.tmod_eq_emod_of_nonneg (by omega)]; omega
    rw [e1, e2, e3, t, t, t]
    have h1 : m % 2 = 0 ∨ m % 2 = 1 := by omega
    have h2 : n % 2 = 0 ∨ n % 2 = 1 := by omega
    rcases h1 with h1 | h1 <;> rcases h2 with h2 | h2 <;> simp [h1, h2, show (m + n) % 2 = (m % 2 + n % 2) % 2 by omega, Int.neg_mul, Int.mul_neg]
theorem sfar_bound (q : List Int) (b : Bool) : -1 ≤ sfar q b ∧ sfar q b ≤ 1 := by
  have h : -1 ≤ (lc q).sign ∧ (lc q).sign ≤ 1 := by
    rcases Int.lt_trichotomy (lc q) 0 with h | h | h
    · rw [Int.sign_eq_neg_one_of_neg h]; omega
    · rw [h]; decide
    · rw [Int.sign_eq_one_of_pos h]; omega
  unfold sfar
  split <;> omega
theorem sgq_bound (q : Rat) : -1 ≤ sgq q ∧ sgq q ≤ 1 := by
  rcases sgq_cases q with ⟨_, h⟩ | ⟨_, h⟩ | ⟨_, h⟩ <;> omega

theorem esfar_ok (p : List RI) (b : Bool) (h : RP (2 ^ 30) (2 ^ 35) p) : AC Tryz.prog 58 [cw p, cb b] none [ci (sfar (pv p) b)] := by
  have hl := h.1
  have htl := tz_le (pv p)
  rw [pv_len] at htl
  have l := plead_ok p (h.mono (by omega) (by omega))
  have zl' := h.pv.cf (tz (pv p) - 1)
  have s := zsign_ok (canon (cf (pv p) (tz (pv p) - 1))) ((sz_canon _).mono (by omega))
  rw [iv_canon] at s
  have d := pdeg_ok p (h.mono (by omega) (by omega))
  have e0 : sfar (pv p) b = if b = false ∧ ((tz (pv p) : Int) - 1).tmod 2 = 1 then -(cf (pv p) (tz (pv p) - 1)).sign else (cf (pv p) (tz (pv p) - 1)).sign := rfl
  have hb : -1 ≤ (cf (pv p) (tz (pv p) - 1)).sign ∧ (cf (pv p) (tz (pv p) - 1)).sign ≤ 1 := by
    have := sfar_bound (pv p) true
    simp only [sfar, Bool.true_eq_false, false_and, if_false] at this
    exact this
  rw [e0]
  generalize (cf (pv p) (tz (pv p) - 1)).sign = sg0 at *
  refine AC.by_walk (rs := [.tmp 4]) ords Tryz.func58 (by rfl) (by rfl) (by rfl) (by rfl) (by rfl) ?_
  simp (disch := omega) only [wk, tis, Int.reduceNe, Int.reduceEq, Int.reduceLT, Int.reduceLE, Int.reduceAdd, Int.reduceSub, Int.reduceNeg, Int.reduceMul, Int.reduceToNat, Nat.reduceSub, Nat.reduceMul, Nat.reduceLeDiff, Nat.reduceAdd, Nat.reduceLT, Nat.reduceEqDiff, reduceCtorEq, ↓reduceIte, rqs, case12_A, case12_B, case12_X, case12_Y, ints_two]
  refine call_by (l) (by rfl) (by simp) ?_
  simp (disch := omega) only [wk, tis, Int.reduceNe, Int.reduceEq, Int.reduceLT, Int.reduceLE, Int.reduceAdd, Int.reduceSub, Int.reduceNeg, Int.reduceMul, Int.reduceToNat, Nat.reduceSub, Nat.reduceMul, Nat.reduceLeDiff, Nat.reduceAdd, Nat.reduceLT, Nat.reduceEqDiff, reduceCtorEq, ↓reduceIte, rqs, case12_A, case12_B, case12_X, case12_Y, ints_two]
  refine call_by (s) (by rfl) (by simp) ?_
  simp (disch := omega) only [wk, tis, Int.reduceNe, Int.reduceEq, Int.reduceLT, Int.reduceLE, Int.reduceAdd, Int.reduceSub, Int.reduceNeg, Int.reduceMul, Int.reduceToNat, Nat.reduceSub, Nat.reduceMul, Nat.reduceLeDiff, Nat.reduceAdd, Nat.reduceLT, Nat.reduceEqDiff, reduceCtorEq, ↓reduceIte, rqs, case12_A, case12_B, case12_X, case12_Y, ints_two]
  cases b with
  | true =>
    rw [if_neg (by simp)]
    simp (disch := omega) only [wk, tis, Int.reduceNe, Int.reduceEq, Int.reduceLT, Int.reduceLE, Int.reduceAdd, Int.reduceSub, Int.reduceNeg, Int.reduceMul, Int.reduceToNat, Nat.reduceSub, Nat.reduceMul, Nat.reduceLeDiff, Nat.reduceAdd, Nat.reduceLT, Nat.reduceEqDiff, reduceCtorEq, ↓reduceIte, rqs, case12_A, case12_B, case12_X, case12_Y, ints_two]
  | false =>
    by_cases hm : ((tz (pv p) : Int) - 1).tmod 2 = 1
    · rw [if_pos ⟨rfl, hm⟩]
      simp (disch := omega) only [wk, tis, Int.reduceNe, Int.reduceEq, Int.reduceLT, Int.reduceLE, Int.reduceAdd, Int.reduceSub, Int.reduceNeg, Int.reduceMul, Int.reduceToNat, Nat.reduceSub, Nat.reduceMul, Nat.reduceLeDiff, Nat.reduceAdd, Nat.reduceLT, Nat.reduceEqDiff, reduceCtorEq, ↓reduceIte, rqs, case12_A, case12_B, case12_X, case12_Y, ints_two]
      refine call_by (d) (by rfl) (by simp) ?_
      simp (disch := omega) only [wk, tis, Int.reduceNe, Int.reduceEq, Int.reduceLT, Int.reduceLE, Int.reduceAdd, Int.reduceSub, Int.reduceNeg, Int.reduceMul, Int.reduceToNat, Nat.reduceSub, Nat.reduceMul, Nat.reduceLeDiff, Nat.reduceAdd, Nat.reduceLT, Nat.reduceEqDiff, reduceCtorEq, ↓reduceIte, rqs, case12_A, case12_B, case12_X, case12_Y, ints_two]
      simp (disch := omega) only [wk, tis, Int.reduceNe, Int.reduceEq, Int.reduceLT, Int.reduceLE, Int.reduceAdd, Int.reduceSub, Int.reduceNeg, Int.reduceMul, Int.reduceToNat, Nat.reduceSub, Nat.reduceMul, Nat.reduceLeDiff, Nat.reduceAdd, Nat.reduceLT, Nat.reduceEqDiff, reduceCtorEq, ↓reduceIte, rqs, case12_A, case12_B, case12_X, case12_Y, ints_two, hm]
      rw [Int.zero_sub]
    · rw [if_neg (fun h => hm h.2)]
      simp (disch := omega) only [wk, tis, Int.reduceNe, Int.reduceEq, Int.reduceLT, Int.reduceLE, Int.reduceAdd, Int.reduceSub, Int.reduceNeg, Int.reduceMul, Int.reduceToNat, Nat.reduceSub, Nat.reduceMul, Nat.reduceLeDiff, Nat.reduceAdd, Nat.reduceLT, Nat.reduceEqDiff, reduceCtorEq, ↓reduceIte, rqs, case12_A, case12_B, case12_X, case12_Y, ints_two]
      refine call_by (d) (by rfl) (by simp) ?_
      simp (disch := omega) only [wk, tis, Int.reduceNe, Int.reduceEq, Int.reduceLT, Int.reduceLE, Int.reduceAdd, Int.reduceSub, Int.reduceNeg, Int.reduceMul, Int.reduceToNat, Nat.reduceSub, Nat.reduceMul, Nat.reduceLeDiff, Nat.reduceAdd, Nat.reduceLT, Nat.reduceEqDiff, reduceCtorEq, ↓reduceIte, rqs, case12_A, case12_B, case12_X, case12_Y, ints_two]
      simp (disch := omega) only [wk, tis, Int.reduceNe, Int.reduceEq, Int.reduceLT, Int.reduceLE, Int.reduceAdd, Int.reduceSub, Int.reduceNeg, Int.reduceMul, Int.reduceToNat, Nat.reduceSub, Nat.reduceMul, Nat.reduceLeDiff, Nat.reduceAdd, Nat.reduceLT, Nat.reduceEqDiff, reduceCtorEq, ↓reduceIte, rqs, case12_A, case12_B, case12_X, case12_Y, ints_two, hm]
end Go.Proofs.YtjadkhkgmdikiaaGreat

namespace Go.Proofs.YtjadkhkgmdikiaaGreat
open Go Go.Proofs Go.AL
set_option linter.unusedSimpArgs false
set_option linter.unusedVariables false

theorem ihom_bound {p : List RI} {a b : Int} (hp : RP (2 ^ 10) (2 ^ 20) p) (za : zl a ≤ 2 ^ 20) (zb : zl b ≤ 2 ^ 20) : zl (ihom (trimz (pv p)) a b) ≤ 2 ^ 33 := by
  have h := zl_ihom (K := 2 ^ 20) (p := trimz (pv p)) za zb fun z hz => hp.pv.trimz.2 z hz
  have h2 : (trimz (pv p)).length ≤ 2 ^ 10 := hp.pv.trimz.1
  have h3 := Nat.mul_le_mul_right (2 ^ 20 + 1) h2
  have h4 : 2 ^ 20 + 2 ^ 10 * (2 ^ 20 + 1) + 1 ≤ 2 ^ 32 := by decide
  omega

theorem homo_vals (R S : List RQ) (X : RQ) (hR : GQ 40 200 R) (hS : GQ 40 200 S) (hX : SzQ 200 X) (h0 : nv X.2 ≠ 0) :
    ∃ (sm pr : List RQ) (a b s m : Rat), AC Tryz.prog 52 [cqw R, cqw S] none [cqw sm, ci 0] ∧ AC Tryz.prog 53 [cqw R, cqw S] none [cqw pr, ci 0] ∧
      AC Tryz.prog 13 [cqw R, cqq X] none [cqz a, ci 0] ∧ AC Tryz.prog 13 [cqw S, cqq X] none [cqz b, ci 0] ∧ AC Tryz.prog 13 [cqw sm, cqq X] none [cqz s, ci 0] ∧ AC Tryz.prog 13 [cqw pr, cqq X] none [cqz m, ci 0] ∧
      AC Tryz.prog 54 [cqz a] none [cb true] ∧ AC Tryz.prog 54 [cqz b] none [cb true] ∧ AC Tryz.prog 55 [cqz a, cqz b] none [cqz s] ∧ AC Tryz.prog 56 [cqz a, cqz b] none [cqz m] ∧
      AC Tryz.prog 15 [cqz s, cqz s] none [cb true] ∧ AC Tryz.prog 15 [cqz m, cqz m] none [cb true] := by
  have qR := hR.qb
  have qS := hS.qb
  have qA : QB 40 401 (addq (qvs R) (qvs S)) := .of (by simp only [addq, List.length_map, List.length_range]; have := qR.1; have := qS.1; omega) fun i => by
    rw [cfq_addq]
    have h1 := qz_add (cfq (qvs R) i) (cfq (qvs S) i)
    have h2 := qR.cz (by omega) i
    have h3 := qS.cz (by omega) i
    omega
  have qM : QB 80 16500 (mulq (qvs R) (qvs S)) := (QB.mulq (n := 40) (k := 200) (M := 8201) qR qS (by decide) (by omega) (by omega)).mono (by omega) (by omega)
  have v1 := VB.of (B := 2 ^ 22) hR hX h0 (by omega) (by omega) (by omega)
  have v2 := VB.of (B := 2 ^ 22) hS hX h0 (by omega) (by omega) (by omega)
  have v3 := VB.of (B := 2 ^ 22) qA.gqs hX h0 (by omega) (by omega) (by omega)
  have v4 := VB.of (B := 2 ^ 22) qM.gqs hX h0 (by omega) (by omega) (by omega)
  have e1 := eAt_ok R X _ v1
  have e2 := eAt_ok S X _ v2
  have e3 := eAt_ok _ X _ v3
  have e4 := eAt_ok _ X _ v4
  rw [qvs_cqs, evq_trim, evq_addq] at e3
  rw [qvs_cqs, evq_trim, evq_mulq] at e4
  have b1 := v1.e (qvs R) (by rw [qvs_len]; omega) fun c hc => hc
  have b2 := v2.e (qvs S) (by rw [qvs_len]; omega) fun c hc => hc
  generalize evq (qvs R) (qv X) = a at *
  generalize evq (qvs S) (qv X) = b at *
  have za := qz_add a b
  have zm := qz_mul a b
  have ok : ∀ c : Rat, qz c ≤ 2 ^ 22 → AC Tryz.prog 54 [cqz c] none [cb true] := fun c hc => by
    have := hok_ok (crat c) ((szq_crat (k := 2 ^ 40) (by omega)).2)
    rwa [decide_eq_true (nv_crat0 c)] at this
  have pl := hplus_ok (crat a) (crat b) (szq_crat (by omega)) (szq_crat (by omega)) (nv_crat0 _) (nv_crat0 _)
  have ti := htimes_ok (crat a) (crat b) (szq_crat (by omega)) (szq_crat (by omega)) (nv_crat0 _) (nv_crat0 _)
  rw [qv_crat, qv_crat] at pl ti
  exact ⟨_, _, a, b, a + b, a * b, qpadd_ok R S 200 (hR.mono (by omega) (by omega)) (hS.mono (by omega) (by omega)) (by omega) (by omega), qpmul_ok R S 40 200 hR hS (by omega) (by omega) (by omega), e1, e2, e3, e4, ok a b1, ok b b2, pl, ti, same_self (szq_crat (by omega)), same_self (szq_crat (by omega))⟩

theorem bools_at0 : [[IV.bool false], [IV.bool true]].getD 0 [] = [IV.bool false] := rfl
theorem bools_at1 : [[IV.bool false], [IV.bool true]].getD 1 [] = [IV.bool true] := rfl




set_option maxRecDepth 100000 in
set_option maxHeartbeats 2000000 in
theorem homo_ok12 (x : C12) (h : Ok12 x) : AC Tryz.prog 7 [.agg (case12 x)] none [cb true] := by
  have g := great12_ok x h
  cases hg : great12 x with
  | true =>
    rw [hg] at g
    refine AC.by_walk (rs := [.tmp 2]) ords Tryz.func7 (by rfl) (by rfl) (by rfl) (by rfl) (by rfl) ?_
    simp (disch := omega) only [wk, tis, Int.reduceNe, Int.reduceEq, Int.reduceLT, Int.reduceLE, Int.reduceAdd, Int.reduceSub, Int.reduceNeg, Int.reduceMul, Int.reduceToNat, Nat.reduceSub, Nat.reduceMul, Nat.reduceLeDiff, Nat.reduceAdd, Nat.reduceLT, Nat.reduceEqDiff, reduceCtorEq, ↓reduceIte, rqs, case12_A, case12_B, case12_X, case12_Y, ints_two]
    refine call_by (awake12_ok) (by rfl) (by simp) ?_
    simp (disch := omega) only [wk, tis, Int.reduceNe, Int.reduceEq, Int.reduceLT, Int.reduceLE, Int.reduceAdd, Int.reduceSub, Int.reduceNeg, Int.reduceMul, Int.reduceToNat, Nat.reduceSub, Nat.reduceMul, Nat.reduceLeDiff, Nat.reduceAdd, Nat.reduceLT, Nat.reduceEqDiff, reduceCtorEq, ↓reduceIte, rqs, case12_A, case12_B, case12_X, case12_Y, ints_two]
    refine call_by (g) (by rfl) (by simp) ?_
    simp (disch := omega) only [wk, tis, Int.reduceNe, Int.reduceEq, Int.reduceLT, Int.reduceLE, Int.reduceAdd, Int.reduceSub, Int.reduceNeg, Int.reduceMul, Int.reduceToNat, Nat.reduceSub, Nat.reduceMul, Nat.reduceLeDiff, Nat.reduceAdd, Nat.reduceLT, Nat.reduceEqDiff, reduceCtorEq, ↓reduceIte, rqs, case12_A, case12_B, case12_X, case12_Y, ints_two]
  | false =>
  rw [hg] at g
  have ft := fit12 h hg
  have fP : RP (2 ^ 10) (2 ^ 20) x.P := ft.P.mono (by omega) (by omega)
  have fQ : RP (2 ^ 10) (2 ^ 20) x.Q := ft.Q.mono (by omega) (by omega)
  have fA : Sz (2 ^ 20) x.A := ft.A.mono (by omega)
  have fB : Sz (2 ^ 20) x.B := ft.B.mono (by omega)
  have zA := zl_iv fA
  have zB := zl_iv fB
  have pm := pmul_ok x.P x.Q (ft.P.mono (by omega) (by omega)) (ft.Q.mono (by omega) (by omega))
  have bm : PB 80 401 (pmul (pv x.P) (pv x.Q)) := ft.P.pv.pmul ft.Q.pv (by decide)
  have rm : RP (2 ^ 10) (2 ^ 20) (cn (pmul (pv x.P) (pv x.Q))) := rp_cn (bm.mono (by omega) (by omega))
  have epv : pv (cn (pmul (pv x.P) (pv x.Q))) = trimz (pmul (pv x.P) (pv x.Q)) := by rw [cn, pv_canon]
  -- far out
  have F : ∀ b : Bool, ∃ s t u : Int, AC Tryz.prog 58 [cp (pmul (pv x.P) (pv x.Q)), cb b] none [ci u] ∧ AC Tryz.prog 58 [cw x.P, cb b] none [ci s] ∧ AC Tryz.prog 58 [cw x.Q, cb b] none [ci t] ∧ s * t = u ∧ -1 ≤ u ∧ u ≤ 1 := fun b => by
    have m := esfar_ok (cn (pmul (pv x.P) (pv x.Q))) b (rm.mono (by omega) (by omega))
    have e : sfar (pv (cn (pmul (pv x.P) (pv x.Q)))) b = sfar (pmul (pv x.P) (pv x.Q)) b := by
      rw [epv]; unfold sfar lc; rw [tz_trimz, cf_trimz]
    rw [e] at m
    have hb := sfar_bound (pmul (pv x.P) (pv x.Q)) b
    exact ⟨_, _, _, m, esfar_ok x.P b (fP.mono (by omega) (by omega)), esfar_ok x.Q b (fQ.mono (by omega) (by omega)), (sfar_mul _ _ b).symm, hb.1, hb.2⟩
  obtain ⟨s0, t0, u0, F01, F02, F03, F04, F05, F06⟩ := F false
  obtain ⟨s1, t1, u1, F11, F12, F13, F14, F15, F16⟩ := F true
  -- Homog, AtInt
  have hm := ehomog_ok (cn (pmul (pv x.P) (pv x.Q))) x.A x.B rm fA fB
  rw [epv, trimz_trimz, ihom_mul] at hm
  have h1 := ehomog_ok x.P x.A x.B fP fA fB
  have h2 := ehomog_ok x.Q x.A x.B fQ fA fB
  have z1 := ihom_bound fP zA zB
  have z2 := ihom_bound fQ zA zB
  generalize ihom (trimz (pv x.P)) (iv x.A) (iv x.B) = y1 at *
  generalize ihom (trimz (pv x.Q)) (iv x.A) (iv x.B) = y2 at *
  have rmul := rMul_ok (canon y1) (canon y2) ((sz_canon _).mono (by omega)) ((sz_canon _).mono (by omega))
  rw [iv_canon, iv_canon] at rmul
  have zy := zl_mul y1 y2
  have sm1 := sameint_g (a := y1 * y2) rfl (by omega)
  have zone := rZ_ok 1 (by omega) (by omega)
  have hone := ehomog_ok x.P x.A (canon 1) fP fA ((sz_canon 1).mono (Nat.le_trans (zl_w (by decide)) (by omega)))
  rw [iv_canon, ihom_one, ev_trim] at hone
  have hat := eatint_ok x.P x.A fP fA
  have zev := ev_bound fP zA (pv x.P) (by rw [pv_len]; omega) fun z hz => hz
  have sm2 := sameint_g (a := ev (pv x.P) (iv x.A)) rfl (by omega)
  have okX := hok_ok x.X ⟨Nat.le_trans ft.X.2.1 (by omega), ft.X.2.2⟩
  have SG : nv x.X.2 ≠ 0 → ∃ s t u : Int, AC Tryz.prog 59 [cw x.P, cqq x.X] none [ci s, ci 0] ∧ AC Tryz.prog 59 [cw x.Q, cqq x.X] none [ci t, ci 0] ∧ AC Tryz.prog 59 [cp (pmul (pv x.P) (pv x.Q)), cqq x.X] none [ci u, ci 0] ∧ s * t = u ∧ -1 ≤ u ∧ u ≤ 1 := fun h0 => by
    have m := eSign_ok (cn (pmul (pv x.P) (pv x.Q))) x.X rm (ft.X.mono (by omega)) h0
    rw [epv, evq_qp_trim, evq_ext (qv x.X) (cfq_qp_pmul (pv x.P) (pv x.Q)), evq_mulq, sgq_mul] at m
    have hb := sgq_bound (evq (qp (pv x.P)) (qv x.X) * evq (qp (pv x.Q)) (qv x.X))
    rw [sgq_mul] at hb
    exact ⟨_, _, _, eSign_ok x.P x.X fP (ft.X.mono (by omega)) h0, eSign_ok x.Q x.X fQ (ft.X.mono (by omega)) h0, m, rfl, hb.1, hb.2⟩
  by_cases hgd : gd x.R = true ∧ gd x.S = true
  · by_cases h0 : nv x.X.2 ≠ 0
    · rw [decide_eq_true h0] at okX
      obtain ⟨sm, pr, a, b, s, m, v1, v2, v3, v4, v5, v6, v7, v8, v9, v10, v11, v12⟩ := homo_vals x.R x.S x.X (ft.R.gq hgd.1) (ft.S.gq hgd.2) ft.X h0
      refine AC.by_walk (rs := [.tmp 2]) ords Tryz.func7 (by rfl) (by rfl) (by rfl) (by rfl) (by rfl) ?_
      simp (disch := omega) only [wk, tis, Int.reduceNe, Int.reduceEq, Int.reduceLT, Int.reduceLE, Int.reduceAdd, Int.reduceSub, Int.reduceNeg, Int.reduceMul, Int.reduceToNat, Nat.reduceSub, Nat.reduceMul, Nat.reduceLeDiff, Nat.reduceAdd, Nat.reduceLT, Nat.reduceEqDiff, reduceCtorEq, ↓reduceIte, rqs, case12_A, case12_B, case12_X, case12_Y, ints_two]
      refine call_by (awake12_ok) (by rfl) (by simp) ?_
      simp (disch := omega) only [wk, tis, Int.reduceNe, Int.reduceEq, Int.reduceLT, Int.reduceLE, Int.reduceAdd, Int.reduceSub, Int.reduceNeg, Int.reduceMul, Int.reduceToNat, Nat.reduceSub, Nat.reduceMul, Nat.reduceLeDiff, Nat.reduceAdd, Nat.reduceLT, Nat.reduceEqDiff, reduceCtorEq, ↓reduceIte, rqs, case12_A, case12_B, case12_X, case12_Y, ints_two]
      refine call_by (g) (by rfl) (by simp) ?_
      simp (disch := omega) only [wk, tis, Int.reduceNe, Int.reduceEq, Int.reduceLT, Int.reduceLE, Int.reduceAdd, Int.reduceSub, Int.reduceNeg, Int.reduceMul, Int.reduceToNat, Nat.reduceSub, Nat.reduceMul, Nat.reduceLeDiff, Nat.reduceAdd, Nat.reduceLT, Nat.reduceEqDiff, reduceCtorEq, ↓reduceIte, rqs, case12_A, case12_B, case12_X, case12_Y, ints_two]
      refine call_by (v1) (by rfl) (by simp) ?_
      simp (disch := omega) only [wk, tis, Int.reduceNe, Int.reduceEq, Int.reduceLT, Int.reduceLE, Int.reduceAdd, Int.reduceSub, Int.reduceNeg, Int.reduceMul, Int.reduceToNat, Nat.reduceSub, Nat.reduceMul, Nat.reduceLeDiff, Nat.reduceAdd, Nat.reduceLT, Nat.reduceEqDiff, reduceCtorEq, ↓reduceIte, rqs, case12_A, case12_B, case12_X, case12_Y, ints_two]
      refine call_by (v2) (by rfl) (by simp) ?_
      simp (disch := omega) only [wk, tis, Int.reduceNe, Int.reduceEq, Int.reduceLT, Int.reduceLE, Int.reduceAdd, Int.reduceSub, Int.reduceNeg, Int.reduceMul, Int.reduceToNat, Nat.reduceSub, Nat.reduceMul, Nat.reduceLeDiff, Nat.reduceAdd, Nat.reduceLT, Nat.reduceEqDiff, reduceCtorEq, ↓reduceIte, rqs, case12_A, case12_B, case12_X, case12_Y, ints_two]
      refine call_by (okX) (by rfl) (by simp) ?_
      simp (disch := omega) only [wk, tis, Int.reduceNe, Int.reduceEq, Int.reduceLT, Int.reduceLE, Int.reduceAdd, Int.reduceSub, Int.reduceNeg, Int.reduceMul, Int.reduceToNat, Nat.reduceSub, Nat.reduceMul, Nat.reduceLeDiff, Nat.reduceAdd, Nat.reduceLT, Nat.reduceEqDiff, reduceCtorEq, ↓reduceIte, rqs, case12_A, case12_B, case12_X, case12_Y, ints_two]
      refine call_by (v3) (by rfl) (by simp) ?_
      simp (disch := omega) only [wk, tis, Int.reduceNe, Int.reduceEq, Int.reduceLT, Int.reduceLE, Int.reduceAdd, Int.reduceSub, Int.reduceNeg, Int.reduceMul, Int.reduceToNat, Nat.reduceSub, Nat.reduceMul, Nat.reduceLeDiff, Nat.reduceAdd, Nat.reduceLT, Nat.reduceEqDiff, reduceCtorEq, ↓reduceIte, rqs, case12_A, case12_B, case12_X, case12_Y, ints_two]
      refine call_by (v4) (by rfl) (by simp) ?_
      simp (disch := omega) only [wk, tis, Int.reduceNe, Int.reduceEq, Int.reduceLT, Int.reduceLE, Int.reduceAdd, Int.reduceSub, Int.reduceNeg, Int.reduceMul, Int.reduceToNat, Nat.reduceSub, Nat.reduceMul, Nat.reduceLeDiff, Nat.reduceAdd, Nat.reduceLT, Nat.reduceEqDiff, reduceCtorEq, ↓reduceIte, rqs, case12_A, case12_B, case12_X, case12_Y, ints_two]
      refine call_by (v5) (by rfl) (by simp) ?_
      simp (disch := omega) only [wk, tis, Int.reduceNe, Int.reduceEq, Int.reduceLT, Int.reduceLE, Int.reduceAdd, Int.reduceSub, Int.reduceNeg, Int.reduceMul, Int.reduceToNat, Nat.reduceSub, Nat.reduceMul, Nat.reduceLeDiff, Nat.reduceAdd, Nat.reduceLT, Nat.reduceEqDiff, reduceCtorEq, ↓reduceIte, rqs, case12_A, case12_B, case12_X, case12_Y, ints_two]
      refine call_by (v6) (by rfl) (by simp) ?_
      simp (disch := omega) only [wk, tis, Int.reduceNe, Int.reduceEq, Int.reduceLT, Int.reduceLE, Int.reduceAdd, Int.reduceSub, Int.reduceNeg, Int.reduceMul, Int.reduceToNat, Nat.reduceSub, Nat.reduceMul, Nat.reduceLeDiff, Nat.reduceAdd, Nat.reduceLT, Nat.reduceEqDiff, reduceCtorEq, ↓reduceIte, rqs, case12_A, case12_B, case12_X, case12_Y, ints_two]
      refine ⟨tmps_by (by kernel_rfl), ?_⟩
      refine call_by (v7) (by rfl) (by simp) ?_
      simp (disch := omega) only [wk, tis, Int.reduceNe, Int.reduceEq, Int.reduceLT, Int.reduceLE, Int.reduceAdd, Int.reduceSub, Int.reduceNeg, Int.reduceMul, Int.reduceToNat, Nat.reduceSub, Nat.reduceMul, Nat.reduceLeDiff, Nat.reduceAdd, Nat.reduceLT, Nat.reduceEqDiff, reduceCtorEq, ↓reduceIte, rqs, case12_A, case12_B, case12_X, case12_Y, ints_two]
      refine call_by (v8) (by rfl) (by simp) ?_
      simp (disch := omega) only [wk, tis, Int.reduceNe, Int.reduceEq, Int.reduceLT, Int.reduceLE, Int.reduceAdd, Int.reduceSub, Int.reduceNeg, Int.reduceMul, Int.reduceToNat, Nat.reduceSub, Nat.reduceMul, Nat.reduceLeDiff, Nat.reduceAdd, Nat.reduceLT, Nat.reduceEqDiff, reduceCtorEq, ↓reduceIte, rqs, case12_A, case12_B, case12_X, case12_Y, ints_two]
      refine call_by (v9) (by rfl) (by simp) ?_
      simp (disch := omega) only [wk, tis, Int.reduceNe, Int.reduceEq, Int.reduceLT, Int.reduceLE, Int.reduceAdd, Int.reduceSub, Int.reduceNeg, Int.reduceMul, Int.reduceToNat, Nat.reduceSub, Nat.reduceMul, Nat.reduceLeDiff, Nat.reduceAdd, Nat.reduceLT, Nat.reduceEqDiff, reduceCtorEq, ↓reduceIte, rqs, case12_A, case12_B, case12_X, case12_Y, ints_two]
      refine call_by (v11) (by rfl) (by simp) ?_
      simp (disch := omega) only [wk, tis, Int.reduceNe, Int.reduceEq, Int.reduceLT, Int.reduceLE, Int.reduceAdd, Int.reduceSub, Int.reduceNeg, Int.reduceMul, Int.reduceToNat, Nat.reduceSub, Nat.reduceMul, Nat.reduceLeDiff, Nat.reduceAdd, Nat.reduceLT, Nat.reduceEqDiff, reduceCtorEq, ↓reduceIte, rqs, case12_A, case12_B, case12_X, case12_Y, ints_two]
      refine call_by (v10) (by rfl) (by simp) ?_
      simp (disch := omega) only [wk, tis, Int.reduceNe, Int.reduceEq, Int.reduceLT, Int.reduceLE, Int.reduceAdd, Int.reduceSub, Int.reduceNeg, Int.reduceMul, Int.reduceToNat, Nat.reduceSub, Nat.reduceMul, Nat.reduceLeDiff, Nat.reduceAdd, Nat.reduceLT, Nat.reduceEqDiff, reduceCtorEq, ↓reduceIte, rqs, case12_A, case12_B, case12_X, case12_Y, ints_two]
      refine call_by (v12) (by rfl) (by simp) ?_
      simp (disch := omega) only [wk, tis, Int.reduceNe, Int.reduceEq, Int.reduceLT, Int.reduceLE, Int.reduceAdd, Int.reduceSub, Int.reduceNeg, Int.reduceMul, Int.reduceToNat, Nat.reduceSub, Nat.reduceMul, Nat.reduceLeDiff, Nat.reduceAdd, Nat.reduceLT, Nat.reduceEqDiff, reduceCtorEq, ↓reduceIte, rqs, case12_A, case12_B, case12_X, case12_Y, ints_two]
      first | exact log_by (by kernel_rfl) | refine ⟨log_by (by kernel_rfl), ?_⟩
      refine frame_call (fun f H => f 1 = .hp 1 1 0 0 ∧ f 2 = .iv (.bool false) ∧ H 1 = .blk false 1 33 15 [case12 x]) ?_ (fun f H hF => ?_)
      · simp (disch := omega) only [wk, tis, Int.reduceNe, Int.reduceEq, Int.reduceLT, Int.reduceLE, Int.reduceAdd, Int.reduceSub, Int.reduceNeg, Int.reduceMul, Int.reduceToNat, Nat.reduceSub, Nat.reduceMul, Nat.reduceLeDiff, Nat.reduceAdd, Nat.reduceLT, Nat.reduceEqDiff, reduceCtorEq, ↓reduceIte, rqs, case12_A, case12_B, case12_X, case12_Y, ints_two]
      refine call_by (pm) (by first | rfl | (simp only [tocvs, tocv, hF]; rfl) | (simp only [tocvs, tocv, toboxes, tobox, updH_at, Nat.reduceEqDiff, ↓reduceIte, hF]; rfl)) (by simp) ?_
      simp (disch := omega) only [wk, tis, Int.reduceNe, Int.reduceEq, Int.reduceLT, Int.reduceLE, Int.reduceAdd, Int.reduceSub, Int.reduceNeg, Int.reduceMul, Int.reduceToNat, Nat.reduceSub, Nat.reduceMul, Nat.reduceLeDiff, Nat.reduceAdd, Nat.reduceLT, Nat.reduceEqDiff, reduceCtorEq, ↓reduceIte, rqs, case12_A, case12_B, case12_X, case12_Y, ints_two, hF]
      refine aloop_by (fun f H => ∃ (i st : Nat), i ≤ 2 ∧ f 127 = .iv (.int .i64 i) ∧ f 126 = .iv (.int .i64 2) ∧ f 125 = .hs 125 st ∧ H 125 = .blk false st 4 1 [[.bool false], [.bool true]] ∧ f 1 = .hp 1 1 0 0 ∧ H 1 = .blk false 1 33 15 [case12 x] ∧ f 15 = .iv (.sl (cpoly (pmul (pv x.P) (pv x.Q))))) (fun f H => (2 - intAt f 127).toNat) ?_ ?_
      · refine ⟨0, (H 125).stamp + 1, by omega, ?_⟩
        simp (disch := omega) only [wk, tis, Int.reduceNe, Int.reduceEq, Int.reduceLT, Int.reduceLE, Int.reduceAdd, Int.reduceSub, Int.reduceNeg, Int.reduceMul, Int.reduceToNat, Nat.reduceSub, Nat.reduceMul, Nat.reduceLeDiff, Nat.reduceAdd, Nat.reduceLT, Nat.reduceEqDiff, reduceCtorEq, ↓reduceIte, rqs, case12_A, case12_B, case12_X, case12_Y, ints_two, hF, show ((2 : Nat) : Int) = 2 from rfl]
      rintro f H ⟨i, st, hi, hF⟩
      rw [intAt_of hF.1]
      simp (disch := omega) only [wk, tis, Int.reduceNe, Int.reduceEq, Int.reduceLT, Int.reduceLE, Int.reduceAdd, Int.reduceSub, Int.reduceNeg, Int.reduceMul, Int.reduceToNat, Nat.reduceSub, Nat.reduceMul, Nat.reduceLeDiff, Nat.reduceAdd, Nat.reduceLT, Nat.reduceEqDiff, reduceCtorEq, ↓reduceIte, rqs, case12_A, case12_B, case12_X, case12_Y, ints_two, hF]
      refine if_by (fun hlt => ?_) (fun hlt => ?_)
      · have h01 : i = 0 ∨ i = 1 := by omega
        have b0 := bools_at0
        have b1 := bools_at1
        rcases h01 with rfl | rfl
        · simp (disch := omega) only [wk, tis, Int.reduceNe, Int.reduceEq, Int.reduceLT, Int.reduceLE, Int.reduceAdd, Int.reduceSub, Int.reduceNeg, Int.reduceMul, Int.reduceToNat, Nat.reduceSub, Nat.reduceMul, Nat.reduceLeDiff, Nat.reduceAdd, Nat.reduceLT, Nat.reduceEqDiff, reduceCtorEq, ↓reduceIte, rqs, case12_A, case12_B, case12_X, case12_Y, ints_two, hF, b0, b1]
          refine ⟨tmps_by (by kernel_rfl), ?_⟩
          refine call_by (F01) (by first | rfl | (simp only [tocvs, tocv, hF, b0, b1]; rfl) | (simp only [tocvs, tocv, toboxes, tobox, updH_at, Nat.reduceEqDiff, ↓reduceIte, hF, b0, b1]; rfl)) (by simp) ?_
          simp (disch := omega) only [wk, tis, Int.reduceNe, Int.reduceEq, Int.reduceLT, Int.reduceLE, Int.reduceAdd, Int.reduceSub, Int.reduceNeg, Int.reduceMul, Int.reduceToNat, Nat.reduceSub, Nat.reduceMul, Nat.reduceLeDiff, Nat.reduceAdd, Nat.reduceLT, Nat.reduceEqDiff, reduceCtorEq, ↓reduceIte, rqs, case12_A, case12_B, case12_X, case12_Y, ints_two, hF, b0, b1]
          refine call_by (F02) (by first | rfl | (simp only [tocvs, tocv, hF, b0, b1]; rfl) | (simp only [tocvs, tocv, toboxes, tobox, updH_at, Nat.reduceEqDiff, ↓reduceIte, hF, b0, b1]; rfl)) (by simp) ?_
          simp (disch := omega) only [wk, tis, Int.reduceNe, Int.reduceEq, Int.reduceLT, Int.reduceLE, Int.reduceAdd, Int.reduceSub, Int.reduceNeg, Int.reduceMul, Int.reduceToNat, Nat.reduceSub, Nat.reduceMul, Nat.reduceLeDiff, Nat.reduceAdd, Nat.reduceLT, Nat.reduceEqDiff, reduceCtorEq, ↓reduceIte, rqs, case12_A, case12_B, case12_X, case12_Y, ints_two, hF, b0, b1]
          refine call_by (F03) (by first | rfl | (simp only [tocvs, tocv, hF, b0, b1, F04]; rfl) | (simp only [tocvs, tocv, toboxes, tobox, updH_at, Nat.reduceEqDiff, ↓reduceIte, hF, b0, b1, F04]; rfl)) (by simp) ?_
          simp (disch := omega) only [wk, tis, Int.reduceNe, Int.reduceEq, Int.reduceLT, Int.reduceLE, Int.reduceAdd, Int.reduceSub, Int.reduceNeg, Int.reduceMul, Int.reduceToNat, Nat.reduceSub, Nat.reduceMul, Nat.reduceLeDiff, Nat.reduceAdd, Nat.reduceLT, Nat.reduceEqDiff, reduceCtorEq, ↓reduceIte, rqs, case12_A, case12_B, case12_X, case12_Y, ints_two, hF, b0, b1, F04]
          first | exact log_by (by kernel_rfl) | refine ⟨log_by (by kernel_rfl), ?_⟩
          refine ⟨1, st, by omega, ?_⟩
          (repeat' apply And.intro) <;> first | rfl | omega
        · simp (disch := omega) only [wk, tis, Int.reduceNe, Int.reduceEq, Int.reduceLT, Int.reduceLE, Int.reduceAdd, Int.reduceSub, Int.reduceNeg, Int.reduceMul, Int.reduceToNat, Nat.reduceSub, Nat.reduceMul, Nat.reduceLeDiff, Nat.reduceAdd, Nat.reduceLT, Nat.reduceEqDiff, reduceCtorEq, ↓reduceIte, rqs, case12_A, case12_B, case12_X, case12_Y, ints_two, hF, b0, b1]
          refine ⟨tmps_by (by kernel_rfl), ?_⟩
          refine call_by (F11) (by first | rfl | (simp only [tocvs, tocv, hF, b0, b1]; rfl) | (simp only [tocvs, tocv, toboxes, tobox, updH_at, Nat.reduceEqDiff, ↓reduceIte, hF, b0, b1]; rfl)) (by simp) ?_
          simp (disch := omega) only [wk, tis, Int.reduceNe, Int.reduceEq, Int.reduceLT, Int.reduceLE, Int.reduceAdd, Int.reduceSub, Int.reduceNeg, Int.reduceMul, Int.reduceToNat, Nat.reduceSub, Nat.reduceMul, Nat.reduceLeDiff, Nat.reduceAdd, Nat.reduceLT, Nat.reduceEqDiff, reduceCtorEq, ↓reduceIte, rqs, case12_A, case12_B, case12_X, case12_Y, ints_two, hF, b0, b1]
          refine call_by (F12) (by first | rfl | (simp only [tocvs, tocv, hF, b0, b1]; rfl) | (simp only [tocvs, tocv, toboxes, tobox, updH_at, Nat.reduceEqDiff, ↓reduceIte, hF, b0, b1]; rfl)) (by simp) ?_
          simp (disch := omega) only [wk, tis, Int.reduceNe, Int.reduceEq, Int.reduceLT, Int.reduceLE, Int.reduceAdd, Int.reduceSub, Int.reduceNeg, Int.reduceMul, Int.reduceToNat, Nat.reduceSub, Nat.reduceMul, Nat.reduceLeDiff, Nat.reduceAdd, Nat.reduceLT, Nat.reduceEqDiff, reduceCtorEq, ↓reduceIte, rqs, case12_A, case12_B, case12_X, case12_Y, ints_two, hF, b0, b1]
          refine call_by (F13) (by first | rfl | (simp only [tocvs, tocv, hF, b0, b1, F14]; rfl) | (simp only [tocvs, tocv, toboxes, tobox, updH_at, Nat.reduceEqDiff, ↓reduceIte, hF, b0, b1, F14]; rfl)) (by simp) ?_
          simp (disch := omega) only [wk, tis, Int.reduceNe, Int.reduceEq, Int.reduceLT, Int.reduceLE, Int.reduceAdd, Int.reduceSub, Int.reduceNeg, Int.reduceMul, Int.reduceToNat, Nat.reduceSub, Nat.reduceMul, Nat.reduceLeDiff, Nat.reduceAdd, Nat.reduceLT, Nat.reduceEqDiff, reduceCtorEq, ↓reduceIte, rqs, case12_A, case12_B, case12_X, case12_Y, ints_two, hF, b0, b1, F14]
          first | exact log_by (by kernel_rfl) | refine ⟨log_by (by kernel_rfl), ?_⟩
          refine ⟨2, st, by omega, ?_⟩
          (repeat' apply And.intro) <;> first | rfl | omega
      simp (disch := omega) only [wk, tis, Int.reduceNe, Int.reduceEq, Int.reduceLT, Int.reduceLE, Int.reduceAdd, Int.reduceSub, Int.reduceNeg, Int.reduceMul, Int.reduceToNat, Nat.reduceSub, Nat.reduceMul, Nat.reduceLeDiff, Nat.reduceAdd, Nat.reduceLT, Nat.reduceEqDiff, reduceCtorEq, ↓reduceIte, rqs, case12_A, case12_B, case12_X, case12_Y, ints_two, hF]
      refine call_by (okX) (by first | rfl | (simp only [tocvs, tocv, hF]; rfl) | (simp only [tocvs, tocv, toboxes, tobox, updH_at, Nat.reduceEqDiff, ↓reduceIte, hF]; rfl)) (by simp) ?_
      simp (disch := omega) only [wk, tis, Int.reduceNe, Int.reduceEq, Int.reduceLT, Int.reduceLE, Int.reduceAdd, Int.reduceSub, Int.reduceNeg, Int.reduceMul, Int.reduceToNat, Nat.reduceSub, Nat.reduceMul, Nat.reduceLeDiff, Nat.reduceAdd, Nat.reduceLT, Nat.reduceEqDiff, reduceCtorEq, ↓reduceIte, rqs, case12_A, case12_B, case12_X, case12_Y, ints_two, hF]
      obtain ⟨s, t, u, g1, g2, g3, g4, g5, g6⟩ := SG h0
      refine call_by (g1) (by first | rfl | (simp only [tocvs, tocv, hF, g4]; rfl) | (simp only [tocvs, tocv, toboxes, tobox, updH_at, Nat.reduceEqDiff, ↓reduceIte, hF, g4]; rfl)) (by simp) ?_
      simp (disch := omega) only [wk, tis, Int.reduceNe, Int.reduceEq, Int.reduceLT, Int.reduceLE, Int.reduceAdd, Int.reduceSub, Int.reduceNeg, Int.reduceMul, Int.reduceToNat, Nat.reduceSub, Nat.reduceMul, Nat.reduceLeDiff, Nat.reduceAdd, Nat.reduceLT, Nat.reduceEqDiff, reduceCtorEq, ↓reduceIte, rqs, case12_A, case12_B, case12_X, case12_Y, ints_two, hF, g4]
      refine call_by (g2) (by first | rfl | (simp only [tocvs, tocv, hF, g4]; rfl) | (simp only [tocvs, tocv, toboxes, tobox, updH_at, Nat.reduceEqDiff, ↓reduceIte, hF, g4]; rfl)) (by simp) ?_
      simp (disch := omega) only [wk, tis, Int.reduceNe, Int.reduceEq, Int.reduceLT, Int.reduceLE, Int.reduceAdd, Int.reduceSub, Int.reduceNeg, Int.reduceMul, Int.reduceToNat, Nat.reduceSub, Nat.reduceMul, Nat.reduceLeDiff, Nat.reduceAdd, Nat.reduceLT, Nat.reduceEqDiff, reduceCtorEq, ↓reduceIte, rqs, case12_A, case12_B, case12_X, case12_Y, ints_two, hF, g4]
      refine call_by (g3) (by first | rfl | (simp only [tocvs, tocv, hF, g4]; rfl) | (simp only [tocvs, tocv, toboxes, tobox, updH_at, Nat.reduceEqDiff, ↓reduceIte, hF, g4]; rfl)) (by simp) ?_
      simp (disch := omega) only [wk, tis, Int.reduceNe, Int.reduceEq, Int.reduceLT, Int.reduceLE, Int.reduceAdd, Int.reduceSub, Int.reduceNeg, Int.reduceMul, Int.reduceToNat, Nat.reduceSub, Nat.reduceMul, Nat.reduceLeDiff, Nat.reduceAdd, Nat.reduceLT, Nat.reduceEqDiff, reduceCtorEq, ↓reduceIte, rqs, case12_A, case12_B, case12_X, case12_Y, ints_two, hF, g4]
      refine call_by (hm) (by first | rfl | (simp only [tocvs, tocv, hF]; rfl) | (simp only [tocvs, tocv, toboxes, tobox, updH_at, Nat.reduceEqDiff, ↓reduceIte, hF]; rfl)) (by simp) ?_
      simp (disch := omega) only [wk, tis, Int.reduceNe, Int.reduceEq, Int.reduceLT, Int.reduceLE, Int.reduceAdd, Int.reduceSub, Int.reduceNeg, Int.reduceMul, Int.reduceToNat, Nat.reduceSub, Nat.reduceMul, Nat.reduceLeDiff, Nat.reduceAdd, Nat.reduceLT, Nat.reduceEqDiff, reduceCtorEq, ↓reduceIte, rqs, case12_A, case12_B, case12_X, case12_Y, ints_two, hF]
      refine ⟨tmps_by (by kernel_rfl), ?_⟩
      refine call_by (h1) (by first | rfl | (simp only [tocvs, tocv, hF]; rfl) | (simp only [tocvs, tocv, toboxes, tobox, updH_at, Nat.reduceEqDiff, ↓reduceIte, hF]; rfl)) (by simp) ?_
      simp (disch := omega) only [wk, tis, Int.reduceNe, Int.reduceEq, Int.reduceLT, Int.reduceLE, Int.reduceAdd, Int.reduceSub, Int.reduceNeg, Int.reduceMul, Int.reduceToNat, Nat.reduceSub, Nat.reduceMul, Nat.reduceLeDiff, Nat.reduceAdd, Nat.reduceLT, Nat.reduceEqDiff, reduceCtorEq, ↓reduceIte, rqs, case12_A, case12_B, case12_X, case12_Y, ints_two, hF]
      refine call_by (h2) (by first | rfl | (simp only [tocvs, tocv, hF]; rfl) | (simp only [tocvs, tocv, toboxes, tobox, updH_at, Nat.reduceEqDiff, ↓reduceIte, hF]; rfl)) (by simp) ?_
      simp (disch := omega) only [wk, tis, Int.reduceNe, Int.reduceEq, Int.reduceLT, Int.reduceLE, Int.reduceAdd, Int.reduceSub, Int.reduceNeg, Int.reduceMul, Int.reduceToNat, Nat.reduceSub, Nat.reduceMul, Nat.reduceLeDiff, Nat.reduceAdd, Nat.reduceLT, Nat.reduceEqDiff, reduceCtorEq, ↓reduceIte, rqs, case12_A, case12_B, case12_X, case12_Y, ints_two, hF]
      refine call_by (rmul) (by first | rfl | (simp only [tocvs, tocv, hF]; rfl) | (simp only [tocvs, tocv, toboxes, tobox, updH_at, Nat.reduceEqDiff, ↓reduceIte, hF]; rfl)) (by simp) ?_
      simp (disch := omega) only [wk, tis, Int.reduceNe, Int.reduceEq, Int.reduceLT, Int.reduceLE, Int.reduceAdd, Int.reduceSub, Int.reduceNeg, Int.reduceMul, Int.reduceToNat, Nat.reduceSub, Nat.reduceMul, Nat.reduceLeDiff, Nat.reduceAdd, Nat.reduceLT, Nat.reduceEqDiff, reduceCtorEq, ↓reduceIte, rqs, case12_A, case12_B, case12_X, case12_Y, ints_two, hF]
      refine call_by (sm1) (by first | rfl | (simp only [tocvs, tocv, hF]; rfl) | (simp only [tocvs, tocv, toboxes, tobox, updH_at, Nat.reduceEqDiff, ↓reduceIte, hF]; rfl)) (by simp) ?_
      simp (disch := omega) only [wk, tis, Int.reduceNe, Int.reduceEq, Int.reduceLT, Int.reduceLE, Int.reduceAdd, Int.reduceSub, Int.reduceNeg, Int.reduceMul, Int.reduceToNat, Nat.reduceSub, Nat.reduceMul, Nat.reduceLeDiff, Nat.reduceAdd, Nat.reduceLT, Nat.reduceEqDiff, reduceCtorEq, ↓reduceIte, rqs, case12_A, case12_B, case12_X, case12_Y, ints_two, hF]
      first | exact log_by (by kernel_rfl) | refine ⟨log_by (by kernel_rfl), ?_⟩
      refine ⟨tmps_by (by kernel_rfl), ?_⟩
      refine call_by (zone) (by first | rfl | (simp only [tocvs, tocv, hF]; rfl) | (simp only [tocvs, tocv, toboxes, tobox, updH_at, Nat.reduceEqDiff, ↓reduceIte, hF]; rfl)) (by simp) ?_
      simp (disch := omega) only [wk, tis, Int.reduceNe, Int.reduceEq, Int.reduceLT, Int.reduceLE, Int.reduceAdd, Int.reduceSub, Int.reduceNeg, Int.reduceMul, Int.reduceToNat, Nat.reduceSub, Nat.reduceMul, Nat.reduceLeDiff, Nat.reduceAdd, Nat.reduceLT, Nat.reduceEqDiff, reduceCtorEq, ↓reduceIte, rqs, case12_A, case12_B, case12_X, case12_Y, ints_two, hF]
      refine call_by (hone) (by first | rfl | (simp only [tocvs, tocv, hF]; rfl) | (simp only [tocvs, tocv, toboxes, tobox, updH_at, Nat.reduceEqDiff, ↓reduceIte, hF]; rfl)) (by simp) ?_
      simp (disch := omega) only [wk, tis, Int.reduceNe, Int.reduceEq, Int.reduceLT, Int.reduceLE, Int.reduceAdd, Int.reduceSub, Int.reduceNeg, Int.reduceMul, Int.reduceToNat, Nat.reduceSub, Nat.reduceMul, Nat.reduceLeDiff, Nat.reduceAdd, Nat.reduceLT, Nat.reduceEqDiff, reduceCtorEq, ↓reduceIte, rqs, case12_A, case12_B, case12_X, case12_Y, ints_two, hF]
      refine call_by (hat) (by first | rfl | (simp only [tocvs, tocv, hF]; rfl) | (simp only [tocvs, tocv, toboxes, tobox, updH_at, Nat.reduceEqDiff, ↓reduceIte, hF]; rfl)) (by simp) ?_
      simp (disch := omega) only [wk, tis, Int.reduceNe, Int.reduceEq, Int.reduceLT, Int.reduceLE, Int.reduceAdd, Int.reduceSub, Int.reduceNeg, Int.reduceMul, Int.reduceToNat, Nat.reduceSub, Nat.reduceMul, Nat.reduceLeDiff, Nat.reduceAdd, Nat.reduceLT, Nat.reduceEqDiff, reduceCtorEq, ↓reduceIte, rqs, case12_A, case12_B, case12_X, case12_Y, ints_two, hF]
      refine call_by (sm2) (by first | rfl | (simp only [tocvs, tocv, hF]; rfl) | (simp only [tocvs, tocv, toboxes, tobox, updH_at, Nat.reduceEqDiff, ↓reduceIte, hF]; rfl)) (by simp) ?_
      simp (disch := omega) only [wk, tis, Int.reduceNe, Int.reduceEq, Int.reduceLT, Int.reduceLE, Int.reduceAdd, Int.reduceSub, Int.reduceNeg, Int.reduceMul, Int.reduceToNat, Nat.reduceSub, Nat.reduceMul, Nat.reduceLeDiff, Nat.reduceAdd, Nat.reduceLT, Nat.reduceEqDiff, reduceCtorEq, ↓reduceIte, rqs, case12_A, case12_B, case12_X, case12_Y, ints_two, hF]
      first | exact log_by (by kernel_rfl) | refine ⟨log_by (by kernel_rfl), ?_⟩
      try rfl
    · rw [decide_eq_false h0] at okX
      have h0 := Decidable.not_not.mp h0
      have v1 := qpadd_ok x.R x.S 200 ((ft.R.gq hgd.1).mono (by omega) (by omega)) ((ft.S.gq hgd.2).mono (by omega) (by omega)) (by omega) (by omega)
      have v2 := qpmul_ok x.R x.S 40 200 (ft.R.gq hgd.1) (ft.S.gq hgd.2) (by omega) (by omega) (by omega)
      refine AC.by_walk (rs := [.tmp 2]) ords Tryz.func7 (by rfl) (by rfl) (by rfl) (by rfl) (by rfl) ?_
      simp (disch := omega) only [wk, tis, Int.reduceNe, Int.reduceEq, Int.reduceLT, Int.reduceLE, Int.reduceAdd, Int.reduceSub, Int.reduceNeg, Int.reduceMul, Int.reduceToNat, Nat.reduceSub, Nat.reduceMul, Nat.reduceLeDiff, Nat.reduceAdd, Nat.reduceLT, Nat.reduceEqDiff, reduceCtorEq, ↓reduceIte, rqs, case12_A, case12_B, case12_X, case12_Y, ints_two]
      refine call_by (awake12_ok) (by rfl) (by simp) ?_
      simp (disch := omega) only [wk, tis, Int.reduceNe, Int.reduceEq, Int.reduceLT, Int.reduceLE, Int.reduceAdd, Int.reduceSub, Int.reduceNeg, Int.reduceMul, Int.reduceToNat, Nat.reduceSub, Nat.reduceMul, Nat.reduceLeDiff, Nat.reduceAdd, Nat.reduceLT, Nat.reduceEqDiff, reduceCtorEq, ↓reduceIte, rqs, case12_A, case12_B, case12_X, case12_Y, ints_two]
      refine call_by (g) (by rfl) (by simp) ?_
      simp (disch := omega) only [wk, tis, Int.reduceNe, Int.reduceEq, Int.reduceLT, Int.reduceLE, Int.reduceAdd, Int.reduceSub, Int.reduceNeg, Int.reduceMul, Int.reduceToNat, Nat.reduceSub, Nat.reduceMul, Nat.reduceLeDiff, Nat.reduceAdd, Nat.reduceLT, Nat.reduceEqDiff, reduceCtorEq, ↓reduceIte, rqs, case12_A, case12_B, case12_X, case12_Y, ints_two]
      refine call_by (v1) (by rfl) (by simp) ?_
      simp (disch := omega) only [wk, tis, Int.reduceNe, Int.reduceEq, Int.reduceLT, Int.reduceLE, Int.reduceAdd, Int.reduceSub, Int.reduceNeg, Int.reduceMul, Int.reduceToNat, Nat.reduceSub, Nat.reduceMul, Nat.reduceLeDiff, Nat.reduceAdd, Nat.reduceLT, Nat.reduceEqDiff, reduceCtorEq, ↓reduceIte, rqs, case12_A, case12_B, case12_X, case12_Y, ints_two]
      refine call_by (v2) (by rfl) (by simp) ?_
      simp (disch := omega) only [wk, tis, Int.reduceNe, Int.reduceEq, Int.reduceLT, Int.reduceLE, Int.reduceAdd, Int.reduceSub, Int.reduceNeg, Int.reduceMul, Int.reduceToNat, Nat.reduceSub, Nat.reduceMul, Nat.reduceLeDiff, Nat.reduceAdd, Nat.reduceLT, Nat.reduceEqDiff, reduceCtorEq, ↓reduceIte, rqs, case12_A, case12_B, case12_X, case12_Y, ints_two]
      refine call_by (okX) (by rfl) (by simp) ?_
      simp (disch := omega) only [wk, tis, Int.reduceNe, Int.reduceEq, Int.reduceLT, Int.reduceLE, Int.reduceAdd, Int.reduceSub, Int.reduceNeg, Int.reduceMul, Int.reduceToNat, Nat.reduceSub, Nat.reduceMul, Nat.reduceLeDiff, Nat.reduceAdd, Nat.reduceLT, Nat.reduceEqDiff, reduceCtorEq, ↓reduceIte, rqs, case12_A, case12_B, case12_X, case12_Y, ints_two]
      refine frame_call (fun f H => f 1 = .hp 1 1 0 0 ∧ f 2 = .iv (.bool false) ∧ H 1 = .blk false 1 33 15 [case12 x]) ?_ (fun f H hF => ?_)
      · simp (disch := omega) only [wk, tis, Int.reduceNe, Int.reduceEq, Int.reduceLT, Int.reduceLE, Int.reduceAdd, Int.reduceSub, Int.reduceNeg, Int.reduceMul, Int.reduceToNat, Nat.reduceSub, Nat.reduceMul, Nat.reduceLeDiff, Nat.reduceAdd, Nat.reduceLT, Nat.reduceEqDiff, reduceCtorEq, ↓reduceIte, rqs, case12_A, case12_B, case12_X, case12_Y, ints_two]
      refine call_by (pm) (by first | rfl | (simp only [tocvs, tocv, hF]; rfl) | (simp only [tocvs, tocv, toboxes, tobox, updH_at, Nat.reduceEqDiff, ↓reduceIte, hF]; rfl)) (by simp) ?_
      simp (disch := omega) only [wk, tis, Int.reduceNe, Int.reduceEq, Int.reduceLT, Int.reduceLE, Int.reduceAdd, Int.reduceSub, Int.reduceNeg, Int.reduceMul, Int.reduceToNat, Nat.reduceSub, Nat.reduceMul, Nat.reduceLeDiff, Nat.reduceAdd, Nat.reduceLT, Nat.reduceEqDiff, reduceCtorEq, ↓reduceIte, rqs, case12_A, case12_B, case12_X, case12_Y, ints_two, hF]
      refine aloop_by (fun f H => ∃ (i st : Nat), i ≤ 2 ∧ f 127 = .iv (.int .i64 i) ∧ f 126 = .iv (.int .i64 2) ∧ f 125 = .hs 125 st ∧ H 125 = .blk false st 4 1 [[.bool false], [.bool true]] ∧ f 1 = .hp 1 1 0 0 ∧ H 1 = .blk false 1 33 15 [case12 x] ∧ f 15 = .iv (.sl (cpoly (pmul (pv x.P) (pv x.Q))))) (fun f H => (2 - intAt f 127).toNat) ?_ ?_
      · refine ⟨0, (H 125).stamp + 1, by omega, ?_⟩
        simp (disch := omega) only [wk, tis, Int.reduceNe, Int.reduceEq, Int.reduceLT, Int.reduceLE, Int.reduceAdd, Int.reduceSub, Int.reduceNeg, Int.reduceMul, Int.reduceToNat, Nat.reduceSub, Nat.reduceMul, Nat.reduceLeDiff, Nat.reduceAdd, Nat.reduceLT, Nat.reduceEqDiff, reduceCtorEq, ↓reduceIte, rqs, case12_A, case12_B, case12_X, case12_Y, ints_two, hF, show ((2 : Nat) : Int) = 2 from rfl]
      rintro f H ⟨i, st, hi, hF⟩
      rw [intAt_of hF.1]
      simp (disch := omega) only [wk, tis, Int.reduceNe, Int.reduceEq, Int.reduceLT, Int.reduceLE, Int.reduceAdd, Int.reduceSub, Int.reduceNeg, Int.reduceMul, Int.reduceToNat, Nat.reduceSub, Nat.reduceMul, Nat.reduceLeDiff, Nat.reduceAdd, Nat.reduceLT, Nat.reduceEqDiff, reduceCtorEq, ↓reduceIte, rqs, case12_A, case12_B, case12_X, case12_Y, ints_two, hF]
      refine if_by (fun hlt => ?_) (fun hlt => ?_)
      · have h01 : i = 0 ∨ i = 1 := by omega
        have b0 := bools_at0
        have b1 := bools_at1
        rcases h01 with rfl | rfl
        · simp (disch := omega) only [wk, tis, Int.reduceNe, Int.reduceEq, Int.reduceLT, Int.reduceLE, Int.reduceAdd, Int.reduceSub, Int.reduceNeg, Int.reduceMul, Int.reduceToNat, Nat.reduceSub, Nat.reduceMul, Nat.reduceLeDiff, Nat.reduceAdd, Nat.reduceLT, Nat.reduceEqDiff, reduceCtorEq, ↓reduceIte, rqs, case12_A, case12_B, case12_X, case12_Y, ints_two, hF, b0, b1]
          refine ⟨tmps_by (by kernel_rfl), ?_⟩
          refine call_by (F01) (by first | rfl | (simp only [tocvs, tocv, hF, b0, b1]; rfl) | (simp only [tocvs, tocv, toboxes, tobox, updH_at, Nat.reduceEqDiff, ↓reduceIte, hF, b0, b1]; rfl)) (by simp) ?_
          simp (disch := omega) only [wk, tis, Int.reduceNe, Int.reduceEq, Int.reduceLT, Int.reduceLE, Int.reduceAdd, Int.reduceSub, Int.reduceNeg, Int.reduceMul, Int.reduceToNat, Nat.reduceSub, Nat.reduceMul, Nat.reduceLeDiff, Nat.reduceAdd, Nat.reduceLT, Nat.reduceEqDiff, reduceCtorEq, ↓reduceIte, rqs, case12_A, case12_B, case12_X, case12_Y, ints_two, hF, b0, b1]
          refine call_by (F02) (by first | rfl | (simp only [tocvs, tocv, hF, b0, b1]; rfl) | (simp only [tocvs, tocv, toboxes, tobox, updH_at, Nat.reduceEqDiff, ↓reduceIte, hF, b0, b1]; rfl)) (by simp) ?_
          simp (disch := omega) only [wk, tis, Int.reduceNe, Int.reduceEq, Int.reduceLT, Int.reduceLE, Int.reduceAdd, Int.reduceSub, Int.reduceNeg, Int.reduceMul, Int.reduceToNat, Nat.reduceSub, Nat.reduceMul, Nat.reduceLeDiff, Nat.reduceAdd, Nat.reduceLT, Nat.reduceEqDiff, reduceCtorEq, ↓reduceIte, rqs, case12_A, case12_B, case12_X, case12_Y, ints_two, hF, b0, b1]
          refine call_by (F03) (by first | rfl | (simp only [tocvs, tocv, hF, b0, b1, F04]; rfl) | (simp only [tocvs, tocv, toboxes, tobox, updH_at, Nat.reduceEqDiff, ↓reduceIte, hF, b0, b1, F04]; rfl)) (by simp) ?_
          simp (disch := omega) only [wk, tis, Int.reduceNe, Int.reduceEq, Int.reduceLT, Int.reduceLE, Int.reduceAdd, Int.reduceSub, Int.reduceNeg, Int.reduceMul, Int.reduceToNat, Nat.reduceSub, Nat.reduceMul, Nat.reduceLeDiff, Nat.reduceAdd, Nat.reduceLT, Nat.reduceEqDiff, reduceCtorEq, ↓reduceIte, rqs, case12_A, case12_B, case12_X, case12_Y, ints_two, hF, b0, b1, F04]
          first | exact log_by (by kernel_rfl) | refine ⟨log_by (by kernel_rfl), ?_⟩
          refine ⟨1, st, by omega, ?_⟩
          (repeat' apply And.intro) <;> first | rfl | omega
        · simp (disch := omega) only [wk, tis, Int.reduceNe, Int.reduceEq, Int.reduceLT, Int.reduceLE, Int.reduceAdd, Int.reduceSub, Int.reduceNeg, Int.reduceMul, Int.reduceToNat, Nat.reduceSub, Nat.reduceMul, Nat.reduceLeDiff, Nat.reduceAdd, Nat.reduceLT, Nat.reduceEqDiff, reduceCtorEq, ↓reduceIte, rqs, case12_A, case12_B, case12_X, case12_Y, ints_two, hF, b0, b1]
          refine ⟨tmps_by (by kernel_rfl), ?_⟩
          refine call_by (F11) (by first | rfl | (simp only [tocvs, tocv, hF, b0, b1]; rfl) | (simp only [tocvs, tocv, toboxes, tobox, updH_at, Nat.reduceEqDiff, ↓reduceIte, hF, b0, b1]; rfl)) (by simp) ?_
          simp (disch := omega) only [wk, tis, Int.reduceNe, Int.reduceEq, Int.reduceLT, Int.reduceLE, Int.reduceAdd, Int.reduceSub, Int.reduceNeg, Int.reduceMul, Int.reduceToNat, Nat.reduceSub, Nat.reduceMul, Nat.reduceLeDiff, Nat.reduceAdd, Nat.reduceLT, Nat.reduceEqDiff, reduceCtorEq, ↓reduceIte, rqs, case12_A, case12_B, case12_X, case12_Y, ints_two, hF, b0, b1]
          refine call_by (F12) (by first | rfl | (simp only [tocvs, tocv, hF, b0, b1]; rfl) | (simp only [tocvs, tocv, toboxes, tobox, updH_at, Nat.reduceEqDiff, ↓reduceIte, hF, b0, b1]; rfl)) (by simp) ?_
          simp (disch := omega) only [wk, tis, Int.reduceNe, Int.reduceEq, Int.reduceLT, Int.reduceLE, Int.reduceAdd, Int.reduceSub, Int.reduceNeg, Int.reduceMul, Int.reduceToNat, Nat.reduceSub, Nat.reduceMul, Nat.reduceLeDiff, Nat.reduceAdd, Nat.reduceLT, Nat.reduceEqDiff, reduceCtorEq, ↓reduceIte, rqs, case12_A, case12_B, case12_X, case12_Y, ints_two, hF, b0, b1]
          refine call_by (F13) (by first | rfl | (simp only [tocvs, tocv, hF, b0, b1, F14]; rfl) | (simp only [tocvs, tocv, toboxes, tobox, updH_at, Nat.reduceEqDiff, ↓reduceIte, hF, b0, b1, F14]; rfl)) (by simp) ?_
          simp (disch := omega) only [wk, tis, Int.reduceNe, Int.reduceEq, Int.reduceLT, Int.reduceLE, Int.reduceAdd, Int.reduceSub, Int.reduceNeg, Int.reduceMul, Int.reduceToNat, Nat.reduceSub, Nat.reduceMul, Nat.reduceLeDiff, Nat.reduceAdd, Nat.reduceLT, Nat.reduceEqDiff, reduceCtorEq, ↓reduceIte, rqs, case12_A, case12_B, case12_X, case12_Y, ints_two, hF, b0, b1, F14]
          first | exact log_by (by kernel_rfl) | refine ⟨log_by (by kernel_rfl), ?_⟩
          refine ⟨2, st, by omega, ?_⟩
          (repeat' apply And.intro) <;> first | rfl | omega
      simp (disch := omega) only [wk, tis, Int.reduceNe, Int.reduceEq, Int.reduceLT, Int.reduceLE, Int.reduceAdd, Int.reduceSub, Int.reduceNeg, Int.reduceMul, Int.reduceToNat, Nat.reduceSub, Nat.reduceMul, Nat.reduceLeDiff, Nat.reduceAdd, Nat.reduceLT, Nat.reduceEqDiff, reduceCtorEq, ↓reduceIte, rqs, case12_A, case12_B, case12_X, case12_Y, ints_two, hF]
      refine call_by (okX) (by first | rfl | (simp only [tocvs, tocv, hF]; rfl) | (simp only [tocvs, tocv, toboxes, tobox, updH_at, Nat.reduceEqDiff, ↓reduceIte, hF]; rfl)) (by simp) ?_
      simp (disch := omega) only [wk, tis, Int.reduceNe, Int.reduceEq, Int.reduceLT, Int.reduceLE, Int.reduceAdd, Int.reduceSub, Int.reduceNeg, Int.reduceMul, Int.reduceToNat, Nat.reduceSub, Nat.reduceMul, Nat.reduceLeDiff, Nat.reduceAdd, Nat.reduceLT, Nat.reduceEqDiff, reduceCtorEq, ↓reduceIte, rqs, case12_A, case12_B, case12_X, case12_Y, ints_two, hF]
      have g1 := eSign_bad (cn (pmul (pv x.P) (pv x.Q))) x.X ⟨Nat.le_trans ft.X.2.1 (by omega), ft.X.2.2⟩ h0
      have g2 := plain12_ok 1 1
      rw [decide_eq_true rfl] at g2
      refine call_by (g1) (by first | rfl | (simp only [tocvs, tocv, hF]; rfl) | (simp only [tocvs, tocv, toboxes, tobox, updH_at, Nat.reduceEqDiff, ↓reduceIte, hF]; rfl)) (by simp) ?_
      simp (disch := omega) only [wk, tis, Int.reduceNe, Int.reduceEq, Int.reduceLT, Int.reduceLE, Int.reduceAdd, Int.reduceSub, Int.reduceNeg, Int.reduceMul, Int.reduceToNat, Nat.reduceSub, Nat.reduceMul, Nat.reduceLeDiff, Nat.reduceAdd, Nat.reduceLT, Nat.reduceEqDiff, reduceCtorEq, ↓reduceIte, rqs, case12_A, case12_B, case12_X, case12_Y, ints_two, hF]
      refine call_by (g2) (by first | rfl | (simp only [tocvs, tocv, hF]; rfl) | (simp only [tocvs, tocv, toboxes, tobox, updH_at, Nat.reduceEqDiff, ↓reduceIte, hF]; rfl)) (by simp) ?_
      simp (disch := omega) only [wk, tis, Int.reduceNe, Int.reduceEq, Int.reduceLT, Int.reduceLE, Int.reduceAdd, Int.reduceSub, Int.reduceNeg, Int.reduceMul, Int.reduceToNat, Nat.reduceSub, Nat.reduceMul, Nat.reduceLeDiff, Nat.reduceAdd, Nat.reduceLT, Nat.reduceEqDiff, reduceCtorEq, ↓reduceIte, rqs, case12_A, case12_B, case12_X, case12_Y, ints_two, hF]
      try rfl
  · have hbad : gd x.R = false ∨ gd x.S = false := by
      cases hr : gd x.R with
      | false => exact .inl rfl
      | true =>
        cases hs : gd x.S with
        | false => exact .inr rfl
        | true => exact (hgd ⟨hr, hs⟩).elim
    have v1 := qpadd_bad x.R x.S (ft.R.mono (by omega) (by omega)) (ft.S.mono (by omega) (by omega)) hbad
    have v2 := qpmul_bad x.R x.S (ft.R.mono (by omega) (by omega)) (ft.S.mono (by omega) (by omega)) hbad
    by_cases h0 : nv x.X.2 ≠ 0
    · rw [decide_eq_true h0] at okX
      refine AC.by_walk (rs := [.tmp 2]) ords Tryz.func7 (by rfl) (by rfl) (by rfl) (by rfl) (by rfl) ?_
      simp (disch := omega) only [wk, tis, Int.reduceNe, Int.reduceEq, Int.reduceLT, Int.reduceLE, Int.reduceAdd, Int.reduceSub, Int.reduceNeg, Int.reduceMul, Int.reduceToNat, Nat.reduceSub, Nat.reduceMul, Nat.reduceLeDiff, Nat.reduceAdd, Nat.reduceLT, Nat.reduceEqDiff, reduceCtorEq, ↓reduceIte, rqs, case12_A, case12_B, case12_X, case12_Y, ints_two]
      refine call_by (awake12_ok) (by rfl) (by simp) ?_
      simp (disch := omega) only [wk, tis, Int.reduceNe, Int.reduceEq, Int.reduceLT, Int.reduceLE, Int.reduceAdd, Int.reduceSub, Int.reduceNeg, Int.reduceMul, Int.reduceToNat, Nat.reduceSub, Nat.reduceMul, Nat.reduceLeDiff, Nat.reduceAdd, Nat.reduceLT, Nat.reduceEqDiff, reduceCtorEq, ↓reduceIte, rqs, case12_A, case12_B, case12_X, case12_Y, ints_two]
      refine call_by (g) (by rfl) (by simp) ?_
      simp (disch := omega) only [wk, tis, Int.reduceNe, Int.reduceEq, Int.reduceLT, Int.reduceLE, Int.reduceAdd, Int.reduceSub, Int.reduceNeg, Int.reduceMul, Int.reduceToNat, Nat.reduceSub, Nat.reduceMul, Nat.reduceLeDiff, Nat.reduceAdd, Nat.reduceLT, Nat.reduceEqDiff, reduceCtorEq, ↓reduceIte, rqs, case12_A, case12_B, case12_X, case12_Y, ints_two]
      refine call_by (v1) (by rfl) (by simp) ?_
      simp (disch := omega) only [wk, tis, Int.reduceNe, Int.reduceEq, Int.reduceLT, Int.reduceLE, Int.reduceAdd, Int.reduceSub, Int.reduceNeg, Int.reduceMul, Int.reduceToNat, Nat.reduceSub, Nat.reduceMul, Nat.reduceLeDiff, Nat.reduceAdd, Nat.reduceLT, Nat.reduceEqDiff, reduceCtorEq, ↓reduceIte, rqs, case12_A, case12_B, case12_X, case12_Y, ints_two]
      refine call_by (v2) (by rfl) (by simp) ?_
      simp (disch := omega) only [wk, tis, Int.reduceNe, Int.reduceEq, Int.reduceLT, Int.reduceLE, Int.reduceAdd, Int.reduceSub, Int.reduceNeg, Int.reduceMul, Int.reduceToNat, Nat.reduceSub, Nat.reduceMul, Nat.reduceLeDiff, Nat.reduceAdd, Nat.reduceLT, Nat.reduceEqDiff, reduceCtorEq, ↓reduceIte, rqs, case12_A, case12_B, case12_X, case12_Y, ints_two]
      refine frame_call (fun f H => f 1 = .hp 1 1 0 0 ∧ f 2 = .iv (.bool false) ∧ H 1 = .blk false 1 33 15 [case12 x]) ?_ (fun f H hF => ?_)
      · simp (disch := omega) only [wk, tis, Int.reduceNe, Int.reduceEq, Int.reduceLT, Int.reduceLE, Int.reduceAdd, Int.reduceSub, Int.reduceNeg, Int.reduceMul, Int.reduceToNat, Nat.reduceSub, Nat.reduceMul, Nat.reduceLeDiff, Nat.reduceAdd, Nat.reduceLT, Nat.reduceEqDiff, reduceCtorEq, ↓reduceIte, rqs, case12_A, case12_B, case12_X, case12_Y, ints_two]
      refine call_by (pm) (by first | rfl | (simp only [tocvs, tocv, hF]; rfl) | (simp only [tocvs, tocv, toboxes, tobox, updH_at, Nat.reduceEqDiff, ↓reduceIte, hF]; rfl)) (by simp) ?_
      simp (disch := omega) only [wk, tis, Int.reduceNe, Int.reduceEq, Int.reduceLT, Int.reduceLE, Int.reduceAdd, Int.reduceSub, Int.reduceNeg, Int.reduceMul, Int.reduceToNat, Nat.reduceSub, Nat.reduceMul, Nat.reduceLeDiff, Nat.reduceAdd, Nat.reduceLT, Nat.reduceEqDiff, reduceCtorEq, ↓reduceIte, rqs, case12_A, case12_B, case12_X, case12_Y, ints_two, hF]
      refine aloop_by (fun f H => ∃ (i st : Nat), i ≤ 2 ∧ f 127 = .iv (.int .i64 i) ∧ f 126 = .iv (.int .i64 2) ∧ f 125 = .hs 125 st ∧ H 125 = .blk false st 4 1 [[.bool false], [.bool true]] ∧ f 1 = .hp 1 1 0 0 ∧ H 1 = .blk false 1 33 15 [case12 x] ∧ f 15 = .iv (.sl (cpoly (pmul (pv x.P) (pv x.Q))))) (fun f H => (2 - intAt f 127).toNat) ?_ ?_
      · refine ⟨0, (H 125).stamp + 1, by omega, ?_⟩
        simp (disch := omega) only [wk, tis, Int.reduceNe, Int.reduceEq, Int.reduceLT, Int.reduceLE, Int.reduceAdd, Int.reduceSub, Int.reduceNeg, Int.reduceMul, Int.reduceToNat, Nat.reduceSub, Nat.reduceMul, Nat.reduceLeDiff, Nat.reduceAdd, Nat.reduceLT, Nat.reduceEqDiff, reduceCtorEq, ↓reduceIte, rqs, case12_A, case12_B, case12_X, case12_Y, ints_two, hF, show ((2 : Nat) : Int) = 2 from rfl]
      rintro f H ⟨i, st, hi, hF⟩
      rw [intAt_of hF.1]
      simp (disch := omega) only [wk, tis, Int.reduceNe, Int.reduceEq, Int.reduceLT, Int.reduceLE, Int.reduceAdd, Int.reduceSub, Int.reduceNeg, Int.reduceMul, Int.reduceToNat, Nat.reduceSub, Nat.reduceMul, Nat.reduceLeDiff, Nat.reduceAdd, Nat.reduceLT, Nat.reduceEqDiff, reduceCtorEq, ↓reduceIte, rqs, case12_A, case12_B, case12_X, case12_Y, ints_two, hF]
      refine if_by (fun hlt => ?_) (fun hlt => ?_)
      · have h01 : i = 0 ∨ i = 1 := by omega
        have b0 := bools_at0
        have b1 := bools_at1
        rcases h01 with rfl | rfl
        · simp (disch := omega) only [wk, tis, Int.reduceNe, Int.reduceEq, Int.reduceLT, Int.reduceLE, Int.reduceAdd, Int.reduceSub, Int.reduceNeg, Int.reduceMul, Int.reduceToNat, Nat.reduceSub, Nat.reduceMul, Nat.reduceLeDiff, Nat.reduceAdd, Nat.reduceLT, Nat.reduceEqDiff, reduceCtorEq, ↓reduceIte, rqs, case12_A, case12_B, case12_X, case12_Y, ints_two, hF, b0, b1]
          refine ⟨tmps_by (by kernel_rfl), ?_⟩
          refine call_by (F01) (by first | rfl | (simp only [tocvs, tocv, hF, b0, b1]; rfl) | (simp only [tocvs, tocv, toboxes, tobox, updH_at, Nat.reduceEqDiff, ↓reduceIte, hF, b0, b1]; rfl)) (by simp) ?_
          simp (disch := omega) only [wk, tis, Int.reduceNe, Int.reduceEq, Int.reduceLT, Int.reduceLE, Int.reduceAdd, Int.reduceSub, Int.reduceNeg, Int.reduceMul, Int.reduceToNat, Nat.reduceSub, Nat.reduceMul, Nat.reduceLeDiff, Nat.reduceAdd, Nat.reduceLT, Nat.reduceEqDiff, reduceCtorEq, ↓reduceIte, rqs, case12_A, case12_B, case12_X, case12_Y, ints_two, hF, b0, b1]
          refine call_by (F02) (by first | rfl | (simp only [tocvs, tocv, hF, b0, b1]; rfl) | (simp only [tocvs, tocv, toboxes, tobox, updH_at, Nat.reduceEqDiff, ↓reduceIte, hF, b0, b1]; rfl)) (by simp) ?_
          simp (disch := omega) only [wk, tis, Int.reduceNe, Int.reduceEq, Int.reduceLT, Int.reduceLE, Int.reduceAdd, Int.reduceSub, Int.reduceNeg, Int.reduceMul, Int.reduceToNat, Nat.reduceSub, Nat.reduceMul, Nat.reduceLeDiff, Nat.reduceAdd, Nat.reduceLT, Nat.reduceEqDiff, reduceCtorEq, ↓reduceIte, rqs, case12_A, case12_B, case12_X, case12_Y, ints_two, hF, b0, b1]
          refine call_by (F03) (by first | rfl | (simp only [tocvs, tocv, hF, b0, b1, F04]; rfl) | (simp only [tocvs, tocv, toboxes, tobox, updH_at, Nat.reduceEqDiff, ↓reduceIte, hF, b0, b1, F04]; rfl)) (by simp) ?_
          simp (disch := omega) only [wk, tis, Int.reduceNe, Int.reduceEq, Int.reduceLT, Int.reduceLE, Int.reduceAdd, Int.reduceSub, Int.reduceNeg, Int.reduceMul, Int.reduceToNat, Nat.reduceSub, Nat.reduceMul, Nat.reduceLeDiff, Nat.reduceAdd, Nat.reduceLT, Nat.reduceEqDiff, reduceCtorEq, ↓reduceIte, rqs, case12_A, case12_B, case12_X, case12_Y, ints_two, hF, b0, b1, F04]
          first | exact log_by (by kernel_rfl) | refine ⟨log_by (by kernel_rfl), ?_⟩
          refine ⟨1, st, by omega, ?_⟩
          (repeat' apply And.intro) <;> first | rfl | omega
        · simp (disch := omega) only [wk, tis, Int.reduceNe, Int.reduceEq, Int.reduceLT, Int.reduceLE, Int.reduceAdd, Int.reduceSub, Int.reduceNeg, Int.reduceMul, Int.reduceToNat, Nat.reduceSub, Nat.reduceMul, Nat.reduceLeDiff, Nat.reduceAdd, Nat.reduceLT, Nat.reduceEqDiff, reduceCtorEq, ↓reduceIte, rqs, case12_A, case12_B, case12_X, case12_Y, ints_two, hF, b0, b1]
          refine ⟨tmps_by (by kernel_rfl), ?_⟩
          refine call_by (F11) (by first | rfl | (simp only [tocvs, tocv, hF, b0, b1]; rfl) | (simp only [tocvs, tocv, toboxes, tobox, updH_at, Nat.reduceEqDiff, ↓reduceIte, hF, b0, b1]; rfl)) (by simp) ?_
          simp (disch := omega) only [wk, tis, Int.reduceNe, Int.reduceEq, Int.reduceLT, Int.reduceLE, Int.reduceAdd, Int.reduceSub, Int.reduceNeg, Int.reduceMul, Int.reduceToNat, Nat.reduceSub, Nat.reduceMul, Nat.reduceLeDiff, Nat.reduceAdd, Nat.reduceLT, Nat.reduceEqDiff, reduceCtorEq, ↓reduceIte, rqs, case12_A, case12_B, case12_X, case12_Y, ints_two, hF, b0, b1]
          refine call_by (F12) (by first | rfl | (simp only [tocvs, tocv, hF, b0, b1]; rfl) | (simp only [tocvs, tocv, toboxes, tobox, updH_at, Nat.reduceEqDiff, ↓reduceIte, hF, b0, b1]; rfl)) (by simp) ?_
          simp (disch := omega) only [wk, tis, Int.reduceNe, Int.reduceEq, Int.reduceLT, Int.reduceLE, Int.reduceAdd, Int.reduceSub, Int.reduceNeg, Int.reduceMul, Int.reduceToNat, Nat.reduceSub, Nat.reduceMul, Nat.reduceLeDiff, Nat.reduceAdd, Nat.reduceLT, Nat.reduceEqDiff, reduceCtorEq, ↓reduceIte, rqs, case12_A, case12_B, case12_X, case12_Y, ints_two, hF, b0, b1]
          refine call_by (F13) (by first | rfl | (simp only [tocvs, tocv, hF, b0, b1, F14]; rfl) | (simp only [tocvs, tocv, toboxes, tobox, updH_at, Nat.reduceEqDiff, ↓reduceIte, hF, b0, b1, F14]; rfl)) (by simp) ?_
          simp (disch := omega) only [wk, tis, Int.reduceNe, Int.reduceEq, Int.reduceLT, Int.reduceLE, Int.reduceAdd, Int.reduceSub, Int.reduceNeg, Int.reduceMul, Int.reduceToNat, Nat.reduceSub, Nat.reduceMul, Nat.reduceLeDiff, Nat.reduceAdd, Nat.reduceLT, Nat.reduceEqDiff, reduceCtorEq, ↓reduceIte, rqs, case12_A, case12_B, case12_X, case12_Y, ints_two, hF, b0, b1, F14]
          first | exact log_by (by kernel_rfl) | refine ⟨log_by (by kernel_rfl), ?_⟩
          refine ⟨2, st, by omega, ?_⟩
          (repeat' apply And.intro) <;> first | rfl | omega
      simp (disch := omega) only [wk, tis, Int.reduceNe, Int.reduceEq, Int.reduceLT, Int.reduceLE, Int.reduceAdd, Int.reduceSub, Int.reduceNeg, Int.reduceMul, Int.reduceToNat, Nat.reduceSub, Nat.reduceMul, Nat.reduceLeDiff, Nat.reduceAdd, Nat.reduceLT, Nat.reduceEqDiff, reduceCtorEq, ↓reduceIte, rqs, case12_A, case12_B, case12_X, case12_Y, ints_two, hF]
      refine call_by (okX) (by first | rfl | (simp only [tocvs, tocv, hF]; rfl) | (simp only [tocvs, tocv, toboxes, tobox, updH_at, Nat.reduceEqDiff, ↓reduceIte, hF]; rfl)) (by simp) ?_
      simp (disch := omega) only [wk, tis, Int.reduceNe, Int.reduceEq, Int.reduceLT, Int.reduceLE, Int.reduceAdd, Int.reduceSub, Int.reduceNeg, Int.reduceMul, Int.reduceToNat, Nat.reduceSub, Nat.reduceMul, Nat.reduceLeDiff, Nat.reduceAdd, Nat.reduceLT, Nat.reduceEqDiff, reduceCtorEq, ↓reduceIte, rqs, case12_A, case12_B, case12_X, case12_Y, ints_two, hF]
      obtain ⟨s, t, u, g1, g2, g3, g4, g5, g6⟩ := SG h0
      refine call_by (g1) (by first | rfl | (simp only [tocvs, tocv, hF, g4]; rfl) | (simp only [tocvs, tocv, toboxes, tobox, updH_at, Nat.reduceEqDiff, ↓reduceIte, hF, g4]; rfl)) (by simp) ?_
      simp (disch := omega) only [wk, tis, Int.reduceNe, Int.reduceEq, Int.reduceLT, Int.reduceLE, Int.reduceAdd, Int.reduceSub, Int.reduceNeg, Int.reduceMul, Int.reduceToNat, Nat.reduceSub, Nat.reduceMul, Nat.reduceLeDiff, Nat.reduceAdd, Nat.reduceLT, Nat.reduceEqDiff, reduceCtorEq, ↓reduceIte, rqs, case12_A, case12_B, case12_X, case12_Y, ints_two, hF, g4]
      refine call_by (g2) (by first | rfl | (simp only [tocvs, tocv, hF, g4]; rfl) | (simp only [tocvs, tocv, toboxes, tobox, updH_at, Nat.reduceEqDiff, ↓reduceIte, hF, g4]; rfl)) (by simp) ?_
      simp (disch := omega) only [wk, tis, Int.reduceNe, Int.reduceEq, Int.reduceLT, Int.reduceLE, Int.reduceAdd, Int.reduceSub, Int.reduceNeg, Int.reduceMul, Int.reduceToNat, Nat.reduceSub, Nat.reduceMul, Nat.reduceLeDiff, Nat.reduceAdd, Nat.reduceLT, Nat.reduceEqDiff, reduceCtorEq, ↓reduceIte, rqs, case12_A, case12_B, case12_X, case12_Y, ints_two, hF, g4]
      refine call_by (g3) (by first | rfl | (simp only [tocvs, tocv, hF, g4]; rfl) | (simp only [tocvs, tocv, toboxes, tobox, updH_at, Nat.reduceEqDiff, ↓reduceIte, hF, g4]; rfl)) (by simp) ?_
      simp (disch := omega) only [wk, tis, Int.reduceNe, Int.reduceEq, Int.reduceLT, Int.reduceLE, Int.reduceAdd, Int.reduceSub, Int.reduceNeg, Int.reduceMul, Int.reduceToNat, Nat.reduceSub, Nat.reduceMul, Nat.reduceLeDiff, Nat.reduceAdd, Nat.reduceLT, Nat.reduceEqDiff, reduceCtorEq, ↓reduceIte, rqs, case12_A, case12_B, case12_X, case12_Y, ints_two, hF, g4]
      refine call_by (hm) (by first | rfl | (simp only [tocvs, tocv, hF]; rfl) | (simp only [tocvs, tocv, toboxes, tobox, updH_at, Nat.reduceEqDiff, ↓reduceIte, hF]; rfl)) (by simp) ?_
      simp (disch := omega) only [wk, tis, Int.reduceNe, Int.reduceEq, Int.reduceLT, Int.reduceLE, Int.reduceAdd, Int.reduceSub, Int.reduceNeg, Int.reduceMul, Int.reduceToNat, Nat.reduceSub, Nat.reduceMul, Nat.reduceLeDiff, Nat.reduceAdd, Nat.reduceLT, Nat.reduceEqDiff, reduceCtorEq, ↓reduceIte, rqs, case12_A, case12_B, case12_X, case12_Y, ints_two, hF]
      refine ⟨tmps_by (by kernel_rfl), ?_⟩
      refine call_by (h1) (by first | rfl | (simp only [tocvs, tocv, hF]; rfl) | (simp only [tocvs, tocv, toboxes, tobox, updH_at, Nat.reduceEqDiff, ↓reduceIte, hF]; rfl)) (by simp) ?_
      simp (disch := omega) only [wk, tis, Int.reduceNe, Int.reduceEq, Int.reduceLT, Int.reduceLE, Int.reduceAdd, Int.reduceSub, Int.reduceNeg, Int.reduceMul, Int.reduceToNat, Nat.reduceSub, Nat.reduceMul, Nat.reduceLeDiff, Nat.reduceAdd, Nat.reduceLT, Nat.reduceEqDiff, reduceCtorEq, ↓reduceIte, rqs, case12_A, case12_B, case12_X, case12_Y, ints_two, hF]
      refine call_by (h2) (by first | rfl | (simp only [tocvs, tocv, hF]; rfl) | (simp only [tocvs, tocv, toboxes, tobox, updH_at, Nat.reduceEqDiff, ↓reduceIte, hF]; rfl)) (by simp) ?_
      simp (disch := omega) only [wk, tis, Int.reduceNe, Int.reduceEq, Int.reduceLT, Int.reduceLE, Int.reduceAdd, Int.reduceSub, Int.reduceNeg, Int.reduceMul, Int.reduceToNat, Nat.reduceSub, Nat.reduceMul, Nat.reduceLeDiff, Nat.reduceAdd, Nat.reduceLT, Nat.reduceEqDiff, reduceCtorEq, ↓reduceIte, rqs, case12_A, case12_B, case12_X, case12_Y, ints_two, hF]
      refine call_by (rmul) (by first | rfl | (simp only [tocvs, tocv, hF]; rfl) | (simp only [tocvs, tocv, toboxes, tobox, updH_at, Nat.reduceEqDiff, ↓reduceIte, hF]; rfl)) (by simp) ?_
      simp (disch := omega) only [wk, tis, Int.reduceNe, Int.reduceEq, Int.reduceLT, Int.reduceLE, Int.reduceAdd, Int.reduceSub, Int.reduceNeg, Int.reduceMul, Int.reduceToNat, Nat.reduceSub, Nat.reduceMul, Nat.reduceLeDiff, Nat.reduceAdd, Nat.reduceLT, Nat.reduceEqDiff, reduceCtorEq, ↓reduceIte, rqs, case12_A, case12_B, case12_X, case12_Y, ints_two, hF]
      refine call_by (sm1) (by first | rfl | (simp only [tocvs, tocv, hF]; rfl) | (simp only [tocvs, tocv, toboxes, tobox, updH_at, Nat.reduceEqDiff, ↓reduceIte, hF]; rfl)) (by simp) ?_
      simp (disch := omega) only [wk, tis, Int.reduceNe, Int.reduceEq, Int.reduceLT, Int.reduceLE, Int.reduceAdd, Int.reduceSub, Int.reduceNeg, Int.reduceMul, Int.reduceToNat, Nat.reduceSub, Nat.reduceMul, Nat.reduceLeDiff, Nat.reduceAdd, Nat.reduceLT, Nat.reduceEqDiff, reduceCtorEq, ↓reduceIte, rqs, case12_A, case12_B, case12_X, case12_Y, ints_two, hF]
      first | exact log_by (by kernel_rfl) | refine ⟨log_by (by kernel_rfl), ?_⟩
      refine ⟨tmps_by (by kernel_rfl), ?_⟩
      refine call_by (zone) (by first | rfl | (simp only [tocvs, tocv, hF]; rfl) | (simp only [tocvs, tocv, toboxes, tobox, updH_at, Nat.reduceEqDiff, ↓reduceIte, hF]; rfl)) (by simp) ?_
      simp (disch := omega) only [wk, tis, Int.reduceNe, Int.reduceEq, Int.reduceLT, Int.reduceLE, Int.reduceAdd, Int.reduceSub, Int.reduceNeg, Int.reduceMul, Int.reduceToNat, Nat.reduceSub, Nat.reduceMul, Nat.reduceLeDiff, Nat.reduceAdd, Nat.reduceLT, Nat.reduceEqDiff, reduceCtorEq, ↓reduceIte, rqs, case12_A, case12_B, case12_X, case12_Y, ints_two, hF]
      refine call_by (hone) (by first | rfl | (simp only [tocvs, tocv, hF]; rfl) | (simp only [tocvs, tocv, toboxes, tobox, updH_at, Nat.reduceEqDiff, ↓reduceIte, hF]; rfl)) (by simp) ?_
      simp (disch := omega) only [wk, tis, Int.reduceNe, Int.reduceEq, Int.reduceLT, Int.reduceLE, Int.reduceAdd, Int.reduceSub, Int.reduceNeg, Int.reduceMul, Int.reduceToNat, Nat.reduceSub, Nat.reduceMul, Nat.reduceLeDiff, Nat.reduceAdd, Nat.reduceLT, Nat.reduceEqDiff, reduceCtorEq, ↓reduceIte, rqs, case12_A, case12_B, case12_X, case12_Y, ints_two, hF]
      refine call_by (hat) (by first | rfl | (simp only [tocvs, tocv, hF]; rfl) | (simp only [tocvs, tocv, toboxes, tobox, updH_at, Nat.reduceEqDiff, ↓reduceIte, hF]; rfl)) (by simp) ?_
      simp (disch := omega) only [wk, tis, Int.reduceNe, Int.reduceEq, Int.reduceLT, Int.reduceLE, Int.reduceAdd, Int.reduceSub, Int.reduceNeg, Int.reduceMul, Int.reduceToNat, Nat.reduceSub, Nat.reduceMul, Nat.reduceLeDiff, Nat.reduceAdd, Nat.reduceLT, Nat.reduceEqDiff, reduceCtorEq, ↓reduceIte, rqs, case12_A, case12_B, case12_X, case12_Y, ints_two, hF]
      refine call_by (sm2) (by first | rfl | (simp only [tocvs, tocv, hF]; rfl) | (simp only [tocvs, tocv, toboxes, tobox, updH_at, Nat.reduceEqDiff, ↓reduceIte, hF]; rfl)) (by simp) ?_
      simp (disch := omega) only [wk, tis, Int.reduceNe, Int.reduceEq, Int.reduceLT, Int.reduceLE, Int.reduceAdd, Int.reduceSub, Int.reduceNeg, Int.reduceMul, Int.reduceToNat, Nat.reduceSub, Nat.reduceMul, Nat.reduceLeDiff, Nat.reduceAdd, Nat.reduceLT, Nat.reduceEqDiff, reduceCtorEq, ↓reduceIte, rqs, case12_A, case12_B, case12_X, case12_Y, ints_two, hF]
      first | exact log_by (by kernel_rfl) | refine ⟨log_by (by kernel_rfl), ?_⟩
      try rfl
    · rw [decide_eq_false h0] at okX
      have h0 := Decidable.not_not.mp h0
      refine AC.by_walk (rs := [.tmp 2]) ords Tryz.func7 (by rfl) (by rfl) (by rfl) (by rfl) (by rfl) ?_
      simp (disch := omega) only [wk, tis, Int.reduceNe, Int.reduceEq, Int.reduceLT, Int.reduceLE, Int.reduceAdd, Int.reduceSub, Int.reduceNeg, Int.reduceMul, Int.reduceToNat, Nat.reduceSub, Nat.reduceMul, Nat.reduceLeDiff, Nat.reduceAdd, Nat.reduceLT, Nat.reduceEqDiff, reduceCtorEq, ↓reduceIte, rqs, case12_A, case12_B, case12_X, case12_Y, ints_two]
      refine call_by (awake12_ok) (by rfl) (by simp) ?_
      simp (disch := omega) only [wk, tis, Int.reduceNe, Int.reduceEq, Int.reduceLT, Int.reduceLE, Int.reduceAdd, Int.reduceSub, Int.reduceNeg, Int.reduceMul, Int.reduceToNat, Nat.reduceSub, Nat.reduceMul, Nat.reduceLeDiff, Nat.reduceAdd, Nat.reduceLT, Nat.reduceEqDiff, reduceCtorEq, ↓reduceIte, rqs, case12_A, case12_B, case12_X, case12_Y, ints_two]
      refine call_by (g) (by rfl) (by simp) ?_
      simp (disch := omega) only [wk, tis, Int.reduceNe, Int.reduceEq, Int.reduceLT, Int.reduceLE, Int.reduceAdd, Int.reduceSub, Int.reduceNeg, Int.reduceMul, Int.reduceToNat, Nat.reduceSub, Nat.reduceMul, Nat.reduceLeDiff, Nat.reduceAdd, Nat.reduceLT, Nat.reduceEqDiff, reduceCtorEq, ↓reduceIte, rqs, case12_A, case12_B, case12_X, case12_Y, ints_two]
      refine call_by (v1) (by rfl) (by simp) ?_
      simp (disch := omega) only [wk, tis, Int.reduceNe, Int.reduceEq, Int.reduceLT, Int.reduceLE, Int.reduceAdd, Int.reduceSub, Int.reduceNeg, Int.reduceMul, Int.reduceToNat, Nat.reduceSub, Nat.reduceMul, Nat.reduceLeDiff, Nat.reduceAdd, Nat.reduceLT, Nat.reduceEqDiff, reduceCtorEq, ↓reduceIte, rqs, case12_A, case12_B, case12_X, case12_Y, ints_two]
      refine call_by (v2) (by rfl) (by simp) ?_
      simp (disch := omega) only [wk, tis, Int.reduceNe, Int.reduceEq, Int.reduceLT, Int.reduceLE, Int.reduceAdd, Int.reduceSub, Int.reduceNeg, Int.reduceMul, Int.reduceToNat, Nat.reduceSub, Nat.reduceMul, Nat.reduceLeDiff, Nat.reduceAdd, Nat.reduceLT, Nat.reduceEqDiff, reduceCtorEq, ↓reduceIte, rqs, case12_A, case12_B, case12_X, case12_Y, ints_two]
      refine frame_call (fun f H => f 1 = .hp 1 1 0 0 ∧ f 2 = .iv (.bool false) ∧ H 1 = .blk false 1 33 15 [case12 x]) ?_ (fun f H hF => ?_)
      · simp (disch := omega) only [wk, tis, Int.reduceNe, Int.reduceEq, Int.reduceLT, Int.reduceLE, Int.reduceAdd, Int.reduceSub, Int.reduceNeg, Int.reduceMul, Int.reduceToNat, Nat.reduceSub, Nat.reduceMul, Nat.reduceLeDiff, Nat.reduceAdd, Nat.reduceLT, Nat.reduceEqDiff, reduceCtorEq, ↓reduceIte, rqs, case12_A, case12_B, case12_X, case12_Y, ints_two]
      refine call_by (pm) (by first | rfl | (simp only [tocvs, tocv, hF]; rfl) | (simp only [tocvs, tocv, toboxes, tobox, updH_at, Nat.reduceEqDiff, ↓reduceIte, hF]; rfl)) (by simp) ?_
      simp (disch := omega) only [wk, tis, Int.reduceNe, Int.reduceEq, Int.reduceLT, Int.reduceLE, Int.reduceAdd, Int.reduceSub, Int.reduceNeg, Int.reduceMul, Int.reduceToNat, Nat.reduceSub, Nat.reduceMul, Nat.reduceLeDiff, Nat.reduceAdd, Nat.reduceLT, Nat.reduceEqDiff, reduceCtorEq, ↓reduceIte, rqs, case12_A, case12_B, case12_X, case12_Y, ints_two, hF]
      refine aloop_by (fun f H => ∃ (i st : Nat), i ≤ 2 ∧ f 127 = .iv (.int .i64 i) ∧ f 126 = .iv (.int .i64 2) ∧ f 125 = .hs 125 st ∧ H 125 = .blk false st 4 1 [[.bool false], [.bool true]] ∧ f 1 = .hp 1 1 0 0 ∧ H 1 = .blk false 1 33 15 [case12 x] ∧ f 15 = .iv (.sl (cpoly (pmul (pv x.P) (pv x.Q))))) (fun f H => (2 - intAt f 127).toNat) ?_ ?_
      · refine ⟨0, (H 125).stamp + 1, by omega, ?_⟩
        simp (disch := omega) only [wk, tis, Int.reduceNe, Int.reduceEq, Int.reduceLT, Int.reduceLE, Int.reduceAdd, Int.reduceSub, Int.reduceNeg, Int.reduceMul, Int.reduceToNat, Nat.reduceSub, Nat.reduceMul, Nat.reduceLeDiff, Nat.reduceAdd, Nat.reduceLT, Nat.reduceEqDiff, reduceCtorEq, ↓reduceIte, rqs, case12_A, case12_B, case12_X, case12_Y, ints_two, hF, show ((2 : Nat) : Int) = 2 from rfl]
      rintro f H ⟨i, st, hi, hF⟩
      rw [intAt_of hF.1]
      simp (disch := omega) only [wk, tis, Int.reduceNe, Int.reduceEq, Int.reduceLT, Int.reduceLE, Int.reduceAdd, Int.reduceSub, Int.reduceNeg, Int.reduceMul, Int.reduceToNat, Nat.reduceSub, Nat.reduceMul, Nat.reduceLeDiff, Nat.reduceAdd, Nat.reduceLT, Nat.reduceEqDiff, reduceCtorEq, ↓reduceIte, rqs, case12_A, case12_B, case12_X, case12_Y, ints_two, hF]
      refine if_by (fun hlt => ?_) (fun hlt => ?_)
      · have h01 : i = 0 ∨ i = 1 := by omega
        have b0 := bools_at0
        have b1 := bools_at1
        rcases h01 with rfl | rfl
        · simp (disch := omega) only [wk, tis, Int.reduceNe, Int.reduceEq, Int.reduceLT, Int.reduceLE, Int.reduceAdd, Int.reduceSub, Int.reduceNeg, Int.reduceMul, Int.reduceToNat, Nat.reduceSub, Nat.reduceMul, Nat.reduceLeDiff, Nat.reduceAdd, Nat.reduceLT, Nat.reduceEqDiff, reduceCtorEq, ↓reduceIte, rqs, case12_A, case12_B, case12_X, case12_Y, ints_two, hF, b0, b1]
          refine ⟨tmps_by (by kernel_rfl), ?_⟩
          refine call_by (F01) (by first | rfl | (simp only [tocvs, tocv, hF, b0, b1]; rfl) | (simp only [tocvs, tocv, toboxes, tobox, updH_at, Nat.reduceEqDiff, ↓reduceIte, hF, b0, b1]; rfl)) (by simp) ?_
          simp (disch := omega) only [wk, tis, Int.reduceNe, Int.reduceEq, Int.reduceLT, Int.reduceLE, Int.reduceAdd, Int.reduceSub, Int.reduceNeg, Int.reduceMul, Int.reduceToNat, Nat.reduceSub, Nat.reduceMul, Nat.reduceLeDiff, Nat.reduceAdd, Nat.reduceLT, Nat.reduceEqDiff, reduceCtorEq, ↓reduceIte, rqs, case12_A, case12_B, case12_X, case12_Y, ints_two, hF, b0, b1]
          refine call_by (F02) (by first | rfl | (simp only [tocvs, tocv, hF, b0, b1]; rfl) | (simp only [tocvs, tocv, toboxes, tobox, updH_at, Nat.reduceEqDiff, ↓reduceIte, hF, b0, b1]; rfl)) (by simp) ?_
          simp (disch := omega) only [wk, tis, Int.reduceNe, Int.reduceEq, Int.reduceLT, Int.reduceLE, Int.reduceAdd, Int.reduceSub, Int.reduceNeg, Int.reduceMul, Int.reduceToNat, Nat.reduceSub, Nat.reduceMul, Nat.reduceLeDiff, Nat.reduceAdd, Nat.reduceLT, Nat.reduceEqDiff, reduceCtorEq, ↓reduceIte, rqs, case12_A, case12_B, case12_X, case12_Y, ints_two, hF, b0, b1]
          refine call_by (F03) (by first | rfl | (simp only [tocvs, tocv, hF, b0, b1, F04]; rfl) | (simp only [tocvs, tocv, toboxes, tobox, updH_at, Nat.reduceEqDiff, ↓reduceIte, hF, b0, b1, F04]; rfl)) (by simp) ?_
          simp (disch := omega) only [wk, tis, Int.reduceNe, Int.reduceEq, Int.reduceLT, Int.reduceLE, Int.reduceAdd, Int.reduceSub, Int.reduceNeg, Int.reduceMul, Int.reduceToNat, Nat.reduceSub, Nat.reduceMul, Nat.reduceLeDiff, Nat.reduceAdd, Nat.reduceLT, Nat.reduceEqDiff, reduceCtorEq, ↓reduceIte, rqs, case12_A, case12_B, case12_X, case12_Y, ints_two, hF, b0, b1, F04]
          first | exact log_by (by kernel_rfl) | refine ⟨log_by (by kernel_rfl), ?_⟩
          refine ⟨1, st, by omega, ?_⟩
          (repeat' apply And.intro) <;> first | rfl | omega
        · simp (disch := omega) only [wk, tis, Int.reduceNe, Int.reduceEq, Int.reduceLT, Int.reduceLE, Int.reduceAdd, Int.reduceSub, Int.reduceNeg, Int.reduceMul, Int.reduceToNat, Nat.reduceSub, Nat.reduceMul, Nat.reduceLeDiff, Nat.reduceAdd, Nat.reduceLT, Nat.reduceEqDiff, reduceCtorEq, ↓reduceIte, rqs, case12_A, case12_B, case12_X, case12_Y, ints_two, hF, b0, b1]
          refine ⟨tmps_by (by kernel_rfl), ?_⟩
          refine call_by (F11) (by first | rfl | (simp only [tocvs, tocv, hF, b0, b1]; rfl) | (simp only [tocvs, tocv, toboxes, tobox, updH_at, Nat.reduceEqDiff, ↓reduceIte, hF, b0, b1]; rfl)) (by simp) ?_
          simp (disch := omega) only [wk, tis, Int.reduceNe, Int.reduceEq, Int.reduceLT, Int.reduceLE, Int.reduceAdd, Int.reduceSub, Int.reduceNeg, Int.reduceMul, Int.reduceToNat, Nat.reduceSub, Nat.reduceMul, Nat.reduceLeDiff, Nat.reduceAdd, Nat.reduceLT, Nat.reduceEqDiff, reduceCtorEq, ↓reduceIte, rqs, case12_A, case12_B, case12_X, case12_Y, ints_two, hF, b0, b1]
          refine call_by (F12) (by first | rfl | (simp only [tocvs, tocv, hF, b0, b1]; rfl) | (simp only [tocvs, tocv, toboxes, tobox, updH_at, Nat.reduceEqDiff, ↓reduceIte, hF, b0, b1]; rfl)) (by simp) ?_
          simp (disch := omega) only [wk, tis, Int.reduceNe, Int.reduceEq, Int.reduceLT, Int.reduceLE, Int.reduceAdd, Int.reduceSub, Int.reduceNeg, Int.reduceMul, Int.reduceToNat, Nat.reduceSub, Nat.reduceMul, Nat.reduceLeDiff, Nat.reduceAdd, Nat.reduceLT, Nat.reduceEqDiff, reduceCtorEq, ↓reduceIte, rqs, case12_A, case12_B, case12_X, case12_Y, ints_two, hF, b0, b1]
          refine call_by (F13) (by first | rfl | (simp only [tocvs, tocv, hF, b0, b1, F14]; rfl) | (simp only [tocvs, tocv, toboxes, tobox, updH_at, Nat.reduceEqDiff, ↓reduceIte, hF, b0, b1, F14]; rfl)) (by simp) ?_
          simp (disch := omega) only [wk, tis, Int.reduceNe, Int.reduceEq, Int.reduceLT, Int.reduceLE, Int.reduceAdd, Int.reduceSub, Int.reduceNeg, Int.reduceMul, Int.reduceToNat, Nat.reduceSub, Nat.reduceMul, Nat.reduceLeDiff, Nat.reduceAdd, Nat.reduceLT, Nat.reduceEqDiff, reduceCtorEq, ↓reduceIte, rqs, case12_A, case12_B, case12_X, case12_Y, ints_two, hF, b0, b1, F14]
          first | exact log_by (by kernel_rfl) | refine ⟨log_by (by kernel_rfl), ?_⟩
          refine ⟨2, st, by omega, ?_⟩
          (repeat' apply And.intro) <;> first | rfl | omega
      simp (disch := omega) only [wk, tis, Int.reduceNe, Int.reduceEq, Int.reduceLT, Int.reduceLE, Int.reduceAdd, Int.reduceSub, Int.reduceNeg, Int.reduceMul, Int.reduceToNat, Nat.reduceSub, Nat.reduceMul, Nat.reduceLeDiff, Nat.reduceAdd, Nat.reduceLT, Nat.reduceEqDiff, reduceCtorEq, ↓reduceIte, rqs, case12_A, case12_B, case12_X, case12_Y, ints_two, hF]
      refine call_by (okX) (by first | rfl | (simp only [tocvs, tocv, hF]; rfl) | (simp only [tocvs, tocv, toboxes, tobox, updH_at, Nat.reduceEqDiff, ↓reduceIte, hF]; rfl)) (by simp) ?_
      simp (disch := omega) only [wk, tis, Int.reduceNe, Int.reduceEq, Int.reduceLT, Int.reduceLE, Int.reduceAdd, Int.reduceSub, Int.reduceNeg, Int.reduceMul, Int.reduceToNat, Nat.reduceSub, Nat.reduceMul, Nat.reduceLeDiff, Nat.reduceAdd, Nat.reduceLT, Nat.reduceEqDiff, reduceCtorEq, ↓reduceIte, rqs, case12_A, case12_B, case12_X, case12_Y, ints_two, hF]
      have g1 := eSign_bad (cn (pmul (pv x.P) (pv x.Q))) x.X ⟨Nat.le_trans ft.X.2.1 (by omega), ft.X.2.2⟩ h0
      have g2 := plain12_ok 1 1
      rw [decide_eq_true rfl] at g2
      refine call_by (g1) (by first | rfl | (simp only [tocvs, tocv, hF]; rfl) | (simp only [tocvs, tocv, toboxes, tobox, updH_at, Nat.reduceEqDiff, ↓reduceIte, hF]; rfl)) (by simp) ?_
      simp (disch := omega) only [wk, tis, Int.reduceNe, Int.reduceEq, Int.reduceLT, Int.reduceLE, Int.reduceAdd, Int.reduceSub, Int.reduceNeg, Int.reduceMul, Int.reduceToNat, Nat.reduceSub, Nat.reduceMul, Nat.reduceLeDiff, Nat.reduceAdd, Nat.reduceLT, Nat.reduceEqDiff, reduceCtorEq, ↓reduceIte, rqs, case12_A, case12_B, case12_X, case12_Y, ints_two, hF]
      refine call_by (g2) (by first | rfl | (simp only [tocvs, tocv, hF]; rfl) | (simp only [tocvs, tocv, toboxes, tobox, updH_at, Nat.reduceEqDiff, ↓reduceIte, hF]; rfl)) (by simp) ?_
      simp (disch := omega) only [wk, tis, Int.reduceNe, Int.reduceEq, Int.reduceLT, Int.reduceLE, Int.reduceAdd, Int.reduceSub, Int.reduceNeg, Int.reduceMul, Int.reduceToNat, Nat.reduceSub, Nat.reduceMul, Nat.reduceLeDiff, Nat.reduceAdd, Nat.reduceLT, Nat.reduceEqDiff, reduceCtorEq, ↓reduceIte, rqs, case12_A, case12_B, case12_X, case12_Y, ints_two, hF]
      try rfl

theorem homo_law (P Q : List RI) (R S : List RQ) (A B : RI) (X Y : RQ) (N : Int) (hP : Raw P) (hQ : Raw Q) (hR : RawQ R) (hS : RawQ S) (hA : Sz 9223372036854775807 A) (hB : Sz 9223372036854775807 B) (hX : SzQ 9223372036854775807 X) (hY : SzQ 9223372036854775807 Y) (hN1 : -9223372036854775808 ≤ N) (hN2 : N ≤ 9223372036854775807) :
    AC Tryz.prog 7 [.agg (case12 ⟨P, Q, R, S, A, B, X, Y, N⟩)] none [cb true] := homo_ok12 _ (ok12 P Q R S A B X Y N hP hQ hR hS hA hB hX hY hN1 hN2)
end Go.Proofs.YtjadkhkgmdikiaaGreat
