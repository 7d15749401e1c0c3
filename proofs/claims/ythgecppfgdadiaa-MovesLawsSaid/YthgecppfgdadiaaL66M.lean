/-
  Contracts of the functions that the law reaches.
-/
import Derived.Test.YthgecppfgdadiaaL24M
namespace Go.Proofs.Ythgecppfgdadiaa
open Go Go.Proofs Go.AL
set_option linter.unusedSimpArgs false
set_option linter.unusedVariables false

theorem sg_mul_pow (c : RI) (n : Nat) : sg c.1 (nv c.2 * 2 ^ n) = iv c * 2 ^ n := by
  rw [iv_sg]
  unfold sg
  split
  · rw [Int.neg_mul]; push_cast; rfl
  · push_cast; rfl

theorem zl_pow2 (n : Nat) : zl (2 ^ n) ≤ n / 64 + 1 := by
  refine zl_le.mpr ?_
  have e : (2 ^ n : Int).natAbs = 2 ^ n := by rw [Int.natAbs_pow]; rfl
  rw [e, show W = 2 ^ 64 from rfl, ← Nat.pow_mul]
  exact Nat.pow_lt_pow_right (by decide) (by omega)

theorem zshl_ok (a : RI) (n : Nat) (ha : Sz (2 ^ 39) a) (hn : n ≤ 1048576) : AC Try.prog 166 [cr a, ci n] none [cz (iv a * 2 ^ n), ci 0] := by
  refine AC.by_walk (rs := [.cell 4 40, .tmp 5]) ords Try.func166 (by rfl) (by rfl) (by rfl) (by rfl) (by rfl) ?_
  have h1 : ¬ (n : Int) < 0 := by omega
  have h2 : ¬ 1048576 < (n : Int) := by omega
  simp (disch := omega) only [wk, tis, Int.reduceNe, Int.reduceEq, Int.reduceLT, Int.reduceLE, Int.reduceAdd, Int.reduceSub, Int.reduceNeg, Int.reduceMul, Int.reduceToNat, Nat.reduceSub, Nat.reduceMul, Nat.reduceLeDiff, Nat.reduceAdd, Nat.reduceLT, Nat.reduceEqDiff, reduceCtorEq, ↓reduceIte, h1, h2]
  refine call_by ((nshl_ok a.2 n ha.2 ha.1 hn)) (by first | rfl | (simp only [tocvs, tocv, h1, h2]; rfl) | (simp only [tocvs, tocv, toboxes, tobox, updH_at, Nat.reduceEqDiff, ↓reduceIte, h1, h2]; rfl)) (by simp) ?_
  simp (disch := omega) only [wk, tis, Int.reduceNe, Int.reduceEq, Int.reduceLT, Int.reduceLE, Int.reduceAdd, Int.reduceSub, Int.reduceNeg, Int.reduceMul, Int.reduceToNat, Nat.reduceSub, Nat.reduceMul, Nat.reduceLeDiff, Nat.reduceAdd, Nat.reduceLT, Nat.reduceEqDiff, reduceCtorEq, ↓reduceIte, h1, h2]
  have := zof_ok a.1 (nv a.2 * 2 ^ n)
  rw [sg_mul_pow] at this
  refine call_by (this) (by first | rfl | (simp only [tocvs, tocv, h1, h2]; rfl) | (simp only [tocvs, tocv, toboxes, tobox, updH_at, Nat.reduceEqDiff, ↓reduceIte, h1, h2]; rfl)) (by simp) ?_
  simp (disch := omega) only [wk, tis, Int.reduceNe, Int.reduceEq, Int.reduceLT, Int.reduceLE, Int.reduceAdd, Int.reduceSub, Int.reduceNeg, Int.reduceMul, Int.reduceToNat, Nat.reduceSub, Nat.reduceMul, Nat.reduceLeDiff, Nat.reduceAdd, Nat.reduceLT, Nat.reduceEqDiff, reduceCtorEq, ↓reduceIte, h1, h2]

theorem mshl_ok (c : RI) (n : Nat) (hc : Sz (2 ^ 30) c) (hn : n ≤ 2 ^ 30) : AC Try.prog 149 [cr c, ci n] none [cz (iv c * 2 ^ n)] := by
  refine AC.by_walk (rs := [.cell 4 40]) ords Try.func149 (by rfl) (by rfl) (by rfl) (by rfl) (by rfl) ?_
  simp (disch := omega) only [wk, tis, Int.reduceNe, Int.reduceEq, Int.reduceLT, Int.reduceLE, Int.reduceAdd, Int.reduceSub, Int.reduceNeg, Int.reduceMul, Int.reduceToNat, Nat.reduceSub, Nat.reduceMul, Nat.reduceLeDiff, Nat.reduceAdd, Nat.reduceLT, Nat.reduceEqDiff, reduceCtorEq, ↓reduceIte]
  refine aloop_by (fun f H => ∃ (m : Nat) (x : RI) (st2 st4 : Nat), m ≤ n ∧ iv x * 2 ^ m = iv c * 2 ^ n ∧ Sz (2 ^ 30 + 2 * (n - m)) x ∧ f 1 = .iv (.int .i64 m) ∧ f 2 = .hp 2 st2 0 0 ∧ H 2 = .blk false st2 40 2 [prow x] ∧ f 4 = .hp 4 st4 0 0 ∧ H 4 = .blk false st4 40 2 [prow (false, [])]) (fun f H => (intAt f 1 - 0).toNat) ?_ ?_
  · refine ⟨n, c, 1, 1, by omega, rfl, hc.mono (by omega), ?_⟩
    simp (disch := omega) only [wk, tis, Int.reduceNe, Int.reduceEq, Int.reduceLT, Int.reduceLE, Int.reduceAdd, Int.reduceSub, Int.reduceNeg, Int.reduceMul, Int.reduceToNat, Nat.reduceSub, Nat.reduceMul, Nat.reduceLeDiff, Nat.reduceAdd, Nat.reduceLT, Nat.reduceEqDiff, reduceCtorEq, ↓reduceIte]
  rintro f H ⟨m, x, st2, st4, hm, hx, hs, hF⟩
  rw [intAt_of hF.1]
  simp (disch := omega) only [wk, tis, Int.reduceNe, Int.reduceEq, Int.reduceLT, Int.reduceLE, Int.reduceAdd, Int.reduceSub, Int.reduceNeg, Int.reduceMul, Int.reduceToNat, Nat.reduceSub, Nat.reduceMul, Nat.reduceLeDiff, Nat.reduceAdd, Nat.reduceLT, Nat.reduceEqDiff, reduceCtorEq, ↓reduceIte, hF]
  refine if_by (fun hlt => ?_) (fun hlt => ?_)
  · obtain ⟨e, he⟩ : ∃ e : Nat, e = 65536 := ⟨_, rfl⟩
    have q := zshl_ok x e (hs.mono (by omega)) (by omega)
    have he' : ((e : Nat) : Int) = 65536 := by omega
    rw [he'] at q
    have em : (m : Int) - 65536 = ((m - e : Nat) : Int) := by omega
    simp (disch := omega) only [wk, tis, Int.reduceNe, Int.reduceEq, Int.reduceLT, Int.reduceLE, Int.reduceAdd, Int.reduceSub, Int.reduceNeg, Int.reduceMul, Int.reduceToNat, Nat.reduceSub, Nat.reduceMul, Nat.reduceLeDiff, Nat.reduceAdd, Nat.reduceLT, Nat.reduceEqDiff, reduceCtorEq, ↓reduceIte, hF, em]
    refine call_by (q) (by first | rfl | (simp only [tocvs, tocv, hF, em]; rfl) | (simp only [tocvs, tocv, toboxes, tobox, updH_at, Nat.reduceEqDiff, ↓reduceIte, hF, em]; rfl)) (by simp) ?_
    simp (disch := omega) only [wk, tis, Int.reduceNe, Int.reduceEq, Int.reduceLT, Int.reduceLE, Int.reduceAdd, Int.reduceSub, Int.reduceNeg, Int.reduceMul, Int.reduceToNat, Nat.reduceSub, Nat.reduceMul, Nat.reduceLeDiff, Nat.reduceAdd, Nat.reduceLT, Nat.reduceEqDiff, reduceCtorEq, ↓reduceIte, hF, em]
    have hz := zl_mul (iv x) (2 ^ e)
    have hz1 := zl_pow2 e
    have hz2 := zl_iv hs
    refine ⟨⟨m - e, canon (iv x * 2 ^ e), st2, st4, by omega, ?_, (sz_canon _).mono (by omega), by omega, rfl, rfl, rfl, rfl⟩, by omega⟩
    rw [iv_canon, Int.mul_assoc, ← Int.pow_add, show e + (m - e) = m by omega, hx]
  · simp (disch := omega) only [wk, tis, Int.reduceNe, Int.reduceEq, Int.reduceLT, Int.reduceLE, Int.reduceAdd, Int.reduceSub, Int.reduceNeg, Int.reduceMul, Int.reduceToNat, Nat.reduceSub, Nat.reduceMul, Nat.reduceLeDiff, Nat.reduceAdd, Nat.reduceLT, Nat.reduceEqDiff, reduceCtorEq, ↓reduceIte, hF]
    have q := zshl_ok x m (hs.mono (by omega)) (by omega)
    refine call_by (q) (by first | rfl | (simp only [tocvs, tocv, hF]; rfl) | (simp only [tocvs, tocv, toboxes, tobox, updH_at, Nat.reduceEqDiff, ↓reduceIte, hF]; rfl)) (by simp) ?_
    simp (disch := omega) only [wk, tis, Int.reduceNe, Int.reduceEq, Int.reduceLT, Int.reduceLE, Int.reduceAdd, Int.reduceSub, Int.reduceNeg, Int.reduceMul, Int.reduceToNat, Nat.reduceSub, Nat.reduceMul, Nat.reduceLeDiff, Nat.reduceAdd, Nat.reduceLT, Nat.reduceEqDiff, reduceCtorEq, ↓reduceIte, hF]
    rw [hx]

/-- Each coefficient weighed. -/
def wt (t : Int) : List Int → List Int
  | [] => []
  | c :: p => c * t ^ p.length :: wt t p
theorem wt_len (t : Int) (p : List Int) : (wt t p).length = p.length := by induction p <;> simp_all [wt]
theorem cf_wt (t : Int) (p : List Int) (i : Nat) : cf (wt t p) i = cf p i * t ^ (p.length - 1 - i) := by
  induction p generalizing i with
  | nil => simp [wt, cf]
  | cons c p ih =>
    cases i with
    | zero => simp [wt, cf]
    | succ i =>
      have := ih i
      simp only [wt, cf, List.getD_cons_succ, List.length_cons] at this ⊢
      rw [this]
      congr 2
      omega
theorem C_pow (t : Int) (n : Nat) : PS.pw (PS.C t) n = PS.C (t ^ n) := by
  induction n with
  | zero => rw [Int.pow_zero]; rfl
  | succ n ih => rw [PS.pw, ih, Int.pow_succ, PS.C_mul]
theorem hom_C (p : List Int) (f : PS) (t : Int) : hom p f (PS.C t) = cmp (wt t p) f := by
  induction p with
  | nil => rfl
  | cons c p ih => rw [hom, ih, C_pow, wt, cmp_cons, PS.C_mul]
theorem ext_cf {p q : List Int} (hl : p.length = q.length) (h : ∀ k, k < p.length → cf p k = cf q k) : p = q :=
  List.ext_getElem hl fun i h1 h2 => by have := h i h1; simpa [cf, List.getD, h1, h2] using this
theorem trimz_of_last {p : List Int} (h : p ≠ [] → cf p (p.length - 1) ≠ 0) : trimz p = p := by
  by_cases e : p = []
  · subst e; rfl
  · have hl : 0 < p.length := List.length_pos_iff.2 e
    have := tz_full (q := p) (k := p.length - 1) (by omega) (h e)
    rw [show p.length - 1 + 1 = p.length by omega, List.take_length] at this
    rw [trimz, this, List.take_length]
theorem trimz_wt {t : Int} (ht : t ≠ 0) (p : List Int) : trimz (wt t (trimz p)) = wt t (trimz p) := by
  refine trimz_of_last fun hne => ?_
  rw [wt_len, cf_wt, cf_trimz, trimz_len]
  have hz : tz p ≠ 0 := fun e => hne (by rw [trimz_nil e]; rfl)
  rw [show tz p - 1 - (tz p - 1) = 0 by omega, Int.pow_zero, Int.mul_one]
  exact cf_tz_pred hz

theorem two_pow_ne (k : Nat) : (2 : Int) ^ k ≠ 0 := Int.pow_ne_zero (by decide)

theorem zl_wt2 {N K k : Nat} {p : List Int} (h : PB N K p) (hk : N * k ≤ 2 ^ 28) : PB N (K + (N * k) / 64 + 1) (wt (2 ^ k) p) := .of (by rw [wt_len]; exact h.1) fun i => by
  rw [cf_wt, ← Int.pow_mul]
  have h1 := zl_mul (cf p i) (2 ^ (k * (p.length - 1 - i)))
  have h2 := zl_pow2 (k * (p.length - 1 - i))
  have h3 := h.cf i
  have h4 : k * (p.length - 1 - i) ≤ N * k := by rw [Nat.mul_comm N]; exact Nat.mul_le_mul_left _ (by have := h.1; omega)
  omega

theorem mweigh_ok (p : List RI) (k : Nat) (hp : RP (2 ^ 10) (2 ^ 20) p) (hk : k ≤ 65536) : AC Try.prog 125 [cw p, ci k] (some (0, 40, 2, cpoly (wt (2 ^ k) (trimz (pv p))))) [cp (wt (2 ^ k) (trimz (pv p)))] := by
  have e : cpoly (wt (2 ^ k) (trimz (pv p))) = raws ((wt (2 ^ k) (trimz (pv p))).map canon) := by rw [cpoly, trimz_wt (two_pow_ne k)]
  unfold cp
  rw [e]
  refine AC.by_walk (rs := [.tmp 4]) ords Try.func125 (by rfl) (by rfl) (by rfl) (by rfl) (by rfl) ?_
  simp (disch := omega) only [wk, tis, Int.reduceNe, Int.reduceEq, Int.reduceLT, Int.reduceLE, Int.reduceAdd, Int.reduceSub, Int.reduceNeg, Int.reduceMul, Int.reduceToNat, Nat.reduceSub, Nat.reduceMul, Nat.reduceLeDiff, Nat.reduceAdd, Nat.reduceLT, Nat.reduceEqDiff, reduceCtorEq, ↓reduceIte]
  refine call_by ((pnormo_ok p (hp.mono (by omega) (by omega)))) (by rfl) (by simp) ?_
  simp (disch := omega) only [wk, tis, Int.reduceNe, Int.reduceEq, Int.reduceLT, Int.reduceLE, Int.reduceAdd, Int.reduceSub, Int.reduceNeg, Int.reduceMul, Int.reduceToNat, Nat.reduceSub, Nat.reduceMul, Nat.reduceLeDiff, Nat.reduceAdd, Nat.reduceLT, Nat.reduceEqDiff, reduceCtorEq, ↓reduceIte]
  have hA := hp.pv.trimz
  unfold cpoly
  generalize trimz (pv p) = A at *
  have hAl := hA.1
  have hq : (A.map canon).length = A.length := by simp
  simp (disch := omega) only [wk, tis, Int.reduceNe, Int.reduceEq, Int.reduceLT, Int.reduceLE, Int.reduceAdd, Int.reduceSub, Int.reduceNeg, Int.reduceMul, Int.reduceToNat, Nat.reduceSub, Nat.reduceMul, Nat.reduceLeDiff, Nat.reduceAdd, Nat.reduceLT, Nat.reduceEqDiff, reduceCtorEq, ↓reduceIte, hq]
  refine aloop_by (fun f H => ∃ (i st : Nat) (cur : List Int), i ≤ A.length ∧ cur.length = A.length ∧ (∀ j, cf cur j = if j < i then cf (wt (2 ^ k) A) j else cf A j) ∧ f 10 = .iv (.int .i64 i) ∧ f 9 = .iv (.int .i64 A.length) ∧ f 1 = .iv (.int .i64 k) ∧ f 0 = .hs 7 st ∧ H 7 = .blk false st 40 2 (raws (cur.map canon))) (fun f H => (A.length - intAt f 10).toNat) ?_ ?_
  · refine ⟨0, 1, A, by omega, rfl, fun j => by simp, ?_⟩
    simp (disch := omega) only [wk, tis, Int.reduceNe, Int.reduceEq, Int.reduceLT, Int.reduceLE, Int.reduceAdd, Int.reduceSub, Int.reduceNeg, Int.reduceMul, Int.reduceToNat, Nat.reduceSub, Nat.reduceMul, Nat.reduceLeDiff, Nat.reduceAdd, Nat.reduceLT, Nat.reduceEqDiff, reduceCtorEq, ↓reduceIte]
  rintro f H ⟨i, st, cur, hi, hcl, hc, hF⟩
  rw [intAt_of hF.1]
  simp (disch := omega) only [wk, tis, Int.reduceNe, Int.reduceEq, Int.reduceLT, Int.reduceLE, Int.reduceAdd, Int.reduceSub, Int.reduceNeg, Int.reduceMul, Int.reduceToNat, Nat.reduceSub, Nat.reduceMul, Nat.reduceLeDiff, Nat.reduceAdd, Nat.reduceLT, Nat.reduceEqDiff, reduceCtorEq, ↓reduceIte, hF]
  have hq : (cur.map canon).length = A.length := by simp [hcl]
  refine if_by (fun hlt => ?_) (fun hlt => ?_)
  · obtain ⟨m, hm⟩ : ∃ m : Nat, m = k * (A.length - 1 - i) := ⟨_, rfl⟩
    have hmb : m ≤ 67108864 := by
      rw [hm]
      exact Nat.le_trans (Nat.mul_le_mul hk (show A.length - 1 - i ≤ 1024 by omega)) (by omega)
    have em : (k : Int) * ((A.length : Int) - 1 - i) = (m : Int) := by rw [hm]; push_cast; congr 1; omega
    have e1 : cf cur i = cf A i := by rw [hc, if_neg (by omega)]
    have zi := hA.cf i
    have q := mshl_ok (canon (cf A i)) m ((sz_canon _).mono (by omega)) (by omega)
    rw [iv_canon] at q
    simp (disch := omega) only [wk, tis, Int.reduceNe, Int.reduceEq, Int.reduceLT, Int.reduceLE, Int.reduceAdd, Int.reduceSub, Int.reduceNeg, Int.reduceMul, Int.reduceToNat, Nat.reduceSub, Nat.reduceMul, Nat.reduceLeDiff, Nat.reduceAdd, Nat.reduceLT, Nat.reduceEqDiff, reduceCtorEq, ↓reduceIte, hF, hq, em, e1]
    refine call_by (q) (by first | rfl | (simp only [tocvs, tocv, hF, hq, em, e1]; rfl) | (simp only [tocvs, tocv, toboxes, tobox, updH_at, Nat.reduceEqDiff, ↓reduceIte, hF, hq, em, e1]; rfl)) (by simp) ?_
    simp (disch := omega) only [wk, tis, Int.reduceNe, Int.reduceEq, Int.reduceLT, Int.reduceLE, Int.reduceAdd, Int.reduceSub, Int.reduceNeg, Int.reduceMul, Int.reduceToNat, Nat.reduceSub, Nat.reduceMul, Nat.reduceLeDiff, Nat.reduceAdd, Nat.reduceLT, Nat.reduceEqDiff, reduceCtorEq, ↓reduceIte, hF, hq, em, e1]
    refine ⟨⟨i + 1, st, cur.set i (cf A i * 2 ^ m), by omega, by simp [hcl], fun j => ?_, by omega, rfl, rfl⟩, by omega⟩
    rw [cf_set (by omega), hc]
    by_cases hj : j = i
    · subst hj
      rw [if_pos rfl, if_pos (by omega), cf_wt, hm, Int.pow_mul]
    · rw [if_neg hj]
      by_cases hj2 : j < i
      · rw [if_pos hj2, if_pos (by omega)]
      · rw [if_neg hj2, if_neg (by omega)]
  · have ew : cur = wt (2 ^ k) A := ext_cf (by rw [wt_len, hcl]) fun j hj => by rw [hc, if_pos (by omega)]
    simp (disch := omega) only [wk, tis, Int.reduceNe, Int.reduceEq, Int.reduceLT, Int.reduceLE, Int.reduceAdd, Int.reduceSub, Int.reduceNeg, Int.reduceMul, Int.reduceToNat, Nat.reduceSub, Nat.reduceMul, Nat.reduceLeDiff, Nat.reduceAdd, Nat.reduceLT, Nat.reduceEqDiff, reduceCtorEq, ↓reduceIte, hF, hq]
    rw [ew]
end Go.Proofs.Ythgecppfgdadiaa

namespace Go.Proofs.Ythgecppfgdadiaa
open Go Go.Proofs Go.AL
set_option linter.unusedSimpArgs false
set_option linter.unusedVariables false

theorem mcompose_g {p q : List RI} {P Q out : List Int} (hp : RP (2 ^ 10) (2 ^ 20) p) (hq : RP (2 ^ 10) (2 ^ 20) q) (ep : ps (pv p) = ps P) (eq : ps (pv q) = ps Q) (eo : ps out = cmp P (ps Q)) : AC Try.prog 61 [cw p, cw q] none [cp out] := by
  have h := mcompose_ok p q hp hq
  have e : ps (lhom (trimz (pv p)) (pv q) [1]) = ps out := by
    rw [ps_lhom, eo, ps_one, eq]
    exact (cmp_ps _ (ps_trimz _)).trans (cmp_ps _ ep)
  rwa [cp_ps e] at h

theorem one_sz {K : Nat} (h : 1 ≤ K) : Sz K (canon 1) := (sz_canon 1).mono (by have : zl 1 ≤ 1 := zl_le.mpr (by decide); omega)

theorem mshift_g {p : List RI} {a : RI} {P out : List Int} (hp : RP (2 ^ 10) (2 ^ 20) p) (ha : Sz (2 ^ 20) a) (ep : ps (pv p) = ps P) (eo : ps out = cmp P (ps [iv a, 1])) : AC Try.prog 56 [cw p, cr a] none [cp out] := by
  refine AC.by_walk (rs := [.tmp 4]) ords Try.func56 (by rfl) (by rfl) (by rfl) (by rfl) (by rfl) ?_
  simp (disch := omega) only [wk, tis, Int.reduceNe, Int.reduceEq, Int.reduceLT, Int.reduceLE, Int.reduceAdd, Int.reduceSub, Int.reduceNeg, Int.reduceMul, Int.reduceToNat, Nat.reduceSub, Nat.reduceMul, Nat.reduceLeDiff, Nat.reduceAdd, Nat.reduceLT, Nat.reduceEqDiff, reduceCtorEq, ↓reduceIte]
  refine ⟨tmps_by (by kernel_rfl), ?_⟩
  refine call_by ((zOf_ok 1 (by omega) (by omega))) (by rfl) (by simp) ?_
  simp (disch := omega) only [wk, tis, Int.reduceNe, Int.reduceEq, Int.reduceLT, Int.reduceLE, Int.reduceAdd, Int.reduceSub, Int.reduceNeg, Int.reduceMul, Int.reduceToNat, Nat.reduceSub, Nat.reduceMul, Nat.reduceLeDiff, Nat.reduceAdd, Nat.reduceLT, Nat.reduceEqDiff, reduceCtorEq, ↓reduceIte]
  have l := mline_ok (canon 1) a (one_sz (by omega)) (ha.mono (by omega))
  rw [iv_canon] at l
  refine call_by (l) (by rfl) (by simp) ?_
  simp (disch := omega) only [wk, tis, Int.reduceNe, Int.reduceEq, Int.reduceLT, Int.reduceLE, Int.reduceAdd, Int.reduceSub, Int.reduceNeg, Int.reduceMul, Int.reduceToNat, Nat.reduceSub, Nat.reduceMul, Nat.reduceLeDiff, Nat.reduceAdd, Nat.reduceLT, Nat.reduceEqDiff, reduceCtorEq, ↓reduceIte]
  have hb := pb_two ha (one_sz (K := 2 ^ 20) (by omega))
  rw [iv_canon] at hb
  have m := mcompose_g (q := cn [iv a, 1]) hp (rp_cn hb) ep (ps_cn _) eo
  refine call_by (m) (by rfl) (by simp) ?_
  simp (disch := omega) only [wk, tis, Int.reduceNe, Int.reduceEq, Int.reduceLT, Int.reduceLE, Int.reduceAdd, Int.reduceSub, Int.reduceNeg, Int.reduceMul, Int.reduceToNat, Nat.reduceSub, Nat.reduceMul, Nat.reduceLeDiff, Nat.reduceAdd, Nat.reduceLT, Nat.reduceEqDiff, reduceCtorEq, ↓reduceIte]
  first | exact log_by (by kernel_rfl) | refine ⟨log_by (by kernel_rfl), ?_⟩

theorem mline2_ok (p : List RI) (hp : RP (2 ^ 10) (2 ^ 20) p) : AC Try.prog 62 [cw p] none [cp (lhom (trimz (pv p)) [1, 0] [1, 1])] := by
  refine AC.by_walk (rs := [.tmp 2]) ords Try.func62 (by rfl) (by rfl) (by rfl) (by rfl) (by rfl) ?_
  simp (disch := omega) only [wk, tis, Int.reduceNe, Int.reduceEq, Int.reduceLT, Int.reduceLE, Int.reduceAdd, Int.reduceSub, Int.reduceNeg, Int.reduceMul, Int.reduceToNat, Nat.reduceSub, Nat.reduceMul, Nat.reduceLeDiff, Nat.reduceAdd, Nat.reduceLT, Nat.reduceEqDiff, reduceCtorEq, ↓reduceIte]
  refine call_by ((zOf_ok 0 (by omega) (by omega))) (by rfl) (by simp) ?_
  simp (disch := omega) only [wk, tis, Int.reduceNe, Int.reduceEq, Int.reduceLT, Int.reduceLE, Int.reduceAdd, Int.reduceSub, Int.reduceNeg, Int.reduceMul, Int.reduceToNat, Nat.reduceSub, Nat.reduceMul, Nat.reduceLeDiff, Nat.reduceAdd, Nat.reduceLT, Nat.reduceEqDiff, reduceCtorEq, ↓reduceIte]
  refine call_by ((zOf_ok 1 (by omega) (by omega))) (by rfl) (by simp) ?_
  simp (disch := omega) only [wk, tis, Int.reduceNe, Int.reduceEq, Int.reduceLT, Int.reduceLE, Int.reduceAdd, Int.reduceSub, Int.reduceNeg, Int.reduceMul, Int.reduceToNat, Nat.reduceSub, Nat.reduceMul, Nat.reduceLeDiff, Nat.reduceAdd, Nat.reduceLT, Nat.reduceEqDiff, reduceCtorEq, ↓reduceIte]
  refine call_by ((zOf_ok 1 (by omega) (by omega))) (by rfl) (by simp) ?_
  simp (disch := omega) only [wk, tis, Int.reduceNe, Int.reduceEq, Int.reduceLT, Int.reduceLE, Int.reduceAdd, Int.reduceSub, Int.reduceNeg, Int.reduceMul, Int.reduceToNat, Nat.reduceSub, Nat.reduceMul, Nat.reduceLeDiff, Nat.reduceAdd, Nat.reduceLT, Nat.reduceEqDiff, reduceCtorEq, ↓reduceIte]
  refine call_by ((zOf_ok 1 (by omega) (by omega))) (by rfl) (by simp) ?_
  simp (disch := omega) only [wk, tis, Int.reduceNe, Int.reduceEq, Int.reduceLT, Int.reduceLE, Int.reduceAdd, Int.reduceSub, Int.reduceNeg, Int.reduceMul, Int.reduceToNat, Nat.reduceSub, Nat.reduceMul, Nat.reduceLeDiff, Nat.reduceAdd, Nat.reduceLT, Nat.reduceEqDiff, reduceCtorEq, ↓reduceIte]
  have m := mmoebius_ok p (canon 0) (canon 1) (canon 1) (canon 1) hp ((sz_canon 0).mono (by rw [zl_zero]; omega)) (one_sz (by omega)) (one_sz (by omega)) (one_sz (by omega))
  rw [iv_canon, iv_canon] at m
  refine call_by (m) (by rfl) (by simp) ?_
  simp (disch := omega) only [wk, tis, Int.reduceNe, Int.reduceEq, Int.reduceLT, Int.reduceLE, Int.reduceAdd, Int.reduceSub, Int.reduceNeg, Int.reduceMul, Int.reduceToNat, Nat.reduceSub, Nat.reduceMul, Nat.reduceLeDiff, Nat.reduceAdd, Nat.reduceLT, Nat.reduceEqDiff, reduceCtorEq, ↓reduceIte]

theorem pv_canon_trim (q : List Int) : ps (pv (cn q)) = ps q := ps_cn q

theorem mhalves_g {p : List RI} {out : List Int} (hp : RP (2 ^ 10) (2 ^ 19) p) (eo : ps out = cmp (wt 2 (trimz (pv p))) (ps [1, 1])) : AC Try.prog 64 [cw p] none [cp (wt 2 (trimz (pv p))), cp out] := by
  have hw := mweigh_ok p 1 (hp.mono (by omega) (by omega)) (by omega)
  have hb := zl_wt2 (k := 1) hp.pv.trimz (by omega)
  rw [Int.pow_one] at hw hb
  refine AC.by_walk (rs := [.tmp 2, .tmp 3]) ords Try.func64 (by rfl) (by rfl) (by rfl) (by rfl) (by rfl) ?_
  simp (disch := omega) only [wk, tis, Int.reduceNe, Int.reduceEq, Int.reduceLT, Int.reduceLE, Int.reduceAdd, Int.reduceSub, Int.reduceNeg, Int.reduceMul, Int.reduceToNat, Nat.reduceSub, Nat.reduceMul, Nat.reduceLeDiff, Nat.reduceAdd, Nat.reduceLT, Nat.reduceEqDiff, reduceCtorEq, ↓reduceIte]
  refine call_by (hw) (by rfl) (by simp) ?_
  simp (disch := omega) only [wk, tis, Int.reduceNe, Int.reduceEq, Int.reduceLT, Int.reduceLE, Int.reduceAdd, Int.reduceSub, Int.reduceNeg, Int.reduceMul, Int.reduceToNat, Nat.reduceSub, Nat.reduceMul, Nat.reduceLeDiff, Nat.reduceAdd, Nat.reduceLT, Nat.reduceEqDiff, reduceCtorEq, ↓reduceIte]
  refine call_by ((zOf_ok 1 (by omega) (by omega))) (by rfl) (by simp) ?_
  simp (disch := omega) only [wk, tis, Int.reduceNe, Int.reduceEq, Int.reduceLT, Int.reduceLE, Int.reduceAdd, Int.reduceSub, Int.reduceNeg, Int.reduceMul, Int.reduceToNat, Nat.reduceSub, Nat.reduceMul, Nat.reduceLeDiff, Nat.reduceAdd, Nat.reduceLT, Nat.reduceEqDiff, reduceCtorEq, ↓reduceIte]
  generalize wt 2 (trimz (pv p)) = V at *
  have m := mshift_g (p := cn V) (a := canon 1) (P := V) (out := out) (rp_cn (hb.mono (by omega) (by omega))) (one_sz (by omega)) (ps_cn _) (by rw [iv_canon]; exact eo)
  refine call_by (m) (by rfl) (by simp) ?_
  simp (disch := omega) only [wk, tis, Int.reduceNe, Int.reduceEq, Int.reduceLT, Int.reduceLE, Int.reduceAdd, Int.reduceSub, Int.reduceNeg, Int.reduceMul, Int.reduceToNat, Nat.reduceSub, Nat.reduceMul, Nat.reduceLeDiff, Nat.reduceAdd, Nat.reduceLT, Nat.reduceEqDiff, reduceCtorEq, ↓reduceIte]

/-- A cell. -/
abbrev ccell (a : RI) (e : Int) (b : Bool) : CV := .agg [.bool a.1, .sl (lims a.2), .int .i64 e, .bool b]

theorem minto_bad (p : List RI) (a : RI) (e : Int) (b : Bool) (he : e < 0 ∨ 65536 < e) : AC Try.prog 76 [cw p, ccell a e b] none [cp [], ci 3] := by
  refine AC.by_walk (rs := [.tmp 4, .tmp 5]) ords Try.func76 (by rfl) (by rfl) (by rfl) (by rfl) (by rfl) ?_
  by_cases h : e < 0
  · simp (disch := omega) only [wk, tis, Int.reduceNe, Int.reduceEq, Int.reduceLT, Int.reduceLE, Int.reduceAdd, Int.reduceSub, Int.reduceNeg, Int.reduceMul, Int.reduceToNat, Nat.reduceSub, Nat.reduceMul, Nat.reduceLeDiff, Nat.reduceAdd, Nat.reduceLT, Nat.reduceEqDiff, reduceCtorEq, ↓reduceIte, h]
    rfl
  · have h2 : 65536 < e := by omega
    simp (disch := omega) only [wk, tis, Int.reduceNe, Int.reduceEq, Int.reduceLT, Int.reduceLE, Int.reduceAdd, Int.reduceSub, Int.reduceNeg, Int.reduceMul, Int.reduceToNat, Nat.reduceSub, Nat.reduceMul, Nat.reduceLeDiff, Nat.reduceAdd, Nat.reduceLT, Nat.reduceEqDiff, reduceCtorEq, ↓reduceIte, h, h2]
    rfl

theorem minto_g {p : List RI} {a : RI} {e : Nat} {b : Bool} {out : List Int} (hp : RP (2 ^ 8) (2 ^ 10) p) (ha : Sz (2 ^ 20) a) (he : e ≤ 65536) (eo : ps out = cmp (wt (2 ^ e) (trimz (pv p))) (ps [iv a, 1])) : AC Try.prog 76 [cw p, ccell a e b] none [cp out, ci 0] := by
  have hw := mweigh_ok p e (hp.mono (by omega) (by omega)) he
  have hb := zl_wt2 (k := e) hp.pv.trimz (by omega)
  refine AC.by_walk (rs := [.tmp 4, .tmp 5]) ords Try.func76 (by rfl) (by rfl) (by rfl) (by rfl) (by rfl) ?_
  have h1 : ¬ (e : Int) < 0 := by omega
  have h2 : ¬ 65536 < (e : Int) := by omega
  simp (disch := omega) only [wk, tis, Int.reduceNe, Int.reduceEq, Int.reduceLT, Int.reduceLE, Int.reduceAdd, Int.reduceSub, Int.reduceNeg, Int.reduceMul, Int.reduceToNat, Nat.reduceSub, Nat.reduceMul, Nat.reduceLeDiff, Nat.reduceAdd, Nat.reduceLT, Nat.reduceEqDiff, reduceCtorEq, ↓reduceIte, h1, h2]
  refine ⟨tmps_by (by kernel_rfl), ?_⟩
  refine call_by (hw) (by first | rfl | (simp only [tocvs, tocv, h1, h2]; rfl) | (simp only [tocvs, tocv, toboxes, tobox, updH_at, Nat.reduceEqDiff, ↓reduceIte, h1, h2]; rfl)) (by simp) ?_
  simp (disch := omega) only [wk, tis, Int.reduceNe, Int.reduceEq, Int.reduceLT, Int.reduceLE, Int.reduceAdd, Int.reduceSub, Int.reduceNeg, Int.reduceMul, Int.reduceToNat, Nat.reduceSub, Nat.reduceMul, Nat.reduceLeDiff, Nat.reduceAdd, Nat.reduceLT, Nat.reduceEqDiff, reduceCtorEq, ↓reduceIte, h1, h2]
  generalize wt (2 ^ e) (trimz (pv p)) = V at *
  have m := mshift_g (p := cn V) (a := a) (P := V) (out := out) (rp_cn (hb.mono (by omega) (by omega))) ha (ps_cn _) eo
  refine call_by (m) (by first | rfl | (simp only [tocvs, tocv, h1, h2]; rfl) | (simp only [tocvs, tocv, toboxes, tobox, updH_at, Nat.reduceEqDiff, ↓reduceIte, h1, h2]; rfl)) (by simp) ?_
  simp (disch := omega) only [wk, tis, Int.reduceNe, Int.reduceEq, Int.reduceLT, Int.reduceLE, Int.reduceAdd, Int.reduceSub, Int.reduceNeg, Int.reduceMul, Int.reduceToNat, Nat.reduceSub, Nat.reduceMul, Nat.reduceLeDiff, Nat.reduceAdd, Nat.reduceLT, Nat.reduceEqDiff, reduceCtorEq, ↓reduceIte, h1, h2]
  first | exact log_by (by kernel_rfl) | refine ⟨log_by (by kernel_rfl), ?_⟩
end Go.Proofs.Ythgecppfgdadiaa

namespace Go.Proofs.Ythgecppfgdadiaa
open Go Go.Proofs Go.AL
set_option linter.unusedSimpArgs false
set_option linter.unusedVariables false

/-- Each coefficient times a power of a. -/
def sc (a : Int) : List Int → List Int
  | [] => []
  | c :: p => c :: pscale a (sc a p)
theorem pscale_len (a : Int) (p : List Int) : (pscale a p).length = p.length := by simp [pscale]
theorem sc_len (a : Int) (p : List Int) : (sc a p).length = p.length := by
  induction p with
  | nil => rfl
  | cons c p ih => rw [sc, List.length_cons, pscale_len, ih, List.length_cons]
theorem cf_sc (a : Int) (p : List Int) (i : Nat) : cf (sc a p) i = cf p i * a ^ i := by
  induction p generalizing i with
  | nil => simp [sc, cf]
  | cons c p ih =>
    cases i with
    | zero => simp [sc, cf]
    | succ i =>
      have e : cf (sc a (c :: p)) (i + 1) = cf (pscale a (sc a p)) i := by simp [sc, cf]
      have e2 : cf (c :: p) (i + 1) = cf p i := by simp [cf]
      rw [e, e2, cf_pscale, ih, Int.pow_succ, Int.mul_assoc]
theorem ps_cons (c : Int) (p : List Int) : ps (c :: p) = PS.C c + PS.X * ps p := by
  rw [← cmp_X, cmp_cons, cmp_X]
theorem ps_sc (a : Int) (p : List Int) : ps (sc a p) = cmp p (PS.C a * PS.X) := by
  induction p with
  | nil => rw [sc, cmp_nil, ps_nil]
  | cons c p ih =>
    rw [sc, ps_cons, ps_pscale, ih, cmp_cons]
    ac_rfl

theorem zl_pow {a : Int} {K : Nat} (h : zl a ≤ K) (i : Nat) : zl (a ^ i) ≤ i * K + 1 := by
  induction i with
  | zero => rw [Int.pow_zero]; have : zl 1 ≤ 1 := zl_le.mpr (by decide); omega
  | succ i ih =>
    rw [Int.pow_succ]
    have := zl_mul (a ^ i) a
    rw [Nat.succ_mul]
    omega

theorem zl_pow_b {a : Int} (h : zl a ≤ 2 ^ 20) {i : Nat} (hi : i ≤ 2 ^ 10) : zl (a ^ i) ≤ 2 ^ 31 := by
  have h1 := zl_pow h i
  have h2 : i * 2 ^ 20 ≤ 2 ^ 10 * 2 ^ 20 := Nat.mul_le_mul_right _ hi
  have h3 : (2 ^ 10 * 2 ^ 20 : Nat) = 2 ^ 30 := by decide
  omega

theorem mscale_ok (p : List RI) (a : RI) (hp : RP (2 ^ 10) (2 ^ 20) p) (ha : Sz (2 ^ 20) a) : AC Try.prog 59 [cw p, cr a] none [cp (sc (iv a) (trimz (pv p)))] := by
  refine AC.by_walk (rs := [.tmp 4]) ords Try.func59 (by rfl) (by rfl) (by rfl) (by rfl) (by rfl) ?_
  simp (disch := omega) only [wk, tis, Int.reduceNe, Int.reduceEq, Int.reduceLT, Int.reduceLE, Int.reduceAdd, Int.reduceSub, Int.reduceNeg, Int.reduceMul, Int.reduceToNat, Nat.reduceSub, Nat.reduceMul, Nat.reduceLeDiff, Nat.reduceAdd, Nat.reduceLT, Nat.reduceEqDiff, reduceCtorEq, ↓reduceIte]
  refine call_by ((pnormo_ok p (hp.mono (by omega) (by omega)))) (by rfl) (by simp) ?_
  simp (disch := omega) only [wk, tis, Int.reduceNe, Int.reduceEq, Int.reduceLT, Int.reduceLE, Int.reduceAdd, Int.reduceSub, Int.reduceNeg, Int.reduceMul, Int.reduceToNat, Nat.reduceSub, Nat.reduceMul, Nat.reduceLeDiff, Nat.reduceAdd, Nat.reduceLT, Nat.reduceEqDiff, reduceCtorEq, ↓reduceIte]
  refine call_by ((zOf_ok 1 (by omega) (by omega))) (by rfl) (by simp) ?_
  simp (disch := omega) only [wk, tis, Int.reduceNe, Int.reduceEq, Int.reduceLT, Int.reduceLE, Int.reduceAdd, Int.reduceSub, Int.reduceNeg, Int.reduceMul, Int.reduceToNat, Nat.reduceSub, Nat.reduceMul, Nat.reduceLeDiff, Nat.reduceAdd, Nat.reduceLT, Nat.reduceEqDiff, reduceCtorEq, ↓reduceIte]
  have hA := hp.pv.trimz
  unfold cpoly
  generalize trimz (pv p) = A at *
  have hAl := hA.1
  have hq : (A.map canon).length = A.length := by simp
  have za := zl_iv ha
  simp (disch := omega) only [wk, tis, Int.reduceNe, Int.reduceEq, Int.reduceLT, Int.reduceLE, Int.reduceAdd, Int.reduceSub, Int.reduceNeg, Int.reduceMul, Int.reduceToNat, Nat.reduceSub, Nat.reduceMul, Nat.reduceLeDiff, Nat.reduceAdd, Nat.reduceLT, Nat.reduceEqDiff, reduceCtorEq, ↓reduceIte, hq]
  refine aloop_by (fun f H => ∃ (i st st3 st5 : Nat) (cur : List Int), i ≤ A.length ∧ cur.length = A.length ∧ (∀ j, cf cur j = if j < i then cf (sc (iv a) A) j else cf A j) ∧ f 12 = .iv (.int .i64 i) ∧ f 11 = .iv (.int .i64 A.length) ∧ f 0 = .hs 8 st ∧ H 8 = .blk false st 40 2 (raws (cur.map canon)) ∧ f 3 = .hp 3 st3 0 0 ∧ H 3 = .blk false st3 40 2 [prow a] ∧ f 5 = .hp 5 st5 0 0 ∧ H 5 = .blk false st5 40 2 [prow (canon ((iv a) ^ i))]) (fun f H => (A.length - intAt f 12).toNat) ?_ ?_
  · refine ⟨0, 1, 1, 1, A, by omega, rfl, fun j => by simp, ?_⟩
    simp (disch := omega) only [wk, tis, Int.reduceNe, Int.reduceEq, Int.reduceLT, Int.reduceLE, Int.reduceAdd, Int.reduceSub, Int.reduceNeg, Int.reduceMul, Int.reduceToNat, Nat.reduceSub, Nat.reduceMul, Nat.reduceLeDiff, Nat.reduceAdd, Nat.reduceLT, Nat.reduceEqDiff, reduceCtorEq, ↓reduceIte, Int.pow_zero]
  rintro f H ⟨i, st, st3, st5, cur, hi, hcl, hc, hF⟩
  rw [intAt_of hF.1]
  simp (disch := omega) only [wk, tis, Int.reduceNe, Int.reduceEq, Int.reduceLT, Int.reduceLE, Int.reduceAdd, Int.reduceSub, Int.reduceNeg, Int.reduceMul, Int.reduceToNat, Nat.reduceSub, Nat.reduceMul, Nat.reduceLeDiff, Nat.reduceAdd, Nat.reduceLT, Nat.reduceEqDiff, reduceCtorEq, ↓reduceIte, hF]
  have hq : (cur.map canon).length = A.length := by simp [hcl]
  refine if_by (fun hlt => ?_) (fun hlt => ?_)
  · have e1 : cf cur i = cf A i := by rw [hc, if_neg (by omega)]
    have zi := hA.cf i
    have zp := zl_pow_b za (i := i) (by omega)
    simp (disch := omega) only [wk, tis, Int.reduceNe, Int.reduceEq, Int.reduceLT, Int.reduceLE, Int.reduceAdd, Int.reduceSub, Int.reduceNeg, Int.reduceMul, Int.reduceToNat, Nat.reduceSub, Nat.reduceMul, Nat.reduceLeDiff, Nat.reduceAdd, Nat.reduceLT, Nat.reduceEqDiff, reduceCtorEq, ↓reduceIte, hF, hq, e1]
    refine ⟨tmps_by (by kernel_rfl), ?_⟩
    have q := zmul_ok (canon (cf A i)) (canon (iv a ^ i)) ((sz_canon _).mono (by omega)) ((sz_canon _).mono (by omega))
    rw [iv_canon, iv_canon] at q
    refine call_by (q) (by first | rfl | (simp only [tocvs, tocv, hF, hq, e1]; rfl) | (simp only [tocvs, tocv, toboxes, tobox, updH_at, Nat.reduceEqDiff, ↓reduceIte, hF, hq, e1]; rfl)) (by simp) ?_
    simp (disch := omega) only [wk, tis, Int.reduceNe, Int.reduceEq, Int.reduceLT, Int.reduceLE, Int.reduceAdd, Int.reduceSub, Int.reduceNeg, Int.reduceMul, Int.reduceToNat, Nat.reduceSub, Nat.reduceMul, Nat.reduceLeDiff, Nat.reduceAdd, Nat.reduceLT, Nat.reduceEqDiff, reduceCtorEq, ↓reduceIte, hF, hq, e1]
    have q2 := zmul_ok (canon (iv a ^ i)) a ((sz_canon _).mono (by omega)) (ha.mono (by omega))
    rw [iv_canon, ← Int.pow_succ] at q2
    first | exact log_by (by kernel_rfl) | refine ⟨log_by (by kernel_rfl), ?_⟩
    refine call_by (q2) (by first | rfl | (simp only [tocvs, tocv, hF, hq, e1]; rfl) | (simp only [tocvs, tocv, toboxes, tobox, updH_at, Nat.reduceEqDiff, ↓reduceIte, hF, hq, e1]; rfl)) (by simp) ?_
    simp (disch := omega) only [wk, tis, Int.reduceNe, Int.reduceEq, Int.reduceLT, Int.reduceLE, Int.reduceAdd, Int.reduceSub, Int.reduceNeg, Int.reduceMul, Int.reduceToNat, Nat.reduceSub, Nat.reduceMul, Nat.reduceLeDiff, Nat.reduceAdd, Nat.reduceLT, Nat.reduceEqDiff, reduceCtorEq, ↓reduceIte, hF, hq, e1]
    refine ⟨⟨i + 1, st, st3, st5, cur.set i (cf A i * iv a ^ i), by omega, by simp [hcl], fun j => ?_, by omega, rfl, rfl, rfl, rfl, rfl, rfl⟩, by omega⟩
    rw [cf_set (by omega), hc]
    by_cases hj : j = i
    · subst hj
      rw [if_pos rfl, if_pos (by omega), cf_sc]
    · rw [if_neg hj]
      by_cases hj2 : j < i
      · rw [if_pos hj2, if_pos (by omega)]
      · rw [if_neg hj2, if_neg (by omega)]
  · have ew : cur = sc (iv a) A := ext_cf (by rw [sc_len, hcl]) fun j hj => by rw [hc, if_pos (by omega)]
    subst ew
    simp (disch := omega) only [wk, tis, Int.reduceNe, Int.reduceEq, Int.reduceLT, Int.reduceLE, Int.reduceAdd, Int.reduceSub, Int.reduceNeg, Int.reduceMul, Int.reduceToNat, Nat.reduceSub, Nat.reduceMul, Nat.reduceLeDiff, Nat.reduceAdd, Nat.reduceLT, Nat.reduceEqDiff, reduceCtorEq, ↓reduceIte, hF, hq]
    have hb : PB (2 ^ 10) (2 ^ 32) (sc (iv a) A) := .of (by rw [sc_len]; exact hAl) fun j => by
      rw [cf_sc]
      by_cases hj : j < A.length
      · have z1 := zl_mul (cf A j) (iv a ^ j)
        have z2 := zl_pow_b za (i := j) (by omega)
        have z3 := hA.cf j
        omega
      · rw [cf_ge (by omega), Int.zero_mul, zl_zero]; omega
    have m := pnorm_ok ((sc (iv a) A).map canon) (RP.canon (hb.mono (by omega) (by omega)))
    rw [pv_canon] at m
    refine call_by (m) (by first | rfl | (simp only [tocvs, tocv, hF, hq]; rfl) | (simp only [tocvs, tocv, toboxes, tobox, updH_at, Nat.reduceEqDiff, ↓reduceIte, hF, hq]; rfl)) (by simp) ?_
    simp (disch := omega) only [wk, tis, Int.reduceNe, Int.reduceEq, Int.reduceLT, Int.reduceLE, Int.reduceAdd, Int.reduceSub, Int.reduceNeg, Int.reduceMul, Int.reduceToNat, Nat.reduceSub, Nat.reduceMul, Nat.reduceLeDiff, Nat.reduceAdd, Nat.reduceLT, Nat.reduceEqDiff, reduceCtorEq, ↓reduceIte, hF, hq]

theorem mflip_ok (p : List RI) (hp : RP (2 ^ 10) (2 ^ 20) p) : AC Try.prog 60 [cw p] none [cp (sc (-1) (trimz (pv p)))] := by
  refine AC.by_walk (rs := [.tmp 2]) ords Try.func60 (by rfl) (by rfl) (by rfl) (by rfl) (by rfl) ?_
  simp (disch := omega) only [wk, tis, Int.reduceNe, Int.reduceEq, Int.reduceLT, Int.reduceLE, Int.reduceAdd, Int.reduceSub, Int.reduceNeg, Int.reduceMul, Int.reduceToNat, Nat.reduceSub, Nat.reduceMul, Nat.reduceLeDiff, Nat.reduceAdd, Nat.reduceLT, Nat.reduceEqDiff, reduceCtorEq, ↓reduceIte]
  refine call_by ((zOf_ok (-1) (by omega) (by omega))) (by rfl) (by simp) ?_
  simp (disch := omega) only [wk, tis, Int.reduceNe, Int.reduceEq, Int.reduceLT, Int.reduceLE, Int.reduceAdd, Int.reduceSub, Int.reduceNeg, Int.reduceMul, Int.reduceToNat, Nat.reduceSub, Nat.reduceMul, Nat.reduceLeDiff, Nat.reduceAdd, Nat.reduceLT, Nat.reduceEqDiff, reduceCtorEq, ↓reduceIte]
  have m := mscale_ok p (canon (-1)) hp ((sz_canon _).mono (by have : zl (-1) ≤ 1 := zl_le.mpr (by decide); omega))
  rw [iv_canon] at m
  refine call_by (m) (by rfl) (by simp) ?_
  simp (disch := omega) only [wk, tis, Int.reduceNe, Int.reduceEq, Int.reduceLT, Int.reduceLE, Int.reduceAdd, Int.reduceSub, Int.reduceNeg, Int.reduceMul, Int.reduceToNat, Nat.reduceSub, Nat.reduceMul, Nat.reduceLeDiff, Nat.reduceAdd, Nat.reduceLT, Nat.reduceEqDiff, reduceCtorEq, ↓reduceIte]

/-- Turned round. -/
def rv (m : Nat) (p : List Int) : List Int := (List.range (m + 1)).map fun j => cf p (m - j)
theorem cf_rv (m : Nat) (p : List Int) (j : Nat) : cf (rv m p) j = if j ≤ m then cf p (m - j) else 0 := by
  unfold rv
  by_cases h : j ≤ m
  · rw [if_pos h]; simp [cf, List.getD, show j < m + 1 by omega]
  · rw [if_neg h]; exact cf_ge (by simp; omega)

theorem rv_bad {m : Int} {n : Nat} (hm : m < 0 ∨ m < (n : Int) - 1 ∨ 65536 < m) : m < 0 ∨ (¬ m < 0 ∧ m < (n : Int) - 1) ∨ (¬ m < 0 ∧ ¬ m < (n : Int) - 1 ∧ 65536 < m) := by omega

theorem mreverse_bad (p : List RI) (m : Int) (hp : RP (2 ^ 10) (2 ^ 20) p) (hm : m < 0 ∨ m < (tz (pv p) : Int) - 1 ∨ 65536 < m) : AC Try.prog 73 [cw p, ci m] none [cp [], ci 3] := by
  have hcl := cpoly_len' (pv p)
  have htl := tz_le (pv p)
  have hpl : (pv p).length ≤ 2 ^ 10 := hp.pv.1
  refine AC.by_walk (rs := [.tmp 4, .tmp 5]) ords Try.func73 (by rfl) (by rfl) (by rfl) (by rfl) (by rfl) ?_
  have hn := pnorm_ok p (hp.mono (by omega) (by omega))
  simp (disch := omega) only [wk, tis, Int.reduceNe, Int.reduceEq, Int.reduceLT, Int.reduceLE, Int.reduceAdd, Int.reduceSub, Int.reduceNeg, Int.reduceMul, Int.reduceToNat, Nat.reduceSub, Nat.reduceMul, Nat.reduceLeDiff, Nat.reduceAdd, Nat.reduceLT, Nat.reduceEqDiff, reduceCtorEq, ↓reduceIte]
  rcases rv_bad hm with h | ⟨h, h2⟩ | ⟨h, h2, h3⟩
  · skip
    refine call_by (hn) (by first | rfl | (simp only [tocvs, tocv, h, hcl]; rfl) | (simp only [tocvs, tocv, toboxes, tobox, updH_at, Nat.reduceEqDiff, ↓reduceIte, h, hcl]; rfl)) (by simp) ?_
    simp (disch := omega) only [wk, tis, Int.reduceNe, Int.reduceEq, Int.reduceLT, Int.reduceLE, Int.reduceAdd, Int.reduceSub, Int.reduceNeg, Int.reduceMul, Int.reduceToNat, Nat.reduceSub, Nat.reduceMul, Nat.reduceLeDiff, Nat.reduceAdd, Nat.reduceLT, Nat.reduceEqDiff, reduceCtorEq, ↓reduceIte, h, hcl]
    rfl
  · skip
    refine call_by (hn) (by first | rfl | (simp only [tocvs, tocv, h, h2, hcl]; rfl) | (simp only [tocvs, tocv, toboxes, tobox, updH_at, Nat.reduceEqDiff, ↓reduceIte, h, h2, hcl]; rfl)) (by simp) ?_
    simp (disch := omega) only [wk, tis, Int.reduceNe, Int.reduceEq, Int.reduceLT, Int.reduceLE, Int.reduceAdd, Int.reduceSub, Int.reduceNeg, Int.reduceMul, Int.reduceToNat, Nat.reduceSub, Nat.reduceMul, Nat.reduceLeDiff, Nat.reduceAdd, Nat.reduceLT, Nat.reduceEqDiff, reduceCtorEq, ↓reduceIte, h, h2, hcl]
    rfl
  · skip
    refine call_by (hn) (by first | rfl | (simp only [tocvs, tocv, h, h2, h3, hcl]; rfl) | (simp only [tocvs, tocv, toboxes, tobox, updH_at, Nat.reduceEqDiff, ↓reduceIte, h, h2, h3, hcl]; rfl)) (by simp) ?_
    simp (disch := omega) only [wk, tis, Int.reduceNe, Int.reduceEq, Int.reduceLT, Int.reduceLE, Int.reduceAdd, Int.reduceSub, Int.reduceNeg, Int.reduceMul, Int.reduceToNat, Nat.reduceSub, Nat.reduceMul, Nat.reduceLeDiff, Nat.reduceAdd, Nat.reduceLT, Nat.reduceEqDiff, reduceCtorEq, ↓reduceIte, h, h2, h3, hcl]
    rfl

theorem mreverse_ok (p : List RI) (m : Nat) (hp : RP (2 ^ 10) (2 ^ 20) p) (hm : m ≤ 65536) (hm2 : tz (pv p) ≤ m + 1) : AC Try.prog 73 [cw p, ci m] none [cp (rv m (pv p)), ci 0] := by
  have hcl := cpoly_len' (pv p)
  have htl := tz_le (pv p)
  have hpl : (pv p).length ≤ 2 ^ 10 := hp.pv.1
  refine AC.by_walk (rs := [.tmp 4, .tmp 5]) ords Try.func73 (by rfl) (by rfl) (by rfl) (by rfl) (by rfl) ?_
  have hn := pnorm_ok p (hp.mono (by omega) (by omega))
  have h1 : ¬ (m : Int) < 0 := by omega
  have h2 : ¬ (m : Int) < (tz (pv p) : Int) - 1 := by omega
  have h3 : ¬ 65536 < (m : Int) := by omega
  simp (disch := omega) only [wk, tis, Int.reduceNe, Int.reduceEq, Int.reduceLT, Int.reduceLE, Int.reduceAdd, Int.reduceSub, Int.reduceNeg, Int.reduceMul, Int.reduceToNat, Nat.reduceSub, Nat.reduceMul, Nat.reduceLeDiff, Nat.reduceAdd, Nat.reduceLT, Nat.reduceEqDiff, reduceCtorEq, ↓reduceIte]
  refine call_by (hn) (by first | rfl | (simp only [tocvs, tocv, h1, h2, h3, hcl]; rfl) | (simp only [tocvs, tocv, toboxes, tobox, updH_at, Nat.reduceEqDiff, ↓reduceIte, h1, h2, h3, hcl]; rfl)) (by simp) ?_
  simp (disch := omega) only [wk, tis, Int.reduceNe, Int.reduceEq, Int.reduceLT, Int.reduceLE, Int.reduceAdd, Int.reduceSub, Int.reduceNeg, Int.reduceMul, Int.reduceToNat, Nat.reduceSub, Nat.reduceMul, Nat.reduceLeDiff, Nat.reduceAdd, Nat.reduceLT, Nat.reduceEqDiff, reduceCtorEq, ↓reduceIte, h1, h2, h3, hcl]
  have em : (m : Int) + 1 = ((m + 1 : Nat) : Int) := by omega
  simp (disch := omega) only [wk, tis, Int.reduceNe, Int.reduceEq, Int.reduceLT, Int.reduceLE, Int.reduceAdd, Int.reduceSub, Int.reduceNeg, Int.reduceMul, Int.reduceToNat, Nat.reduceSub, Nat.reduceMul, Nat.reduceLeDiff, Nat.reduceAdd, Nat.reduceLT, Nat.reduceEqDiff, reduceCtorEq, ↓reduceIte, em]
  have ht := trimz_len (pv p)
  have hrep := rep_canon (m + 1)
  refine aloop_by (fun f H => ∃ (i st : Nat) (cur : List Int), i ≤ tz (pv p) ∧ cur.length = m + 1 ∧ (∀ j, cf cur j = if m < j + i ∧ j ≤ m then cf (pv p) (m - j) else 0) ∧ f 29 = .iv (.int .i64 i) ∧ f 28 = .iv (.int .i64 (tz (pv p))) ∧ f 27 = .iv (.sl (cpoly (pv p))) ∧ f 1 = .iv (.int .i64 m) ∧ f 6 = .hs 26 st ∧ H 26 = .blk false st 40 2 (raws (cur.map canon))) (fun f H => ((tz (pv p)) - intAt f 29).toNat) ?_ ?_
  · refine ⟨0, 1, List.replicate (m + 1) 0, by omega, by simp, fun j => by rw [cf_rep, if_neg (by omega)], ?_⟩
    simp (disch := omega) only [wk, tis, Int.reduceNe, Int.reduceEq, Int.reduceLT, Int.reduceLE, Int.reduceAdd, Int.reduceSub, Int.reduceNeg, Int.reduceMul, Int.reduceToNat, Nat.reduceSub, Nat.reduceMul, Nat.reduceLeDiff, Nat.reduceAdd, Nat.reduceLT, Nat.reduceEqDiff, reduceCtorEq, ↓reduceIte, rep_canon]
  rintro f H ⟨i, st, cur, hi, hcl2, hc, hF⟩
  rw [intAt_of hF.1]
  simp (disch := omega) only [wk, tis, Int.reduceNe, Int.reduceEq, Int.reduceLT, Int.reduceLE, Int.reduceAdd, Int.reduceSub, Int.reduceNeg, Int.reduceMul, Int.reduceToNat, Nat.reduceSub, Nat.reduceMul, Nat.reduceLeDiff, Nat.reduceAdd, Nat.reduceLT, Nat.reduceEqDiff, reduceCtorEq, ↓reduceIte, hF]
  have hq : (cur.map canon).length = m + 1 := by simp [hcl2]
  refine if_by (fun hlt => ?_) (fun hlt => ?_)
  · have eg := cpoly_getD (pv p) (i := i) (by omega)
    have ei : (m : Int) - i = ((m - i : Nat) : Int) := by omega
    simp (disch := omega) only [wk, tis, Int.reduceNe, Int.reduceEq, Int.reduceLT, Int.reduceLE, Int.reduceAdd, Int.reduceSub, Int.reduceNeg, Int.reduceMul, Int.reduceToNat, Nat.reduceSub, Nat.reduceMul, Nat.reduceLeDiff, Nat.reduceAdd, Nat.reduceLT, Nat.reduceEqDiff, reduceCtorEq, ↓reduceIte, hF, hq, hcl, eg, ei]
    refine ⟨⟨i + 1, st, cur.set (m - i) (cf (pv p) i), by omega, by simp [hcl2], fun j => ?_, by omega, rfl, rfl⟩, by omega⟩
    rw [cf_set (by omega), hc]
    by_cases hj : j = m - i
    · rw [if_pos hj, if_pos (by omega), show m - j = i by omega]
    · rw [if_neg hj]
      by_cases hj2 : m < j + i ∧ j ≤ m
      · rw [if_pos hj2, if_pos (by omega)]
      · rw [if_neg hj2, if_neg (by omega)]
  · have ew : cur = rv m (pv p) := ext_cf (by simp [rv, hcl2]) fun j hj => by
      rw [hc, cf_rv]
      by_cases hj2 : m < j + i ∧ j ≤ m
      · rw [if_pos hj2, if_pos hj2.2]
      · rw [if_neg hj2, if_pos (by omega), cf_ge_tz _ (by omega)]
    subst ew
    simp (disch := omega) only [wk, tis, Int.reduceNe, Int.reduceEq, Int.reduceLT, Int.reduceLE, Int.reduceAdd, Int.reduceSub, Int.reduceNeg, Int.reduceMul, Int.reduceToNat, Nat.reduceSub, Nat.reduceMul, Nat.reduceLeDiff, Nat.reduceAdd, Nat.reduceLT, Nat.reduceEqDiff, reduceCtorEq, ↓reduceIte, hF, hq]
    have hb : PB (2 ^ 20) (2 ^ 20) (rv m (pv p)) := .of (by omega) fun j => by
      rw [cf_rv]
      split
      · exact hp.pv.cf _
      · rw [zl_zero]; omega
    have q := pnorm_ok ((rv m (pv p)).map canon) (RP.canon (hb.mono (by omega) (by omega)))
    rw [pv_canon] at q
    refine call_by (q) (by first | rfl | (simp only [tocvs, tocv, hF, hq]; rfl) | (simp only [tocvs, tocv, toboxes, tobox, updH_at, Nat.reduceEqDiff, ↓reduceIte, hF, hq]; rfl)) (by simp) ?_
    simp (disch := omega) only [wk, tis, Int.reduceNe, Int.reduceEq, Int.reduceLT, Int.reduceLE, Int.reduceAdd, Int.reduceSub, Int.reduceNeg, Int.reduceMul, Int.reduceToNat, Nat.reduceSub, Nat.reduceMul, Nat.reduceLeDiff, Nat.reduceAdd, Nat.reduceLT, Nat.reduceEqDiff, reduceCtorEq, ↓reduceIte, hF, hq]
end Go.Proofs.Ythgecppfgdadiaa

namespace Go.Proofs.Ythgecppfgdadiaa
open Go Go.Proofs Go.AL
set_option linter.unusedSimpArgs false
set_option linter.unusedVariables false

theorem vl_top (q x : Nat) : vl D16 ((List.replicate (q + 1) 0).set q x) = D16 ^ q * x := by
  induction q with
  | zero => simp [vl]
  | succ q ih =>
    rw [List.replicate_succ, List.set_cons_succ, vl, ih, Nat.pow_succ]
    rw [Nat.zero_add, ← Nat.mul_assoc, Nat.mul_comm D16]
theorem dig_top (q x : Nat) (hx : x < D16) : Dig ((List.replicate (q + 1) 0).set q x) := (Dig.replicate _).set hx

theorem rtwo_ok (n : Nat) (hn : n ≤ 2 ^ 30) : AC Try.prog 78 [ci n] none [cl (wd (2 ^ n))] := by
  refine AC.by_walk (rs := [.tmp 2]) ords Try.func78 (by rfl) (by rfl) (by rfl) (by rfl) (by rfl) ?_
  have e1 : (n : Int).tdiv 16 = ((n / 16 : Nat) : Int) := by rw [Int.tdiv_eq_ediv_of_nonneg (by omega)]; omega
  have e2 : (n : Int).tmod 16 = ((n % 16 : Nat) : Int) := by rw [Int.tmod_eq_emod_of_nonneg (by omega)]; omega
  have e3 : ((n / 16 : Nat) : Int) + 1 = ((n / 16 + 1 : Nat) : Int) := by omega
  have hd : 16 * (n / 16) + n % 16 = n := Nat.div_add_mod n 16
  generalize n / 16 = q at *
  generalize hr : n % 16 = r at *
  have hr16 : r < 16 := by omega
  have hrep := nums_rep (q + 1)
  have hs1 := nums_set (List.replicate (q + 1) 0) q 1
  rw [show (((1 : Nat) : Int)) = 1 from rfl] at hs1
  have hlen : ∀ x, ((List.replicate (q + 1) 0).set q x : List Nat).length = q + 1 := fun x => by simp
  have hn0 : (nums (List.replicate (q + 1) 0)).getD q [] = [.int .i64 0] := by simp [nums, List.getD]
  have hnx : ∀ x : Nat, (nums ((List.replicate (q + 1) 0).set q x)).getD q [] = [.int .i64 x] := fun x => by simp [nums, List.getD]
  simp (disch := omega) only [wk, tis, Int.reduceNe, Int.reduceEq, Int.reduceLT, Int.reduceLE, Int.reduceAdd, Int.reduceSub, Int.reduceNeg, Int.reduceMul, Int.reduceToNat, Nat.reduceSub, Nat.reduceMul, Nat.reduceLeDiff, Nat.reduceAdd, Nat.reduceLT, Nat.reduceEqDiff, reduceCtorEq, ↓reduceIte, e1, e2, e3, hrep, hs1, hn0]
  refine aloop_by (fun f H => ∃ (i st : Nat), i ≤ r ∧ f 4 = .iv (.int .i64 i) ∧ f 0 = .iv (.int .i64 n) ∧ f 3 = .hs 8 st ∧ H 8 = .blk false st 3 1 (nums ((List.replicate (q + 1) 0).set q (2 ^ i)))) (fun f H => (r - intAt f 4).toNat) ?_ ?_
  · refine ⟨0, 1, by omega, ?_⟩
    simp (disch := omega) only [wk, tis, Int.reduceNe, Int.reduceEq, Int.reduceLT, Int.reduceLE, Int.reduceAdd, Int.reduceSub, Int.reduceNeg, Int.reduceMul, Int.reduceToNat, Nat.reduceSub, Nat.reduceMul, Nat.reduceLeDiff, Nat.reduceAdd, Nat.reduceLT, Nat.reduceEqDiff, reduceCtorEq, ↓reduceIte, Nat.pow_zero]
  rintro f H ⟨i, st, hi, hF⟩
  rw [intAt_of hF.1]
  simp (disch := omega) only [wk, tis, Int.reduceNe, Int.reduceEq, Int.reduceLT, Int.reduceLE, Int.reduceAdd, Int.reduceSub, Int.reduceNeg, Int.reduceMul, Int.reduceToNat, Nat.reduceSub, Nat.reduceMul, Nat.reduceLeDiff, Nat.reduceAdd, Nat.reduceLT, Nat.reduceEqDiff, reduceCtorEq, ↓reduceIte, hF]
  simp (disch := omega) only [wk, tis, Int.reduceNe, Int.reduceEq, Int.reduceLT, Int.reduceLE, Int.reduceAdd, Int.reduceSub, Int.reduceNeg, Int.reduceMul, Int.reduceToNat, Nat.reduceSub, Nat.reduceMul, Nat.reduceLeDiff, Nat.reduceAdd, Nat.reduceLT, Nat.reduceEqDiff, reduceCtorEq, ↓reduceIte, e2]
  refine if_by (fun hlt => ?_) (fun hlt => ?_)
  · obtain ⟨x, hx⟩ : ∃ x : Nat, x = 2 ^ i := ⟨_, rfl⟩
    have hxb : x ≤ 16384 := by rw [hx]; exact Nat.le_trans (Nat.pow_le_pow_right (by decide) (show i ≤ 14 by omega)) (by decide)
    have hx2 : 2 ^ (i + 1) = 2 * x := by rw [Nat.pow_succ, hx, Nat.mul_comm]
    rw [← hx] at hF
    have eg : ((List.replicate (q + 1) 0).set q x).getD q 0 = x := by simp [List.getD]
    have es := nums_set ((List.replicate (q + 1) 0).set q x) q (2 * x)
    rw [List.set_set, show (((2 * x : Nat) : Int)) = (x : Int) * 2 by omega] at es
    simp (disch := omega) only [wk, tis, Int.reduceNe, Int.reduceEq, Int.reduceLT, Int.reduceLE, Int.reduceAdd, Int.reduceSub, Int.reduceNeg, Int.reduceMul, Int.reduceToNat, Nat.reduceSub, Nat.reduceMul, Nat.reduceLeDiff, Nat.reduceAdd, Nat.reduceLT, Nat.reduceEqDiff, reduceCtorEq, ↓reduceIte, hF, e1, e2, hlen, hnx, es]
    refine ⟨⟨i + 1, st, by omega, by omega, rfl, by rw [hx2]⟩, by omega⟩
  · have hir : i = r := by omega
    subst hir
    have hp : 2 ^ i < D16 := by rw [show D16 = 2 ^ 16 from rfl]; exact Nat.pow_lt_pow_right (by decide) hr16
    simp (disch := omega) only [wk, tis, Int.reduceNe, Int.reduceEq, Int.reduceLT, Int.reduceLE, Int.reduceAdd, Int.reduceSub, Int.reduceNeg, Int.reduceMul, Int.reduceToNat, Nat.reduceSub, Nat.reduceMul, Nat.reduceLeDiff, Nat.reduceAdd, Nat.reduceLT, Nat.reduceEqDiff, reduceCtorEq, ↓reduceIte, hF, e2]
    have m := rnumber_ok ((List.replicate (q + 1) 0).set q (2 ^ i)) (dig_top q _ hp) (by rw [hlen]; omega)
    have ev : D16 ^ q * 2 ^ i = 2 ^ n := by rw [show D16 = 2 ^ 16 from rfl, ← Nat.pow_mul, ← Nat.pow_add, hd]
    rw [vl_top, ev] at m
    refine call_by (m) (by first | rfl | (simp only [tocvs, tocv, hF, e2]; rfl) | (simp only [tocvs, tocv, toboxes, tobox, updH_at, Nat.reduceEqDiff, ↓reduceIte, hF, e2]; rfl)) (by simp) ?_
    simp (disch := omega) only [wk, tis, Int.reduceNe, Int.reduceEq, Int.reduceLT, Int.reduceLE, Int.reduceAdd, Int.reduceSub, Int.reduceNeg, Int.reduceMul, Int.reduceToNat, Nat.reduceSub, Nat.reduceMul, Nat.reduceLeDiff, Nat.reduceAdd, Nat.reduceLT, Nat.reduceEqDiff, reduceCtorEq, ↓reduceIte, hF, e2]
end Go.Proofs.Ythgecppfgdadiaa

namespace Go.Proofs.Ythgecppfgdadiaa
open Go Go.Proofs Go.AL
set_option linter.unusedSimpArgs false
set_option linter.unusedVariables false

abbrev RQ := RI × List Nat
abbrev qrow (r : RQ) : List IV := [.bool r.1.1, .sl (lims r.1.2), .sl (lims r.2)]
def rats (l : List RQ) : List (List IV) := l.map qrow
/-- Of at most three words. -/
def fi (a : RI) : RI := (a.1, a.2.take 3)
def fr (r : RQ) : RQ := (fi r.1, r.2.take 3)
def fp (p : List RI) : List RI := (p.take 9).map fi
def fq (p : List RQ) : List RQ := (p.take 7).map fr
def nearZ (k : Int) : Int := if 200 < k ∧ k ≤ 65536 then k.tmod 200 else k

theorem take_min {α : Type} (l : List α) (n : Nat) : l.take (min (l.length : Int) n).toNat = l.take n := by
  rcases Nat.le_total l.length n with h | h
  · rw [List.take_of_length_le (i := n) h, List.take_of_length_le (by omega)]
  · congr 1; omega

theorem lay_rat (c : RI) (x : IV) : lay (fun i => [(0, 2), (2, 1)][i]?) [.bool false, .sl [], .sl []] ([0, 1].zip [prow c, [x]]) = some ((2 = 2 ∧ 0 + 2 ≤ 3) ∧ (1 = 1 ∧ 2 + 1 ≤ 3) ∧ True, [.bool c.1, .sl (lims c.2), x]) := rfl
theorem prow_len2 (c : RI) : (prow c).length = 2 := rfl
theorem splice3 (c : RI) (x y z : IV) : splice [x, y, z] 0 (prow c) = [.bool c.1, .sl (lims c.2), z] := rfl

theorem fewInt_ok (a : RI) (h : a.2.length ≤ 9223372036854775807) : AC Try.prog 119 [cr a] none [cr (fi a)] := by
  have e := take_min a.2 3
  rw [show ((3 : Nat) : Int) = 3 from rfl] at e
  refine AC.by_walk (rs := [.cell 2 40]) ords Try.func119 (by rfl) (by rfl) (by rfl) (by rfl) (by rfl) ?_
  simp (disch := omega) only [wk, tis, Int.reduceNe, Int.reduceEq, Int.reduceLT, Int.reduceLE, Int.reduceAdd, Int.reduceSub, Int.reduceNeg, Int.reduceMul, Int.reduceToNat, Nat.reduceSub, Nat.reduceMul, Nat.reduceLeDiff, Nat.reduceAdd, Nat.reduceLT, Nat.reduceEqDiff, reduceCtorEq, ↓reduceIte, e]
  refine ⟨tmps_by (by kernel_rfl), ?_⟩
  first | exact log_by (by kernel_rfl) | refine ⟨log_by (by kernel_rfl), ?_⟩
  rfl

theorem fewRat_ok (r : RQ) (h : r.1.2.length ≤ 9223372036854775807) (h2 : r.2.length ≤ 9223372036854775807) : AC Try.prog 118 [.agg (qrow r)] none [.agg (qrow (fr r))] := by
  have e := take_min r.2 3
  rw [show ((3 : Nat) : Int) = 3 from rfl] at e
  have hpr := prow_len2
  have hp3 := lay_rat
  refine AC.by_walk (rs := [.cell 2 66]) ords Try.func118 (by rfl) (by rfl) (by rfl) (by rfl) (by rfl) ?_
  simp (disch := omega) only [wk, tis, Int.reduceNe, Int.reduceEq, Int.reduceLT, Int.reduceLE, Int.reduceAdd, Int.reduceSub, Int.reduceNeg, Int.reduceMul, Int.reduceToNat, Nat.reduceSub, Nat.reduceMul, Nat.reduceLeDiff, Nat.reduceAdd, Nat.reduceLT, Nat.reduceEqDiff, reduceCtorEq, ↓reduceIte, e, hpr, hp3]
  refine ⟨tmps_by (by kernel_rfl), ?_⟩
  refine call_by ((fewInt_ok r.1 h)) (by first | rfl | (simp only [tocvs, tocv, e, hpr, hp3]; rfl) | (simp only [tocvs, tocv, toboxes, tobox, updH_at, Nat.reduceEqDiff, ↓reduceIte, e, hpr, hp3]; rfl)) (by simp) ?_
  simp (disch := omega) only [wk, tis, Int.reduceNe, Int.reduceEq, Int.reduceLT, Int.reduceLE, Int.reduceAdd, Int.reduceSub, Int.reduceNeg, Int.reduceMul, Int.reduceToNat, Nat.reduceSub, Nat.reduceMul, Nat.reduceLeDiff, Nat.reduceAdd, Nat.reduceLT, Nat.reduceEqDiff, reduceCtorEq, ↓reduceIte, e, hpr, hp3]
  first | exact log_by (by kernel_rfl) | refine ⟨log_by (by kernel_rfl), ?_⟩
  rfl

theorem few11_ok (p : List RI) (hl : p.length ≤ 9223372036854775807) (h : ∀ c ∈ p, c.2.length ≤ 9223372036854775807) : AC Try.prog 116 [cw p] none [cw (fp p)] := by
  refine AC.by_walk (rs := [.tmp 2]) ords Try.func116 (by rfl) (by rfl) (by rfl) (by rfl) (by rfl) ?_
  simp (disch := omega) only [wk, tis, Int.reduceNe, Int.reduceEq, Int.reduceLT, Int.reduceLE, Int.reduceAdd, Int.reduceSub, Int.reduceNeg, Int.reduceMul, Int.reduceToNat, Nat.reduceSub, Nat.reduceMul, Nat.reduceLeDiff, Nat.reduceAdd, Nat.reduceLT, Nat.reduceEqDiff, reduceCtorEq, ↓reduceIte]
  refine aloop_nil 3 3 40 2 (by simp (disch := omega) only [wk, tis, Int.reduceNe, Int.reduceEq, Int.reduceLT, Int.reduceLE, Int.reduceAdd, Int.reduceSub, Int.reduceNeg, Int.reduceMul, Int.reduceToNat, Nat.reduceSub, Nat.reduceMul, Nat.reduceLeDiff, Nat.reduceAdd, Nat.reduceLT, Nat.reduceEqDiff, reduceCtorEq, ↓reduceIte]) (fun f H => ∃ (i st : Nat), i ≤ p.length ∧ i ≤ 9 ∧ f 4 = .iv (.int .i64 i) ∧ f 0 = .iv (.sl (raws p)) ∧ f 3 = .hs 3 st ∧ H 3 = .blk false st 40 2 (raws ((p.take i).map fi))) (fun f H => (p.length - intAt f 4).toNat) ?_ ?_
  · refine ⟨0, 1, by omega, by omega, ?_⟩
    simp (disch := omega) only [wk, tis, Int.reduceNe, Int.reduceEq, Int.reduceLT, Int.reduceLE, Int.reduceAdd, Int.reduceSub, Int.reduceNeg, Int.reduceMul, Int.reduceToNat, Nat.reduceSub, Nat.reduceMul, Nat.reduceLeDiff, Nat.reduceAdd, Nat.reduceLT, Nat.reduceEqDiff, reduceCtorEq, ↓reduceIte, ghostF, ghostH, List.take_zero]
  rintro f H ⟨i, st, hi, hi9, hF⟩
  rw [intAt_of hF.1]
  simp (disch := omega) only [wk, tis, Int.reduceNe, Int.reduceEq, Int.reduceLT, Int.reduceLE, Int.reduceAdd, Int.reduceSub, Int.reduceNeg, Int.reduceMul, Int.reduceToNat, Nat.reduceSub, Nat.reduceMul, Nat.reduceLeDiff, Nat.reduceAdd, Nat.reduceLT, Nat.reduceEqDiff, reduceCtorEq, ↓reduceIte, hF]
  by_cases hlt : i < p.length
  · have h1 : (i : Int) < p.length := by omega
    by_cases h9 : (i : Int) < 9
    · have hq : ((p.take i).map fi).length = i := by rw [List.length_map, List.length_take]; omega
      simp (disch := omega) only [wk, tis, Int.reduceNe, Int.reduceEq, Int.reduceLT, Int.reduceLE, Int.reduceAdd, Int.reduceSub, Int.reduceNeg, Int.reduceMul, Int.reduceToNat, Nat.reduceSub, Nat.reduceMul, Nat.reduceLeDiff, Nat.reduceAdd, Nat.reduceLT, Nat.reduceEqDiff, reduceCtorEq, ↓reduceIte, hF, h1, h9, hq]
      have hg : p.getD i (false, []) = p[i] := by simp [List.getD, hlt]
      refine call_by ((fewInt_ok (p.getD i (false, [])) (by rw [hg]; exact h _ (List.getElem_mem hlt)))) (by first | rfl | (simp only [tocvs, tocv, hF, h1, h9, hq]; rfl) | (simp only [tocvs, tocv, toboxes, tobox, updH_at, Nat.reduceEqDiff, ↓reduceIte, hF, h1, h9, hq]; rfl)) (by simp) ?_
      simp (disch := omega) only [wk, tis, Int.reduceNe, Int.reduceEq, Int.reduceLT, Int.reduceLE, Int.reduceAdd, Int.reduceSub, Int.reduceNeg, Int.reduceMul, Int.reduceToNat, Nat.reduceSub, Nat.reduceMul, Nat.reduceLeDiff, Nat.reduceAdd, Nat.reduceLT, Nat.reduceEqDiff, reduceCtorEq, ↓reduceIte, hF, h1, h9, hq]
      refine ⟨⟨i + 1, st + 1, by omega, by omega, by omega, rfl, ?_⟩, by omega⟩
      rw [List.take_add_one, List.getElem?_eq_getElem hlt, List.map_append, hg]
      rfl
    · have e9 : i = 9 := by omega
      subst e9
      simp (disch := omega) only [wk, tis, Int.reduceNe, Int.reduceEq, Int.reduceLT, Int.reduceLE, Int.reduceAdd, Int.reduceSub, Int.reduceNeg, Int.reduceMul, Int.reduceToNat, Nat.reduceSub, Nat.reduceMul, Nat.reduceLeDiff, Nat.reduceAdd, Nat.reduceLT, Nat.reduceEqDiff, reduceCtorEq, ↓reduceIte, hF, h1, h9]
      rfl
  · have h1 : ¬ (i : Int) < p.length := by omega
    simp (disch := omega) only [wk, tis, Int.reduceNe, Int.reduceEq, Int.reduceLT, Int.reduceLE, Int.reduceAdd, Int.reduceSub, Int.reduceNeg, Int.reduceMul, Int.reduceToNat, Nat.reduceSub, Nat.reduceMul, Nat.reduceLeDiff, Nat.reduceAdd, Nat.reduceLT, Nat.reduceEqDiff, reduceCtorEq, ↓reduceIte, hF, h1]
    rw [fp, List.take_of_length_le (by omega), List.take_of_length_le (by omega)]

theorem near_ok (k : Int) (h1 : -9223372036854775808 ≤ k) (h2 : k ≤ 9223372036854775807) : AC Try.prog 120 [ci k] none [ci (nearZ k)] := by
  refine AC.by_walk (rs := [.tmp 2]) ords Try.func120 (by rfl) (by rfl) (by rfl) (by rfl) (by rfl) ?_
  unfold nearZ
  by_cases h : 200 < k
  · by_cases h' : k ≤ 65536
    · rw [if_pos ⟨h, h'⟩]
      simp (disch := omega) only [wk, tis, Int.reduceNe, Int.reduceEq, Int.reduceLT, Int.reduceLE, Int.reduceAdd, Int.reduceSub, Int.reduceNeg, Int.reduceMul, Int.reduceToNat, Nat.reduceSub, Nat.reduceMul, Nat.reduceLeDiff, Nat.reduceAdd, Nat.reduceLT, Nat.reduceEqDiff, reduceCtorEq, ↓reduceIte, h, h']
    · rw [if_neg (fun e => h' e.2)]
      simp (disch := omega) only [wk, tis, Int.reduceNe, Int.reduceEq, Int.reduceLT, Int.reduceLE, Int.reduceAdd, Int.reduceSub, Int.reduceNeg, Int.reduceMul, Int.reduceToNat, Nat.reduceSub, Nat.reduceMul, Nat.reduceLeDiff, Nat.reduceAdd, Nat.reduceLT, Nat.reduceEqDiff, reduceCtorEq, ↓reduceIte, h, h']
  · rw [if_neg (fun e => h e.1)]
    simp (disch := omega) only [wk, tis, Int.reduceNe, Int.reduceEq, Int.reduceLT, Int.reduceLE, Int.reduceAdd, Int.reduceSub, Int.reduceNeg, Int.reduceMul, Int.reduceToNat, Nat.reduceSub, Nat.reduceMul, Nat.reduceLeDiff, Nat.reduceAdd, Nat.reduceLT, Nat.reduceEqDiff, reduceCtorEq, ↓reduceIte, h]

theorem rats_len (l : List RQ) : (rats l).length = l.length := by simp [rats]
theorem rats_at {l : List RQ} {i : Nat} (h : i < l.length) : (rats l).getD i [] = qrow l[i] := by simp [rats, List.getD, h]

theorem fewQ_ok (p : List RQ) (hl : p.length ≤ 9223372036854775807) (h : ∀ c ∈ p, c.1.2.length ≤ 9223372036854775807 ∧ c.2.length ≤ 9223372036854775807) : AC Try.prog 117 [.iv (.sl (rats p))] none [.iv (.sl (rats (fq p)))] := by
  refine AC.by_walk (rs := [.tmp 2]) ords Try.func117 (by rfl) (by rfl) (by rfl) (by rfl) (by rfl) ?_
  have hrl := rats_len p
  simp (disch := omega) only [wk, tis, Int.reduceNe, Int.reduceEq, Int.reduceLT, Int.reduceLE, Int.reduceAdd, Int.reduceSub, Int.reduceNeg, Int.reduceMul, Int.reduceToNat, Nat.reduceSub, Nat.reduceMul, Nat.reduceLeDiff, Nat.reduceAdd, Nat.reduceLT, Nat.reduceEqDiff, reduceCtorEq, ↓reduceIte]
  refine aloop_nil 3 3 66 3 (by simp (disch := omega) only [wk, tis, Int.reduceNe, Int.reduceEq, Int.reduceLT, Int.reduceLE, Int.reduceAdd, Int.reduceSub, Int.reduceNeg, Int.reduceMul, Int.reduceToNat, Nat.reduceSub, Nat.reduceMul, Nat.reduceLeDiff, Nat.reduceAdd, Nat.reduceLT, Nat.reduceEqDiff, reduceCtorEq, ↓reduceIte]) (fun f H => ∃ (i st : Nat), i ≤ p.length ∧ i ≤ 7 ∧ f 4 = .iv (.int .i64 i) ∧ f 0 = .iv (.sl (rats p)) ∧ f 3 = .hs 3 st ∧ H 3 = .blk false st 66 3 (rats ((p.take i).map fr))) (fun f H => (p.length - intAt f 4).toNat) ?_ ?_
  · refine ⟨0, 1, by omega, by omega, ?_⟩
    simp (disch := omega) only [wk, tis, Int.reduceNe, Int.reduceEq, Int.reduceLT, Int.reduceLE, Int.reduceAdd, Int.reduceSub, Int.reduceNeg, Int.reduceMul, Int.reduceToNat, Nat.reduceSub, Nat.reduceMul, Nat.reduceLeDiff, Nat.reduceAdd, Nat.reduceLT, Nat.reduceEqDiff, reduceCtorEq, ↓reduceIte, ghostF, ghostH, List.take_zero, hrl, show rats [] = [] from rfl]
  rintro f H ⟨i, st, hi, hi9, hF⟩
  rw [intAt_of hF.1]
  simp (disch := omega) only [wk, tis, Int.reduceNe, Int.reduceEq, Int.reduceLT, Int.reduceLE, Int.reduceAdd, Int.reduceSub, Int.reduceNeg, Int.reduceMul, Int.reduceToNat, Nat.reduceSub, Nat.reduceMul, Nat.reduceLeDiff, Nat.reduceAdd, Nat.reduceLT, Nat.reduceEqDiff, reduceCtorEq, ↓reduceIte, hF]
  simp (disch := omega) only [wk, tis, Int.reduceNe, Int.reduceEq, Int.reduceLT, Int.reduceLE, Int.reduceAdd, Int.reduceSub, Int.reduceNeg, Int.reduceMul, Int.reduceToNat, Nat.reduceSub, Nat.reduceMul, Nat.reduceLeDiff, Nat.reduceAdd, Nat.reduceLT, Nat.reduceEqDiff, reduceCtorEq, ↓reduceIte, hrl]
  by_cases hlt : i < p.length
  · have h1 : (i : Int) < p.length := by omega
    by_cases h9 : (i : Int) < 7
    · have hq : (rats ((p.take i).map fr)).length = i := by rw [rats_len, List.length_map, List.length_take]; omega
      have hg := rats_at hlt
      simp (disch := omega) only [wk, tis, Int.reduceNe, Int.reduceEq, Int.reduceLT, Int.reduceLE, Int.reduceAdd, Int.reduceSub, Int.reduceNeg, Int.reduceMul, Int.reduceToNat, Nat.reduceSub, Nat.reduceMul, Nat.reduceLeDiff, Nat.reduceAdd, Nat.reduceLT, Nat.reduceEqDiff, reduceCtorEq, ↓reduceIte, hF, h1, h9, hq, hrl, hg]
      have hm := h _ (List.getElem_mem hlt)
      refine call_by ((fewRat_ok p[i] hm.1 hm.2)) (by first | rfl | (simp only [tocvs, tocv, hF, h1, h9, hq, hrl, hg]; rfl) | (simp only [tocvs, tocv, toboxes, tobox, updH_at, Nat.reduceEqDiff, ↓reduceIte, hF, h1, h9, hq, hrl, hg]; rfl)) (by simp) ?_
      simp (disch := omega) only [wk, tis, Int.reduceNe, Int.reduceEq, Int.reduceLT, Int.reduceLE, Int.reduceAdd, Int.reduceSub, Int.reduceNeg, Int.reduceMul, Int.reduceToNat, Nat.reduceSub, Nat.reduceMul, Nat.reduceLeDiff, Nat.reduceAdd, Nat.reduceLT, Nat.reduceEqDiff, reduceCtorEq, ↓reduceIte, hF, h1, h9, hq, hrl, hg]
      refine ⟨⟨i + 1, st + 1, by omega, by omega, by omega, rfl, ?_⟩, by omega⟩
      rw [List.take_add_one, List.getElem?_eq_getElem hlt, List.map_append, rats, rats, List.map_append]
      rfl
    · have e9 : i = 7 := by omega
      subst e9
      simp (disch := omega) only [wk, tis, Int.reduceNe, Int.reduceEq, Int.reduceLT, Int.reduceLE, Int.reduceAdd, Int.reduceSub, Int.reduceNeg, Int.reduceMul, Int.reduceToNat, Nat.reduceSub, Nat.reduceMul, Nat.reduceLeDiff, Nat.reduceAdd, Nat.reduceLT, Nat.reduceEqDiff, reduceCtorEq, ↓reduceIte, hF, h1, h9, hrl]
      rfl
  · have h1 : ¬ (i : Int) < p.length := by omega
    simp (disch := omega) only [wk, tis, Int.reduceNe, Int.reduceEq, Int.reduceLT, Int.reduceLE, Int.reduceAdd, Int.reduceSub, Int.reduceNeg, Int.reduceMul, Int.reduceToNat, Nat.reduceSub, Nat.reduceMul, Nat.reduceLeDiff, Nat.reduceAdd, Nat.reduceLT, Nat.reduceEqDiff, reduceCtorEq, ↓reduceIte, hF, h1, hrl]
    rw [fq, List.take_of_length_le (by omega), List.take_of_length_le (by omega)]

/-- A case. -/
structure C11 where
  (P R : List RI) (A B C D : RI) (K M : Int) (At : RI) (E : Int) (Pt : Bool) (F G : List RQ) (X : RQ)
abbrev case11 (x : C11) : List IV := [.sl (raws x.P), .sl (raws x.R), .bool x.A.1, .sl (lims x.A.2), .bool x.B.1, .sl (lims x.B.2), .bool x.C.1, .sl (lims x.C.2), .bool x.D.1, .sl (lims x.D.2), .int .i64 x.K, .int .i64 x.M,
  .bool x.At.1, .sl (lims x.At.2), .int .i64 x.E, .bool x.Pt, .sl (rats x.F), .sl (rats x.G), .bool x.X.1.1, .sl (lims x.X.1.2), .sl (lims x.X.2)]
def lessC (x : C11) : C11 := ⟨fp x.P, fp x.R, fi x.A, fi x.B, fi x.C, fi x.D, nearZ x.K, nearZ x.M, fi x.At, nearZ x.E, x.Pt, fq x.F, fq x.G, fr x.X⟩

theorem lay_cell (c : RI) (x y : IV) : lay (fun i => [(0, 2), (2, 1), (3, 1)][i]?) [.bool false, .sl [], .int .i64 0, .bool false] ([0, 1, 2].zip [prow c, [x], [y]]) = some ((2 = 2 ∧ 0 + 2 ≤ 4) ∧ (1 = 1 ∧ 2 + 1 ≤ 4) ∧ (1 = 1 ∧ 3 + 1 ≤ 4) ∧ True, [.bool c.1, .sl (lims c.2), x, y]) := rfl

theorem less_ok (x : C11) (L : ∀ p ∈ [x.P, x.R], p.length ≤ 9223372036854775807 ∧ ∀ c ∈ p, c.2.length ≤ 9223372036854775807) (I : ∀ c ∈ [x.A, x.B, x.C, x.D, x.At, x.X.1], c.2.length ≤ 9223372036854775807) (Q : ∀ p ∈ [x.F, x.G, [x.X]], p.length ≤ 9223372036854775807 ∧ ∀ c ∈ p, c.1.2.length ≤ 9223372036854775807 ∧ c.2.length ≤ 9223372036854775807)
    (N : ∀ k ∈ [x.K, x.M, x.E], -9223372036854775808 ≤ k ∧ k ≤ 9223372036854775807) : AC Try.prog 55 [.agg (case11 x)] none [.agg (case11 (lessC x))] := by
  have hP := few11_ok x.P (L _ (by simp)).1 (L _ (by simp)).2
  have hR := few11_ok x.R (L _ (by simp)).1 (L _ (by simp)).2
  have hFq := fewQ_ok x.F (Q _ (by simp)).1 (Q _ (by simp)).2
  have hG := fewQ_ok x.G (Q _ (by simp)).1 (Q _ (by simp)).2
  have hX := fewRat_ok x.X ((Q [x.X] (by simp)).2 _ (by simp)).1 ((Q [x.X] (by simp)).2 _ (by simp)).2
  have hA := fewInt_ok x.A (I _ (by simp))
  have hB := fewInt_ok x.B (I _ (by simp))
  have hC := fewInt_ok x.C (I _ (by simp))
  have hD := fewInt_ok x.D (I _ (by simp))
  have hAt := fewInt_ok x.At (I _ (by simp))
  have hK := near_ok x.K (N _ (by simp)).1 (N _ (by simp)).2
  have hM := near_ok x.M (N _ (by simp)).1 (N _ (by simp)).2
  have hE := near_ok x.E (N _ (by simp)).1 (N _ (by simp)).2
  have hlc := lay_cell
  refine AC.by_walk (rs := [.cell 2 68]) ords Try.func55 (by rfl) (by rfl) (by rfl) (by rfl) (by rfl) ?_
  simp (disch := omega) only [wk, tis, Int.reduceNe, Int.reduceEq, Int.reduceLT, Int.reduceLE, Int.reduceAdd, Int.reduceSub, Int.reduceNeg, Int.reduceMul, Int.reduceToNat, Nat.reduceSub, Nat.reduceMul, Nat.reduceLeDiff, Nat.reduceAdd, Nat.reduceLT, Nat.reduceEqDiff, reduceCtorEq, ↓reduceIte]
  refine ⟨tmps_by (by kernel_rfl), ?_⟩
  refine call_by (hP) (by rfl) (by simp) ?_
  simp (disch := omega) only [wk, tis, Int.reduceNe, Int.reduceEq, Int.reduceLT, Int.reduceLE, Int.reduceAdd, Int.reduceSub, Int.reduceNeg, Int.reduceMul, Int.reduceToNat, Nat.reduceSub, Nat.reduceMul, Nat.reduceLeDiff, Nat.reduceAdd, Nat.reduceLT, Nat.reduceEqDiff, reduceCtorEq, ↓reduceIte]
  refine call_by (hR) (by rfl) (by simp) ?_
  simp (disch := omega) only [wk, tis, Int.reduceNe, Int.reduceEq, Int.reduceLT, Int.reduceLE, Int.reduceAdd, Int.reduceSub, Int.reduceNeg, Int.reduceMul, Int.reduceToNat, Nat.reduceSub, Nat.reduceMul, Nat.reduceLeDiff, Nat.reduceAdd, Nat.reduceLT, Nat.reduceEqDiff, reduceCtorEq, ↓reduceIte]
  refine call_by (hFq) (by rfl) (by simp) ?_
  simp (disch := omega) only [wk, tis, Int.reduceNe, Int.reduceEq, Int.reduceLT, Int.reduceLE, Int.reduceAdd, Int.reduceSub, Int.reduceNeg, Int.reduceMul, Int.reduceToNat, Nat.reduceSub, Nat.reduceMul, Nat.reduceLeDiff, Nat.reduceAdd, Nat.reduceLT, Nat.reduceEqDiff, reduceCtorEq, ↓reduceIte]
  refine call_by (hG) (by rfl) (by simp) ?_
  simp (disch := omega) only [wk, tis, Int.reduceNe, Int.reduceEq, Int.reduceLT, Int.reduceLE, Int.reduceAdd, Int.reduceSub, Int.reduceNeg, Int.reduceMul, Int.reduceToNat, Nat.reduceSub, Nat.reduceMul, Nat.reduceLeDiff, Nat.reduceAdd, Nat.reduceLT, Nat.reduceEqDiff, reduceCtorEq, ↓reduceIte]
  refine call_by (hX) (by rfl) (by simp) ?_
  simp (disch := omega) only [wk, tis, Int.reduceNe, Int.reduceEq, Int.reduceLT, Int.reduceLE, Int.reduceAdd, Int.reduceSub, Int.reduceNeg, Int.reduceMul, Int.reduceToNat, Nat.reduceSub, Nat.reduceMul, Nat.reduceLeDiff, Nat.reduceAdd, Nat.reduceLT, Nat.reduceEqDiff, reduceCtorEq, ↓reduceIte]
  first | exact log_by (by kernel_rfl) | refine ⟨log_by (by kernel_rfl), ?_⟩
  refine ⟨tmps_by (by kernel_rfl), ?_⟩
  refine frame_call (fun f H => f 1 = .hp 1 1 0 0 ∧ f 2 = .hp 2 1 0 0 ∧ H 1 = .blk false 1 68 21 [case11 { x with P := fp x.P, R := fp x.R, F := fq x.F, G := fq x.G, X := fr x.X }] ∧ H 2 = .blk false 1 68 21 [case11 ⟨[], [], (false, []), (false, []), (false, []), (false, []), 0, 0, (false, []), 0, false, [], [], ((false, []), [])⟩] ∧ f 24 = .agg (prow x.A)) ?_ (fun f H hF => ?_)
  · simp (disch := omega) only [wk, tis, Int.reduceNe, Int.reduceEq, Int.reduceLT, Int.reduceLE, Int.reduceAdd, Int.reduceSub, Int.reduceNeg, Int.reduceMul, Int.reduceToNat, Nat.reduceSub, Nat.reduceMul, Nat.reduceLeDiff, Nat.reduceAdd, Nat.reduceLT, Nat.reduceEqDiff, reduceCtorEq, ↓reduceIte]
    exact ⟨rfl, rfl, rfl⟩
  refine call_by (hA) (by first | rfl | (simp only [tocvs, tocv, hF]; rfl) | (simp only [tocvs, tocv, toboxes, tobox, updH_at, Nat.reduceEqDiff, ↓reduceIte, hF]; rfl)) (by simp) ?_
  simp (disch := omega) only [wk, tis, Int.reduceNe, Int.reduceEq, Int.reduceLT, Int.reduceLE, Int.reduceAdd, Int.reduceSub, Int.reduceNeg, Int.reduceMul, Int.reduceToNat, Nat.reduceSub, Nat.reduceMul, Nat.reduceLeDiff, Nat.reduceAdd, Nat.reduceLT, Nat.reduceEqDiff, reduceCtorEq, ↓reduceIte, hF]
  refine call_by (hB) (by first | rfl | (simp only [tocvs, tocv, hF]; rfl) | (simp only [tocvs, tocv, toboxes, tobox, updH_at, Nat.reduceEqDiff, ↓reduceIte, hF]; rfl)) (by simp) ?_
  simp (disch := omega) only [wk, tis, Int.reduceNe, Int.reduceEq, Int.reduceLT, Int.reduceLE, Int.reduceAdd, Int.reduceSub, Int.reduceNeg, Int.reduceMul, Int.reduceToNat, Nat.reduceSub, Nat.reduceMul, Nat.reduceLeDiff, Nat.reduceAdd, Nat.reduceLT, Nat.reduceEqDiff, reduceCtorEq, ↓reduceIte, hF]
  refine call_by (hC) (by first | rfl | (simp only [tocvs, tocv, hF]; rfl) | (simp only [tocvs, tocv, toboxes, tobox, updH_at, Nat.reduceEqDiff, ↓reduceIte, hF]; rfl)) (by simp) ?_
  simp (disch := omega) only [wk, tis, Int.reduceNe, Int.reduceEq, Int.reduceLT, Int.reduceLE, Int.reduceAdd, Int.reduceSub, Int.reduceNeg, Int.reduceMul, Int.reduceToNat, Nat.reduceSub, Nat.reduceMul, Nat.reduceLeDiff, Nat.reduceAdd, Nat.reduceLT, Nat.reduceEqDiff, reduceCtorEq, ↓reduceIte, hF]
  refine call_by (hD) (by first | rfl | (simp only [tocvs, tocv, hF]; rfl) | (simp only [tocvs, tocv, toboxes, tobox, updH_at, Nat.reduceEqDiff, ↓reduceIte, hF]; rfl)) (by simp) ?_
  simp (disch := omega) only [wk, tis, Int.reduceNe, Int.reduceEq, Int.reduceLT, Int.reduceLE, Int.reduceAdd, Int.reduceSub, Int.reduceNeg, Int.reduceMul, Int.reduceToNat, Nat.reduceSub, Nat.reduceMul, Nat.reduceLeDiff, Nat.reduceAdd, Nat.reduceLT, Nat.reduceEqDiff, reduceCtorEq, ↓reduceIte, hF]
  first | exact log_by (by kernel_rfl) | refine ⟨log_by (by kernel_rfl), ?_⟩
  refine ⟨tmps_by (by kernel_rfl), ?_⟩
  refine frame_call (fun f H => f 1 = .hp 1 1 0 0 ∧ f 2 = .hp 2 1 0 0 ∧ H 1 = .blk false 1 68 21 [case11 { x with P := fp x.P, R := fp x.R, F := fq x.F, G := fq x.G, X := fr x.X, A := fi x.A, B := fi x.B, C := fi x.C, D := fi x.D }] ∧ H 2 = .blk false 1 68 21 [case11 ⟨[], [], (false, []), (false, []), (false, []), (false, []), 0, 0, (false, []), 0, false, [], [], ((false, []), [])⟩]) ?_ (fun f H hF => ?_)
  · simp (disch := omega) only [wk, tis, Int.reduceNe, Int.reduceEq, Int.reduceLT, Int.reduceLE, Int.reduceAdd, Int.reduceSub, Int.reduceNeg, Int.reduceMul, Int.reduceToNat, Nat.reduceSub, Nat.reduceMul, Nat.reduceLeDiff, Nat.reduceAdd, Nat.reduceLT, Nat.reduceEqDiff, reduceCtorEq, ↓reduceIte, hF]
    exact rfl
  refine call_by (hK) (by first | rfl | (simp only [tocvs, tocv, hF]; rfl) | (simp only [tocvs, tocv, toboxes, tobox, updH_at, Nat.reduceEqDiff, ↓reduceIte, hF]; rfl)) (by simp) ?_
  simp (disch := omega) only [wk, tis, Int.reduceNe, Int.reduceEq, Int.reduceLT, Int.reduceLE, Int.reduceAdd, Int.reduceSub, Int.reduceNeg, Int.reduceMul, Int.reduceToNat, Nat.reduceSub, Nat.reduceMul, Nat.reduceLeDiff, Nat.reduceAdd, Nat.reduceLT, Nat.reduceEqDiff, reduceCtorEq, ↓reduceIte, hF]
  refine call_by (hM) (by first | rfl | (simp only [tocvs, tocv, hF]; rfl) | (simp only [tocvs, tocv, toboxes, tobox, updH_at, Nat.reduceEqDiff, ↓reduceIte, hF]; rfl)) (by simp) ?_
  simp (disch := omega) only [wk, tis, Int.reduceNe, Int.reduceEq, Int.reduceLT, Int.reduceLE, Int.reduceAdd, Int.reduceSub, Int.reduceNeg, Int.reduceMul, Int.reduceToNat, Nat.reduceSub, Nat.reduceMul, Nat.reduceLeDiff, Nat.reduceAdd, Nat.reduceLT, Nat.reduceEqDiff, reduceCtorEq, ↓reduceIte, hF]
  first | exact log_by (by kernel_rfl) | refine ⟨log_by (by kernel_rfl), ?_⟩
  refine ⟨tmps_by (by kernel_rfl), ?_⟩
  refine frame_call (fun f H => f 1 = .hp 1 1 0 0 ∧ f 2 = .hp 2 1 0 0 ∧ H 1 = .blk false 1 68 21 [case11 { x with P := fp x.P, R := fp x.R, F := fq x.F, G := fq x.G, X := fr x.X, A := fi x.A, B := fi x.B, C := fi x.C, D := fi x.D, K := nearZ x.K, M := nearZ x.M }] ∧ H 2 = .blk false 1 68 21 [case11 ⟨[], [], (false, []), (false, []), (false, []), (false, []), 0, 0, (false, []), 0, false, [], [], ((false, []), [])⟩] ∧ f 49 = .agg (prow x.At)) ?_ (fun f H hF => ?_)
  · simp (disch := omega) only [wk, tis, Int.reduceNe, Int.reduceEq, Int.reduceLT, Int.reduceLE, Int.reduceAdd, Int.reduceSub, Int.reduceNeg, Int.reduceMul, Int.reduceToNat, Nat.reduceSub, Nat.reduceMul, Nat.reduceLeDiff, Nat.reduceAdd, Nat.reduceLT, Nat.reduceEqDiff, reduceCtorEq, ↓reduceIte, hF]
    exact ⟨rfl, rfl⟩
  refine call_by (hAt) (by first | rfl | (simp only [tocvs, tocv, hF]; rfl) | (simp only [tocvs, tocv, toboxes, tobox, updH_at, Nat.reduceEqDiff, ↓reduceIte, hF]; rfl)) (by simp) ?_
  simp (disch := omega) only [wk, tis, Int.reduceNe, Int.reduceEq, Int.reduceLT, Int.reduceLE, Int.reduceAdd, Int.reduceSub, Int.reduceNeg, Int.reduceMul, Int.reduceToNat, Nat.reduceSub, Nat.reduceMul, Nat.reduceLeDiff, Nat.reduceAdd, Nat.reduceLT, Nat.reduceEqDiff, reduceCtorEq, ↓reduceIte, hF]
  refine call_by (hE) (by first | rfl | (simp only [tocvs, tocv, hF, hlc]; rfl) | (simp only [tocvs, tocv, toboxes, tobox, updH_at, Nat.reduceEqDiff, ↓reduceIte, hF, hlc]; rfl)) (by simp) ?_
  simp (disch := omega) only [wk, tis, Int.reduceNe, Int.reduceEq, Int.reduceLT, Int.reduceLE, Int.reduceAdd, Int.reduceSub, Int.reduceNeg, Int.reduceMul, Int.reduceToNat, Nat.reduceSub, Nat.reduceMul, Nat.reduceLeDiff, Nat.reduceAdd, Nat.reduceLT, Nat.reduceEqDiff, reduceCtorEq, ↓reduceIte, hF, hlc]
  first | exact log_by (by kernel_rfl) | refine ⟨log_by (by kernel_rfl), ?_⟩
  simp (disch := omega) only [wk, tis, Int.reduceNe, Int.reduceEq, Int.reduceLT, Int.reduceLE, Int.reduceAdd, Int.reduceSub, Int.reduceNeg, Int.reduceMul, Int.reduceToNat, Nat.reduceSub, Nat.reduceMul, Nat.reduceLeDiff, Nat.reduceAdd, Nat.reduceLT, Nat.reduceEqDiff, reduceCtorEq, ↓reduceIte, hF, case11, splice, List.take_succ_cons, List.drop_succ_cons, List.take_zero, List.drop_zero, List.take_nil, List.drop_nil]
  rfl
end Go.Proofs.Ythgecppfgdadiaa

namespace Go.Proofs.Ythgecppfgdadiaa
open Go Go.Proofs Go.AL
set_option linter.unusedSimpArgs false
set_option linter.unusedVariables false

theorem lc_ok (p : List RI) (h : RP (2 ^ 40) (2 ^ 40) p) : AC Try.prog 57 [cw p] none [cw p] := by
  refine AC.by_walk (rs := [.tmp 2]) ords Try.func57 (by rfl) (by rfl) (by rfl) (by rfl) (by rfl) ?_
  simp (disch := omega) only [wk, tis, Int.reduceNe, Int.reduceEq, Int.reduceLT, Int.reduceLE, Int.reduceAdd, Int.reduceSub, Int.reduceNeg, Int.reduceMul, Int.reduceToNat, Nat.reduceSub, Nat.reduceMul, Nat.reduceLeDiff, Nat.reduceAdd, Nat.reduceLT, Nat.reduceEqDiff, reduceCtorEq, ↓reduceIte]
  refine call_by ((tcopy_ok p h)) (by rfl) (by simp) ?_
  simp (disch := omega) only [wk, tis, Int.reduceNe, Int.reduceEq, Int.reduceLT, Int.reduceLE, Int.reduceAdd, Int.reduceSub, Int.reduceNeg, Int.reduceMul, Int.reduceToNat, Nat.reduceSub, Nat.reduceMul, Nat.reduceLeDiff, Nat.reduceAdd, Nat.reduceLT, Nat.reduceEqDiff, reduceCtorEq, ↓reduceIte]

theorem ln_ok (c : RI) (h : c.2.length ≤ 2 ^ 40) : AC Try.prog 58 [cr c] none [cr c] := by
  refine AC.by_walk (rs := [.cell 2 40]) ords Try.func58 (by rfl) (by rfl) (by rfl) (by rfl) (by rfl) ?_
  simp (disch := omega) only [wk, tis, Int.reduceNe, Int.reduceEq, Int.reduceLT, Int.reduceLE, Int.reduceAdd, Int.reduceSub, Int.reduceNeg, Int.reduceMul, Int.reduceToNat, Nat.reduceSub, Nat.reduceMul, Nat.reduceLeDiff, Nat.reduceAdd, Nat.reduceLT, Nat.reduceEqDiff, reduceCtorEq, ↓reduceIte]
  refine call_by ((rcopy_ok c h)) (by rfl) (by simp) ?_
  simp (disch := omega) only [wk, tis, Int.reduceNe, Int.reduceEq, Int.reduceLT, Int.reduceLE, Int.reduceAdd, Int.reduceSub, Int.reduceNeg, Int.reduceMul, Int.reduceToNat, Nat.reduceSub, Nat.reduceMul, Nat.reduceLeDiff, Nat.reduceAdd, Nat.reduceLT, Nat.reduceEqDiff, reduceCtorEq, ↓reduceIte]

theorem tsame_g {q r : List Int} (ha : PB (2 ^ 40) (2 ^ 43) q) (hb : PB (2 ^ 40) (2 ^ 43) r) (e : ps q = ps r) : AC Try.prog 72 [cp q, cp r] none [cb true] := by
  have := tSame_ok (cn q) (cn r) (rp_cn ha) (rp_cn hb)
  rw [decide_eq_true (cn_ext (ps_eq e))] at this; exact this

theorem smc {l : List Int} (hl : l.length ≤ 2 ^ 8) (h : ∀ z ∈ l, z.natAbs < W) : RP (2 ^ 8) (2 ^ 10) (cn l) := rp_cn ((small_pb l (2 ^ 8) hl h).mono (Nat.le_refl _) (by omega))
theorem sms {l : List Int} (hl : l.length ≤ 2 ^ 8) (h : ∀ z ∈ l, z.natAbs < W) : PB (2 ^ 40) (2 ^ 43) l := (small_pb l (2 ^ 8) hl h).mono (by omega) (by omega)
theorem hom_of {p f g out : List Int} (h : trimz (lhom p f g) = trimz out) : ps out = hom p (ps f) (ps g) := by
  rw [← ps_lhom]
  exact ps_ext fun k => (trimz_eq_iff.1 h k).symm
theorem cmp_of {p f out : List Int} (h : trimz (lhom p f [1]) = trimz out) : ps out = cmp p (ps f) := by
  have := hom_of h
  rwa [ps_one] at this
theorem cp_of {p q : List Int} (h : trimz p = trimz q) : cp p = cp q := cp_ext (trimz_eq_iff.1 h)

theorem lay_cell2 (c : RI) (x : IV) : lay (fun i => [(0, 2), (2, 1), (3, 1)][i]?) [.bool false, .sl [], .int .i64 0, .bool false] ([0, 1].zip [prow c, [x]]) = some ((2 = 2 ∧ 0 + 2 ≤ 4) ∧ (1 = 1 ∧ 2 + 1 ≤ 4) ∧ True, [.bool c.1, .sl (lims c.2), x, .bool false]) := rfl

theorem fixed_ok : AC Try.prog 54 [] none [cb true] := by
  have p1 := tP_ok [-2, 0, 1] (by decide) (by decide)
  have p2 := tP_ok [-1, 2, 1] (by decide) (by decide)
  have p3 := tP_ok [-8, 0, 1] (by decide) (by decide)
  have p4 := tP_ok [-7, 2, 1] (by decide) (by decide)
  have p5 := tP_ok [2, 0, -1] (by decide) (by decide)
  have p6 := tP_ok [1, -6, 1] (by decide) (by decide)
  have h1 := mhalves_g (p := cn [-2, 0, 1]) (out := [-7, 2, 1]) ((smc (by decide) (by decide)).mono (by omega) (by omega)) (by rw [trimz_cn]; exact cmp_of (by decide))
  rw [trimz_cn, show wt 2 (trimz [-2, 0, 1]) = [-8, 0, 1] by decide] at h1
  have h2 := mline2_ok (cn [-1, 2, 1]) ((smc (by decide) (by decide)).mono (by omega) (by omega))
  rw [trimz_cn, cp_of (show trimz (lhom (trimz [-1, 2, 1]) [1, 0] [1, 1]) = trimz [2, 0, -1] by decide)] at h2
  have h3 := minto_g (p := cn [-2, 0, 1]) (a := canon (-3)) (e := 1) (b := false) (out := [1, -6, 1]) (smc (by decide) (by decide)) ((sz_canon _).mono (by have : zl (-3) ≤ 1 := zl_le.mpr (by decide); omega)) (by omega) (by rw [trimz_cn, iv_canon]; exact cmp_of (by decide))
  have s1 := tsame_g (q := [-8, 0, 1]) (r := [-8, 0, 1]) (sms (by decide) (by decide)) (sms (by decide) (by decide)) rfl
  have s2 := tsame_g (q := [-7, 2, 1]) (r := [-7, 2, 1]) (sms (by decide) (by decide)) (sms (by decide) (by decide)) rfl
  have s3 := tsame_g (q := [2, 0, -1]) (r := [2, 0, -1]) (sms (by decide) (by decide)) (sms (by decide) (by decide)) rfl
  have s4 := tsame_g (q := [1, -6, 1]) (r := [1, -6, 1]) (sms (by decide) (by decide)) (sms (by decide) (by decide)) rfl
  have z3 := rZ_ok (-3) (by omega) (by omega)
  have hlc := lay_cell2
  refine AC.by_walk (rs := [.tmp 0]) ords Try.func54 (by rfl) (by rfl) (by rfl) (by rfl) (by rfl) ?_
  simp (disch := omega) only [wk, tis, Int.reduceNe, Int.reduceEq, Int.reduceLT, Int.reduceLE, Int.reduceAdd, Int.reduceSub, Int.reduceNeg, Int.reduceMul, Int.reduceToNat, Nat.reduceSub, Nat.reduceMul, Nat.reduceLeDiff, Nat.reduceAdd, Nat.reduceLT, Nat.reduceEqDiff, reduceCtorEq, ↓reduceIte]
  refine call_by (p1) (by rfl) (by simp) ?_
  simp (disch := omega) only [wk, tis, Int.reduceNe, Int.reduceEq, Int.reduceLT, Int.reduceLE, Int.reduceAdd, Int.reduceSub, Int.reduceNeg, Int.reduceMul, Int.reduceToNat, Nat.reduceSub, Nat.reduceMul, Nat.reduceLeDiff, Nat.reduceAdd, Nat.reduceLT, Nat.reduceEqDiff, reduceCtorEq, ↓reduceIte]
  refine call_by (h1) (by rfl) (by simp) ?_
  simp (disch := omega) only [wk, tis, Int.reduceNe, Int.reduceEq, Int.reduceLT, Int.reduceLE, Int.reduceAdd, Int.reduceSub, Int.reduceNeg, Int.reduceMul, Int.reduceToNat, Nat.reduceSub, Nat.reduceMul, Nat.reduceLeDiff, Nat.reduceAdd, Nat.reduceLT, Nat.reduceEqDiff, reduceCtorEq, ↓reduceIte]
  refine call_by (p2) (by rfl) (by simp) ?_
  simp (disch := omega) only [wk, tis, Int.reduceNe, Int.reduceEq, Int.reduceLT, Int.reduceLE, Int.reduceAdd, Int.reduceSub, Int.reduceNeg, Int.reduceMul, Int.reduceToNat, Nat.reduceSub, Nat.reduceMul, Nat.reduceLeDiff, Nat.reduceAdd, Nat.reduceLT, Nat.reduceEqDiff, reduceCtorEq, ↓reduceIte]
  refine call_by (h2) (by rfl) (by simp) ?_
  simp (disch := omega) only [wk, tis, Int.reduceNe, Int.reduceEq, Int.reduceLT, Int.reduceLE, Int.reduceAdd, Int.reduceSub, Int.reduceNeg, Int.reduceMul, Int.reduceToNat, Nat.reduceSub, Nat.reduceMul, Nat.reduceLeDiff, Nat.reduceAdd, Nat.reduceLT, Nat.reduceEqDiff, reduceCtorEq, ↓reduceIte]
  refine call_by (p1) (by rfl) (by simp) ?_
  simp (disch := omega) only [wk, tis, Int.reduceNe, Int.reduceEq, Int.reduceLT, Int.reduceLE, Int.reduceAdd, Int.reduceSub, Int.reduceNeg, Int.reduceMul, Int.reduceToNat, Nat.reduceSub, Nat.reduceMul, Nat.reduceLeDiff, Nat.reduceAdd, Nat.reduceLT, Nat.reduceEqDiff, reduceCtorEq, ↓reduceIte]
  refine call_by (z3) (by first | rfl | (simp only [tocvs, tocv, hlc]; rfl) | (simp only [tocvs, tocv, toboxes, tobox, updH_at, Nat.reduceEqDiff, ↓reduceIte, hlc]; rfl)) (by simp) ?_
  simp (disch := omega) only [wk, tis, Int.reduceNe, Int.reduceEq, Int.reduceLT, Int.reduceLE, Int.reduceAdd, Int.reduceSub, Int.reduceNeg, Int.reduceMul, Int.reduceToNat, Nat.reduceSub, Nat.reduceMul, Nat.reduceLeDiff, Nat.reduceAdd, Nat.reduceLT, Nat.reduceEqDiff, reduceCtorEq, ↓reduceIte, hlc]
  refine call_by (h3) (by first | rfl | (simp only [tocvs, tocv, hlc]; rfl) | (simp only [tocvs, tocv, toboxes, tobox, updH_at, Nat.reduceEqDiff, ↓reduceIte, hlc]; rfl)) (by simp) ?_
  simp (disch := omega) only [wk, tis, Int.reduceNe, Int.reduceEq, Int.reduceLT, Int.reduceLE, Int.reduceAdd, Int.reduceSub, Int.reduceNeg, Int.reduceMul, Int.reduceToNat, Nat.reduceSub, Nat.reduceMul, Nat.reduceLeDiff, Nat.reduceAdd, Nat.reduceLT, Nat.reduceEqDiff, reduceCtorEq, ↓reduceIte, hlc]
  refine call_by (p3) (by rfl) (by simp) ?_
  simp (disch := omega) only [wk, tis, Int.reduceNe, Int.reduceEq, Int.reduceLT, Int.reduceLE, Int.reduceAdd, Int.reduceSub, Int.reduceNeg, Int.reduceMul, Int.reduceToNat, Nat.reduceSub, Nat.reduceMul, Nat.reduceLeDiff, Nat.reduceAdd, Nat.reduceLT, Nat.reduceEqDiff, reduceCtorEq, ↓reduceIte]
  refine call_by (s1) (by rfl) (by simp) ?_
  simp (disch := omega) only [wk, tis, Int.reduceNe, Int.reduceEq, Int.reduceLT, Int.reduceLE, Int.reduceAdd, Int.reduceSub, Int.reduceNeg, Int.reduceMul, Int.reduceToNat, Nat.reduceSub, Nat.reduceMul, Nat.reduceLeDiff, Nat.reduceAdd, Nat.reduceLT, Nat.reduceEqDiff, reduceCtorEq, ↓reduceIte]
  refine call_by (p4) (by rfl) (by simp) ?_
  simp (disch := omega) only [wk, tis, Int.reduceNe, Int.reduceEq, Int.reduceLT, Int.reduceLE, Int.reduceAdd, Int.reduceSub, Int.reduceNeg, Int.reduceMul, Int.reduceToNat, Nat.reduceSub, Nat.reduceMul, Nat.reduceLeDiff, Nat.reduceAdd, Nat.reduceLT, Nat.reduceEqDiff, reduceCtorEq, ↓reduceIte]
  refine call_by (s2) (by rfl) (by simp) ?_
  simp (disch := omega) only [wk, tis, Int.reduceNe, Int.reduceEq, Int.reduceLT, Int.reduceLE, Int.reduceAdd, Int.reduceSub, Int.reduceNeg, Int.reduceMul, Int.reduceToNat, Nat.reduceSub, Nat.reduceMul, Nat.reduceLeDiff, Nat.reduceAdd, Nat.reduceLT, Nat.reduceEqDiff, reduceCtorEq, ↓reduceIte]
  refine call_by (p5) (by rfl) (by simp) ?_
  simp (disch := omega) only [wk, tis, Int.reduceNe, Int.reduceEq, Int.reduceLT, Int.reduceLE, Int.reduceAdd, Int.reduceSub, Int.reduceNeg, Int.reduceMul, Int.reduceToNat, Nat.reduceSub, Nat.reduceMul, Nat.reduceLeDiff, Nat.reduceAdd, Nat.reduceLT, Nat.reduceEqDiff, reduceCtorEq, ↓reduceIte]
  refine call_by (s3) (by rfl) (by simp) ?_
  simp (disch := omega) only [wk, tis, Int.reduceNe, Int.reduceEq, Int.reduceLT, Int.reduceLE, Int.reduceAdd, Int.reduceSub, Int.reduceNeg, Int.reduceMul, Int.reduceToNat, Nat.reduceSub, Nat.reduceMul, Nat.reduceLeDiff, Nat.reduceAdd, Nat.reduceLT, Nat.reduceEqDiff, reduceCtorEq, ↓reduceIte]
  refine call_by (p6) (by rfl) (by simp) ?_
  simp (disch := omega) only [wk, tis, Int.reduceNe, Int.reduceEq, Int.reduceLT, Int.reduceLE, Int.reduceAdd, Int.reduceSub, Int.reduceNeg, Int.reduceMul, Int.reduceToNat, Nat.reduceSub, Nat.reduceMul, Nat.reduceLeDiff, Nat.reduceAdd, Nat.reduceLT, Nat.reduceEqDiff, reduceCtorEq, ↓reduceIte]
  refine call_by (s4) (by rfl) (by simp) ?_
  simp (disch := omega) only [wk, tis, Int.reduceNe, Int.reduceEq, Int.reduceLT, Int.reduceLE, Int.reduceAdd, Int.reduceSub, Int.reduceNeg, Int.reduceMul, Int.reduceToNat, Nat.reduceSub, Nat.reduceMul, Nat.reduceLeDiff, Nat.reduceAdd, Nat.reduceLT, Nat.reduceEqDiff, reduceCtorEq, ↓reduceIte]
end Go.Proofs.Ythgecppfgdadiaa
