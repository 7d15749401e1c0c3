/-
  Contracts of the functions that the law reaches.
-/
import Derived.Test.YthgecppfgdadiaaGreatL75
import Derived.Test.YthgecppfgdadiaaGreatAbsS
import Derived.Test.YthgecppfgdadiaaGreatL36M
import Derived.Test.YthgecppfgdadiaaGreatL40M
namespace Go.Proofs.YthgecppfgdadiaaGreat
open Go Go.Proofs Go.AL
set_option linter.unusedSimpArgs false
set_option linter.unusedVariables false

def Nt (k : Nat) (l : List Nat) : Prop := l.length ≤ k ∧ Lim l
def SzQ (k : Nat) (r : RQ) : Prop := Sz k r.1 ∧ Nt k r.2
def RawQ (p : List RQ) : Prop := p.length ≤ 9223372036854775807 ∧ ∀ c ∈ p, SzQ 9223372036854775807 c

theorem reads_rat {P : Program} {w : World} {t : TypeId} (h : Reads P w (fun c : (RI × (List Nat × Unit)) => prow c.1 ++ ([.sl (lims c.2.1)] ++ [])) (fun c => Sz 9223372036854775807 c.1 ∧ (Nt 9223372036854775807 c.2.1 ∧ True)) t) : Reads P w qrow (SzQ 9223372036854775807) t := fun enc sp held fuel cs x hx => by
  obtain ⟨a, f, e⟩ := h enc sp held fuel cs x hx
  exact ⟨(a.1, a.2.1), ⟨f.1, f.2.1⟩, e⟩

/-- An exponent that is small, or out of range. -/
def NearOk (k : Int) : Prop := k < 0 ∨ 65536 < k ∨ ∃ n : Nat, k = n ∧ n ≤ 200
theorem nearOk (k : Int) : NearOk (nearZ k) := by
  unfold NearOk nearZ
  by_cases h : 200 < k ∧ k ≤ 65536
  · rw [if_pos h]
    have e := Int.tmod_eq_emod_of_nonneg (a := k) (b := 200) (by omega)
    refine .inr (.inr ⟨(k % 200).toNat, by omega, by omega⟩)
  · rw [if_neg h]
    by_cases h0 : k < 0
    · exact .inl h0
    · by_cases h1 : 65536 < k
      · exact .inr (.inl h1)
      · exact .inr (.inr ⟨k.toNat, by omega, by omega⟩)

theorem fi_sz {a : RI} {k : Nat} (h : Sz k a) : Sz 3 (fi a) := ⟨by simp [fi]; omega, fun x hx => h.2 x (List.mem_of_mem_take hx)⟩
theorem fp_rp {p : List RI} (h : Raw p) : RP 9 3 (fp p) := ⟨by simp [fp]; omega, fun c hc => by
  obtain ⟨d, hd, rfl⟩ := List.mem_map.1 hc
  exact fi_sz (h.2 d (List.mem_of_mem_take hd))⟩

structure Few (y : C11) : Prop where
  P : RP 9 3 y.P
  R : RP 9 3 y.R
  A : Sz 3 y.A
  B : Sz 3 y.B
  C : Sz 3 y.C
  D : Sz 3 y.D
  At : Sz 3 y.At
  K : NearOk y.K
  M : NearOk y.M
  E : NearOk y.E

/-- A case, as it is handed. -/
structure Ok11 (x : C11) : Prop where
  P : Raw x.P
  R : Raw x.R
  A : Sz 9223372036854775807 x.A
  B : Sz 9223372036854775807 x.B
  C : Sz 9223372036854775807 x.C
  D : Sz 9223372036854775807 x.D
  K : -9223372036854775808 ≤ x.K ∧ x.K ≤ 9223372036854775807
  M : -9223372036854775808 ≤ x.M ∧ x.M ≤ 9223372036854775807
  At : Sz 9223372036854775807 x.At
  E : -9223372036854775808 ≤ x.E ∧ x.E ≤ 9223372036854775807
  F : RawQ x.F
  G : RawQ x.G
  X : SzQ 9223372036854775807 x.X

theorem ok11 (P R : List RI) (A B C D : RI) (K M : Int) (At : RI) (E : Int) (Pt : Bool) (F G : List RQ) (X : RQ) (hP : Raw P) (hR : Raw R) (hA : Sz 9223372036854775807 A) (hB : Sz 9223372036854775807 B) (hC : Sz 9223372036854775807 C) (hD : Sz 9223372036854775807 D)
    (hK1 : -9223372036854775808 ≤ K) (hK2 : K ≤ 9223372036854775807) (hM1 : -9223372036854775808 ≤ M) (hM2 : M ≤ 9223372036854775807) (hAt : Sz 9223372036854775807 At) (hE1 : -9223372036854775808 ≤ E) (hE2 : E ≤ 9223372036854775807) (hF : RawQ F) (hG : RawQ G) (hX : SzQ 9223372036854775807 X) :
    Ok11 ⟨P, R, A, B, C, D, K, M, At, E, Pt, F, G, X⟩ := ⟨hP, hR, hA, hB, hC, hD, ⟨hK1, hK2⟩, ⟨hM1, hM2⟩, hAt, ⟨hE1, hE2⟩, hF, hG, hX⟩

theorem few_less {x : C11} (h : Ok11 x) : Few (lessC x) := ⟨fp_rp h.P, fp_rp h.R, fi_sz h.A, fi_sz h.B, fi_sz h.C, fi_sz h.D, fi_sz h.At, nearOk _, nearOk _, nearOk _⟩

theorem less_few {x : C11} (h : Ok11 x) : AC Tryz.prog 7 [.agg (case11 x)] none [.agg (case11 (lessC x))] := by
  refine less_ok x ?_ ?_ ?_ ?_
  · simp only [List.mem_cons, List.not_mem_nil, or_false, forall_eq_or_imp, forall_eq]
    exact ⟨⟨h.P.1, fun c hc => (h.P.2 c hc).1⟩, ⟨h.R.1, fun c hc => (h.R.2 c hc).1⟩⟩
  · simp only [List.mem_cons, List.not_mem_nil, or_false, forall_eq_or_imp, forall_eq]
    exact ⟨h.A.1, h.B.1, h.C.1, h.D.1, h.At.1, h.X.1.1⟩
  · simp only [List.mem_cons, List.not_mem_nil, or_false, forall_eq_or_imp, forall_eq]
    exact ⟨⟨h.F.1, fun c hc => ⟨(h.F.2 c hc).1.1, (h.F.2 c hc).2.1⟩⟩, ⟨h.G.1, fun c hc => ⟨(h.G.2 c hc).1.1, (h.G.2 c hc).2.1⟩⟩, by simp, ⟨h.X.1.1, h.X.2.1⟩⟩
  · simp only [List.mem_cons, List.not_mem_nil, or_false, forall_eq_or_imp, forall_eq]
    exact ⟨h.K, h.M, h.E⟩

theorem ps_lin (b a : Int) : ps [b, a] = PS.C b + PS.C a * PS.X := by
  rw [ps_cons, ps_const, PS.mul_comm]
end Go.Proofs.YthgecppfgdadiaaGreat

namespace Go.Proofs.YthgecppfgdadiaaGreat
open Go Go.Proofs Go.AL
set_option linter.unusedSimpArgs false
set_option linter.unusedVariables false

theorem lplain_ok (e w : Int) : AC Tryz.prog 34 [ci e, ci w] none [cb (decide (e = w))] := by
  refine AC.by_walk (rs := [.tmp 4]) ords Tryz.func34 (by rfl) (by rfl) (by rfl) (by rfl) (by rfl) ?_
  simp (disch := omega) only [wk, tis, Int.reduceNe, Int.reduceEq, Int.reduceLT, Int.reduceLE, Int.reduceAdd, Int.reduceSub, Int.reduceNeg, Int.reduceMul, Int.reduceToNat, Nat.reduceSub, Nat.reduceMul, Nat.reduceLeDiff, Nat.reduceAdd, Nat.reduceLT, Nat.reduceEqDiff, reduceCtorEq, ↓reduceIte]

end Go.Proofs.YthgecppfgdadiaaGreat

namespace Go.Proofs.YthgecppfgdadiaaGreat
open Go Go.Proofs Go.AL
set_option linter.unusedSimpArgs false
set_option linter.unusedVariables false

theorem tat_ok (p : List RI) (i : Nat) (hl : p.length ≤ 2 ^ 40) : AC Tryz.prog 119 [cw p, ci i] none [cr (p.getD i (false, []))] := by
  refine AC.by_walk (rs := [.cell 4 27]) ords Tryz.func119 (by rfl) (by rfl) (by rfl) (by rfl) (by rfl) ?_
  simp (disch := omega) only [wk, tis, Int.reduceNe, Int.reduceEq, Int.reduceLT, Int.reduceLE, Int.reduceAdd, Int.reduceSub, Int.reduceNeg, Int.reduceMul, Int.reduceToNat, Nat.reduceSub, Nat.reduceMul, Nat.reduceLeDiff, Nat.reduceAdd, Nat.reduceLT, Nat.reduceEqDiff, reduceCtorEq, ↓reduceIte]
  refine if_by (fun h => ?_) (fun h => ?_)
  · simp (disch := omega) only [wk, tis, Int.reduceNe, Int.reduceEq, Int.reduceLT, Int.reduceLE, Int.reduceAdd, Int.reduceSub, Int.reduceNeg, Int.reduceMul, Int.reduceToNat, Nat.reduceSub, Nat.reduceMul, Nat.reduceLeDiff, Nat.reduceAdd, Nat.reduceLT, Nat.reduceEqDiff, reduceCtorEq, ↓reduceIte]
  · simp (disch := omega) only [wk, tis, Int.reduceNe, Int.reduceEq, Int.reduceLT, Int.reduceLE, Int.reduceAdd, Int.reduceSub, Int.reduceNeg, Int.reduceMul, Int.reduceToNat, Nat.reduceSub, Nat.reduceMul, Nat.reduceLeDiff, Nat.reduceAdd, Nat.reduceLT, Nat.reduceEqDiff, reduceCtorEq, ↓reduceIte]
    simp [List.getD, show p.length ≤ i by omega]

theorem cv_take_full (p : List Int) (g : Nat → Int) (i : Nat) : cv (p.take (i + 1)) g i = cv p g i := by
  have key : ∀ m, cv (p.take (i + 1 + m)) g i = cv (p.take (i + 1)) g i := fun m => by
    induction m with
    | zero => rfl
    | succ m ih => rw [show i + 1 + (m + 1) = i + 1 + m + 1 by omega, cv_take_succ, if_neg (by omega), Int.add_zero, ih]
  rw [← key p.length, List.take_of_length_le (by omega)]

theorem tplus_ok (a b : List RI) (ha : RP (2 ^ 30) (2 ^ 36) a) (hb : RP (2 ^ 30) (2 ^ 36) b) : AC Tryz.prog 92 [cw a, cw b] none [cp (padd (pv a) (pv b))] := by
  refine AC.by_walk (rs := [.tmp 4]) ords Tryz.func92 (by rfl) (by rfl) (by rfl) (by rfl) (by rfl) ?_
  have hla := ha.1
  have hlb := hb.1
  generalize hn : max a.length b.length = n at *
  have hpl : (padd (pv a) (pv b)).length = n := by simp [padd, pv_len, hn]
  simp (disch := omega) only [wk, tis, Int.reduceNe, Int.reduceEq, Int.reduceLT, Int.reduceLE, Int.reduceAdd, Int.reduceSub, Int.reduceNeg, Int.reduceMul, Int.reduceToNat, Nat.reduceSub, Nat.reduceMul, Nat.reduceLeDiff, Nat.reduceAdd, Nat.reduceLT, Nat.reduceEqDiff, reduceCtorEq, ↓reduceIte]
  refine aloop_nil 5 5 27 2 (by simp (disch := omega) only [wk, tis, Int.reduceNe, Int.reduceEq, Int.reduceLT, Int.reduceLE, Int.reduceAdd, Int.reduceSub, Int.reduceNeg, Int.reduceMul, Int.reduceToNat, Nat.reduceSub, Nat.reduceMul, Nat.reduceLeDiff, Nat.reduceAdd, Nat.reduceLT, Nat.reduceEqDiff, reduceCtorEq, ↓reduceIte]) (fun f H => ∃ (i st : Nat), i ≤ n ∧ f 6 = .iv (.int .i64 i) ∧ f 0 = .iv (.sl (raws a)) ∧ f 1 = .iv (.sl (raws b)) ∧ f 5 = .hs 5 st ∧ H 5 = .blk false st 27 2 (raws (((padd (pv a) (pv b)).take i).map canon))) (fun f H => (n - intAt f 6).toNat) ?_ ?_
  · refine ⟨0, 1, by omega, ?_⟩
    simp (disch := omega) only [wk, tis, Int.reduceNe, Int.reduceEq, Int.reduceLT, Int.reduceLE, Int.reduceAdd, Int.reduceSub, Int.reduceNeg, Int.reduceMul, Int.reduceToNat, Nat.reduceSub, Nat.reduceMul, Nat.reduceLeDiff, Nat.reduceAdd, Nat.reduceLT, Nat.reduceEqDiff, reduceCtorEq, ↓reduceIte, ghostF, ghostH, List.take_zero]
  rintro f H ⟨i, st, hi, hF⟩
  rw [intAt_of hF.1]
  simp (disch := omega) only [wk, tis, Int.reduceNe, Int.reduceEq, Int.reduceLT, Int.reduceLE, Int.reduceAdd, Int.reduceSub, Int.reduceNeg, Int.reduceMul, Int.reduceToNat, Nat.reduceSub, Nat.reduceMul, Nat.reduceLeDiff, Nat.reduceAdd, Nat.reduceLT, Nat.reduceEqDiff, reduceCtorEq, ↓reduceIte, hF]
  by_cases hlt : i < n
  · have h3 : (i : Int) < a.length ∨ (¬ (i : Int) < a.length ∧ (i : Int) < b.length) := by omega
    have hq : (((padd (pv a) (pv b)).take i).map canon).length = i := by rw [List.length_map, List.length_take]; omega
    have z1 := ha.pv.cf i
    have z2 := hb.pv.cf i
    have c1 := tat_ok a i (by omega)
    have c2 := tat_ok b i (by omega)
    have m := rAdd_ok (a.getD i (false, [])) (b.getD i (false, [])) ((ha.get i).mono (by omega)) ((hb.get i).mono (by omega))
    rw [← cf_pv, ← cf_pv] at m
    have e : (padd (pv a) (pv b)).take (i + 1) = (padd (pv a) (pv b)).take i ++ [cf (pv a) i + cf (pv b) i] := by
      rw [List.take_add_one, ← cf_padd]
      congr 1
      simp [cf, List.getD, show i < (padd (pv a) (pv b)).length by omega]
    rcases h3 with h | ⟨h, h'⟩
    all_goals
      first | simp (disch := omega) only [wk, tis, Int.reduceNe, Int.reduceEq, Int.reduceLT, Int.reduceLE, Int.reduceAdd, Int.reduceSub, Int.reduceNeg, Int.reduceMul, Int.reduceToNat, Nat.reduceSub, Nat.reduceMul, Nat.reduceLeDiff, Nat.reduceAdd, Nat.reduceLT, Nat.reduceEqDiff, reduceCtorEq, ↓reduceIte, hF, h, h', hq] | simp (disch := omega) only [wk, tis, Int.reduceNe, Int.reduceEq, Int.reduceLT, Int.reduceLE, Int.reduceAdd, Int.reduceSub, Int.reduceNeg, Int.reduceMul, Int.reduceToNat, Nat.reduceSub, Nat.reduceMul, Nat.reduceLeDiff, Nat.reduceAdd, Nat.reduceLT, Nat.reduceEqDiff, reduceCtorEq, ↓reduceIte, hF, h, hq]
      refine call_by (c1) (by first | rfl | (simp only [tocvs, tocv, hF, hq]; rfl) | (simp only [tocvs, tocv, toboxes, tobox, updH_at, Nat.reduceEqDiff, ↓reduceIte, hF, hq]; rfl)) (by simp) ?_
      simp (disch := omega) only [wk, tis, Int.reduceNe, Int.reduceEq, Int.reduceLT, Int.reduceLE, Int.reduceAdd, Int.reduceSub, Int.reduceNeg, Int.reduceMul, Int.reduceToNat, Nat.reduceSub, Nat.reduceMul, Nat.reduceLeDiff, Nat.reduceAdd, Nat.reduceLT, Nat.reduceEqDiff, reduceCtorEq, ↓reduceIte, hF, hq]
      refine call_by (c2) (by first | rfl | (simp only [tocvs, tocv, hF, hq]; rfl) | (simp only [tocvs, tocv, toboxes, tobox, updH_at, Nat.reduceEqDiff, ↓reduceIte, hF, hq]; rfl)) (by simp) ?_
      simp (disch := omega) only [wk, tis, Int.reduceNe, Int.reduceEq, Int.reduceLT, Int.reduceLE, Int.reduceAdd, Int.reduceSub, Int.reduceNeg, Int.reduceMul, Int.reduceToNat, Nat.reduceSub, Nat.reduceMul, Nat.reduceLeDiff, Nat.reduceAdd, Nat.reduceLT, Nat.reduceEqDiff, reduceCtorEq, ↓reduceIte, hF, hq]
      refine call_by (m) (by first | rfl | (simp only [tocvs, tocv, hF, hq]; rfl) | (simp only [tocvs, tocv, toboxes, tobox, updH_at, Nat.reduceEqDiff, ↓reduceIte, hF, hq]; rfl)) (by simp) ?_
      simp (disch := omega) only [wk, tis, Int.reduceNe, Int.reduceEq, Int.reduceLT, Int.reduceLE, Int.reduceAdd, Int.reduceSub, Int.reduceNeg, Int.reduceMul, Int.reduceToNat, Nat.reduceSub, Nat.reduceMul, Nat.reduceLeDiff, Nat.reduceAdd, Nat.reduceLT, Nat.reduceEqDiff, reduceCtorEq, ↓reduceIte, hF, hq]
      exact ⟨⟨i + 1, st + 1, by omega, by omega, by rw [e]; exact ⟨rfl, rfl⟩⟩, by omega⟩
  · have h1 : ¬ (i : Int) < a.length := by omega
    have h2 : ¬ (i : Int) < b.length := by omega
    simp (disch := omega) only [wk, tis, Int.reduceNe, Int.reduceEq, Int.reduceLT, Int.reduceLE, Int.reduceAdd, Int.reduceSub, Int.reduceNeg, Int.reduceMul, Int.reduceToNat, Nat.reduceSub, Nat.reduceMul, Nat.reduceLeDiff, Nat.reduceAdd, Nat.reduceLT, Nat.reduceEqDiff, reduceCtorEq, ↓reduceIte, hF, h1, h2]
    have hb := ha.pv.padd hb.pv
    have := tN_ok ((padd (pv a) (pv b)).map canon) (RP.canon (hb.mono (by omega) (by omega)))
    rw [pv_canon] at this
    rw [List.take_of_length_le (by omega)] at hF
    refine call_by (this) (by first | rfl | (simp only [tocvs, tocv, hF]; rfl) | (simp only [tocvs, tocv, toboxes, tobox, updH_at, Nat.reduceEqDiff, ↓reduceIte, hF]; rfl)) (by simp) ?_
    simp (disch := omega) only [wk, tis, Int.reduceNe, Int.reduceEq, Int.reduceLT, Int.reduceLE, Int.reduceAdd, Int.reduceSub, Int.reduceNeg, Int.reduceMul, Int.reduceToNat, Nat.reduceSub, Nat.reduceMul, Nat.reduceLeDiff, Nat.reduceAdd, Nat.reduceLT, Nat.reduceEqDiff, reduceCtorEq, ↓reduceIte, hF]

theorem ttimes_ok (a b : List RI) (ha : RP (2 ^ 30) (2 ^ 35) a) (hb : RP (2 ^ 30) (2 ^ 35) b) : AC Tryz.prog 94 [cw a, cw b] none [cp (pmul (pv a) (pv b))] := by
  refine AC.by_walk (rs := [.tmp 4]) ords Tryz.func94 (by rfl) (by rfl) (by rfl) (by rfl) (by rfl) ?_
  have hla := ha.1
  have hlb := hb.1
  have pla := pv_len a
  have plb := pv_len b
  obtain ⟨F, hFd⟩ : ∃ F : Nat → List Int, F = fun i => (List.range i).map fun k => cv (pv a) (cf (pv b)) k := ⟨_, rfl⟩
  have hFl : ∀ i, (F i).length = i := fun i => by rw [hFd]; simp
  have hF0 : F 0 = [] := by rw [hFd]; rfl
  have hFs : ∀ i, F (i + 1) = F i ++ [cv (pv a) (cf (pv b)) i] := fun i => by rw [hFd]; simp [List.range_succ]
  simp (disch := omega) only [wk, tis, Int.reduceNe, Int.reduceEq, Int.reduceLT, Int.reduceLE, Int.reduceAdd, Int.reduceSub, Int.reduceNeg, Int.reduceMul, Int.reduceToNat, Nat.reduceSub, Nat.reduceMul, Nat.reduceLeDiff, Nat.reduceAdd, Nat.reduceLT, Nat.reduceEqDiff, reduceCtorEq, ↓reduceIte]
  refine aloop_nil 5 5 27 2 (by simp (disch := omega) only [wk, tis, Int.reduceNe, Int.reduceEq, Int.reduceLT, Int.reduceLE, Int.reduceAdd, Int.reduceSub, Int.reduceNeg, Int.reduceMul, Int.reduceToNat, Nat.reduceSub, Nat.reduceMul, Nat.reduceLeDiff, Nat.reduceAdd, Nat.reduceLT, Nat.reduceEqDiff, reduceCtorEq, ↓reduceIte]) (fun f H => ∃ (i st : Nat), i ≤ a.length + b.length ∧ f 6 = .iv (.int .i64 i) ∧ f 0 = .iv (.sl (raws a)) ∧ f 1 = .iv (.sl (raws b)) ∧ f 5 = .hs 5 st ∧ H 5 = .blk false st 27 2 (raws ((F i).map canon))) (fun f H => (a.length + b.length - intAt f 6).toNat) ?_ ?_
  · refine ⟨0, 1, by omega, ?_⟩
    simp (disch := omega) only [wk, tis, Int.reduceNe, Int.reduceEq, Int.reduceLT, Int.reduceLE, Int.reduceAdd, Int.reduceSub, Int.reduceNeg, Int.reduceMul, Int.reduceToNat, Nat.reduceSub, Nat.reduceMul, Nat.reduceLeDiff, Nat.reduceAdd, Nat.reduceLT, Nat.reduceEqDiff, reduceCtorEq, ↓reduceIte, ghostF, ghostH, hF0]
  rintro f H ⟨i, st, hi, hF⟩
  rw [intAt_of hF.1]
  simp (disch := omega) only [wk, tis, Int.reduceNe, Int.reduceEq, Int.reduceLT, Int.reduceLE, Int.reduceAdd, Int.reduceSub, Int.reduceNeg, Int.reduceMul, Int.reduceToNat, Nat.reduceSub, Nat.reduceMul, Nat.reduceLeDiff, Nat.reduceAdd, Nat.reduceLT, Nat.reduceEqDiff, reduceCtorEq, ↓reduceIte, hF]
  refine if_by (fun hlt => ?_) (fun hlt => ?_)
  · have hq : ((F i).map canon).length = i := by rw [List.length_map, hFl]
    simp (disch := omega) only [wk, tis, Int.reduceNe, Int.reduceEq, Int.reduceLT, Int.reduceLE, Int.reduceAdd, Int.reduceSub, Int.reduceNeg, Int.reduceMul, Int.reduceToNat, Nat.reduceSub, Nat.reduceMul, Nat.reduceLeDiff, Nat.reduceAdd, Nat.reduceLT, Nat.reduceEqDiff, reduceCtorEq, ↓reduceIte, hF, hq]
    refine aloop_by (fun f H => ∃ (k st st7 : Nat), k ≤ i + 1 ∧ f 8 = .iv (.int .i64 k) ∧ f 6 = .iv (.int .i64 i) ∧ f 0 = .iv (.sl (raws a)) ∧ f 1 = .iv (.sl (raws b)) ∧ f 5 = .hs 5 st ∧ H 5 = .blk false st 27 2 (raws ((F i).map canon)) ∧ f 7 = .hp 7 st7 0 0 ∧ H 7 = .blk false st7 27 2 [prow (canon (cv ((pv a).take k) (cf (pv b)) i))]) (fun f H => (i + 1 - intAt f 8).toNat) ?_ ?_
    · refine ⟨0, st, (H 7).stamp + 1, by omega, ?_⟩
      simp (disch := omega) only [wk, tis, Int.reduceNe, Int.reduceEq, Int.reduceLT, Int.reduceLE, Int.reduceAdd, Int.reduceSub, Int.reduceNeg, Int.reduceMul, Int.reduceToNat, Nat.reduceSub, Nat.reduceMul, Nat.reduceLeDiff, Nat.reduceAdd, Nat.reduceLT, Nat.reduceEqDiff, reduceCtorEq, ↓reduceIte, hF, canon_zero, List.take_zero, show cv [] (cf (pv b)) i = 0 from rfl]
    rintro f H ⟨k, st, st7, hk, hF⟩
    rw [intAt_of hF.1]
    simp (disch := omega) only [wk, tis, Int.reduceNe, Int.reduceEq, Int.reduceLT, Int.reduceLE, Int.reduceAdd, Int.reduceSub, Int.reduceNeg, Int.reduceMul, Int.reduceToNat, Nat.reduceSub, Nat.reduceMul, Nat.reduceLeDiff, Nat.reduceAdd, Nat.reduceLT, Nat.reduceEqDiff, reduceCtorEq, ↓reduceIte, hF]
    refine if_by (fun hki => ?_) (fun hki => ?_)
    · have hki' : k ≤ i := by omega
      have hz := zl_cv (PB_take ha.pv k) hb.pv (by decide) i
      have hs := cv_take_succ (g := cf (pv b)) (pv a) k i
      rw [if_pos hki'] at hs
      by_cases h1 : (k : Int) < a.length
      · by_cases h2 : (i : Int) - k < b.length
        · have eik : (i : Int) - k = ((i - k : Nat) : Int) := by omega
          have h2' : ((i - k : Nat) : Int) < b.length := by omega
          have h2'' : i - k < b.length := by omega
          have zak := ha.pv.cf k
          have zbk := hb.pv.cf (i - k)
          have hprod := zl_mul (cf (pv a) k) (cf (pv b) (i - k))
          simp (disch := omega) only [wk, tis, Int.reduceNe, Int.reduceEq, Int.reduceLT, Int.reduceLE, Int.reduceAdd, Int.reduceSub, Int.reduceNeg, Int.reduceMul, Int.reduceToNat, Nat.reduceSub, Nat.reduceMul, Nat.reduceLeDiff, Nat.reduceAdd, Nat.reduceLT, Nat.reduceEqDiff, reduceCtorEq, ↓reduceIte, hF, hq, h1, eik, h2', h2'']
          refine ⟨tmps_by (by kernel_rfl), ?_⟩
          have m := rMul_ok (a.getD k (false, [])) (b.getD (i - k) (false, [])) ((ha.get k).mono (by omega)) ((hb.get (i - k)).mono (by omega))
          rw [← cf_pv, ← cf_pv] at m
          refine call_by (m) (by first | rfl | (simp only [tocvs, tocv, hF, hq]; rfl) | (simp only [tocvs, tocv, toboxes, tobox, updH_at, Nat.reduceEqDiff, ↓reduceIte, hF, hq]; rfl)) (by simp) ?_
          simp (disch := omega) only [wk, tis, Int.reduceNe, Int.reduceEq, Int.reduceLT, Int.reduceLE, Int.reduceAdd, Int.reduceSub, Int.reduceNeg, Int.reduceMul, Int.reduceToNat, Nat.reduceSub, Nat.reduceMul, Nat.reduceLeDiff, Nat.reduceAdd, Nat.reduceLT, Nat.reduceEqDiff, reduceCtorEq, ↓reduceIte, hF, hq]
          have s := rAdd_ok (canon (cv ((pv a).take k) (cf (pv b)) i)) (canon (cf (pv a) k * cf (pv b) (i - k))) ((sz_canon _).mono (by omega)) ((sz_canon _).mono (by omega))
          rw [iv_canon, iv_canon] at s
          refine call_by (s) (by first | rfl | (simp only [tocvs, tocv, hF, hq]; rfl) | (simp only [tocvs, tocv, toboxes, tobox, updH_at, Nat.reduceEqDiff, ↓reduceIte, hF, hq]; rfl)) (by simp) ?_
          simp (disch := omega) only [wk, tis, Int.reduceNe, Int.reduceEq, Int.reduceLT, Int.reduceLE, Int.reduceAdd, Int.reduceSub, Int.reduceNeg, Int.reduceMul, Int.reduceToNat, Nat.reduceSub, Nat.reduceMul, Nat.reduceLeDiff, Nat.reduceAdd, Nat.reduceLT, Nat.reduceEqDiff, reduceCtorEq, ↓reduceIte, hF, hq]
          first | exact log_by (by kernel_rfl) | refine ⟨log_by (by kernel_rfl), ?_⟩
          exact ⟨⟨k + 1, st, st7, by omega, by omega, by rw [hs]; exact ⟨rfl, rfl, rfl, rfl⟩⟩, by omega⟩
        · rw [cf_ge (q := pv b) (by omega), Int.mul_zero, Int.add_zero] at hs
          simp (disch := omega) only [wk, tis, Int.reduceNe, Int.reduceEq, Int.reduceLT, Int.reduceLE, Int.reduceAdd, Int.reduceSub, Int.reduceNeg, Int.reduceMul, Int.reduceToNat, Nat.reduceSub, Nat.reduceMul, Nat.reduceLeDiff, Nat.reduceAdd, Nat.reduceLT, Nat.reduceEqDiff, reduceCtorEq, ↓reduceIte, hF, hq, h1, h2]
          exact ⟨⟨k + 1, st, st7, by omega, by omega, by rw [hs]; exact ⟨rfl, rfl, rfl, rfl⟩⟩, by omega⟩
      · rw [cf_ge (q := pv a) (by omega), Int.zero_mul, Int.add_zero] at hs
        simp (disch := omega) only [wk, tis, Int.reduceNe, Int.reduceEq, Int.reduceLT, Int.reduceLE, Int.reduceAdd, Int.reduceSub, Int.reduceNeg, Int.reduceMul, Int.reduceToNat, Nat.reduceSub, Nat.reduceMul, Nat.reduceLeDiff, Nat.reduceAdd, Nat.reduceLT, Nat.reduceEqDiff, reduceCtorEq, ↓reduceIte, hF, hq, h1]
        exact ⟨⟨k + 1, st, st7, by omega, by omega, by rw [hs]; exact ⟨rfl, rfl, rfl, rfl⟩⟩, by omega⟩
    · have ek : k = i + 1 := by omega
      subst ek
      rw [cv_take_full] at hF
      simp (disch := omega) only [wk, tis, Int.reduceNe, Int.reduceEq, Int.reduceLT, Int.reduceLE, Int.reduceAdd, Int.reduceSub, Int.reduceNeg, Int.reduceMul, Int.reduceToNat, Nat.reduceSub, Nat.reduceMul, Nat.reduceLeDiff, Nat.reduceAdd, Nat.reduceLT, Nat.reduceEqDiff, reduceCtorEq, ↓reduceIte, hF, hq]
      exact ⟨⟨i + 1, st + 1, by omega, by omega, by rw [hFs]; exact ⟨rfl, rfl⟩⟩, by omega⟩
  · simp (disch := omega) only [wk, tis, Int.reduceNe, Int.reduceEq, Int.reduceLT, Int.reduceLE, Int.reduceAdd, Int.reduceSub, Int.reduceNeg, Int.reduceMul, Int.reduceToNat, Nat.reduceSub, Nat.reduceMul, Nat.reduceLeDiff, Nat.reduceAdd, Nat.reduceLT, Nat.reduceEqDiff, reduceCtorEq, ↓reduceIte, hF]
    have hi' : i = a.length + b.length := by omega
    have e : F i = pmul (pv a) (pv b) := by rw [hFd, hi', ← pla, ← plb]; rfl
    rw [e] at hF
    have hb := ha.pv.pmul hb.pv (by decide)
    have := tN_ok ((pmul (pv a) (pv b)).map canon) (RP.canon (hb.mono (by omega) (by omega)))
    rw [pv_canon] at this
    refine call_by (this) (by first | rfl | (simp only [tocvs, tocv, hF]; rfl) | (simp only [tocvs, tocv, toboxes, tobox, updH_at, Nat.reduceEqDiff, ↓reduceIte, hF]; rfl)) (by simp) ?_
    simp (disch := omega) only [wk, tis, Int.reduceNe, Int.reduceEq, Int.reduceLT, Int.reduceLE, Int.reduceAdd, Int.reduceSub, Int.reduceNeg, Int.reduceMul, Int.reduceToNat, Nat.reduceSub, Nat.reduceMul, Nat.reduceLeDiff, Nat.reduceAdd, Nat.reduceLT, Nat.reduceEqDiff, reduceCtorEq, ↓reduceIte, hF]
end Go.Proofs.YthgecppfgdadiaaGreat

namespace Go.Proofs.YthgecppfgdadiaaGreat
open Go Go.Proofs Go.AL
set_option linter.unusedSimpArgs false
set_option linter.unusedVariables false

theorem mshrink_bad (p : List RI) (k : Int) (h : k < 0 ∨ 65536 < k) : AC Tryz.prog 25 [cw p, ci k] none [cp [], ci 3] := by
  refine AC.by_walk (rs := [.tmp 4, .tmp 5]) ords Tryz.func25 (by rfl) (by rfl) (by rfl) (by rfl) (by rfl) ?_
  by_cases h1 : k < 0
  · simp (disch := omega) only [wk, tis, Int.reduceNe, Int.reduceEq, Int.reduceLT, Int.reduceLE, Int.reduceAdd, Int.reduceSub, Int.reduceNeg, Int.reduceMul, Int.reduceToNat, Nat.reduceSub, Nat.reduceMul, Nat.reduceLeDiff, Nat.reduceAdd, Nat.reduceLT, Nat.reduceEqDiff, reduceCtorEq, ↓reduceIte, h1]
    rfl
  · have h2 : 65536 < k := by omega
    simp (disch := omega) only [wk, tis, Int.reduceNe, Int.reduceEq, Int.reduceLT, Int.reduceLE, Int.reduceAdd, Int.reduceSub, Int.reduceNeg, Int.reduceMul, Int.reduceToNat, Nat.reduceSub, Nat.reduceMul, Nat.reduceLeDiff, Nat.reduceAdd, Nat.reduceLT, Nat.reduceEqDiff, reduceCtorEq, ↓reduceIte, h1, h2]
    rfl

theorem mshrink_ok (p : List RI) (k : Nat) (hp : RP (2 ^ 10) (2 ^ 20) p) (hk : k ≤ 65536) : AC Tryz.prog 25 [cw p, ci k] none [cp (wt (2 ^ k) (trimz (pv p))), ci 0] := by
  refine AC.by_walk (rs := [.tmp 4, .tmp 5]) ords Tryz.func25 (by rfl) (by rfl) (by rfl) (by rfl) (by rfl) ?_
  have h1 : ¬ (k : Int) < 0 := by omega
  have h2 : ¬ 65536 < (k : Int) := by omega
  simp (disch := omega) only [wk, tis, Int.reduceNe, Int.reduceEq, Int.reduceLT, Int.reduceLE, Int.reduceAdd, Int.reduceSub, Int.reduceNeg, Int.reduceMul, Int.reduceToNat, Nat.reduceSub, Nat.reduceMul, Nat.reduceLeDiff, Nat.reduceAdd, Nat.reduceLT, Nat.reduceEqDiff, reduceCtorEq, ↓reduceIte, h1, h2]
  refine call_by ((mweigh_ok p k hp hk)) (by first | rfl | (simp only [tocvs, tocv, h1, h2]; rfl) | (simp only [tocvs, tocv, toboxes, tobox, updH_at, Nat.reduceEqDiff, ↓reduceIte, h1, h2]; rfl)) (by simp) ?_
  simp (disch := omega) only [wk, tis, Int.reduceNe, Int.reduceEq, Int.reduceLT, Int.reduceLE, Int.reduceAdd, Int.reduceSub, Int.reduceNeg, Int.reduceMul, Int.reduceToNat, Nat.reduceSub, Nat.reduceMul, Nat.reduceLeDiff, Nat.reduceAdd, Nat.reduceLT, Nat.reduceEqDiff, reduceCtorEq, ↓reduceIte, h1, h2]

/-- The lowest power. -/
theorem low_first {p : List Int} (h : tz p ≠ 0) : ∃ e, e < tz p ∧ cf p e ≠ 0 ∧ ∀ j, j < e → cf p j = 0 := by
  have hx : ∃ e, cf p e ≠ 0 := ⟨_, cf_tz_pred h⟩
  have key : ∀ n, (∃ e, e < n ∧ cf p e ≠ 0) → ∃ e, e < n ∧ cf p e ≠ 0 ∧ ∀ j, j < e → cf p j = 0 := fun n => by
    induction n with
    | zero => rintro ⟨e, he, _⟩; omega
    | succ n ih =>
      rintro ⟨e, he, h0⟩
      by_cases hb : ∃ e, e < n ∧ cf p e ≠ 0
      · obtain ⟨e, he, h1, h2⟩ := ih hb; exact ⟨e, by omega, h1, h2⟩
      · refine ⟨e, he, h0, fun j hj => Classical.byContradiction fun hz => hb ⟨j, by omega, hz⟩⟩
  exact key _ ⟨_, by omega, cf_tz_pred h⟩

theorem mlow_zero (p : List RI) (hp : RP (2 ^ 10) (2 ^ 20) p) (h : tz (pv p) = 0) : AC Tryz.prog 29 [cw p] none [ci 0, cp [], ci 1] := by
  have hn := pnorm_ok p (hp.mono (by omega) (by omega))
  have e : cp (pv p) = cp [] := by unfold cp cpoly; rw [trimz_nil h]; rfl
  rw [e] at hn
  refine AC.by_walk (rs := [.tmp 2, .tmp 3, .tmp 4]) ords Tryz.func29 (by rfl) (by rfl) (by rfl) (by rfl) (by rfl) ?_
  simp (disch := omega) only [wk, tis, Int.reduceNe, Int.reduceEq, Int.reduceLT, Int.reduceLE, Int.reduceAdd, Int.reduceSub, Int.reduceNeg, Int.reduceMul, Int.reduceToNat, Nat.reduceSub, Nat.reduceMul, Nat.reduceLeDiff, Nat.reduceAdd, Nat.reduceLT, Nat.reduceEqDiff, reduceCtorEq, ↓reduceIte]
  have hc0 : cpoly [] = [] := rfl
  refine call_by (hn) (by first | rfl | (simp only [tocvs, tocv, hc0]; rfl) | (simp only [tocvs, tocv, toboxes, tobox, updH_at, Nat.reduceEqDiff, ↓reduceIte, hc0]; rfl)) (by simp) ?_
  simp (disch := omega) only [wk, tis, Int.reduceNe, Int.reduceEq, Int.reduceLT, Int.reduceLE, Int.reduceAdd, Int.reduceSub, Int.reduceNeg, Int.reduceMul, Int.reduceToNat, Nat.reduceSub, Nat.reduceMul, Nat.reduceLeDiff, Nat.reduceAdd, Nat.reduceLT, Nat.reduceEqDiff, reduceCtorEq, ↓reduceIte, hc0]
  refine aloop_by (fun f H => ∃ (i : Nat), i = 0 ∧ f 11 = .iv (.int .i64 i) ∧ f 10 = .iv (.int .i64 0)) (fun f H => (0 - intAt f 11).toNat) ?_ ?_
  · refine ⟨0, rfl, ?_⟩
    simp (disch := omega) only [wk, tis, Int.reduceNe, Int.reduceEq, Int.reduceLT, Int.reduceLE, Int.reduceAdd, Int.reduceSub, Int.reduceNeg, Int.reduceMul, Int.reduceToNat, Nat.reduceSub, Nat.reduceMul, Nat.reduceLeDiff, Nat.reduceAdd, Nat.reduceLT, Nat.reduceEqDiff, reduceCtorEq, ↓reduceIte]
  rintro f H ⟨i, hi, hF⟩
  rw [intAt_of hF.1]
  simp (disch := omega) only [wk, tis, Int.reduceNe, Int.reduceEq, Int.reduceLT, Int.reduceLE, Int.reduceAdd, Int.reduceSub, Int.reduceNeg, Int.reduceMul, Int.reduceToNat, Nat.reduceSub, Nat.reduceMul, Nat.reduceLeDiff, Nat.reduceAdd, Nat.reduceLT, Nat.reduceEqDiff, reduceCtorEq, ↓reduceIte, hF]
  subst hi
  simp (disch := omega) only [wk, tis, Int.reduceNe, Int.reduceEq, Int.reduceLT, Int.reduceLE, Int.reduceAdd, Int.reduceSub, Int.reduceNeg, Int.reduceMul, Int.reduceToNat, Nat.reduceSub, Nat.reduceMul, Nat.reduceLeDiff, Nat.reduceAdd, Nat.reduceLT, Nat.reduceEqDiff, reduceCtorEq, ↓reduceIte, hF]
  rfl

theorem drop_cp {p : List Int} (e : Nat) : cp (pv ((p.drop e).map canon)) = cp (p.drop e) := by rw [pv_canon]
theorem cf_drop (p : List Int) (e k : Nat) : cf (p.drop e) k = cf p (e + k) := by simp [cf, List.getD]

theorem mlow_ok (p : List RI) (e : Nat) (hp : RP (2 ^ 10) (2 ^ 20) p) (he : e < tz (pv p)) (h0 : cf (pv p) e ≠ 0) (h1 : ∀ j, j < e → cf (pv p) j = 0) : AC Tryz.prog 29 [cw p] none [ci e, cp ((pv p).drop e), ci 0] := by
  refine AC.by_walk (rs := [.tmp 2, .tmp 3, .tmp 4]) ords Tryz.func29 (by rfl) (by rfl) (by rfl) (by rfl) (by rfl) ?_
  simp (disch := omega) only [wk, tis, Int.reduceNe, Int.reduceEq, Int.reduceLT, Int.reduceLE, Int.reduceAdd, Int.reduceSub, Int.reduceNeg, Int.reduceMul, Int.reduceToNat, Nat.reduceSub, Nat.reduceMul, Nat.reduceLeDiff, Nat.reduceAdd, Nat.reduceLT, Nat.reduceEqDiff, reduceCtorEq, ↓reduceIte]
  refine call_by ((pnorm_ok p (hp.mono (by omega) (by omega)))) (by rfl) (by simp) ?_
  simp (disch := omega) only [wk, tis, Int.reduceNe, Int.reduceEq, Int.reduceLT, Int.reduceLE, Int.reduceAdd, Int.reduceSub, Int.reduceNeg, Int.reduceMul, Int.reduceToNat, Nat.reduceSub, Nat.reduceMul, Nat.reduceLeDiff, Nat.reduceAdd, Nat.reduceLT, Nat.reduceEqDiff, reduceCtorEq, ↓reduceIte]
  have hA := hp.pv.trimz
  have ec : cp ((pv p).drop e) = cp ((trimz (pv p)).drop e) := cp_ext fun k => by rw [cf_drop, cf_drop, cf_trimz]
  rw [ec]
  rw [← cf_trimz] at h0
  have h1' : ∀ j, j < e → cf (trimz (pv p)) j = 0 := fun j hj => by rw [cf_trimz]; exact h1 j hj
  rw [← trimz_len] at he
  unfold cpoly
  generalize trimz (pv p) = A at *
  have hAl := hA.1
  have hq : (A.map canon).length = A.length := by simp
  simp (disch := omega) only [wk, tis, Int.reduceNe, Int.reduceEq, Int.reduceLT, Int.reduceLE, Int.reduceAdd, Int.reduceSub, Int.reduceNeg, Int.reduceMul, Int.reduceToNat, Nat.reduceSub, Nat.reduceMul, Nat.reduceLeDiff, Nat.reduceAdd, Nat.reduceLT, Nat.reduceEqDiff, reduceCtorEq, ↓reduceIte, hq]
  refine aloop_by (fun f H => ∃ (i : Nat), i ≤ e ∧ f 11 = .iv (.int .i64 i) ∧ f 10 = .iv (.int .i64 A.length) ∧ f 9 = .iv (.sl (raws (A.map canon))) ∧ f 0 = .iv (.sl (raws (A.map canon)))) (fun f H => (e + 1 - intAt f 11).toNat) ?_ ?_
  · refine ⟨0, by omega, ?_⟩
    simp (disch := omega) only [wk, tis, Int.reduceNe, Int.reduceEq, Int.reduceLT, Int.reduceLE, Int.reduceAdd, Int.reduceSub, Int.reduceNeg, Int.reduceMul, Int.reduceToNat, Nat.reduceSub, Nat.reduceMul, Nat.reduceLeDiff, Nat.reduceAdd, Nat.reduceLT, Nat.reduceEqDiff, reduceCtorEq, ↓reduceIte]
  rintro f H ⟨i, hi, hF⟩
  rw [intAt_of hF.1]
  simp (disch := omega) only [wk, tis, Int.reduceNe, Int.reduceEq, Int.reduceLT, Int.reduceLE, Int.reduceAdd, Int.reduceSub, Int.reduceNeg, Int.reduceMul, Int.reduceToNat, Nat.reduceSub, Nat.reduceMul, Nat.reduceLeDiff, Nat.reduceAdd, Nat.reduceLT, Nat.reduceEqDiff, reduceCtorEq, ↓reduceIte, hF]
  have hlt : (i : Int) < A.length := by omega
  have zi := hA.cf i
  simp (disch := omega) only [wk, tis, Int.reduceNe, Int.reduceEq, Int.reduceLT, Int.reduceLE, Int.reduceAdd, Int.reduceSub, Int.reduceNeg, Int.reduceMul, Int.reduceToNat, Nat.reduceSub, Nat.reduceMul, Nat.reduceLeDiff, Nat.reduceAdd, Nat.reduceLT, Nat.reduceEqDiff, reduceCtorEq, ↓reduceIte, hF, hlt, hq]
  have q := zsign_ok (canon (cf A i)) ((sz_canon _).mono (by omega))
  rw [iv_canon] at q
  refine call_by (q) (by first | rfl | (simp only [tocvs, tocv, hF, hlt, hq]; rfl) | (simp only [tocvs, tocv, toboxes, tobox, updH_at, Nat.reduceEqDiff, ↓reduceIte, hF, hlt, hq]; rfl)) (by simp) ?_
  simp (disch := omega) only [wk, tis, Int.reduceNe, Int.reduceEq, Int.reduceLT, Int.reduceLE, Int.reduceAdd, Int.reduceSub, Int.reduceNeg, Int.reduceMul, Int.reduceToNat, Nat.reduceSub, Nat.reduceMul, Nat.reduceLeDiff, Nat.reduceAdd, Nat.reduceLT, Nat.reduceEqDiff, reduceCtorEq, ↓reduceIte, hF, hlt, hq]
  refine if_by (fun hs => ?_) (fun hs => ?_)
  · have hie : i = e := Classical.byContradiction fun hne => hs (by rw [h1' i (by omega)]; rfl)
    subst hie
    have ed : List.take ((A.length : Int) - i).toNat (List.drop i (A.map canon)) = (A.drop i).map canon := by
      rw [List.take_of_length_le (by rw [List.length_drop, hq]; omega), List.map_drop]
    simp (disch := omega) only [wk, tis, Int.reduceNe, Int.reduceEq, Int.reduceLT, Int.reduceLE, Int.reduceAdd, Int.reduceSub, Int.reduceNeg, Int.reduceMul, Int.reduceToNat, Nat.reduceSub, Nat.reduceMul, Nat.reduceLeDiff, Nat.reduceAdd, Nat.reduceLT, Nat.reduceEqDiff, reduceCtorEq, ↓reduceIte, hF, hlt, hq, ed]
    have hb : PB (2 ^ 40) (2 ^ 40) (A.drop i) := ⟨by rw [List.length_drop]; omega, fun z hz => by
      have := hA.2 z (List.mem_of_mem_drop hz)
      omega⟩
    have m := pnorm_ok ((A.drop i).map canon) (RP.canon hb)
    rw [pv_canon] at m
    refine call_by (m) (by first | rfl | (simp only [tocvs, tocv, hF, hlt, hq, ed]; rfl) | (simp only [tocvs, tocv, toboxes, tobox, updH_at, Nat.reduceEqDiff, ↓reduceIte, hF, hlt, hq, ed]; rfl)) (by simp) ?_
    simp (disch := omega) only [wk, tis, Int.reduceNe, Int.reduceEq, Int.reduceLT, Int.reduceLE, Int.reduceAdd, Int.reduceSub, Int.reduceNeg, Int.reduceMul, Int.reduceToNat, Nat.reduceSub, Nat.reduceMul, Nat.reduceLeDiff, Nat.reduceAdd, Nat.reduceLT, Nat.reduceEqDiff, reduceCtorEq, ↓reduceIte, hF, hlt, hq, ed]
  · have hne : i ≠ e := fun he => h0 (by rw [← he]; exact Int.sign_eq_zero_iff_zero.mp (by simpa using hs))
    simp (disch := omega) only [wk, tis, Int.reduceNe, Int.reduceEq, Int.reduceLT, Int.reduceLE, Int.reduceAdd, Int.reduceSub, Int.reduceNeg, Int.reduceMul, Int.reduceToNat, Nat.reduceSub, Nat.reduceMul, Nat.reduceLeDiff, Nat.reduceAdd, Nat.reduceLT, Nat.reduceEqDiff, reduceCtorEq, ↓reduceIte, hF, hlt, hq]
    refine ⟨⟨i + 1, by omega, by omega⟩, by omega⟩
end Go.Proofs.YthgecppfgdadiaaGreat

namespace Go.Proofs.YthgecppfgdadiaaGreat
open Go Go.Proofs Go.AL
set_option linter.unusedSimpArgs false
set_option linter.unusedVariables false

theorem tby_ok (p : List RI) (c : RI) (hp : RP (2 ^ 30) (2 ^ 36) p) (hc : Sz (2 ^ 36) c) : AC Tryz.prog 93 [cw p, cr c] none [cp (pscale (iv c) (pv p))] := by
  refine AC.by_walk (rs := [.tmp 4]) ords Tryz.func93 (by rfl) (by rfl) (by rfl) (by rfl) (by rfl) ?_
  have hl := hp.1
  have hpl : (pscale (iv c) (pv p)).length = p.length := by simp [pscale, pv_len]
  simp (disch := omega) only [wk, tis, Int.reduceNe, Int.reduceEq, Int.reduceLT, Int.reduceLE, Int.reduceAdd, Int.reduceSub, Int.reduceNeg, Int.reduceMul, Int.reduceToNat, Nat.reduceSub, Nat.reduceMul, Nat.reduceLeDiff, Nat.reduceAdd, Nat.reduceLT, Nat.reduceEqDiff, reduceCtorEq, ↓reduceIte]
  refine aloop_nil 5 5 27 2 (by simp (disch := omega) only [wk, tis, Int.reduceNe, Int.reduceEq, Int.reduceLT, Int.reduceLE, Int.reduceAdd, Int.reduceSub, Int.reduceNeg, Int.reduceMul, Int.reduceToNat, Nat.reduceSub, Nat.reduceMul, Nat.reduceLeDiff, Nat.reduceAdd, Nat.reduceLT, Nat.reduceEqDiff, reduceCtorEq, ↓reduceIte]) (fun f H => ∃ (i st st3 : Nat), i ≤ p.length ∧ f 6 = .iv (.int .i64 i) ∧ f 0 = .iv (.sl (raws p)) ∧ f 3 = .hp 3 st3 0 0 ∧ f 5 = .hs 5 st ∧ H 3 = .blk false st3 27 2 [prow c] ∧ H 5 = .blk false st 27 2 (raws (((pscale (iv c) (pv p)).take i).map canon))) (fun f H => (p.length - intAt f 6).toNat) ?_ ?_
  · refine ⟨0, 1, 1, by omega, ?_⟩
    simp (disch := omega) only [wk, tis, Int.reduceNe, Int.reduceEq, Int.reduceLT, Int.reduceLE, Int.reduceAdd, Int.reduceSub, Int.reduceNeg, Int.reduceMul, Int.reduceToNat, Nat.reduceSub, Nat.reduceMul, Nat.reduceLeDiff, Nat.reduceAdd, Nat.reduceLT, Nat.reduceEqDiff, reduceCtorEq, ↓reduceIte, ghostF, ghostH, List.take_zero]
  rintro f H ⟨i, st, st3, hi, hF⟩
  rw [intAt_of hF.1]
  simp (disch := omega) only [wk, tis, Int.reduceNe, Int.reduceEq, Int.reduceLT, Int.reduceLE, Int.reduceAdd, Int.reduceSub, Int.reduceNeg, Int.reduceMul, Int.reduceToNat, Nat.reduceSub, Nat.reduceMul, Nat.reduceLeDiff, Nat.reduceAdd, Nat.reduceLT, Nat.reduceEqDiff, reduceCtorEq, ↓reduceIte, hF]
  refine if_by (fun hlt => ?_) (fun hlt => ?_)
  · have hq : (((pscale (iv c) (pv p)).take i).map canon).length = i := by rw [List.length_map, List.length_take]; omega
    simp (disch := omega) only [wk, tis, Int.reduceNe, Int.reduceEq, Int.reduceLT, Int.reduceLE, Int.reduceAdd, Int.reduceSub, Int.reduceNeg, Int.reduceMul, Int.reduceToNat, Nat.reduceSub, Nat.reduceMul, Nat.reduceLeDiff, Nat.reduceAdd, Nat.reduceLT, Nat.reduceEqDiff, reduceCtorEq, ↓reduceIte, hF, hq]
    refine ⟨tmps_by (by kernel_rfl), ?_⟩
    have m := rMul_ok (p.getD i (false, [])) c ((hp.get i).mono (by omega)) (hc.mono (by omega))
    rw [← cf_pv, ← cf_pscale] at m
    refine call_by (m) (by first | rfl | (simp only [tocvs, tocv, hF, hq]; rfl) | (simp only [tocvs, tocv, toboxes, tobox, updH_at, Nat.reduceEqDiff, ↓reduceIte, hF, hq]; rfl)) (by simp) ?_
    simp (disch := omega) only [wk, tis, Int.reduceNe, Int.reduceEq, Int.reduceLT, Int.reduceLE, Int.reduceAdd, Int.reduceSub, Int.reduceNeg, Int.reduceMul, Int.reduceToNat, Nat.reduceSub, Nat.reduceMul, Nat.reduceLeDiff, Nat.reduceAdd, Nat.reduceLT, Nat.reduceEqDiff, reduceCtorEq, ↓reduceIte, hF, hq]
    first | exact log_by (by kernel_rfl) | refine ⟨log_by (by kernel_rfl), ?_⟩
    have e : (pscale (iv c) (pv p)).take (i + 1) = (pscale (iv c) (pv p)).take i ++ [cf (pscale (iv c) (pv p)) i] := by
      rw [List.take_add_one]
      congr 1
      simp [cf, List.getD, show i < (pscale (iv c) (pv p)).length by omega]
    exact ⟨⟨i + 1, st + 1, st3, by omega, by omega, by rw [e]; exact ⟨rfl, rfl, rfl, rfl⟩⟩, by omega⟩
  · simp (disch := omega) only [wk, tis, Int.reduceNe, Int.reduceEq, Int.reduceLT, Int.reduceLE, Int.reduceAdd, Int.reduceSub, Int.reduceNeg, Int.reduceMul, Int.reduceToNat, Nat.reduceSub, Nat.reduceMul, Nat.reduceLeDiff, Nat.reduceAdd, Nat.reduceLT, Nat.reduceEqDiff, reduceCtorEq, ↓reduceIte, hF]
    have hz := zl_iv hc
    have hb := hp.pv.pscale (c := iv c)
    have := tN_ok ((pscale (iv c) (pv p)).map canon) (RP.canon (hb.mono (by omega) (by omega)))
    rw [pv_canon] at this
    rw [List.take_of_length_le (by omega)] at hF
    refine call_by (this) (by first | rfl | (simp only [tocvs, tocv, hF]; rfl) | (simp only [tocvs, tocv, toboxes, tobox, updH_at, Nat.reduceEqDiff, ↓reduceIte, hF]; rfl)) (by simp) ?_
    simp (disch := omega) only [wk, tis, Int.reduceNe, Int.reduceEq, Int.reduceLT, Int.reduceLE, Int.reduceAdd, Int.reduceSub, Int.reduceNeg, Int.reduceMul, Int.reduceToNat, Nat.reduceSub, Nat.reduceMul, Nat.reduceLeDiff, Nat.reduceAdd, Nat.reduceLT, Nat.reduceEqDiff, reduceCtorEq, ↓reduceIte, hF]

theorem tpow_ok (p : List RI) (m : Nat) (h : RP (2 ^ 10) (2 ^ 20) p) (hm : m ≤ 2 ^ 10) : AC Tryz.prog 95 [cw p, ci m] none [cp (ppow (pv p) m)] := by
  refine AC.by_walk (rs := [.tmp 4]) ords Tryz.func95 (by rfl) (by rfl) (by rfl) (by rfl) (by rfl) ?_
  simp (disch := omega) only [wk, tis, Int.reduceNe, Int.reduceEq, Int.reduceLT, Int.reduceLE, Int.reduceAdd, Int.reduceSub, Int.reduceNeg, Int.reduceMul, Int.reduceToNat, Nat.reduceSub, Nat.reduceMul, Nat.reduceLeDiff, Nat.reduceAdd, Nat.reduceLT, Nat.reduceEqDiff, reduceCtorEq, ↓reduceIte]
  have s1 := tP_ok [1] (by decide) (by decide)
  refine call_by (s1) (by rfl) (by simp) ?_
  simp (disch := omega) only [wk, tis, Int.reduceNe, Int.reduceEq, Int.reduceLT, Int.reduceLE, Int.reduceAdd, Int.reduceSub, Int.reduceNeg, Int.reduceMul, Int.reduceToNat, Nat.reduceSub, Nat.reduceMul, Nat.reduceLeDiff, Nat.reduceAdd, Nat.reduceLT, Nat.reduceEqDiff, reduceCtorEq, ↓reduceIte]
  have hb : ∀ x, x ≤ 2 ^ 10 → PB (2 ^ 30) (2 ^ 35) (ppow (pv p) x) := fun x hx => ((h.pv.ppow (by decide)) x).mono (by omega) (by omega)
  refine aloop_by (fun f H => ∃ (i : Nat), i ≤ m ∧ f 6 = .iv (.int .i64 i) ∧ f 0 = .iv (.sl (raws p)) ∧ f 1 = .iv (.int .i64 m) ∧ f 5 = .iv (.sl (cpoly (ppow (pv p) i)))) (fun f H => (m - intAt f 6).toNat) ?_ ?_
  · refine ⟨0, by omega, ?_⟩
    simp (disch := omega) only [wk, tis, Int.reduceNe, Int.reduceEq, Int.reduceLT, Int.reduceLE, Int.reduceAdd, Int.reduceSub, Int.reduceNeg, Int.reduceMul, Int.reduceToNat, Nat.reduceSub, Nat.reduceMul, Nat.reduceLeDiff, Nat.reduceAdd, Nat.reduceLT, Nat.reduceEqDiff, reduceCtorEq, ↓reduceIte, ppow]
  rintro f H ⟨i, hi, hF⟩
  rw [intAt_of hF.1]
  simp (disch := omega) only [wk, tis, Int.reduceNe, Int.reduceEq, Int.reduceLT, Int.reduceLE, Int.reduceAdd, Int.reduceSub, Int.reduceNeg, Int.reduceMul, Int.reduceToNat, Nat.reduceSub, Nat.reduceMul, Nat.reduceLeDiff, Nat.reduceAdd, Nat.reduceLT, Nat.reduceEqDiff, reduceCtorEq, ↓reduceIte, hF]
  refine if_by (fun hlt => ?_) (fun hlt => ?_)
  · simp (disch := omega) only [wk, tis, Int.reduceNe, Int.reduceEq, Int.reduceLT, Int.reduceLE, Int.reduceAdd, Int.reduceSub, Int.reduceNeg, Int.reduceMul, Int.reduceToNat, Nat.reduceSub, Nat.reduceMul, Nat.reduceLeDiff, Nat.reduceAdd, Nat.reduceLT, Nat.reduceEqDiff, reduceCtorEq, ↓reduceIte, hF]
    have hm := ttimes_ok (cn (ppow (pv p) i)) p (rp_cn (hb i (by omega))) (h.mono (by omega) (by omega))
    have e : cp (pmul (pv (cn (ppow (pv p) i))) (pv p)) = cp (ppow (pv p) (i + 1)) := cp_ps (by rw [ps_pmul, ps_cn, ps_ppow, ps_ppow]; rfl)
    rw [e] at hm
    refine call_by (hm) (by first | rfl | (simp only [tocvs, tocv, hF]; rfl) | (simp only [tocvs, tocv, toboxes, tobox, updH_at, Nat.reduceEqDiff, ↓reduceIte, hF]; rfl)) (by simp) ?_
    simp (disch := omega) only [wk, tis, Int.reduceNe, Int.reduceEq, Int.reduceLT, Int.reduceLE, Int.reduceAdd, Int.reduceSub, Int.reduceNeg, Int.reduceMul, Int.reduceToNat, Nat.reduceSub, Nat.reduceMul, Nat.reduceLeDiff, Nat.reduceAdd, Nat.reduceLT, Nat.reduceEqDiff, reduceCtorEq, ↓reduceIte, hF]
    exact ⟨⟨i + 1, by omega, by omega, rfl⟩, by omega⟩
  · simp (disch := omega) only [wk, tis, Int.reduceNe, Int.reduceEq, Int.reduceLT, Int.reduceLE, Int.reduceAdd, Int.reduceSub, Int.reduceNeg, Int.reduceMul, Int.reduceToNat, Nat.reduceSub, Nat.reduceMul, Nat.reduceLeDiff, Nat.reduceAdd, Nat.reduceLT, Nat.reduceEqDiff, reduceCtorEq, ↓reduceIte, hF]
    have : i = m := by omega
    subst this
    rfl

theorem tby_g {p : List RI} {c : Int} {q : List Int} (hp : RP (2 ^ 30) (2 ^ 36) p) (hc : zl c ≤ 2 ^ 36) (e : ps (pv p) = ps q) : AC Tryz.prog 93 [cw p, cz c] none [cp (pscale c q)] := by
  have h := tby_ok p (canon c) hp ((sz_canon _).mono hc)
  rw [iv_canon] at h
  rwa [cp_ps (show ps (pscale c (pv p)) = ps (pscale c q) by rw [ps_pscale, ps_pscale, e])] at h
theorem tplus_g {a b : List RI} {q r : List Int} (ha : RP (2 ^ 30) (2 ^ 36) a) (hb : RP (2 ^ 30) (2 ^ 36) b) (eq : ps (pv a) = ps q) (er : ps (pv b) = ps r) : AC Tryz.prog 92 [cw a, cw b] none [cp (padd q r)] := by
  have h := tplus_ok a b ha hb
  rwa [cp_ps (show ps (padd (pv a) (pv b)) = ps (padd q r) by rw [ps_padd, ps_padd, eq, er])] at h
theorem ttimes_g {a b : List RI} {q r : List Int} (ha : RP (2 ^ 30) (2 ^ 35) a) (hb : RP (2 ^ 30) (2 ^ 35) b) (eq : ps (pv a) = ps q) (er : ps (pv b) = ps r) : AC Tryz.prog 94 [cw a, cw b] none [cp (pmul q r)] := by
  have h := ttimes_ok a b ha hb
  rwa [cp_ps (show ps (pmul (pv a) (pv b)) = ps (pmul q r) by rw [ps_pmul, ps_pmul, eq, er])] at h

theorem into_step {S : PS} {f g : PS} {A : List Int} {c : Int} {i n : Nat} (hi : i < n) (hA : A.length = i) (h : S = hom A f g * PS.pw g (n - i)) :
    S + PS.C c * (PS.pw f i * PS.pw g (n - 1 - i)) = hom (A ++ [c]) f g * PS.pw g (n - (i + 1)) := by
  have e : n - i = n - (i + 1) + 1 := by omega
  rw [hom_snoc, PS.add_mul, h, e, PS.pw, hA, show n - 1 - i = n - (i + 1) by omega]
  ac_rfl

theorem tinto_ok (p a b : List RI) (hp : RP (2 ^ 8) (2 ^ 20) p) (ha : RP (2 ^ 10) (2 ^ 20) a) (hb : RP (2 ^ 10) (2 ^ 20) b) : AC Tryz.prog 59 [cw p, cw a, cw b] none [cp (lhom (trimz (pv p)) (pv a) (pv b))] := by
  have hA := hp.pv.trimz
  have hl : cpoly (pv p) = raws ((trimz (pv p)).map canon) := rfl
  refine AC.by_walk (rs := [.tmp 6]) ords Tryz.func59 (by rfl) (by rfl) (by rfl) (by rfl) (by rfl) ?_
  simp (disch := omega) only [wk, tis, Int.reduceNe, Int.reduceEq, Int.reduceLT, Int.reduceLE, Int.reduceAdd, Int.reduceSub, Int.reduceNeg, Int.reduceMul, Int.reduceToNat, Nat.reduceSub, Nat.reduceMul, Nat.reduceLeDiff, Nat.reduceAdd, Nat.reduceLT, Nat.reduceEqDiff, reduceCtorEq, ↓reduceIte]
  refine call_by ((tN_ok p (hp.mono (by omega) (by omega)))) (by rfl) (by simp) ?_
  simp (disch := omega) only [wk, tis, Int.reduceNe, Int.reduceEq, Int.reduceLT, Int.reduceLE, Int.reduceAdd, Int.reduceSub, Int.reduceNeg, Int.reduceMul, Int.reduceToNat, Nat.reduceSub, Nat.reduceMul, Nat.reduceLeDiff, Nat.reduceAdd, Nat.reduceLT, Nat.reduceEqDiff, reduceCtorEq, ↓reduceIte]
  rw [hl]
  generalize trimz (pv p) = A at *
  have hAl := hA.1
  have hq : (A.map canon).length = A.length := by simp
  have pa := ha.pv
  have pb := hb.pv
  have hPa : ∀ x, x ≤ 2 ^ 10 → PB (2 ^ 21) (2 ^ 32) (ppow (pv a) x) := fun x hx => (pa.ppow (by decide) x).mono (by omega) (by omega)
  have hPb : ∀ x, x ≤ 2 ^ 10 → PB (2 ^ 21) (2 ^ 32) (ppow (pv b) x) := fun x hx => (pb.ppow (by decide) x).mono (by omega) (by omega)
  have hq0 : cpoly [] = [] := rfl
  refine aloop_w ((.iv 7 11 1 false 27 2 [] (by simp (disch := omega) only [wk, tis, Int.reduceNe, Int.reduceEq, Int.reduceLT, Int.reduceLE, Int.reduceAdd, Int.reduceSub, Int.reduceNeg, Int.reduceMul, Int.reduceToNat, Nat.reduceSub, Nat.reduceMul, Nat.reduceLeDiff, Nat.reduceAdd, Nat.reduceLT, Nat.reduceEqDiff, reduceCtorEq, ↓reduceIte]) (by simp (disch := omega) only [wk, tis, Int.reduceNe, Int.reduceEq, Int.reduceLT, Int.reduceLE, Int.reduceAdd, Int.reduceSub, Int.reduceNeg, Int.reduceMul, Int.reduceToNat, Nat.reduceSub, Nat.reduceMul, Nat.reduceLeDiff, Nat.reduceAdd, Nat.reduceLT, Nat.reduceEqDiff, reduceCtorEq, ↓reduceIte]) (.refl _ _))) (fun f H => ∃ (i : Nat) (S : List Int), i ≤ A.length ∧ PB (2 ^ 22) (2 ^ 33 + 2 ^ 21 + i) S ∧ ps S = hom (A.take i) (ps (pv a)) (ps (pv b)) * PS.pw (ps (pv b)) (A.length - i) ∧ f 8 = .iv (.int .i64 i) ∧ f 0 = .iv (.sl (raws (A.map canon))) ∧ f 1 = .iv (.sl (raws a)) ∧ f 2 = .iv (.sl (raws b)) ∧ f 7 = .iv (.sl (cpoly S))) (fun f H => (A.length - intAt f 8).toNat) ?_ ?_
  · refine ⟨0, [], by omega, ⟨by simp, fun z hz => by simp at hz⟩, by rw [List.take_zero, hom, PS.zero_mul, ps_nil], ?_⟩
    simp (disch := omega) only [wk, tis, Int.reduceNe, Int.reduceEq, Int.reduceLT, Int.reduceLE, Int.reduceAdd, Int.reduceSub, Int.reduceNeg, Int.reduceMul, Int.reduceToNat, Nat.reduceSub, Nat.reduceMul, Nat.reduceLeDiff, Nat.reduceAdd, Nat.reduceLT, Nat.reduceEqDiff, reduceCtorEq, ↓reduceIte, hq0]
  rintro f H ⟨i, S, hi, hSb, hSe, hF⟩
  rw [intAt_of hF.1]
  simp (disch := omega) only [wk, tis, Int.reduceNe, Int.reduceEq, Int.reduceLT, Int.reduceLE, Int.reduceAdd, Int.reduceSub, Int.reduceNeg, Int.reduceMul, Int.reduceToNat, Nat.reduceSub, Nat.reduceMul, Nat.reduceLeDiff, Nat.reduceAdd, Nat.reduceLT, Nat.reduceEqDiff, reduceCtorEq, ↓reduceIte, hF]
  simp (disch := omega) only [wk, tis, Int.reduceNe, Int.reduceEq, Int.reduceLT, Int.reduceLE, Int.reduceAdd, Int.reduceSub, Int.reduceNeg, Int.reduceMul, Int.reduceToNat, Nat.reduceSub, Nat.reduceMul, Nat.reduceLeDiff, Nat.reduceAdd, Nat.reduceLT, Nat.reduceEqDiff, reduceCtorEq, ↓reduceIte, hq]
  refine if_by (fun hlt => ?_) (fun hlt => ?_)
  · have ei : (A.length : Int) - 1 - i = ((A.length - 1 - i : Nat) : Int) := by omega
    have zi := hA.cf i
    simp (disch := omega) only [wk, tis, Int.reduceNe, Int.reduceEq, Int.reduceLT, Int.reduceLE, Int.reduceAdd, Int.reduceSub, Int.reduceNeg, Int.reduceMul, Int.reduceToNat, Nat.reduceSub, Nat.reduceMul, Nat.reduceLeDiff, Nat.reduceAdd, Nat.reduceLT, Nat.reduceEqDiff, reduceCtorEq, ↓reduceIte, hF, hq, ei]
    refine ⟨tmps_by (by kernel_rfl), ?_⟩
    refine call_by ((tpow_ok a i ha (by omega))) (by first | rfl | (simp only [tocvs, tocv, hF, hq, ei]; rfl) | (simp only [tocvs, tocv, toboxes, tobox, updH_at, Nat.reduceEqDiff, ↓reduceIte, hF, hq, ei]; rfl)) (by simp) ?_
    simp (disch := omega) only [wk, tis, Int.reduceNe, Int.reduceEq, Int.reduceLT, Int.reduceLE, Int.reduceAdd, Int.reduceSub, Int.reduceNeg, Int.reduceMul, Int.reduceToNat, Nat.reduceSub, Nat.reduceMul, Nat.reduceLeDiff, Nat.reduceAdd, Nat.reduceLT, Nat.reduceEqDiff, reduceCtorEq, ↓reduceIte, hF, hq, ei]
    refine call_by ((tpow_ok b (A.length - 1 - i) hb (by omega))) (by first | rfl | (simp only [tocvs, tocv, hF, hq, ei]; rfl) | (simp only [tocvs, tocv, toboxes, tobox, updH_at, Nat.reduceEqDiff, ↓reduceIte, hF, hq, ei]; rfl)) (by simp) ?_
    simp (disch := omega) only [wk, tis, Int.reduceNe, Int.reduceEq, Int.reduceLT, Int.reduceLE, Int.reduceAdd, Int.reduceSub, Int.reduceNeg, Int.reduceMul, Int.reduceToNat, Nat.reduceSub, Nat.reduceMul, Nat.reduceLeDiff, Nat.reduceAdd, Nat.reduceLT, Nat.reduceEqDiff, reduceCtorEq, ↓reduceIte, hF, hq, ei]
    have b1 := hPa i (by omega)
    have b2 := hPb (A.length - 1 - i) (by omega)
    have m := ttimes_g (rp_cn (b1.mono (by omega) (by omega))) (rp_cn (b2.mono (by omega) (by omega))) (ps_cn (ppow (pv a) i)) (ps_cn (ppow (pv b) (A.length - 1 - i)))
    refine call_by (m) (by first | rfl | (simp only [tocvs, tocv, hF, hq, ei]; rfl) | (simp only [tocvs, tocv, toboxes, tobox, updH_at, Nat.reduceEqDiff, ↓reduceIte, hF, hq, ei]; rfl)) (by simp) ?_
    simp (disch := omega) only [wk, tis, Int.reduceNe, Int.reduceEq, Int.reduceLT, Int.reduceLE, Int.reduceAdd, Int.reduceSub, Int.reduceNeg, Int.reduceMul, Int.reduceToNat, Nat.reduceSub, Nat.reduceMul, Nat.reduceLeDiff, Nat.reduceAdd, Nat.reduceLT, Nat.reduceEqDiff, reduceCtorEq, ↓reduceIte, hF, hq, ei]
    have b3 := b1.pmul b2 (by decide)
    have m2 := tby_g (c := cf A i) (rp_cn (b3.mono (by omega) (by omega))) (by omega) (ps_cn (pmul (ppow (pv a) i) (ppow (pv b) (A.length - 1 - i))))
    refine call_by (m2) (by first | rfl | (simp only [tocvs, tocv, hF, hq, ei]; rfl) | (simp only [tocvs, tocv, toboxes, tobox, updH_at, Nat.reduceEqDiff, ↓reduceIte, hF, hq, ei]; rfl)) (by simp) ?_
    simp (disch := omega) only [wk, tis, Int.reduceNe, Int.reduceEq, Int.reduceLT, Int.reduceLE, Int.reduceAdd, Int.reduceSub, Int.reduceNeg, Int.reduceMul, Int.reduceToNat, Nat.reduceSub, Nat.reduceMul, Nat.reduceLeDiff, Nat.reduceAdd, Nat.reduceLT, Nat.reduceEqDiff, reduceCtorEq, ↓reduceIte, hF, hq, ei]
    have b4 := b3.pscale (c := cf A i)
    have m3 := tplus_g (rp_cn (hSb.mono (by omega) (by omega))) (rp_cn (b4.mono (by omega) (by omega))) (ps_cn S) (ps_cn (pscale (cf A i) (pmul (ppow (pv a) i) (ppow (pv b) (A.length - 1 - i)))))
    refine call_by (m3) (by first | rfl | (simp only [tocvs, tocv, hF, hq, ei]; rfl) | (simp only [tocvs, tocv, toboxes, tobox, updH_at, Nat.reduceEqDiff, ↓reduceIte, hF, hq, ei]; rfl)) (by simp) ?_
    simp (disch := omega) only [wk, tis, Int.reduceNe, Int.reduceEq, Int.reduceLT, Int.reduceLE, Int.reduceAdd, Int.reduceSub, Int.reduceNeg, Int.reduceMul, Int.reduceToNat, Nat.reduceSub, Nat.reduceMul, Nat.reduceLeDiff, Nat.reduceAdd, Nat.reduceLT, Nat.reduceEqDiff, reduceCtorEq, ↓reduceIte, hF, hq, ei]
    first | exact log_by (by kernel_rfl) | refine ⟨log_by (by kernel_rfl), ?_⟩
    have et : A.take (i + 1) = A.take i ++ [cf A i] := by
      rw [List.take_add_one]
      congr 1
      simp [cf, List.getD, show i < A.length by omega]
    refine ⟨⟨i + 1, _, by omega, (hSb.padd b4).mono (by omega) (by omega), ?_, by omega, rfl⟩, by omega⟩
    rw [et, ps_padd, ps_pscale, ps_pmul, ps_ppow, ps_ppow]
    exact into_step (by omega) (by rw [List.length_take]; omega) hSe
  · simp (disch := omega) only [wk, tis, Int.reduceNe, Int.reduceEq, Int.reduceLT, Int.reduceLE, Int.reduceAdd, Int.reduceSub, Int.reduceNeg, Int.reduceMul, Int.reduceToNat, Nat.reduceSub, Nat.reduceMul, Nat.reduceLeDiff, Nat.reduceAdd, Nat.reduceLT, Nat.reduceEqDiff, reduceCtorEq, ↓reduceIte, hF]
    have hi' : i = A.length := by omega
    subst hi'
    rw [List.take_length, Nat.sub_self, PS.pw, PS.mul_one] at hSe
    rw [cpoly_ext (ps_eq (hSe.trans (ps_lhom A (pv a) (pv b)).symm))]
end Go.Proofs.YthgecppfgdadiaaGreat

namespace Go.Proofs.YthgecppfgdadiaaGreat
open Go Go.Proofs Go.AL
set_option linter.unusedSimpArgs false
set_option linter.unusedVariables false

theorem tinto_g {p a b : List RI} {A B out : List Int} (hp : RP (2 ^ 8) (2 ^ 20) p) (ha : RP (2 ^ 10) (2 ^ 20) a) (hb : RP (2 ^ 10) (2 ^ 20) b) (eA : ps (pv a) = ps A) (eB : ps (pv b) = ps B) (eo : ps out = hom (trimz (pv p)) (ps A) (ps B)) : AC Tryz.prog 59 [cw p, cw a, cw b] none [cp out] := by
  have h := tinto_ok p a b hp ha hb
  rwa [cp_ps (show ps (lhom (trimz (pv p)) (pv a) (pv b)) = ps out by rw [ps_lhom, eo, eA, eB])] at h

theorem sm {l : List Int} (hl : l.length ≤ 2 ^ 10) (h : ∀ z ∈ l, z.natAbs < W) : PB (2 ^ 10) (2 ^ 20) l := (small_pb l (2 ^ 10) hl h).mono (Nat.le_refl _) (by omega)

theorem tcompose_g {p r : List RI} {P R out : List Int} (hp : RP (2 ^ 8) (2 ^ 20) p) (hr : RP (2 ^ 10) (2 ^ 20) r) (eP : ps (pv p) = ps P) (eR : ps (pv r) = ps R) (eo : ps out = cmp P (ps R)) : AC Tryz.prog 63 [cw p, cw r] none [cp out] := by
  refine AC.by_walk (rs := [.tmp 4]) ords Tryz.func63 (by rfl) (by rfl) (by rfl) (by rfl) (by rfl) ?_
  simp (disch := omega) only [wk, tis, Int.reduceNe, Int.reduceEq, Int.reduceLT, Int.reduceLE, Int.reduceAdd, Int.reduceSub, Int.reduceNeg, Int.reduceMul, Int.reduceToNat, Nat.reduceSub, Nat.reduceMul, Nat.reduceLeDiff, Nat.reduceAdd, Nat.reduceLT, Nat.reduceEqDiff, reduceCtorEq, ↓reduceIte]
  have h1 := tN_ok r (hr.mono (by omega) (by omega))
  rw [cp_ps eR] at h1
  refine call_by (h1) (by rfl) (by simp) ?_
  simp (disch := omega) only [wk, tis, Int.reduceNe, Int.reduceEq, Int.reduceLT, Int.reduceLE, Int.reduceAdd, Int.reduceSub, Int.reduceNeg, Int.reduceMul, Int.reduceToNat, Nat.reduceSub, Nat.reduceMul, Nat.reduceLeDiff, Nat.reduceAdd, Nat.reduceLT, Nat.reduceEqDiff, reduceCtorEq, ↓reduceIte]
  refine call_by ((tP_ok [1] (by decide) (by decide))) (by rfl) (by simp) ?_
  simp (disch := omega) only [wk, tis, Int.reduceNe, Int.reduceEq, Int.reduceLT, Int.reduceLE, Int.reduceAdd, Int.reduceSub, Int.reduceNeg, Int.reduceMul, Int.reduceToNat, Nat.reduceSub, Nat.reduceMul, Nat.reduceLeDiff, Nat.reduceAdd, Nat.reduceLT, Nat.reduceEqDiff, reduceCtorEq, ↓reduceIte]
  have hR : PB (2 ^ 10) (2 ^ 20) (trimz R) := by rw [← trimz_ext (ps_eq eR)]; exact hr.pv.trimz
  have m := tinto_g (a := cn R) (b := cn [1]) (A := R) (B := [1]) (out := out) hp (RP.canon hR) (rp_cn (sm (by decide) (by decide))) (ps_cn _) (ps_cn _) (by rw [ps_one, eo]; exact (cmp_ps _ ((ps_trimz _).trans eP)).symm)
  refine call_by (m) (by rfl) (by simp) ?_
  simp (disch := omega) only [wk, tis, Int.reduceNe, Int.reduceEq, Int.reduceLT, Int.reduceLE, Int.reduceAdd, Int.reduceSub, Int.reduceNeg, Int.reduceMul, Int.reduceToNat, Nat.reduceSub, Nat.reduceMul, Nat.reduceLeDiff, Nat.reduceAdd, Nat.reduceLT, Nat.reduceEqDiff, reduceCtorEq, ↓reduceIte]

theorem tshift_g {p : List RI} {a : RI} {P out : List Int} (hp : RP (2 ^ 8) (2 ^ 20) p) (ha : Sz (2 ^ 20) a) (eP : ps (pv p) = ps P) (eo : ps out = cmp P (ps [iv a, 1])) : AC Tryz.prog 20 [cw p, cr a] none [cp out] := by
  refine AC.by_walk (rs := [.tmp 4]) ords Tryz.func20 (by rfl) (by rfl) (by rfl) (by rfl) (by rfl) ?_
  simp (disch := omega) only [wk, tis, Int.reduceNe, Int.reduceEq, Int.reduceLT, Int.reduceLE, Int.reduceAdd, Int.reduceSub, Int.reduceNeg, Int.reduceMul, Int.reduceToNat, Nat.reduceSub, Nat.reduceMul, Nat.reduceLeDiff, Nat.reduceAdd, Nat.reduceLT, Nat.reduceEqDiff, reduceCtorEq, ↓reduceIte]
  refine ⟨tmps_by (by kernel_rfl), ?_⟩
  refine call_by ((rZ_ok 1 (by omega) (by omega))) (by rfl) (by simp) ?_
  simp (disch := omega) only [wk, tis, Int.reduceNe, Int.reduceEq, Int.reduceLT, Int.reduceLE, Int.reduceAdd, Int.reduceSub, Int.reduceNeg, Int.reduceMul, Int.reduceToNat, Nat.reduceSub, Nat.reduceMul, Nat.reduceLeDiff, Nat.reduceAdd, Nat.reduceLT, Nat.reduceEqDiff, reduceCtorEq, ↓reduceIte]
  have hr : RP (2 ^ 10) (2 ^ 20) [a, canon 1] := ⟨by simp, fun c hc => by
    rcases List.mem_cons.1 hc with rfl | hc
    · exact ha
    · rw [List.mem_singleton.1 hc]; exact one_sz (by omega)⟩
  have m := tcompose_g (r := [a, canon 1]) (R := [iv a, 1]) hp hr eP (by rw [pv_two, iv_canon]) eo
  refine call_by (m) (by rfl) (by simp) ?_
  simp (disch := omega) only [wk, tis, Int.reduceNe, Int.reduceEq, Int.reduceLT, Int.reduceLE, Int.reduceAdd, Int.reduceSub, Int.reduceNeg, Int.reduceMul, Int.reduceToNat, Nat.reduceSub, Nat.reduceMul, Nat.reduceLeDiff, Nat.reduceAdd, Nat.reduceLT, Nat.reduceEqDiff, reduceCtorEq, ↓reduceIte]
  first | exact log_by (by kernel_rfl) | refine ⟨log_by (by kernel_rfl), ?_⟩

theorem tscale_g {p : List RI} {a : RI} {P out : List Int} (hp : RP (2 ^ 8) (2 ^ 20) p) (ha : Sz (2 ^ 20) a) (eP : ps (pv p) = ps P) (eo : ps out = cmp P (ps [0, iv a])) : AC Tryz.prog 22 [cw p, cr a] none [cp out] := by
  refine AC.by_walk (rs := [.tmp 4]) ords Tryz.func22 (by rfl) (by rfl) (by rfl) (by rfl) (by rfl) ?_
  simp (disch := omega) only [wk, tis, Int.reduceNe, Int.reduceEq, Int.reduceLT, Int.reduceLE, Int.reduceAdd, Int.reduceSub, Int.reduceNeg, Int.reduceMul, Int.reduceToNat, Nat.reduceSub, Nat.reduceMul, Nat.reduceLeDiff, Nat.reduceAdd, Nat.reduceLT, Nat.reduceEqDiff, reduceCtorEq, ↓reduceIte]
  have hr : RP (2 ^ 10) (2 ^ 20) [(false, []), a] := ⟨by simp, fun c hc => by
    rcases List.mem_cons.1 hc with rfl | hc
    · exact ⟨by simp, fun x hx => by simp at hx⟩
    · rw [List.mem_singleton.1 hc]; exact ha⟩
  have m := tcompose_g (r := [(false, []), a]) (R := [0, iv a]) hp hr eP (by rw [pv_two, iv_zero]) eo
  refine call_by (m) (by rfl) (by simp) ?_
  simp (disch := omega) only [wk, tis, Int.reduceNe, Int.reduceEq, Int.reduceLT, Int.reduceLE, Int.reduceAdd, Int.reduceSub, Int.reduceNeg, Int.reduceMul, Int.reduceToNat, Nat.reduceSub, Nat.reduceMul, Nat.reduceLeDiff, Nat.reduceAdd, Nat.reduceLT, Nat.reduceEqDiff, reduceCtorEq, ↓reduceIte]

theorem tflip_g {p : List RI} {P out : List Int} (hp : RP (2 ^ 8) (2 ^ 20) p) (eP : ps (pv p) = ps P) (eo : ps out = cmp P (ps [0, -1])) : AC Tryz.prog 24 [cw p] none [cp out] := by
  refine AC.by_walk (rs := [.tmp 2]) ords Tryz.func24 (by rfl) (by rfl) (by rfl) (by rfl) (by rfl) ?_
  simp (disch := omega) only [wk, tis, Int.reduceNe, Int.reduceEq, Int.reduceLT, Int.reduceLE, Int.reduceAdd, Int.reduceSub, Int.reduceNeg, Int.reduceMul, Int.reduceToNat, Nat.reduceSub, Nat.reduceMul, Nat.reduceLeDiff, Nat.reduceAdd, Nat.reduceLT, Nat.reduceEqDiff, reduceCtorEq, ↓reduceIte]
  refine call_by ((rZ_ok (-1) (by omega) (by omega))) (by rfl) (by simp) ?_
  simp (disch := omega) only [wk, tis, Int.reduceNe, Int.reduceEq, Int.reduceLT, Int.reduceLE, Int.reduceAdd, Int.reduceSub, Int.reduceNeg, Int.reduceMul, Int.reduceToNat, Nat.reduceSub, Nat.reduceMul, Nat.reduceLeDiff, Nat.reduceAdd, Nat.reduceLT, Nat.reduceEqDiff, reduceCtorEq, ↓reduceIte]
  have m := tscale_g (a := canon (-1)) (out := out) hp ((sz_canon _).mono (by have : zl (-1) ≤ 1 := zl_le.mpr (by decide); omega)) eP (by rw [iv_canon]; exact eo)
  refine call_by (m) (by rfl) (by simp) ?_
  simp (disch := omega) only [wk, tis, Int.reduceNe, Int.reduceEq, Int.reduceLT, Int.reduceLE, Int.reduceAdd, Int.reduceSub, Int.reduceNeg, Int.reduceMul, Int.reduceToNat, Nat.reduceSub, Nat.reduceMul, Nat.reduceLeDiff, Nat.reduceAdd, Nat.reduceLT, Nat.reduceEqDiff, reduceCtorEq, ↓reduceIte]

theorem tmoeb_g {p : List RI} {a b c d : RI} {out : List Int} (hp : RP (2 ^ 8) (2 ^ 20) p) (ha : Sz (2 ^ 20) a) (hb : Sz (2 ^ 20) b) (hc : Sz (2 ^ 20) c) (hd : Sz (2 ^ 20) d) (eo : ps out = hom (trimz (pv p)) (ps [iv b, iv a]) (ps [iv d, iv c])) :
    AC Tryz.prog 12 [cw p, cr a, cr b, cr c, cr d] none [cp out] := by
  have hr : ∀ {x y : RI}, Sz (2 ^ 20) x → Sz (2 ^ 20) y → RP (2 ^ 10) (2 ^ 20) [x, y] := fun hx hy => ⟨by simp, fun c hc => by
    rcases List.mem_cons.1 hc with rfl | hc
    · exact hx
    · rw [List.mem_singleton.1 hc]; exact hy⟩
  refine AC.by_walk (rs := [.tmp 10]) ords Tryz.func12 (by rfl) (by rfl) (by rfl) (by rfl) (by rfl) ?_
  simp (disch := omega) only [wk, tis, Int.reduceNe, Int.reduceEq, Int.reduceLT, Int.reduceLE, Int.reduceAdd, Int.reduceSub, Int.reduceNeg, Int.reduceMul, Int.reduceToNat, Nat.reduceSub, Nat.reduceMul, Nat.reduceLeDiff, Nat.reduceAdd, Nat.reduceLT, Nat.reduceEqDiff, reduceCtorEq, ↓reduceIte]
  refine ⟨tmps_by (by kernel_rfl), ?_⟩
  have h1 := tN_ok [b, a] ((hr hb ha).mono (by omega) (by omega))
  have h2 := tN_ok [d, c] ((hr hd hc).mono (by omega) (by omega))
  rw [pv_two] at h1 h2
  refine call_by (h1) (by rfl) (by simp) ?_
  simp (disch := omega) only [wk, tis, Int.reduceNe, Int.reduceEq, Int.reduceLT, Int.reduceLE, Int.reduceAdd, Int.reduceSub, Int.reduceNeg, Int.reduceMul, Int.reduceToNat, Nat.reduceSub, Nat.reduceMul, Nat.reduceLeDiff, Nat.reduceAdd, Nat.reduceLT, Nat.reduceEqDiff, reduceCtorEq, ↓reduceIte]
  refine call_by (h2) (by rfl) (by simp) ?_
  simp (disch := omega) only [wk, tis, Int.reduceNe, Int.reduceEq, Int.reduceLT, Int.reduceLE, Int.reduceAdd, Int.reduceSub, Int.reduceNeg, Int.reduceMul, Int.reduceToNat, Nat.reduceSub, Nat.reduceMul, Nat.reduceLeDiff, Nat.reduceAdd, Nat.reduceLT, Nat.reduceEqDiff, reduceCtorEq, ↓reduceIte]
  have m := tinto_g (a := cn [iv b, iv a]) (b := cn [iv d, iv c]) (out := out) hp (rp_cn (pb_two hb ha)) (rp_cn (pb_two hd hc)) (ps_cn _) (ps_cn _) eo
  refine call_by (m) (by rfl) (by simp) ?_
  simp (disch := omega) only [wk, tis, Int.reduceNe, Int.reduceEq, Int.reduceLT, Int.reduceLE, Int.reduceAdd, Int.reduceSub, Int.reduceNeg, Int.reduceMul, Int.reduceToNat, Nat.reduceSub, Nat.reduceMul, Nat.reduceLeDiff, Nat.reduceAdd, Nat.reduceLT, Nat.reduceEqDiff, reduceCtorEq, ↓reduceIte]
  first | exact log_by (by kernel_rfl) | refine ⟨log_by (by kernel_rfl), ?_⟩

theorem tline_g {p : List RI} {out : List Int} (hp : RP (2 ^ 8) (2 ^ 20) p) (eo : ps out = hom (trimz (pv p)) (ps [1]) (ps [1, 1])) : AC Tryz.prog 14 [cw p] none [cp out] := by
  refine AC.by_walk (rs := [.tmp 2]) ords Tryz.func14 (by rfl) (by rfl) (by rfl) (by rfl) (by rfl) ?_
  simp (disch := omega) only [wk, tis, Int.reduceNe, Int.reduceEq, Int.reduceLT, Int.reduceLE, Int.reduceAdd, Int.reduceSub, Int.reduceNeg, Int.reduceMul, Int.reduceToNat, Nat.reduceSub, Nat.reduceMul, Nat.reduceLeDiff, Nat.reduceAdd, Nat.reduceLT, Nat.reduceEqDiff, reduceCtorEq, ↓reduceIte]
  refine call_by ((tP_ok [1] (by decide) (by decide))) (by rfl) (by simp) ?_
  simp (disch := omega) only [wk, tis, Int.reduceNe, Int.reduceEq, Int.reduceLT, Int.reduceLE, Int.reduceAdd, Int.reduceSub, Int.reduceNeg, Int.reduceMul, Int.reduceToNat, Nat.reduceSub, Nat.reduceMul, Nat.reduceLeDiff, Nat.reduceAdd, Nat.reduceLT, Nat.reduceEqDiff, reduceCtorEq, ↓reduceIte]
  refine call_by ((tP_ok [1, 1] (by decide) (by decide))) (by rfl) (by simp) ?_
  simp (disch := omega) only [wk, tis, Int.reduceNe, Int.reduceEq, Int.reduceLT, Int.reduceLE, Int.reduceAdd, Int.reduceSub, Int.reduceNeg, Int.reduceMul, Int.reduceToNat, Nat.reduceSub, Nat.reduceMul, Nat.reduceLeDiff, Nat.reduceAdd, Nat.reduceLT, Nat.reduceEqDiff, reduceCtorEq, ↓reduceIte]
  have m := tinto_g (a := cn [1]) (b := cn [1, 1]) (out := out) hp (rp_cn (sm (by decide) (by decide))) (rp_cn (sm (by decide) (by decide))) (ps_cn _) (ps_cn _) eo
  refine call_by (m) (by rfl) (by simp) ?_
  simp (disch := omega) only [wk, tis, Int.reduceNe, Int.reduceEq, Int.reduceLT, Int.reduceLE, Int.reduceAdd, Int.reduceSub, Int.reduceNeg, Int.reduceMul, Int.reduceToNat, Nat.reduceSub, Nat.reduceMul, Nat.reduceLeDiff, Nat.reduceAdd, Nat.reduceLT, Nat.reduceEqDiff, reduceCtorEq, ↓reduceIte]

theorem thalves_g {p : List RI} {out out2 : List Int} (hp : RP (2 ^ 8) (2 ^ 20) p) (eo : ps out = hom (trimz (pv p)) (ps [0, 1]) (ps [2])) (eo2 : ps out2 = hom (trimz (pv p)) (ps [1, 1]) (ps [2])) : AC Tryz.prog 18 [cw p] none [cp out, cp out2] := by
  refine AC.by_walk (rs := [.tmp 2, .tmp 3]) ords Tryz.func18 (by rfl) (by rfl) (by rfl) (by rfl) (by rfl) ?_
  simp (disch := omega) only [wk, tis, Int.reduceNe, Int.reduceEq, Int.reduceLT, Int.reduceLE, Int.reduceAdd, Int.reduceSub, Int.reduceNeg, Int.reduceMul, Int.reduceToNat, Nat.reduceSub, Nat.reduceMul, Nat.reduceLeDiff, Nat.reduceAdd, Nat.reduceLT, Nat.reduceEqDiff, reduceCtorEq, ↓reduceIte]
  refine call_by ((tP_ok [0, 1] (by decide) (by decide))) (by rfl) (by simp) ?_
  simp (disch := omega) only [wk, tis, Int.reduceNe, Int.reduceEq, Int.reduceLT, Int.reduceLE, Int.reduceAdd, Int.reduceSub, Int.reduceNeg, Int.reduceMul, Int.reduceToNat, Nat.reduceSub, Nat.reduceMul, Nat.reduceLeDiff, Nat.reduceAdd, Nat.reduceLT, Nat.reduceEqDiff, reduceCtorEq, ↓reduceIte]
  refine call_by ((tP_ok [2] (by decide) (by decide))) (by rfl) (by simp) ?_
  simp (disch := omega) only [wk, tis, Int.reduceNe, Int.reduceEq, Int.reduceLT, Int.reduceLE, Int.reduceAdd, Int.reduceSub, Int.reduceNeg, Int.reduceMul, Int.reduceToNat, Nat.reduceSub, Nat.reduceMul, Nat.reduceLeDiff, Nat.reduceAdd, Nat.reduceLT, Nat.reduceEqDiff, reduceCtorEq, ↓reduceIte]
  have m := tinto_g (a := cn [0, 1]) (b := cn [2]) (out := out) hp (rp_cn (sm (by decide) (by decide))) (rp_cn (sm (by decide) (by decide))) (ps_cn _) (ps_cn _) eo
  refine call_by (m) (by rfl) (by simp) ?_
  simp (disch := omega) only [wk, tis, Int.reduceNe, Int.reduceEq, Int.reduceLT, Int.reduceLE, Int.reduceAdd, Int.reduceSub, Int.reduceNeg, Int.reduceMul, Int.reduceToNat, Nat.reduceSub, Nat.reduceMul, Nat.reduceLeDiff, Nat.reduceAdd, Nat.reduceLT, Nat.reduceEqDiff, reduceCtorEq, ↓reduceIte]
  refine call_by ((tP_ok [1, 1] (by decide) (by decide))) (by rfl) (by simp) ?_
  simp (disch := omega) only [wk, tis, Int.reduceNe, Int.reduceEq, Int.reduceLT, Int.reduceLE, Int.reduceAdd, Int.reduceSub, Int.reduceNeg, Int.reduceMul, Int.reduceToNat, Nat.reduceSub, Nat.reduceMul, Nat.reduceLeDiff, Nat.reduceAdd, Nat.reduceLT, Nat.reduceEqDiff, reduceCtorEq, ↓reduceIte]
  refine call_by ((tP_ok [2] (by decide) (by decide))) (by rfl) (by simp) ?_
  simp (disch := omega) only [wk, tis, Int.reduceNe, Int.reduceEq, Int.reduceLT, Int.reduceLE, Int.reduceAdd, Int.reduceSub, Int.reduceNeg, Int.reduceMul, Int.reduceToNat, Nat.reduceSub, Nat.reduceMul, Nat.reduceLeDiff, Nat.reduceAdd, Nat.reduceLT, Nat.reduceEqDiff, reduceCtorEq, ↓reduceIte]
  have m2 := tinto_g (a := cn [1, 1]) (b := cn [2]) (out := out2) hp (rp_cn (sm (by decide) (by decide))) (rp_cn (sm (by decide) (by decide))) (ps_cn _) (ps_cn _) eo2
  refine call_by (m2) (by rfl) (by simp) ?_
  simp (disch := omega) only [wk, tis, Int.reduceNe, Int.reduceEq, Int.reduceLT, Int.reduceLE, Int.reduceAdd, Int.reduceSub, Int.reduceNeg, Int.reduceMul, Int.reduceToNat, Nat.reduceSub, Nat.reduceMul, Nat.reduceLeDiff, Nat.reduceAdd, Nat.reduceLT, Nat.reduceEqDiff, reduceCtorEq, ↓reduceIte]
end Go.Proofs.YthgecppfgdadiaaGreat

namespace Go.Proofs.YthgecppfgdadiaaGreat
open Go Go.Proofs Go.AL
set_option linter.unusedSimpArgs false
set_option linter.unusedVariables false

theorem tshrink_bad (p : List RI) (k : Int) (h : k < 0 ∨ 65536 < k) : AC Tryz.prog 26 [cw p, ci k] none [cp [], ci 3] := by
  refine AC.by_walk (rs := [.tmp 4, .tmp 5]) ords Tryz.func26 (by rfl) (by rfl) (by rfl) (by rfl) (by rfl) ?_
  by_cases h1 : k < 0
  · simp (disch := omega) only [wk, tis, Int.reduceNe, Int.reduceEq, Int.reduceLT, Int.reduceLE, Int.reduceAdd, Int.reduceSub, Int.reduceNeg, Int.reduceMul, Int.reduceToNat, Nat.reduceSub, Nat.reduceMul, Nat.reduceLeDiff, Nat.reduceAdd, Nat.reduceLT, Nat.reduceEqDiff, reduceCtorEq, ↓reduceIte, h1]
    rfl
  · have h2 : 65536 < k := by omega
    simp (disch := omega) only [wk, tis, Int.reduceNe, Int.reduceEq, Int.reduceLT, Int.reduceLE, Int.reduceAdd, Int.reduceSub, Int.reduceNeg, Int.reduceMul, Int.reduceToNat, Nat.reduceSub, Nat.reduceMul, Nat.reduceLeDiff, Nat.reduceAdd, Nat.reduceLT, Nat.reduceEqDiff, reduceCtorEq, ↓reduceIte, h1, h2]
    rfl

theorem wd_lim2 (n : Nat) : Lim (wd (2 ^ n)) := lim_wd _

theorem tshrink_ok (p : List RI) (k : Nat) (hp : RP (2 ^ 8) (2 ^ 10) p) (hk : k ≤ 65536) : AC Tryz.prog 26 [cw p, ci k] none [cp (wt (2 ^ k) (trimz (pv p))), ci 0] := by
  have hb := zl_wt2 (k := k) hp.pv.trimz (by omega)
  have hl : cpoly (pv p) = raws ((trimz (pv p)).map canon) := rfl
  refine AC.by_walk (rs := [.tmp 4, .tmp 5]) ords Tryz.func26 (by rfl) (by rfl) (by rfl) (by rfl) (by rfl) ?_
  have h1 : ¬ (k : Int) < 0 := by omega
  have h2 : ¬ 65536 < (k : Int) := by omega
  simp (disch := omega) only [wk, tis, Int.reduceNe, Int.reduceEq, Int.reduceLT, Int.reduceLE, Int.reduceAdd, Int.reduceSub, Int.reduceNeg, Int.reduceMul, Int.reduceToNat, Nat.reduceSub, Nat.reduceMul, Nat.reduceLeDiff, Nat.reduceAdd, Nat.reduceLT, Nat.reduceEqDiff, reduceCtorEq, ↓reduceIte, h1, h2]
  refine call_by ((tN_ok p (hp.mono (by omega) (by omega)))) (by first | rfl | (simp only [tocvs, tocv, h1, h2]; rfl) | (simp only [tocvs, tocv, toboxes, tobox, updH_at, Nat.reduceEqDiff, ↓reduceIte, h1, h2]; rfl)) (by simp) ?_
  simp (disch := omega) only [wk, tis, Int.reduceNe, Int.reduceEq, Int.reduceLT, Int.reduceLE, Int.reduceAdd, Int.reduceSub, Int.reduceNeg, Int.reduceMul, Int.reduceToNat, Nat.reduceSub, Nat.reduceMul, Nat.reduceLeDiff, Nat.reduceAdd, Nat.reduceLT, Nat.reduceEqDiff, reduceCtorEq, ↓reduceIte, h1, h2]
  rw [hl]
  have hA := hp.pv.trimz
  generalize trimz (pv p) = A at *
  have hAl := hA.1
  have hq : (A.map canon).length = A.length := by simp
  have hwl := wt_len (2 ^ k) A
  have hk1 : A.length * k ≤ 2 ^ 24 := Nat.le_trans (Nat.mul_le_mul hAl hk) (by omega)
  refine aloop_nil 6 6 27 2 (by simp (disch := omega) only [wk, tis, Int.reduceNe, Int.reduceEq, Int.reduceLT, Int.reduceLE, Int.reduceAdd, Int.reduceSub, Int.reduceNeg, Int.reduceMul, Int.reduceToNat, Nat.reduceSub, Nat.reduceMul, Nat.reduceLeDiff, Nat.reduceAdd, Nat.reduceLT, Nat.reduceEqDiff, reduceCtorEq, ↓reduceIte]) (fun f H => ∃ (i st : Nat), i ≤ A.length ∧ f 7 = .iv (.int .i64 i) ∧ f 0 = .iv (.sl (raws (A.map canon))) ∧ f 1 = .iv (.int .i64 k) ∧ f 6 = .hs 6 st ∧ H 6 = .blk false st 27 2 (raws (((wt (2 ^ k) A).take i).map canon))) (fun f H => (A.length - intAt f 7).toNat) ?_ ?_
  · refine ⟨0, 1, by omega, ?_⟩
    simp (disch := omega) only [wk, tis, Int.reduceNe, Int.reduceEq, Int.reduceLT, Int.reduceLE, Int.reduceAdd, Int.reduceSub, Int.reduceNeg, Int.reduceMul, Int.reduceToNat, Nat.reduceSub, Nat.reduceMul, Nat.reduceLeDiff, Nat.reduceAdd, Nat.reduceLT, Nat.reduceEqDiff, reduceCtorEq, ↓reduceIte, ghostF, ghostH, List.take_zero, h1, h2]
  rintro f H ⟨i, st, hi, hF⟩
  rw [intAt_of hF.1]
  simp (disch := omega) only [wk, tis, Int.reduceNe, Int.reduceEq, Int.reduceLT, Int.reduceLE, Int.reduceAdd, Int.reduceSub, Int.reduceNeg, Int.reduceMul, Int.reduceToNat, Nat.reduceSub, Nat.reduceMul, Nat.reduceLeDiff, Nat.reduceAdd, Nat.reduceLT, Nat.reduceEqDiff, reduceCtorEq, ↓reduceIte, hF]
  simp (disch := omega) only [wk, tis, Int.reduceNe, Int.reduceEq, Int.reduceLT, Int.reduceLE, Int.reduceAdd, Int.reduceSub, Int.reduceNeg, Int.reduceMul, Int.reduceToNat, Nat.reduceSub, Nat.reduceMul, Nat.reduceLeDiff, Nat.reduceAdd, Nat.reduceLT, Nat.reduceEqDiff, reduceCtorEq, ↓reduceIte, hq]
  refine if_by (fun hlt => ?_) (fun hlt => ?_)
  · have hqw : (((wt (2 ^ k) A).take i).map canon).length = i := by rw [List.length_map, List.length_take]; omega
    obtain ⟨m, hm⟩ : ∃ m : Nat, m = k * (A.length - 1 - i) := ⟨_, rfl⟩
    have hmb : m ≤ 67108864 := by
      rw [hm]
      exact Nat.le_trans (Nat.mul_le_mul hk (show A.length - 1 - i ≤ 1024 by omega)) (by omega)
    have em : (k : Int) * ((A.length : Int) - 1 - i) = (m : Int) := by rw [hm]; push_cast; congr 1; omega
    have zi := hA.cf i
    have zp := zl_pow2 m
    simp (disch := omega) only [wk, tis, Int.reduceNe, Int.reduceEq, Int.reduceLT, Int.reduceLE, Int.reduceAdd, Int.reduceSub, Int.reduceNeg, Int.reduceMul, Int.reduceToNat, Nat.reduceSub, Nat.reduceMul, Nat.reduceLeDiff, Nat.reduceAdd, Nat.reduceLT, Nat.reduceEqDiff, reduceCtorEq, ↓reduceIte, hF, hq, em, hqw]
    refine ⟨tmps_by (by kernel_rfl), ?_⟩
    refine call_by ((rtwo_ok m (by omega))) (by first | rfl | (simp only [tocvs, tocv, hF, hq, em, hqw]; rfl) | (simp only [tocvs, tocv, toboxes, tobox, updH_at, Nat.reduceEqDiff, ↓reduceIte, hF, hq, em, hqw]; rfl)) (by simp) ?_
    simp (disch := omega) only [wk, tis, Int.reduceNe, Int.reduceEq, Int.reduceLT, Int.reduceLE, Int.reduceAdd, Int.reduceSub, Int.reduceNeg, Int.reduceMul, Int.reduceToNat, Nat.reduceSub, Nat.reduceMul, Nat.reduceLeDiff, Nat.reduceAdd, Nat.reduceLT, Nat.reduceEqDiff, reduceCtorEq, ↓reduceIte, hF, hq, em, hqw]
    have hlw : (wd (2 ^ m)).length ≤ m / 64 + 1 := by
      have : zl (2 ^ m : Int) = (wd (2 ^ m)).length := by unfold zl; rw [Int.natAbs_pow]; rfl
      omega
    have q := rI_ok false (wd (2 ^ m)) (lim_wd _) (by omega)
    rw [nv_wd] at q
    have e2 : sg false (2 ^ m) = (2 : Int) ^ m := by unfold sg; simp
    rw [e2] at q
    refine call_by (q) (by first | rfl | (simp only [tocvs, tocv, hF, hq, em, hqw]; rfl) | (simp only [tocvs, tocv, toboxes, tobox, updH_at, Nat.reduceEqDiff, ↓reduceIte, hF, hq, em, hqw]; rfl)) (by simp) ?_
    simp (disch := omega) only [wk, tis, Int.reduceNe, Int.reduceEq, Int.reduceLT, Int.reduceLE, Int.reduceAdd, Int.reduceSub, Int.reduceNeg, Int.reduceMul, Int.reduceToNat, Nat.reduceSub, Nat.reduceMul, Nat.reduceLeDiff, Nat.reduceAdd, Nat.reduceLT, Nat.reduceEqDiff, reduceCtorEq, ↓reduceIte, hF, hq, em, hqw]
    have r := rMul_ok (canon (cf A i)) (canon (2 ^ m)) ((sz_canon _).mono (by omega)) ((sz_canon _).mono (by omega))
    rw [iv_canon, iv_canon] at r
    refine call_by (r) (by first | rfl | (simp only [tocvs, tocv, hF, hq, em, hqw]; rfl) | (simp only [tocvs, tocv, toboxes, tobox, updH_at, Nat.reduceEqDiff, ↓reduceIte, hF, hq, em, hqw]; rfl)) (by simp) ?_
    simp (disch := omega) only [wk, tis, Int.reduceNe, Int.reduceEq, Int.reduceLT, Int.reduceLE, Int.reduceAdd, Int.reduceSub, Int.reduceNeg, Int.reduceMul, Int.reduceToNat, Nat.reduceSub, Nat.reduceMul, Nat.reduceLeDiff, Nat.reduceAdd, Nat.reduceLT, Nat.reduceEqDiff, reduceCtorEq, ↓reduceIte, hF, hq, em, hqw]
    first | exact log_by (by kernel_rfl) | refine ⟨log_by (by kernel_rfl), ?_⟩
    have ew : cf A i * 2 ^ m = cf (wt (2 ^ k) A) i := by rw [cf_wt, hm, Int.pow_mul]
    have e : (wt (2 ^ k) A).take (i + 1) = (wt (2 ^ k) A).take i ++ [cf A i * 2 ^ m] := by
      rw [ew, List.take_add_one]
      congr 1
      simp [cf, List.getD, show i < (wt (2 ^ k) A).length by omega]
    exact ⟨⟨i + 1, st + 1, by omega, by omega, by rw [e]; exact ⟨rfl, rfl⟩⟩, by omega⟩
  · simp (disch := omega) only [wk, tis, Int.reduceNe, Int.reduceEq, Int.reduceLT, Int.reduceLE, Int.reduceAdd, Int.reduceSub, Int.reduceNeg, Int.reduceMul, Int.reduceToNat, Nat.reduceSub, Nat.reduceMul, Nat.reduceLeDiff, Nat.reduceAdd, Nat.reduceLT, Nat.reduceEqDiff, reduceCtorEq, ↓reduceIte, hF, hq]
    rw [List.take_of_length_le (by omega)] at hF
    have m := tN_ok ((wt (2 ^ k) A).map canon) (RP.canon (hb.mono (by omega) (by omega)))
    rw [pv_canon] at m
    refine call_by (m) (by first | rfl | (simp only [tocvs, tocv, hF, hq]; rfl) | (simp only [tocvs, tocv, toboxes, tobox, updH_at, Nat.reduceEqDiff, ↓reduceIte, hF, hq]; rfl)) (by simp) ?_
    simp (disch := omega) only [wk, tis, Int.reduceNe, Int.reduceEq, Int.reduceLT, Int.reduceLE, Int.reduceAdd, Int.reduceSub, Int.reduceNeg, Int.reduceMul, Int.reduceToNat, Nat.reduceSub, Nat.reduceMul, Nat.reduceLeDiff, Nat.reduceAdd, Nat.reduceLT, Nat.reduceEqDiff, reduceCtorEq, ↓reduceIte, hF, hq]

theorem rv_bad2 {m : Int} {n : Nat} (hm : m < 0 ∨ m < (n : Int) - 1 ∨ 65536 < m) : m < (n : Int) - 1 ∨ (¬ m < (n : Int) - 1 ∧ m < 0) ∨ (¬ m < (n : Int) - 1 ∧ ¬ m < 0 ∧ 65536 < m) := by omega

theorem treverse_bad (p : List RI) (m : Int) (hp : RP (2 ^ 10) (2 ^ 20) p) (hm : m < 0 ∨ m < (tz (pv p) : Int) - 1 ∨ 65536 < m) : AC Tryz.prog 28 [cw p, ci m] none [cp [], ci 3] := by
  have hcl := cpoly_len' (pv p)
  have htl := tz_le (pv p)
  have hpl : (pv p).length ≤ 2 ^ 10 := hp.pv.1
  refine AC.by_walk (rs := [.tmp 4, .tmp 5]) ords Tryz.func28 (by rfl) (by rfl) (by rfl) (by rfl) (by rfl) ?_
  have hn := tN_ok p (hp.mono (by omega) (by omega))
  simp (disch := omega) only [wk, tis, Int.reduceNe, Int.reduceEq, Int.reduceLT, Int.reduceLE, Int.reduceAdd, Int.reduceSub, Int.reduceNeg, Int.reduceMul, Int.reduceToNat, Nat.reduceSub, Nat.reduceMul, Nat.reduceLeDiff, Nat.reduceAdd, Nat.reduceLT, Nat.reduceEqDiff, reduceCtorEq, ↓reduceIte]
  rcases rv_bad2 hm with h | ⟨h, h2⟩ | ⟨h, h2, h3⟩
  · skip
    refine call_by (hn) (by first | rfl | (simp only [tocvs, tocv, h, hcl]; rfl) | (simp only [tocvs, tocv, toboxes, tobox, updH_at, Nat.reduceEqDiff, ↓reduceIte, h, hcl]; rfl)) (by simp) ?_
    simp (disch := omega) only [wk, tis, Int.reduceNe, Int.reduceEq, Int.reduceLT, Int.reduceLE, Int.reduceAdd, Int.reduceSub, Int.reduceNeg, Int.reduceMul, Int.reduceToNat, Nat.reduceSub, Nat.reduceMul, Nat.reduceLeDiff, Nat.reduceAdd, Nat.reduceLT, Nat.reduceEqDiff, reduceCtorEq, ↓reduceIte, h, hcl]
    rfl
  · skip
    refine call_by (hn) (by first | rfl | (simp only [tocvs, tocv, h, h2, hcl]; rfl) | (simp only [tocvs, tocv, toboxes, tobox, updH_at, Nat.reduceEqDiff, ↓reduceIte, h, h2, hcl]; rfl)) (by simp) ?_
    simp (disch := omega) only [wk, tis, Int.reduceNe, Int.reduceEq, Int.reduceLT, Int.reduceLE, Int.reduceAdd, Int.reduceSub, Int.reduceNeg, Int.reduceMul, Int.reduceToNat, Nat.reduceSub, Nat.reduceMul, Nat.reduceLeDiff, Nat.reduceAdd, Nat.reduceLT, Nat.reduceEqDiff, reduceCtorEq, ↓reduceIte, h, h2, hcl]
    rfl
  · skip
    refine call_by (hn) (by first | rfl | (simp only [tocvs, tocv, h, h2, h3, hcl]; rfl) | (simp only [tocvs, tocv, toboxes, tobox, updH_at, Nat.reduceEqDiff, ↓reduceIte, h, h2, h3, hcl]; rfl)) (by simp) ?_
    simp (disch := omega) only [wk, tis, Int.reduceNe, Int.reduceEq, Int.reduceLT, Int.reduceLE, Int.reduceAdd, Int.reduceSub, Int.reduceNeg, Int.reduceMul, Int.reduceToNat, Nat.reduceSub, Nat.reduceMul, Nat.reduceLeDiff, Nat.reduceAdd, Nat.reduceLT, Nat.reduceEqDiff, reduceCtorEq, ↓reduceIte, h, h2, h3, hcl]
    rfl

theorem treverse_ok (p : List RI) (m : Nat) (hp : RP (2 ^ 10) (2 ^ 20) p) (hm : m ≤ 65536) (hm2 : tz (pv p) ≤ m + 1) : AC Tryz.prog 28 [cw p, ci m] none [cp (rv m (pv p)), ci 0] := by
  have hcl := cpoly_len' (pv p)
  refine AC.by_walk (rs := [.tmp 4, .tmp 5]) ords Tryz.func28 (by rfl) (by rfl) (by rfl) (by rfl) (by rfl) ?_
  have hn := tN_ok p (hp.mono (by omega) (by omega))
  have h1 : ¬ (m : Int) < 0 := by omega
  have h2 : ¬ (m : Int) < (tz (pv p) : Int) - 1 := by omega
  have h3 : ¬ 65536 < (m : Int) := by omega
  simp (disch := omega) only [wk, tis, Int.reduceNe, Int.reduceEq, Int.reduceLT, Int.reduceLE, Int.reduceAdd, Int.reduceSub, Int.reduceNeg, Int.reduceMul, Int.reduceToNat, Nat.reduceSub, Nat.reduceMul, Nat.reduceLeDiff, Nat.reduceAdd, Nat.reduceLT, Nat.reduceEqDiff, reduceCtorEq, ↓reduceIte]
  refine call_by (hn) (by first | rfl | (simp only [tocvs, tocv, h1, h2, h3, hcl]; rfl) | (simp only [tocvs, tocv, toboxes, tobox, updH_at, Nat.reduceEqDiff, ↓reduceIte, h1, h2, h3, hcl]; rfl)) (by simp) ?_
  simp (disch := omega) only [wk, tis, Int.reduceNe, Int.reduceEq, Int.reduceLT, Int.reduceLE, Int.reduceAdd, Int.reduceSub, Int.reduceNeg, Int.reduceMul, Int.reduceToNat, Nat.reduceSub, Nat.reduceMul, Nat.reduceLeDiff, Nat.reduceAdd, Nat.reduceLT, Nat.reduceEqDiff, reduceCtorEq, ↓reduceIte, h1, h2, h3, hcl]
  refine if_by (fun hz => ?_) (fun hz => ?_)
  · simp (disch := omega) only [wk, tis, Int.reduceNe, Int.reduceEq, Int.reduceLT, Int.reduceLE, Int.reduceAdd, Int.reduceSub, Int.reduceNeg, Int.reduceMul, Int.reduceToNat, Nat.reduceSub, Nat.reduceMul, Nat.reduceLeDiff, Nat.reduceAdd, Nat.reduceLT, Nat.reduceEqDiff, reduceCtorEq, ↓reduceIte, h1, h2, h3, hcl]
    have e : cp (rv m (pv p)) = cp [] := cp_ext fun k => by
      rw [cf_rv, cf_nil]
      split
      · exact cf_ge_tz _ (by omega)
      · rfl
    exact (congrArg (fun c => match c with | CV.iv x => x | _ => IV.sl []) e).symm
  have em : (m : Int) + 1 = ((m + 1 : Nat) : Int) := by omega
  simp (disch := omega) only [wk, tis, Int.reduceNe, Int.reduceEq, Int.reduceLT, Int.reduceLE, Int.reduceAdd, Int.reduceSub, Int.reduceNeg, Int.reduceMul, Int.reduceToNat, Nat.reduceSub, Nat.reduceMul, Nat.reduceLeDiff, Nat.reduceAdd, Nat.reduceLT, Nat.reduceEqDiff, reduceCtorEq, ↓reduceIte, em, h1, h2, h3, hcl]
  refine aloop_by (fun f H => ∃ (i st : Nat) (cur : List Int), i ≤ tz (pv p) ∧ cur.length = m + 1 ∧ (∀ j, cf cur j = if m < j + i ∧ j ≤ m then cf (pv p) (m - j) else 0) ∧ f 7 = .iv (.int .i64 i) ∧ f 0 = .iv (.sl (cpoly (pv p))) ∧ f 1 = .iv (.int .i64 m) ∧ f 6 = .hs 29 st ∧ H 29 = .blk false st 27 2 (raws (cur.map canon))) (fun f H => ((tz (pv p)) - intAt f 7).toNat) ?_ ?_
  · refine ⟨0, 1, List.replicate (m + 1) 0, by omega, by simp, fun j => by rw [cf_rep, if_neg (by omega)], ?_⟩
    simp (disch := omega) only [wk, tis, Int.reduceNe, Int.reduceEq, Int.reduceLT, Int.reduceLE, Int.reduceAdd, Int.reduceSub, Int.reduceNeg, Int.reduceMul, Int.reduceToNat, Nat.reduceSub, Nat.reduceMul, Nat.reduceLeDiff, Nat.reduceAdd, Nat.reduceLT, Nat.reduceEqDiff, reduceCtorEq, ↓reduceIte, rep_canon]
  rintro f H ⟨i, st, cur, hi, hcl2, hc, hF⟩
  rw [intAt_of hF.1]
  simp (disch := omega) only [wk, tis, Int.reduceNe, Int.reduceEq, Int.reduceLT, Int.reduceLE, Int.reduceAdd, Int.reduceSub, Int.reduceNeg, Int.reduceMul, Int.reduceToNat, Nat.reduceSub, Nat.reduceMul, Nat.reduceLeDiff, Nat.reduceAdd, Nat.reduceLT, Nat.reduceEqDiff, reduceCtorEq, ↓reduceIte, hF]
  simp (disch := omega) only [wk, tis, Int.reduceNe, Int.reduceEq, Int.reduceLT, Int.reduceLE, Int.reduceAdd, Int.reduceSub, Int.reduceNeg, Int.reduceMul, Int.reduceToNat, Nat.reduceSub, Nat.reduceMul, Nat.reduceLeDiff, Nat.reduceAdd, Nat.reduceLT, Nat.reduceEqDiff, reduceCtorEq, ↓reduceIte, hcl]
  have hq : (cur.map canon).length = m + 1 := by simp [hcl2]
  refine if_by (fun hlt => ?_) (fun hlt => ?_)
  · have eg := cpoly_getD (pv p) (i := i) (by omega)
    have ei : (m : Int) - i = ((m - i : Nat) : Int) := by omega
    simp (disch := omega) only [wk, tis, Int.reduceNe, Int.reduceEq, Int.reduceLT, Int.reduceLE, Int.reduceAdd, Int.reduceSub, Int.reduceNeg, Int.reduceMul, Int.reduceToNat, Nat.reduceSub, Nat.reduceMul, Nat.reduceLeDiff, Nat.reduceAdd, Nat.reduceLT, Nat.reduceEqDiff, reduceCtorEq, ↓reduceIte, hF, hq, hcl, eg, ei]
    refine ⟨⟨i + 1, st, cur.set (m - i) (cf (pv p) i), by omega, by simp [hcl2], fun j => ?_, by omega, rfl, rfl⟩, by omega⟩
    rw [cf_set (by omega), hc]
    by_cases hj : j = m - i
    · rw [if_pos hj, if_pos (by omega), show m - j = i by omega]
    · rw [if_neg hj]
      by_cases hj2 : m < j + i ∧ j ≤ m
      · rw [if_pos hj2, if_pos (by omega)]
      · rw [if_neg hj2, if_neg (by omega)]
  · have ew : cur = rv m (pv p) := ext_cf (by simp [rv, hcl2]) fun j hj => by
      rw [hc, cf_rv]
      by_cases hj2 : m < j + i ∧ j ≤ m
      · rw [if_pos hj2, if_pos hj2.2]
      · rw [if_neg hj2, if_pos (by omega), cf_ge_tz _ (by omega)]
    subst ew
    simp (disch := omega) only [wk, tis, Int.reduceNe, Int.reduceEq, Int.reduceLT, Int.reduceLE, Int.reduceAdd, Int.reduceSub, Int.reduceNeg, Int.reduceMul, Int.reduceToNat, Nat.reduceSub, Nat.reduceMul, Nat.reduceLeDiff, Nat.reduceAdd, Nat.reduceLT, Nat.reduceEqDiff, reduceCtorEq, ↓reduceIte, hF, hq, hcl]
    have hb : PB (2 ^ 20) (2 ^ 20) (rv m (pv p)) := .of (by omega) fun j => by
      rw [cf_rv]
      split
      · exact hp.pv.cf _
      · rw [zl_zero]; omega
    have q := tN_ok ((rv m (pv p)).map canon) (RP.canon (hb.mono (by omega) (by omega)))
    rw [pv_canon] at q
    refine call_by (q) (by first | rfl | (simp only [tocvs, tocv, hF, hq, hcl]; rfl) | (simp only [tocvs, tocv, toboxes, tobox, updH_at, Nat.reduceEqDiff, ↓reduceIte, hF, hq, hcl]; rfl)) (by simp) ?_
    simp (disch := omega) only [wk, tis, Int.reduceNe, Int.reduceEq, Int.reduceLT, Int.reduceLE, Int.reduceAdd, Int.reduceSub, Int.reduceNeg, Int.reduceMul, Int.reduceToNat, Nat.reduceSub, Nat.reduceMul, Nat.reduceLeDiff, Nat.reduceAdd, Nat.reduceLT, Nat.reduceEqDiff, reduceCtorEq, ↓reduceIte, hF, hq, hcl]

theorem tlow_zero (p : List RI) (hp : RP (2 ^ 10) (2 ^ 20) p) (h : tz (pv p) = 0) : AC Tryz.prog 30 [cw p] none [ci 0, cp [], ci 1] := by
  have hn := tN_ok p (hp.mono (by omega) (by omega))
  have e : cp (pv p) = cp [] := by unfold cp cpoly; rw [trimz_nil h]; rfl
  rw [e] at hn
  refine AC.by_walk (rs := [.tmp 2, .tmp 3, .tmp 4]) ords Tryz.func30 (by rfl) (by rfl) (by rfl) (by rfl) (by rfl) ?_
  simp (disch := omega) only [wk, tis, Int.reduceNe, Int.reduceEq, Int.reduceLT, Int.reduceLE, Int.reduceAdd, Int.reduceSub, Int.reduceNeg, Int.reduceMul, Int.reduceToNat, Nat.reduceSub, Nat.reduceMul, Nat.reduceLeDiff, Nat.reduceAdd, Nat.reduceLT, Nat.reduceEqDiff, reduceCtorEq, ↓reduceIte]
  have hc0 : cpoly [] = [] := rfl
  refine call_by (hn) (by first | rfl | (simp only [tocvs, tocv, hc0]; rfl) | (simp only [tocvs, tocv, toboxes, tobox, updH_at, Nat.reduceEqDiff, ↓reduceIte, hc0]; rfl)) (by simp) ?_
  simp (disch := omega) only [wk, tis, Int.reduceNe, Int.reduceEq, Int.reduceLT, Int.reduceLE, Int.reduceAdd, Int.reduceSub, Int.reduceNeg, Int.reduceMul, Int.reduceToNat, Nat.reduceSub, Nat.reduceMul, Nat.reduceLeDiff, Nat.reduceAdd, Nat.reduceLT, Nat.reduceEqDiff, reduceCtorEq, ↓reduceIte, hc0]
  refine aloop_by (fun f H => ∃ (i : Nat), i = 0 ∧ f 5 = .iv (.int .i64 i) ∧ f 0 = .iv (.sl [])) (fun f H => (0 - intAt f 5).toNat) ?_ ?_
  · refine ⟨0, rfl, ?_⟩
    simp (disch := omega) only [wk, tis, Int.reduceNe, Int.reduceEq, Int.reduceLT, Int.reduceLE, Int.reduceAdd, Int.reduceSub, Int.reduceNeg, Int.reduceMul, Int.reduceToNat, Nat.reduceSub, Nat.reduceMul, Nat.reduceLeDiff, Nat.reduceAdd, Nat.reduceLT, Nat.reduceEqDiff, reduceCtorEq, ↓reduceIte]
  rintro f H ⟨i, hi, hF⟩
  rw [intAt_of hF.1]
  simp (disch := omega) only [wk, tis, Int.reduceNe, Int.reduceEq, Int.reduceLT, Int.reduceLE, Int.reduceAdd, Int.reduceSub, Int.reduceNeg, Int.reduceMul, Int.reduceToNat, Nat.reduceSub, Nat.reduceMul, Nat.reduceLeDiff, Nat.reduceAdd, Nat.reduceLT, Nat.reduceEqDiff, reduceCtorEq, ↓reduceIte, hF]
  subst hi
  simp (disch := omega) only [wk, tis, Int.reduceNe, Int.reduceEq, Int.reduceLT, Int.reduceLE, Int.reduceAdd, Int.reduceSub, Int.reduceNeg, Int.reduceMul, Int.reduceToNat, Nat.reduceSub, Nat.reduceMul, Nat.reduceLeDiff, Nat.reduceAdd, Nat.reduceLT, Nat.reduceEqDiff, reduceCtorEq, ↓reduceIte, hF]
  rfl

theorem tlow_ok (p : List RI) (e : Nat) (hp : RP (2 ^ 10) (2 ^ 20) p) (he : e < tz (pv p)) (h0 : cf (pv p) e ≠ 0) (h1 : ∀ j, j < e → cf (pv p) j = 0) : AC Tryz.prog 30 [cw p] none [ci e, cp ((pv p).drop e), ci 0] := by
  refine AC.by_walk (rs := [.tmp 2, .tmp 3, .tmp 4]) ords Tryz.func30 (by rfl) (by rfl) (by rfl) (by rfl) (by rfl) ?_
  simp (disch := omega) only [wk, tis, Int.reduceNe, Int.reduceEq, Int.reduceLT, Int.reduceLE, Int.reduceAdd, Int.reduceSub, Int.reduceNeg, Int.reduceMul, Int.reduceToNat, Nat.reduceSub, Nat.reduceMul, Nat.reduceLeDiff, Nat.reduceAdd, Nat.reduceLT, Nat.reduceEqDiff, reduceCtorEq, ↓reduceIte]
  refine call_by ((tN_ok p (hp.mono (by omega) (by omega)))) (by rfl) (by simp) ?_
  simp (disch := omega) only [wk, tis, Int.reduceNe, Int.reduceEq, Int.reduceLT, Int.reduceLE, Int.reduceAdd, Int.reduceSub, Int.reduceNeg, Int.reduceMul, Int.reduceToNat, Nat.reduceSub, Nat.reduceMul, Nat.reduceLeDiff, Nat.reduceAdd, Nat.reduceLT, Nat.reduceEqDiff, reduceCtorEq, ↓reduceIte]
  have hA := hp.pv.trimz
  have ec : cp ((pv p).drop e) = cp ((trimz (pv p)).drop e) := cp_ext fun k => by rw [cf_drop, cf_drop, cf_trimz]
  rw [ec]
  rw [← cf_trimz] at h0
  have h1' : ∀ j, j < e → cf (trimz (pv p)) j = 0 := fun j hj => by rw [cf_trimz]; exact h1 j hj
  rw [← trimz_len] at he
  unfold cpoly
  generalize trimz (pv p) = A at *
  have hAl := hA.1
  have hq : (A.map canon).length = A.length := by simp
  refine aloop_by (fun f H => ∃ (i : Nat), i ≤ e ∧ f 5 = .iv (.int .i64 i) ∧ f 0 = .iv (.sl (raws (A.map canon)))) (fun f H => (e + 1 - intAt f 5).toNat) ?_ ?_
  · refine ⟨0, by omega, ?_⟩
    simp (disch := omega) only [wk, tis, Int.reduceNe, Int.reduceEq, Int.reduceLT, Int.reduceLE, Int.reduceAdd, Int.reduceSub, Int.reduceNeg, Int.reduceMul, Int.reduceToNat, Nat.reduceSub, Nat.reduceMul, Nat.reduceLeDiff, Nat.reduceAdd, Nat.reduceLT, Nat.reduceEqDiff, reduceCtorEq, ↓reduceIte]
  rintro f H ⟨i, hi, hF⟩
  rw [intAt_of hF.1]
  simp (disch := omega) only [wk, tis, Int.reduceNe, Int.reduceEq, Int.reduceLT, Int.reduceLE, Int.reduceAdd, Int.reduceSub, Int.reduceNeg, Int.reduceMul, Int.reduceToNat, Nat.reduceSub, Nat.reduceMul, Nat.reduceLeDiff, Nat.reduceAdd, Nat.reduceLT, Nat.reduceEqDiff, reduceCtorEq, ↓reduceIte, hF]
  have hlt : (i : Int) < A.length := by omega
  have zi := hA.cf i
  simp (disch := omega) only [wk, tis, Int.reduceNe, Int.reduceEq, Int.reduceLT, Int.reduceLE, Int.reduceAdd, Int.reduceSub, Int.reduceNeg, Int.reduceMul, Int.reduceToNat, Nat.reduceSub, Nat.reduceMul, Nat.reduceLeDiff, Nat.reduceAdd, Nat.reduceLT, Nat.reduceEqDiff, reduceCtorEq, ↓reduceIte, hF, hlt, hq]
  have q := rSign_ok (canon (cf A i)) ((sz_canon _).mono (by omega))
  rw [iv_canon] at q
  refine call_by (q) (by first | rfl | (simp only [tocvs, tocv, hF, hlt, hq]; rfl) | (simp only [tocvs, tocv, toboxes, tobox, updH_at, Nat.reduceEqDiff, ↓reduceIte, hF, hlt, hq]; rfl)) (by simp) ?_
  simp (disch := omega) only [wk, tis, Int.reduceNe, Int.reduceEq, Int.reduceLT, Int.reduceLE, Int.reduceAdd, Int.reduceSub, Int.reduceNeg, Int.reduceMul, Int.reduceToNat, Nat.reduceSub, Nat.reduceMul, Nat.reduceLeDiff, Nat.reduceAdd, Nat.reduceLT, Nat.reduceEqDiff, reduceCtorEq, ↓reduceIte, hF, hlt, hq]
  refine if_by (fun hs => ?_) (fun hs => ?_)
  · have hie : i = e := Classical.byContradiction fun hne => hs (by rw [h1' i (by omega)]; rfl)
    subst hie
    have ed : List.take ((A.length : Int) - i).toNat (List.drop i (A.map canon)) = (A.drop i).map canon := by
      rw [List.take_of_length_le (by rw [List.length_drop, hq]; omega), List.map_drop]
    simp (disch := omega) only [wk, tis, Int.reduceNe, Int.reduceEq, Int.reduceLT, Int.reduceLE, Int.reduceAdd, Int.reduceSub, Int.reduceNeg, Int.reduceMul, Int.reduceToNat, Nat.reduceSub, Nat.reduceMul, Nat.reduceLeDiff, Nat.reduceAdd, Nat.reduceLT, Nat.reduceEqDiff, reduceCtorEq, ↓reduceIte, hF, hlt, hq, ed]
    have hb : PB (2 ^ 40) (2 ^ 40) (A.drop i) := ⟨by rw [List.length_drop]; omega, fun z hz => by
      have := hA.2 z (List.mem_of_mem_drop hz)
      omega⟩
    have m := tN_ok ((A.drop i).map canon) (RP.canon hb)
    rw [pv_canon] at m
    refine call_by (m) (by first | rfl | (simp only [tocvs, tocv, hF, hlt, hq, ed]; rfl) | (simp only [tocvs, tocv, toboxes, tobox, updH_at, Nat.reduceEqDiff, ↓reduceIte, hF, hlt, hq, ed]; rfl)) (by simp) ?_
    simp (disch := omega) only [wk, tis, Int.reduceNe, Int.reduceEq, Int.reduceLT, Int.reduceLE, Int.reduceAdd, Int.reduceSub, Int.reduceNeg, Int.reduceMul, Int.reduceToNat, Nat.reduceSub, Nat.reduceMul, Nat.reduceLeDiff, Nat.reduceAdd, Nat.reduceLT, Nat.reduceEqDiff, reduceCtorEq, ↓reduceIte, hF, hlt, hq, ed]
  · have hne : i ≠ e := fun he => h0 (by rw [← he]; exact Int.sign_eq_zero_iff_zero.mp (by simpa using hs))
    simp (disch := omega) only [wk, tis, Int.reduceNe, Int.reduceEq, Int.reduceLT, Int.reduceLE, Int.reduceAdd, Int.reduceSub, Int.reduceNeg, Int.reduceMul, Int.reduceToNat, Nat.reduceSub, Nat.reduceMul, Nat.reduceLeDiff, Nat.reduceAdd, Nat.reduceLT, Nat.reduceEqDiff, reduceCtorEq, ↓reduceIte, hF, hlt, hq]
    refine ⟨⟨i + 1, by omega, by omega⟩, by omega⟩

theorem tinto_bad (p : List RI) (a : RI) (e : Int) (b : Bool) (he : e < 0 ∨ 65536 < e) : AC Tryz.prog 16 [cw p, ccell a e b] none [cp [], ci 3] := by
  refine AC.by_walk (rs := [.tmp 4, .tmp 5]) ords Tryz.func16 (by rfl) (by rfl) (by rfl) (by rfl) (by rfl) ?_
  simp (disch := omega) only [wk, tis, Int.reduceNe, Int.reduceEq, Int.reduceLT, Int.reduceLE, Int.reduceAdd, Int.reduceSub, Int.reduceNeg, Int.reduceMul, Int.reduceToNat, Nat.reduceSub, Nat.reduceMul, Nat.reduceLeDiff, Nat.reduceAdd, Nat.reduceLT, Nat.reduceEqDiff, reduceCtorEq, ↓reduceIte]
  refine call_by ((tshrink_bad p e he)) (by rfl) (by simp) ?_
  simp (disch := omega) only [wk, tis, Int.reduceNe, Int.reduceEq, Int.reduceLT, Int.reduceLE, Int.reduceAdd, Int.reduceSub, Int.reduceNeg, Int.reduceMul, Int.reduceToNat, Nat.reduceSub, Nat.reduceMul, Nat.reduceLeDiff, Nat.reduceAdd, Nat.reduceLT, Nat.reduceEqDiff, reduceCtorEq, ↓reduceIte]
  rfl

theorem tinto_cell {p : List RI} {a : RI} {e : Nat} {b : Bool} {out : List Int} (hp : RP (2 ^ 8) (2 ^ 10) p) (ha : Sz (2 ^ 20) a) (he : e ≤ 65536) (eo : ps out = cmp (wt (2 ^ e) (trimz (pv p))) (ps [iv a, 1])) : AC Tryz.prog 16 [cw p, ccell a e b] none [cp out, ci 0] := by
  have hb := zl_wt2 (k := e) hp.pv.trimz (by omega)
  refine AC.by_walk (rs := [.tmp 4, .tmp 5]) ords Tryz.func16 (by rfl) (by rfl) (by rfl) (by rfl) (by rfl) ?_
  simp (disch := omega) only [wk, tis, Int.reduceNe, Int.reduceEq, Int.reduceLT, Int.reduceLE, Int.reduceAdd, Int.reduceSub, Int.reduceNeg, Int.reduceMul, Int.reduceToNat, Nat.reduceSub, Nat.reduceMul, Nat.reduceLeDiff, Nat.reduceAdd, Nat.reduceLT, Nat.reduceEqDiff, reduceCtorEq, ↓reduceIte]
  refine call_by ((tshrink_ok p e hp he)) (by rfl) (by simp) ?_
  simp (disch := omega) only [wk, tis, Int.reduceNe, Int.reduceEq, Int.reduceLT, Int.reduceLE, Int.reduceAdd, Int.reduceSub, Int.reduceNeg, Int.reduceMul, Int.reduceToNat, Nat.reduceSub, Nat.reduceMul, Nat.reduceLeDiff, Nat.reduceAdd, Nat.reduceLT, Nat.reduceEqDiff, reduceCtorEq, ↓reduceIte]
  generalize wt (2 ^ e) (trimz (pv p)) = V at *
  have m := tshift_g (p := cn V) (a := a) (P := V) (out := out) (rp_cn (hb.mono (by omega) (by omega))) ha (ps_cn _) eo
  refine call_by (m) (by rfl) (by simp) ?_
  simp (disch := omega) only [wk, tis, Int.reduceNe, Int.reduceEq, Int.reduceLT, Int.reduceLE, Int.reduceAdd, Int.reduceSub, Int.reduceNeg, Int.reduceMul, Int.reduceToNat, Nat.reduceSub, Nat.reduceMul, Nat.reduceLeDiff, Nat.reduceAdd, Nat.reduceLT, Nat.reduceEqDiff, reduceCtorEq, ↓reduceIte]
end Go.Proofs.YthgecppfgdadiaaGreat

namespace Go.Proofs.YthgecppfgdadiaaGreat
open Go Go.Proofs Go.AL
set_option linter.unusedSimpArgs false
set_option linter.unusedVariables false

theorem pb_small {p f g : List Int} (hp : PB 9 3 p) (hf : PB 9 3 f) (hg : PB 9 3 g) : PB 100 60 (lhom p f g) := by
  have h := pb_lhom hf hg (by omega) (by omega) hp
  have hl := hp.1
  exact h.mono (by omega) (by omega)
theorem pb_two3 {b a : RI} (hb : Sz 3 b) (ha : Sz 3 a) : PB 9 3 [iv b, iv a] := ⟨by simp, fun z hz => by
  rcases List.mem_cons.1 hz with rfl | hz
  · exact zl_iv hb
  · rw [List.mem_singleton.1 hz]; exact zl_iv ha⟩
theorem pb_sm3 {l : List Int} (hl : l.length ≤ 9) (h : ∀ z ∈ l, z.natAbs < W) : PB 9 3 l := (small_pb l 9 hl h).mono (Nat.le_refl _) (by omega)
theorem one3 : Sz 3 (canon 1) := one_sz (by omega)

theorem pb_sc3 {a : Int} {p : List Int} (hp : PB 9 3 p) (ha : zl a ≤ 3) : PB 100 60 (sc a p) := .of (by rw [sc_len]; exact Nat.le_trans hp.1 (by omega)) fun i => by
  rw [cf_sc]
  by_cases hi : i < p.length
  · have h1 := zl_mul (cf p i) (a ^ i)
    have h2 := zl_pow ha i
    have h3 := hp.cf i
    have h4 := hp.1
    omega
  · rw [cf_ge (by omega), Int.zero_mul, zl_zero]; omega

theorem pb_wt3 {k : Nat} {p : List Int} (hp : PB 9 3 p) (hk : k ≤ 200) : PB 100 60 (wt (2 ^ k) p) := (zl_wt2 hp (by omega)).mono (by omega) (by omega)

theorem plain_ok (x : C11) (h : Ok11 x) : AC Tryz.prog 4 [.agg (case11 x)] none [cb true] := by
  have hl := less_few h
  have hy := few_less h
  generalize lessC x = y at hl hy
  have RP8 : RP (2 ^ 8) (2 ^ 10) y.P := hy.P.mono (by omega) (by omega)
  have RP10 : RP (2 ^ 10) (2 ^ 20) y.P := hy.P.mono (by omega) (by omega)
  have RPc : RP (2 ^ 40) (2 ^ 40) y.P := hy.P.mono (by omega) (by omega)
  have RPr : RP (2 ^ 8) (2 ^ 20) y.P := hy.P.mono (by omega) (by omega)
  have SA : Sz (2 ^ 20) y.A := hy.A.mono (by omega)
  have pP := hy.P.pv
  have zA := zl_iv hy.A
  have c1 := lc_ok y.P RPc
  have c2 := ln_ok y.A (Nat.le_trans hy.A.1 (by omega))
  -- Shift
  have b1 := (pb_small pP (by have := pb_two3 hy.A one3; rwa [iv_canon] at this) (pb_sm3 (l := [1]) (by decide) (by decide)))
  have e1 : ps (lhom (pv y.P) [iv y.A, 1] [1]) = cmp (pv y.P) (ps [iv y.A, 1]) := by rw [ps_lhom, ps_one]; rfl
  have m1 := mshift_g RP10 SA rfl e1
  have t1 := tshift_g RPr SA rfl e1
  have s1 := tsame_g (b1.mono (n' := 2 ^ 40) (k' := 2 ^ 43) (by omega) (by omega)) (b1.mono (n' := 2 ^ 40) (k' := 2 ^ 43) (by omega) (by omega)) rfl
  -- Scale
  have b2 := pb_sc3 pP.trimz zA
  have e2 : ps (sc (iv y.A) (trimz (pv y.P))) = cmp (pv y.P) (ps [0, iv y.A]) := by
    rw [ps_sc, ps_lin, PS.C_zero, PS.zero_add]
    exact cmp_ps _ (ps_trimz _)
  have m2 := mscale_ok y.P y.A RP10 SA
  have t2 := tscale_g RPr SA rfl e2
  have s2 := tsame_g (b2.mono (n' := 2 ^ 40) (k' := 2 ^ 43) (by omega) (by omega)) (b2.mono (n' := 2 ^ 40) (k' := 2 ^ 43) (by omega) (by omega)) rfl
  -- Flip
  have b3 := pb_sc3 (a := -1) pP.trimz (by have : zl (-1) ≤ 1 := zl_le.mpr (by decide); omega)
  have e3 : ps (sc (-1) (trimz (pv y.P))) = cmp (pv y.P) (ps [0, -1]) := by
    rw [ps_sc, ps_lin, PS.C_zero, PS.zero_add]
    exact cmp_ps _ (ps_trimz _)
  have m3 := mflip_ok y.P RP10
  have t3 := tflip_g RPr rfl e3
  have s3 := tsame_g (b3.mono (n' := 2 ^ 40) (k' := 2 ^ 43) (by omega) (by omega)) (b3.mono (n' := 2 ^ 40) (k' := 2 ^ 43) (by omega) (by omega)) rfl
  -- Shrink
  have k4 : ∃ (r : List Int) (e : Int), PB 100 60 r ∧ AC Tryz.prog 25 [cw y.P, ci y.K] none [cp r, ci e] ∧ AC Tryz.prog 26 [cw y.P, ci y.K] none [cp r, ci e] := by
    rcases hy.K with hk | hk | ⟨k, hk, hk2⟩
    · exact ⟨[], 3, ⟨by simp, by simp⟩, mshrink_bad _ _ (.inl hk), tshrink_bad _ _ (.inl hk)⟩
    · exact ⟨[], 3, ⟨by simp, by simp⟩, mshrink_bad _ _ (.inr hk), tshrink_bad _ _ (.inr hk)⟩
    · rw [hk]
      exact ⟨_, 0, pb_wt3 pP.trimz hk2, mshrink_ok _ _ RP10 (by omega), tshrink_ok _ _ RP8 (by omega)⟩
  obtain ⟨r4, x4, b4, m4, t4⟩ := k4
  have s4 := tsame_g (b4.mono (n' := 2 ^ 40) (k' := 2 ^ 43) (by omega) (by omega)) (b4.mono (n' := 2 ^ 40) (k' := 2 ^ 43) (by omega) (by omega)) rfl
  -- Reverse
  have k5 : ∃ (r : List Int) (e : Int), PB (2 ^ 40) (2 ^ 43) r ∧ AC Tryz.prog 27 [cw y.P, ci y.M] none [cp r, ci e] ∧ AC Tryz.prog 28 [cw y.P, ci y.M] none [cp r, ci e] := by
    by_cases hb : y.M < 0 ∨ y.M < (tz (pv y.P) : Int) - 1 ∨ 65536 < y.M
    · exact ⟨[], 3, ⟨by simp, by simp⟩, mreverse_bad _ _ RP10 hb, treverse_bad _ _ RP10 hb⟩
    · obtain ⟨m, hm⟩ : ∃ m : Nat, y.M = m := ⟨y.M.toNat, by omega⟩
      rw [hm] at hb ⊢
      refine ⟨_, 0, ?_, mreverse_ok _ m RP10 (by omega) (by omega), treverse_ok _ m RP10 (by omega) (by omega)⟩
      refine .of (by simp [rv]; omega) fun j => ?_
      rw [cf_rv]
      split
      · exact Nat.le_trans (pP.cf _) (by omega)
      · rw [zl_zero]; omega
  obtain ⟨r5, x5, b5, m5, t5⟩ := k5
  have s5 := tsame_g b5 b5 rfl
  -- Low
  have k6 : ∃ (i : Int) (r : List Int) (e : Int), PB (2 ^ 40) (2 ^ 43) r ∧ AC Tryz.prog 29 [cw y.P] none [ci i, cp r, ci e] ∧ AC Tryz.prog 30 [cw y.P] none [ci i, cp r, ci e] := by
    by_cases hz : tz (pv y.P) = 0
    · exact ⟨0, [], 1, ⟨by simp, by simp⟩, mlow_zero _ RP10 hz, tlow_zero _ RP10 hz⟩
    · obtain ⟨e, he, h0, h1⟩ := low_first hz
      refine ⟨e, _, 0, ?_, mlow_ok _ e RP10 he h0 h1, tlow_ok _ e RP10 he h0 h1⟩
      exact ⟨by rw [List.length_drop]; have := pP.1; omega, fun z hz => Nat.le_trans (pP.2 z (List.mem_of_mem_drop hz)) (by omega)⟩
  obtain ⟨i6, r6, x6, b6, m6, t6⟩ := k6
  have s6 := tsame_g b6 b6 rfl
  refine AC.by_walk (rs := [.tmp 2]) ords Tryz.func4 (by rfl) (by rfl) (by rfl) (by rfl) (by rfl) ?_
  simp (disch := omega) only [wk, tis, Int.reduceNe, Int.reduceEq, Int.reduceLT, Int.reduceLE, Int.reduceAdd, Int.reduceSub, Int.reduceNeg, Int.reduceMul, Int.reduceToNat, Nat.reduceSub, Nat.reduceMul, Nat.reduceLeDiff, Nat.reduceAdd, Nat.reduceLT, Nat.reduceEqDiff, reduceCtorEq, ↓reduceIte]
  refine call_by (fixed_ok) (by rfl) (by simp) ?_
  simp (disch := omega) only [wk, tis, Int.reduceNe, Int.reduceEq, Int.reduceLT, Int.reduceLE, Int.reduceAdd, Int.reduceSub, Int.reduceNeg, Int.reduceMul, Int.reduceToNat, Nat.reduceSub, Nat.reduceMul, Nat.reduceLeDiff, Nat.reduceAdd, Nat.reduceLT, Nat.reduceEqDiff, reduceCtorEq, ↓reduceIte]
  refine call_by (hl) (by rfl) (by simp) ?_
  simp (disch := omega) only [wk, tis, Int.reduceNe, Int.reduceEq, Int.reduceLT, Int.reduceLE, Int.reduceAdd, Int.reduceSub, Int.reduceNeg, Int.reduceMul, Int.reduceToNat, Nat.reduceSub, Nat.reduceMul, Nat.reduceLeDiff, Nat.reduceAdd, Nat.reduceLT, Nat.reduceEqDiff, reduceCtorEq, ↓reduceIte]
  refine ⟨tmps_by (by kernel_rfl), ?_⟩
  refine frame_call (fun f H => f 1 = .hp 1 1 0 0 ∧ H 1 = .blk false 1 35 21 [case11 y]) ?_ (fun f H hF => ?_)
  · simp (disch := omega) only [wk, tis, Int.reduceNe, Int.reduceEq, Int.reduceLT, Int.reduceLE, Int.reduceAdd, Int.reduceSub, Int.reduceNeg, Int.reduceMul, Int.reduceToNat, Nat.reduceSub, Nat.reduceMul, Nat.reduceLeDiff, Nat.reduceAdd, Nat.reduceLT, Nat.reduceEqDiff, reduceCtorEq, ↓reduceIte]
    rfl
  refine call_by (c1) (by first | rfl | (simp only [tocvs, tocv, hF]; rfl) | (simp only [tocvs, tocv, toboxes, tobox, updH_at, Nat.reduceEqDiff, ↓reduceIte, hF]; rfl)) (by simp) ?_
  simp (disch := omega) only [wk, tis, Int.reduceNe, Int.reduceEq, Int.reduceLT, Int.reduceLE, Int.reduceAdd, Int.reduceSub, Int.reduceNeg, Int.reduceMul, Int.reduceToNat, Nat.reduceSub, Nat.reduceMul, Nat.reduceLeDiff, Nat.reduceAdd, Nat.reduceLT, Nat.reduceEqDiff, reduceCtorEq, ↓reduceIte, hF]
  refine call_by (c2) (by first | rfl | (simp only [tocvs, tocv, hF]; rfl) | (simp only [tocvs, tocv, toboxes, tobox, updH_at, Nat.reduceEqDiff, ↓reduceIte, hF]; rfl)) (by simp) ?_
  simp (disch := omega) only [wk, tis, Int.reduceNe, Int.reduceEq, Int.reduceLT, Int.reduceLE, Int.reduceAdd, Int.reduceSub, Int.reduceNeg, Int.reduceMul, Int.reduceToNat, Nat.reduceSub, Nat.reduceMul, Nat.reduceLeDiff, Nat.reduceAdd, Nat.reduceLT, Nat.reduceEqDiff, reduceCtorEq, ↓reduceIte, hF]
  refine call_by (m1) (by first | rfl | (simp only [tocvs, tocv, hF]; rfl) | (simp only [tocvs, tocv, toboxes, tobox, updH_at, Nat.reduceEqDiff, ↓reduceIte, hF]; rfl)) (by simp) ?_
  simp (disch := omega) only [wk, tis, Int.reduceNe, Int.reduceEq, Int.reduceLT, Int.reduceLE, Int.reduceAdd, Int.reduceSub, Int.reduceNeg, Int.reduceMul, Int.reduceToNat, Nat.reduceSub, Nat.reduceMul, Nat.reduceLeDiff, Nat.reduceAdd, Nat.reduceLT, Nat.reduceEqDiff, reduceCtorEq, ↓reduceIte, hF]
  refine call_by (t1) (by first | rfl | (simp only [tocvs, tocv, hF]; rfl) | (simp only [tocvs, tocv, toboxes, tobox, updH_at, Nat.reduceEqDiff, ↓reduceIte, hF]; rfl)) (by simp) ?_
  simp (disch := omega) only [wk, tis, Int.reduceNe, Int.reduceEq, Int.reduceLT, Int.reduceLE, Int.reduceAdd, Int.reduceSub, Int.reduceNeg, Int.reduceMul, Int.reduceToNat, Nat.reduceSub, Nat.reduceMul, Nat.reduceLeDiff, Nat.reduceAdd, Nat.reduceLT, Nat.reduceEqDiff, reduceCtorEq, ↓reduceIte, hF]
  refine call_by (s1) (by first | rfl | (simp only [tocvs, tocv, hF]; rfl) | (simp only [tocvs, tocv, toboxes, tobox, updH_at, Nat.reduceEqDiff, ↓reduceIte, hF]; rfl)) (by simp) ?_
  simp (disch := omega) only [wk, tis, Int.reduceNe, Int.reduceEq, Int.reduceLT, Int.reduceLE, Int.reduceAdd, Int.reduceSub, Int.reduceNeg, Int.reduceMul, Int.reduceToNat, Nat.reduceSub, Nat.reduceMul, Nat.reduceLeDiff, Nat.reduceAdd, Nat.reduceLT, Nat.reduceEqDiff, reduceCtorEq, ↓reduceIte, hF]
  refine call_by (c1) (by first | rfl | (simp only [tocvs, tocv, hF]; rfl) | (simp only [tocvs, tocv, toboxes, tobox, updH_at, Nat.reduceEqDiff, ↓reduceIte, hF]; rfl)) (by simp) ?_
  simp (disch := omega) only [wk, tis, Int.reduceNe, Int.reduceEq, Int.reduceLT, Int.reduceLE, Int.reduceAdd, Int.reduceSub, Int.reduceNeg, Int.reduceMul, Int.reduceToNat, Nat.reduceSub, Nat.reduceMul, Nat.reduceLeDiff, Nat.reduceAdd, Nat.reduceLT, Nat.reduceEqDiff, reduceCtorEq, ↓reduceIte, hF]
  refine call_by (c2) (by first | rfl | (simp only [tocvs, tocv, hF]; rfl) | (simp only [tocvs, tocv, toboxes, tobox, updH_at, Nat.reduceEqDiff, ↓reduceIte, hF]; rfl)) (by simp) ?_
  simp (disch := omega) only [wk, tis, Int.reduceNe, Int.reduceEq, Int.reduceLT, Int.reduceLE, Int.reduceAdd, Int.reduceSub, Int.reduceNeg, Int.reduceMul, Int.reduceToNat, Nat.reduceSub, Nat.reduceMul, Nat.reduceLeDiff, Nat.reduceAdd, Nat.reduceLT, Nat.reduceEqDiff, reduceCtorEq, ↓reduceIte, hF]
  refine call_by (m2) (by first | rfl | (simp only [tocvs, tocv, hF]; rfl) | (simp only [tocvs, tocv, toboxes, tobox, updH_at, Nat.reduceEqDiff, ↓reduceIte, hF]; rfl)) (by simp) ?_
  simp (disch := omega) only [wk, tis, Int.reduceNe, Int.reduceEq, Int.reduceLT, Int.reduceLE, Int.reduceAdd, Int.reduceSub, Int.reduceNeg, Int.reduceMul, Int.reduceToNat, Nat.reduceSub, Nat.reduceMul, Nat.reduceLeDiff, Nat.reduceAdd, Nat.reduceLT, Nat.reduceEqDiff, reduceCtorEq, ↓reduceIte, hF]
  refine call_by (t2) (by first | rfl | (simp only [tocvs, tocv, hF]; rfl) | (simp only [tocvs, tocv, toboxes, tobox, updH_at, Nat.reduceEqDiff, ↓reduceIte, hF]; rfl)) (by simp) ?_
  simp (disch := omega) only [wk, tis, Int.reduceNe, Int.reduceEq, Int.reduceLT, Int.reduceLE, Int.reduceAdd, Int.reduceSub, Int.reduceNeg, Int.reduceMul, Int.reduceToNat, Nat.reduceSub, Nat.reduceMul, Nat.reduceLeDiff, Nat.reduceAdd, Nat.reduceLT, Nat.reduceEqDiff, reduceCtorEq, ↓reduceIte, hF]
  refine call_by (s2) (by first | rfl | (simp only [tocvs, tocv, hF]; rfl) | (simp only [tocvs, tocv, toboxes, tobox, updH_at, Nat.reduceEqDiff, ↓reduceIte, hF]; rfl)) (by simp) ?_
  simp (disch := omega) only [wk, tis, Int.reduceNe, Int.reduceEq, Int.reduceLT, Int.reduceLE, Int.reduceAdd, Int.reduceSub, Int.reduceNeg, Int.reduceMul, Int.reduceToNat, Nat.reduceSub, Nat.reduceMul, Nat.reduceLeDiff, Nat.reduceAdd, Nat.reduceLT, Nat.reduceEqDiff, reduceCtorEq, ↓reduceIte, hF]
  refine call_by (c1) (by first | rfl | (simp only [tocvs, tocv, hF]; rfl) | (simp only [tocvs, tocv, toboxes, tobox, updH_at, Nat.reduceEqDiff, ↓reduceIte, hF]; rfl)) (by simp) ?_
  simp (disch := omega) only [wk, tis, Int.reduceNe, Int.reduceEq, Int.reduceLT, Int.reduceLE, Int.reduceAdd, Int.reduceSub, Int.reduceNeg, Int.reduceMul, Int.reduceToNat, Nat.reduceSub, Nat.reduceMul, Nat.reduceLeDiff, Nat.reduceAdd, Nat.reduceLT, Nat.reduceEqDiff, reduceCtorEq, ↓reduceIte, hF]
  refine call_by (m3) (by first | rfl | (simp only [tocvs, tocv, hF]; rfl) | (simp only [tocvs, tocv, toboxes, tobox, updH_at, Nat.reduceEqDiff, ↓reduceIte, hF]; rfl)) (by simp) ?_
  simp (disch := omega) only [wk, tis, Int.reduceNe, Int.reduceEq, Int.reduceLT, Int.reduceLE, Int.reduceAdd, Int.reduceSub, Int.reduceNeg, Int.reduceMul, Int.reduceToNat, Nat.reduceSub, Nat.reduceMul, Nat.reduceLeDiff, Nat.reduceAdd, Nat.reduceLT, Nat.reduceEqDiff, reduceCtorEq, ↓reduceIte, hF]
  refine call_by (t3) (by first | rfl | (simp only [tocvs, tocv, hF]; rfl) | (simp only [tocvs, tocv, toboxes, tobox, updH_at, Nat.reduceEqDiff, ↓reduceIte, hF]; rfl)) (by simp) ?_
  simp (disch := omega) only [wk, tis, Int.reduceNe, Int.reduceEq, Int.reduceLT, Int.reduceLE, Int.reduceAdd, Int.reduceSub, Int.reduceNeg, Int.reduceMul, Int.reduceToNat, Nat.reduceSub, Nat.reduceMul, Nat.reduceLeDiff, Nat.reduceAdd, Nat.reduceLT, Nat.reduceEqDiff, reduceCtorEq, ↓reduceIte, hF]
  refine call_by (s3) (by first | rfl | (simp only [tocvs, tocv, hF]; rfl) | (simp only [tocvs, tocv, toboxes, tobox, updH_at, Nat.reduceEqDiff, ↓reduceIte, hF]; rfl)) (by simp) ?_
  simp (disch := omega) only [wk, tis, Int.reduceNe, Int.reduceEq, Int.reduceLT, Int.reduceLE, Int.reduceAdd, Int.reduceSub, Int.reduceNeg, Int.reduceMul, Int.reduceToNat, Nat.reduceSub, Nat.reduceMul, Nat.reduceLeDiff, Nat.reduceAdd, Nat.reduceLT, Nat.reduceEqDiff, reduceCtorEq, ↓reduceIte, hF]
  first | exact log_by (by kernel_rfl) | refine ⟨log_by (by kernel_rfl), ?_⟩
  refine ⟨tmps_by (by kernel_rfl), ?_⟩
  refine frame_call (fun f H => f 1 = .hp 1 1 0 0 ∧ H 1 = .blk false 1 35 21 [case11 y]) ?_ (fun f H hF => ?_)
  · simp (disch := omega) only [wk, tis, Int.reduceNe, Int.reduceEq, Int.reduceLT, Int.reduceLE, Int.reduceAdd, Int.reduceSub, Int.reduceNeg, Int.reduceMul, Int.reduceToNat, Nat.reduceSub, Nat.reduceMul, Nat.reduceLeDiff, Nat.reduceAdd, Nat.reduceLT, Nat.reduceEqDiff, reduceCtorEq, ↓reduceIte, hF]
  refine call_by (c1) (by first | rfl | (simp only [tocvs, tocv, hF]; rfl) | (simp only [tocvs, tocv, toboxes, tobox, updH_at, Nat.reduceEqDiff, ↓reduceIte, hF]; rfl)) (by simp) ?_
  simp (disch := omega) only [wk, tis, Int.reduceNe, Int.reduceEq, Int.reduceLT, Int.reduceLE, Int.reduceAdd, Int.reduceSub, Int.reduceNeg, Int.reduceMul, Int.reduceToNat, Nat.reduceSub, Nat.reduceMul, Nat.reduceLeDiff, Nat.reduceAdd, Nat.reduceLT, Nat.reduceEqDiff, reduceCtorEq, ↓reduceIte, hF]
  refine call_by (m4) (by first | rfl | (simp only [tocvs, tocv, hF]; rfl) | (simp only [tocvs, tocv, toboxes, tobox, updH_at, Nat.reduceEqDiff, ↓reduceIte, hF]; rfl)) (by simp) ?_
  simp (disch := omega) only [wk, tis, Int.reduceNe, Int.reduceEq, Int.reduceLT, Int.reduceLE, Int.reduceAdd, Int.reduceSub, Int.reduceNeg, Int.reduceMul, Int.reduceToNat, Nat.reduceSub, Nat.reduceMul, Nat.reduceLeDiff, Nat.reduceAdd, Nat.reduceLT, Nat.reduceEqDiff, reduceCtorEq, ↓reduceIte, hF]
  first | exact log_by (by kernel_rfl) | refine ⟨log_by (by kernel_rfl), ?_⟩
  refine call_by (t4) (by first | rfl | (simp only [tocvs, tocv, hF]; rfl) | (simp only [tocvs, tocv, toboxes, tobox, updH_at, Nat.reduceEqDiff, ↓reduceIte, hF]; rfl)) (by simp) ?_
  simp (disch := omega) only [wk, tis, Int.reduceNe, Int.reduceEq, Int.reduceLT, Int.reduceLE, Int.reduceAdd, Int.reduceSub, Int.reduceNeg, Int.reduceMul, Int.reduceToNat, Nat.reduceSub, Nat.reduceMul, Nat.reduceLeDiff, Nat.reduceAdd, Nat.reduceLT, Nat.reduceEqDiff, reduceCtorEq, ↓reduceIte, hF]
  refine call_by (s4) (by first | rfl | (simp only [tocvs, tocv, hF]; rfl) | (simp only [tocvs, tocv, toboxes, tobox, updH_at, Nat.reduceEqDiff, ↓reduceIte, hF]; rfl)) (by simp) ?_
  simp (disch := omega) only [wk, tis, Int.reduceNe, Int.reduceEq, Int.reduceLT, Int.reduceLE, Int.reduceAdd, Int.reduceSub, Int.reduceNeg, Int.reduceMul, Int.reduceToNat, Nat.reduceSub, Nat.reduceMul, Nat.reduceLeDiff, Nat.reduceAdd, Nat.reduceLT, Nat.reduceEqDiff, reduceCtorEq, ↓reduceIte, hF]
  refine ⟨tmps_by (by kernel_rfl), ?_⟩
  refine frame_call (fun f H => f 1 = .hp 1 1 0 0 ∧ H 1 = .blk false 1 35 21 [case11 y]) ?_ (fun f H hF => ?_)
  · simp (disch := omega) only [wk, tis, Int.reduceNe, Int.reduceEq, Int.reduceLT, Int.reduceLE, Int.reduceAdd, Int.reduceSub, Int.reduceNeg, Int.reduceMul, Int.reduceToNat, Nat.reduceSub, Nat.reduceMul, Nat.reduceLeDiff, Nat.reduceAdd, Nat.reduceLT, Nat.reduceEqDiff, reduceCtorEq, ↓reduceIte, hF]
  refine call_by (c1) (by first | rfl | (simp only [tocvs, tocv, hF]; rfl) | (simp only [tocvs, tocv, toboxes, tobox, updH_at, Nat.reduceEqDiff, ↓reduceIte, hF]; rfl)) (by simp) ?_
  simp (disch := omega) only [wk, tis, Int.reduceNe, Int.reduceEq, Int.reduceLT, Int.reduceLE, Int.reduceAdd, Int.reduceSub, Int.reduceNeg, Int.reduceMul, Int.reduceToNat, Nat.reduceSub, Nat.reduceMul, Nat.reduceLeDiff, Nat.reduceAdd, Nat.reduceLT, Nat.reduceEqDiff, reduceCtorEq, ↓reduceIte, hF]
  refine call_by (m5) (by first | rfl | (simp only [tocvs, tocv, hF]; rfl) | (simp only [tocvs, tocv, toboxes, tobox, updH_at, Nat.reduceEqDiff, ↓reduceIte, hF]; rfl)) (by simp) ?_
  simp (disch := omega) only [wk, tis, Int.reduceNe, Int.reduceEq, Int.reduceLT, Int.reduceLE, Int.reduceAdd, Int.reduceSub, Int.reduceNeg, Int.reduceMul, Int.reduceToNat, Nat.reduceSub, Nat.reduceMul, Nat.reduceLeDiff, Nat.reduceAdd, Nat.reduceLT, Nat.reduceEqDiff, reduceCtorEq, ↓reduceIte, hF]
  first | exact log_by (by kernel_rfl) | refine ⟨log_by (by kernel_rfl), ?_⟩
  refine call_by (t5) (by first | rfl | (simp only [tocvs, tocv, hF]; rfl) | (simp only [tocvs, tocv, toboxes, tobox, updH_at, Nat.reduceEqDiff, ↓reduceIte, hF]; rfl)) (by simp) ?_
  simp (disch := omega) only [wk, tis, Int.reduceNe, Int.reduceEq, Int.reduceLT, Int.reduceLE, Int.reduceAdd, Int.reduceSub, Int.reduceNeg, Int.reduceMul, Int.reduceToNat, Nat.reduceSub, Nat.reduceMul, Nat.reduceLeDiff, Nat.reduceAdd, Nat.reduceLT, Nat.reduceEqDiff, reduceCtorEq, ↓reduceIte, hF]
  refine call_by (s5) (by first | rfl | (simp only [tocvs, tocv, hF]; rfl) | (simp only [tocvs, tocv, toboxes, tobox, updH_at, Nat.reduceEqDiff, ↓reduceIte, hF]; rfl)) (by simp) ?_
  simp (disch := omega) only [wk, tis, Int.reduceNe, Int.reduceEq, Int.reduceLT, Int.reduceLE, Int.reduceAdd, Int.reduceSub, Int.reduceNeg, Int.reduceMul, Int.reduceToNat, Nat.reduceSub, Nat.reduceMul, Nat.reduceLeDiff, Nat.reduceAdd, Nat.reduceLT, Nat.reduceEqDiff, reduceCtorEq, ↓reduceIte, hF]
  refine call_by (c1) (by first | rfl | (simp only [tocvs, tocv, hF]; rfl) | (simp only [tocvs, tocv, toboxes, tobox, updH_at, Nat.reduceEqDiff, ↓reduceIte, hF]; rfl)) (by simp) ?_
  simp (disch := omega) only [wk, tis, Int.reduceNe, Int.reduceEq, Int.reduceLT, Int.reduceLE, Int.reduceAdd, Int.reduceSub, Int.reduceNeg, Int.reduceMul, Int.reduceToNat, Nat.reduceSub, Nat.reduceMul, Nat.reduceLeDiff, Nat.reduceAdd, Nat.reduceLT, Nat.reduceEqDiff, reduceCtorEq, ↓reduceIte, hF]
  refine call_by (m6) (by first | rfl | (simp only [tocvs, tocv, hF]; rfl) | (simp only [tocvs, tocv, toboxes, tobox, updH_at, Nat.reduceEqDiff, ↓reduceIte, hF]; rfl)) (by simp) ?_
  simp (disch := omega) only [wk, tis, Int.reduceNe, Int.reduceEq, Int.reduceLT, Int.reduceLE, Int.reduceAdd, Int.reduceSub, Int.reduceNeg, Int.reduceMul, Int.reduceToNat, Nat.reduceSub, Nat.reduceMul, Nat.reduceLeDiff, Nat.reduceAdd, Nat.reduceLT, Nat.reduceEqDiff, reduceCtorEq, ↓reduceIte, hF]
  refine call_by (t6) (by first | rfl | (simp only [tocvs, tocv, hF]; rfl) | (simp only [tocvs, tocv, toboxes, tobox, updH_at, Nat.reduceEqDiff, ↓reduceIte, hF]; rfl)) (by simp) ?_
  simp (disch := omega) only [wk, tis, Int.reduceNe, Int.reduceEq, Int.reduceLT, Int.reduceLE, Int.reduceAdd, Int.reduceSub, Int.reduceNeg, Int.reduceMul, Int.reduceToNat, Nat.reduceSub, Nat.reduceMul, Nat.reduceLeDiff, Nat.reduceAdd, Nat.reduceLT, Nat.reduceEqDiff, reduceCtorEq, ↓reduceIte, hF]
  refine call_by (s6) (by first | rfl | (simp only [tocvs, tocv, hF]; rfl) | (simp only [tocvs, tocv, toboxes, tobox, updH_at, Nat.reduceEqDiff, ↓reduceIte, hF]; rfl)) (by simp) ?_
  simp (disch := omega) only [wk, tis, Int.reduceNe, Int.reduceEq, Int.reduceLT, Int.reduceLE, Int.reduceAdd, Int.reduceSub, Int.reduceNeg, Int.reduceMul, Int.reduceToNat, Nat.reduceSub, Nat.reduceMul, Nat.reduceLeDiff, Nat.reduceAdd, Nat.reduceLT, Nat.reduceEqDiff, reduceCtorEq, ↓reduceIte, hF]
theorem plain_law (P R : List RI) (A B C D : RI) (K M : Int) (At : RI) (E : Int) (Pt : Bool) (F G : List RQ) (X : RQ) (hP : Raw P) (hR : Raw R) (hA : Sz 9223372036854775807 A) (hB : Sz 9223372036854775807 B) (hC : Sz 9223372036854775807 C) (hD : Sz 9223372036854775807 D)
    (hK1 : -9223372036854775808 ≤ K) (hK2 : K ≤ 9223372036854775807) (hM1 : -9223372036854775808 ≤ M) (hM2 : M ≤ 9223372036854775807) (hAt : Sz 9223372036854775807 At) (hE1 : -9223372036854775808 ≤ E) (hE2 : E ≤ 9223372036854775807) (hF : RawQ F) (hG : RawQ G) (hX : SzQ 9223372036854775807 X) :
    AC Tryz.prog 4 [.agg (case11 ⟨P, R, A, B, C, D, K, M, At, E, Pt, F, G, X⟩)] none [cb true] :=
  plain_ok _ (ok11 P R A B C D K M At E Pt F G X hP hR hA hB hC hD hK1 hK2 hM1 hM2 hAt hE1 hE2 hF hG hX)
end Go.Proofs.YthgecppfgdadiaaGreat

namespace Go.Proofs.YthgecppfgdadiaaGreat
open Go Go.Proofs Go.AL
set_option linter.unusedSimpArgs false
set_option linter.unusedVariables false

theorem pb_small2 {p f g : List Int} (hp : PB 9 60 p) (hf : PB 9 60 f) (hg : PB 9 60 g) : PB 100 700 (lhom p f g) := by
  have h := pb_lhom hf hg (by omega) (by omega) hp
  have hl := hp.1
  exact h.mono (by omega) (by omega)

theorem ps_10 : ps [1, 0] = ps [1] := ps_ext fun k => by
  match k with
  | 0 => rfl
  | 1 => rfl
  | k + 2 => rfl

theorem fractions_ok (x : C11) (h : Ok11 x) : AC Tryz.prog 3 [.agg (case11 x)] none [cb true] := by
  have hl := less_few h
  have hy := few_less h
  generalize lessC x = y at hl hy
  have RP8 : RP (2 ^ 8) (2 ^ 10) y.P := hy.P.mono (by omega) (by omega)
  have RP10 : RP (2 ^ 10) (2 ^ 20) y.P := hy.P.mono (by omega) (by omega)
  have RP9 : RP (2 ^ 10) (2 ^ 19) y.P := hy.P.mono (by omega) (by omega)
  have RPc : RP (2 ^ 40) (2 ^ 40) y.P := hy.P.mono (by omega) (by omega)
  have RPr : RP (2 ^ 8) (2 ^ 20) y.P := hy.P.mono (by omega) (by omega)
  have SA : Sz (2 ^ 20) y.A := hy.A.mono (by omega)
  have SB : Sz (2 ^ 20) y.B := hy.B.mono (by omega)
  have SC : Sz (2 ^ 20) y.C := hy.C.mono (by omega)
  have SD : Sz (2 ^ 20) y.D := hy.D.mono (by omega)
  have SAt : Sz (2 ^ 20) y.At := hy.At.mono (by omega)
  have pP := hy.P.pv.trimz
  have c1 := lc_ok y.P RPc
  have nA := ln_ok y.A (Nat.le_trans hy.A.1 (by omega))
  have nB := ln_ok y.B (Nat.le_trans hy.B.1 (by omega))
  have nC := ln_ok y.C (Nat.le_trans hy.C.1 (by omega))
  have nD := ln_ok y.D (Nat.le_trans hy.D.1 (by omega))
  have nAt := ln_ok y.At (Nat.le_trans hy.At.1 (by omega))
  have hlc := lay_cell
  -- Moebius
  have b1 := pb_small pP (pb_two3 hy.B hy.A) (pb_two3 hy.D hy.C)
  have m1 := mmoebius_ok y.P y.A y.B y.C y.D RP10 SA SB SC SD
  have t1 := tmoeb_g RPr SA SB SC SD (ps_lhom (trimz (pv y.P)) [iv y.B, iv y.A] [iv y.D, iv y.C])
  have s1 := tsame_g (b1.mono (n' := 2 ^ 40) (k' := 2 ^ 43) (by omega) (by omega)) (b1.mono (n' := 2 ^ 40) (k' := 2 ^ 43) (by omega) (by omega)) rfl
  -- Line
  have b2 := pb_small pP (pb_sm3 (l := [1, 0]) (by decide) (by decide)) (pb_sm3 (l := [1, 1]) (by decide) (by decide))
  have m2 := mline2_ok y.P RP10
  have t2 := tline_g (out := lhom (trimz (pv y.P)) [1, 0] [1, 1]) RPr (by rw [ps_lhom, ps_10])
  have s2 := tsame_g (b2.mono (n' := 2 ^ 40) (k' := 2 ^ 43) (by omega) (by omega)) (b2.mono (n' := 2 ^ 40) (k' := 2 ^ 43) (by omega) (by omega)) rfl
  -- Into
  have k3 : ∃ (r : List Int) (e : Int), PB 100 700 r ∧ AC Tryz.prog 15 [cw y.P, ccell y.At y.E y.Pt] none [cp r, ci e] ∧ AC Tryz.prog 16 [cw y.P, ccell y.At y.E y.Pt] none [cp r, ci e] := by
    rcases hy.E with hk | hk | ⟨k, hk, hk2⟩
    · exact ⟨[], 3, ⟨by simp, by simp⟩, minto_bad _ _ _ _ (.inl hk), tinto_bad _ _ _ _ (.inl hk)⟩
    · exact ⟨[], 3, ⟨by simp, by simp⟩, minto_bad _ _ _ _ (.inr hk), tinto_bad _ _ _ _ (.inr hk)⟩
    · rw [hk]
      have e : ps (lhom (wt (2 ^ k) (trimz (pv y.P))) [iv y.At, 1] [1]) = cmp (wt (2 ^ k) (trimz (pv y.P))) (ps [iv y.At, 1]) := by rw [ps_lhom, ps_one]; rfl
      have hw := (pb_wt3 pP hk2)
      have hw9 : PB 9 60 (wt (2 ^ k) (trimz (pv y.P))) := ⟨by rw [wt_len]; exact pP.1, hw.2⟩
      have ht := pb_two3 hy.At one3
      rw [iv_canon] at ht
      exact ⟨_, 0, pb_small2 hw9 (ht.mono (by omega) (by omega)) ((pb_sm3 (l := [1]) (by decide) (by decide)).mono (by omega) (by omega)), minto_g RP8 SAt (by omega) e, tinto_cell RP8 SAt (by omega) e⟩
  obtain ⟨r3, x3, b3, m3, t3⟩ := k3
  have s3 := tsame_g (b3.mono (n' := 2 ^ 40) (k' := 2 ^ 43) (by omega) (by omega)) (b3.mono (n' := 2 ^ 40) (k' := 2 ^ 43) (by omega) (by omega)) rfl
  -- Halves
  have hw := pb_wt3 (k := 1) pP (by omega)
  rw [Int.pow_one] at hw
  have hw9 : PB 9 60 (wt 2 (trimz (pv y.P))) := ⟨by rw [wt_len]; exact pP.1, hw.2⟩
  have e4 : ps (lhom (wt 2 (trimz (pv y.P))) [1, 1] [1]) = cmp (wt 2 (trimz (pv y.P))) (ps [1, 1]) := by rw [ps_lhom, ps_one]; rfl
  have b4 := pb_small2 hw9 ((pb_sm3 (l := [1, 1]) (by decide) (by decide)).mono (n' := 9) (k' := 60) (by omega) (by omega)) ((pb_sm3 (l := [1]) (by decide) (by decide)).mono (n' := 9) (k' := 60) (by omega) (by omega))
  have m4 := mhalves_g RP9 e4
  have t4 := thalves_g (out := wt 2 (trimz (pv y.P))) RPr (by rw [ps_X, ps_const, hom_C, cmp_X]) (e4.trans (by rw [ps_const, hom_C]))
  have s4 := tsame_g (hw.mono (n' := 2 ^ 40) (k' := 2 ^ 43) (by omega) (by omega)) (hw.mono (n' := 2 ^ 40) (k' := 2 ^ 43) (by omega) (by omega)) rfl
  have s5 := tsame_g (b4.mono (n' := 2 ^ 40) (k' := 2 ^ 43) (by omega) (by omega)) (b4.mono (n' := 2 ^ 40) (k' := 2 ^ 43) (by omega) (by omega)) rfl
  refine AC.by_walk (rs := [.tmp 2]) ords Tryz.func3 (by rfl) (by rfl) (by rfl) (by rfl) (by rfl) ?_
  simp (disch := omega) only [wk, tis, Int.reduceNe, Int.reduceEq, Int.reduceLT, Int.reduceLE, Int.reduceAdd, Int.reduceSub, Int.reduceNeg, Int.reduceMul, Int.reduceToNat, Nat.reduceSub, Nat.reduceMul, Nat.reduceLeDiff, Nat.reduceAdd, Nat.reduceLT, Nat.reduceEqDiff, reduceCtorEq, ↓reduceIte]
  refine call_by (fixed_ok) (by rfl) (by simp) ?_
  simp (disch := omega) only [wk, tis, Int.reduceNe, Int.reduceEq, Int.reduceLT, Int.reduceLE, Int.reduceAdd, Int.reduceSub, Int.reduceNeg, Int.reduceMul, Int.reduceToNat, Nat.reduceSub, Nat.reduceMul, Nat.reduceLeDiff, Nat.reduceAdd, Nat.reduceLT, Nat.reduceEqDiff, reduceCtorEq, ↓reduceIte]
  refine call_by (hl) (by rfl) (by simp) ?_
  simp (disch := omega) only [wk, tis, Int.reduceNe, Int.reduceEq, Int.reduceLT, Int.reduceLE, Int.reduceAdd, Int.reduceSub, Int.reduceNeg, Int.reduceMul, Int.reduceToNat, Nat.reduceSub, Nat.reduceMul, Nat.reduceLeDiff, Nat.reduceAdd, Nat.reduceLT, Nat.reduceEqDiff, reduceCtorEq, ↓reduceIte]
  refine ⟨tmps_by (by kernel_rfl), ?_⟩
  refine frame_call (fun f H => f 1 = .hp 1 1 0 0 ∧ H 1 = .blk false 1 35 21 [case11 y]) ?_ (fun f H hF => ?_)
  · simp (disch := omega) only [wk, tis, Int.reduceNe, Int.reduceEq, Int.reduceLT, Int.reduceLE, Int.reduceAdd, Int.reduceSub, Int.reduceNeg, Int.reduceMul, Int.reduceToNat, Nat.reduceSub, Nat.reduceMul, Nat.reduceLeDiff, Nat.reduceAdd, Nat.reduceLT, Nat.reduceEqDiff, reduceCtorEq, ↓reduceIte]
    rfl
  refine call_by (c1) (by first | rfl | (simp only [tocvs, tocv, hF]; rfl) | (simp only [tocvs, tocv, toboxes, tobox, updH_at, Nat.reduceEqDiff, ↓reduceIte, hF]; rfl)) (by simp) ?_
  simp (disch := omega) only [wk, tis, Int.reduceNe, Int.reduceEq, Int.reduceLT, Int.reduceLE, Int.reduceAdd, Int.reduceSub, Int.reduceNeg, Int.reduceMul, Int.reduceToNat, Nat.reduceSub, Nat.reduceMul, Nat.reduceLeDiff, Nat.reduceAdd, Nat.reduceLT, Nat.reduceEqDiff, reduceCtorEq, ↓reduceIte, hF]
  refine call_by (nA) (by first | rfl | (simp only [tocvs, tocv, hF]; rfl) | (simp only [tocvs, tocv, toboxes, tobox, updH_at, Nat.reduceEqDiff, ↓reduceIte, hF]; rfl)) (by simp) ?_
  simp (disch := omega) only [wk, tis, Int.reduceNe, Int.reduceEq, Int.reduceLT, Int.reduceLE, Int.reduceAdd, Int.reduceSub, Int.reduceNeg, Int.reduceMul, Int.reduceToNat, Nat.reduceSub, Nat.reduceMul, Nat.reduceLeDiff, Nat.reduceAdd, Nat.reduceLT, Nat.reduceEqDiff, reduceCtorEq, ↓reduceIte, hF]
  refine call_by (nB) (by first | rfl | (simp only [tocvs, tocv, hF]; rfl) | (simp only [tocvs, tocv, toboxes, tobox, updH_at, Nat.reduceEqDiff, ↓reduceIte, hF]; rfl)) (by simp) ?_
  simp (disch := omega) only [wk, tis, Int.reduceNe, Int.reduceEq, Int.reduceLT, Int.reduceLE, Int.reduceAdd, Int.reduceSub, Int.reduceNeg, Int.reduceMul, Int.reduceToNat, Nat.reduceSub, Nat.reduceMul, Nat.reduceLeDiff, Nat.reduceAdd, Nat.reduceLT, Nat.reduceEqDiff, reduceCtorEq, ↓reduceIte, hF]
  refine call_by (nC) (by first | rfl | (simp only [tocvs, tocv, hF]; rfl) | (simp only [tocvs, tocv, toboxes, tobox, updH_at, Nat.reduceEqDiff, ↓reduceIte, hF]; rfl)) (by simp) ?_
  simp (disch := omega) only [wk, tis, Int.reduceNe, Int.reduceEq, Int.reduceLT, Int.reduceLE, Int.reduceAdd, Int.reduceSub, Int.reduceNeg, Int.reduceMul, Int.reduceToNat, Nat.reduceSub, Nat.reduceMul, Nat.reduceLeDiff, Nat.reduceAdd, Nat.reduceLT, Nat.reduceEqDiff, reduceCtorEq, ↓reduceIte, hF]
  refine call_by (nD) (by first | rfl | (simp only [tocvs, tocv, hF]; rfl) | (simp only [tocvs, tocv, toboxes, tobox, updH_at, Nat.reduceEqDiff, ↓reduceIte, hF]; rfl)) (by simp) ?_
  simp (disch := omega) only [wk, tis, Int.reduceNe, Int.reduceEq, Int.reduceLT, Int.reduceLE, Int.reduceAdd, Int.reduceSub, Int.reduceNeg, Int.reduceMul, Int.reduceToNat, Nat.reduceSub, Nat.reduceMul, Nat.reduceLeDiff, Nat.reduceAdd, Nat.reduceLT, Nat.reduceEqDiff, reduceCtorEq, ↓reduceIte, hF]
  refine call_by (m1) (by first | rfl | (simp only [tocvs, tocv, hF]; rfl) | (simp only [tocvs, tocv, toboxes, tobox, updH_at, Nat.reduceEqDiff, ↓reduceIte, hF]; rfl)) (by simp) ?_
  simp (disch := omega) only [wk, tis, Int.reduceNe, Int.reduceEq, Int.reduceLT, Int.reduceLE, Int.reduceAdd, Int.reduceSub, Int.reduceNeg, Int.reduceMul, Int.reduceToNat, Nat.reduceSub, Nat.reduceMul, Nat.reduceLeDiff, Nat.reduceAdd, Nat.reduceLT, Nat.reduceEqDiff, reduceCtorEq, ↓reduceIte, hF]
  refine call_by (t1) (by first | rfl | (simp only [tocvs, tocv, hF]; rfl) | (simp only [tocvs, tocv, toboxes, tobox, updH_at, Nat.reduceEqDiff, ↓reduceIte, hF]; rfl)) (by simp) ?_
  simp (disch := omega) only [wk, tis, Int.reduceNe, Int.reduceEq, Int.reduceLT, Int.reduceLE, Int.reduceAdd, Int.reduceSub, Int.reduceNeg, Int.reduceMul, Int.reduceToNat, Nat.reduceSub, Nat.reduceMul, Nat.reduceLeDiff, Nat.reduceAdd, Nat.reduceLT, Nat.reduceEqDiff, reduceCtorEq, ↓reduceIte, hF]
  refine call_by (s1) (by first | rfl | (simp only [tocvs, tocv, hF]; rfl) | (simp only [tocvs, tocv, toboxes, tobox, updH_at, Nat.reduceEqDiff, ↓reduceIte, hF]; rfl)) (by simp) ?_
  simp (disch := omega) only [wk, tis, Int.reduceNe, Int.reduceEq, Int.reduceLT, Int.reduceLE, Int.reduceAdd, Int.reduceSub, Int.reduceNeg, Int.reduceMul, Int.reduceToNat, Nat.reduceSub, Nat.reduceMul, Nat.reduceLeDiff, Nat.reduceAdd, Nat.reduceLT, Nat.reduceEqDiff, reduceCtorEq, ↓reduceIte, hF]
  refine call_by (c1) (by first | rfl | (simp only [tocvs, tocv, hF]; rfl) | (simp only [tocvs, tocv, toboxes, tobox, updH_at, Nat.reduceEqDiff, ↓reduceIte, hF]; rfl)) (by simp) ?_
  simp (disch := omega) only [wk, tis, Int.reduceNe, Int.reduceEq, Int.reduceLT, Int.reduceLE, Int.reduceAdd, Int.reduceSub, Int.reduceNeg, Int.reduceMul, Int.reduceToNat, Nat.reduceSub, Nat.reduceMul, Nat.reduceLeDiff, Nat.reduceAdd, Nat.reduceLT, Nat.reduceEqDiff, reduceCtorEq, ↓reduceIte, hF]
  refine call_by (m2) (by first | rfl | (simp only [tocvs, tocv, hF]; rfl) | (simp only [tocvs, tocv, toboxes, tobox, updH_at, Nat.reduceEqDiff, ↓reduceIte, hF]; rfl)) (by simp) ?_
  simp (disch := omega) only [wk, tis, Int.reduceNe, Int.reduceEq, Int.reduceLT, Int.reduceLE, Int.reduceAdd, Int.reduceSub, Int.reduceNeg, Int.reduceMul, Int.reduceToNat, Nat.reduceSub, Nat.reduceMul, Nat.reduceLeDiff, Nat.reduceAdd, Nat.reduceLT, Nat.reduceEqDiff, reduceCtorEq, ↓reduceIte, hF]
  refine call_by (t2) (by first | rfl | (simp only [tocvs, tocv, hF]; rfl) | (simp only [tocvs, tocv, toboxes, tobox, updH_at, Nat.reduceEqDiff, ↓reduceIte, hF]; rfl)) (by simp) ?_
  simp (disch := omega) only [wk, tis, Int.reduceNe, Int.reduceEq, Int.reduceLT, Int.reduceLE, Int.reduceAdd, Int.reduceSub, Int.reduceNeg, Int.reduceMul, Int.reduceToNat, Nat.reduceSub, Nat.reduceMul, Nat.reduceLeDiff, Nat.reduceAdd, Nat.reduceLT, Nat.reduceEqDiff, reduceCtorEq, ↓reduceIte, hF]
  refine call_by (s2) (by first | rfl | (simp only [tocvs, tocv, hF]; rfl) | (simp only [tocvs, tocv, toboxes, tobox, updH_at, Nat.reduceEqDiff, ↓reduceIte, hF]; rfl)) (by simp) ?_
  simp (disch := omega) only [wk, tis, Int.reduceNe, Int.reduceEq, Int.reduceLT, Int.reduceLE, Int.reduceAdd, Int.reduceSub, Int.reduceNeg, Int.reduceMul, Int.reduceToNat, Nat.reduceSub, Nat.reduceMul, Nat.reduceLeDiff, Nat.reduceAdd, Nat.reduceLT, Nat.reduceEqDiff, reduceCtorEq, ↓reduceIte, hF]
  first | exact log_by (by kernel_rfl) | refine ⟨log_by (by kernel_rfl), ?_⟩
  refine ⟨tmps_by (by kernel_rfl), ?_⟩
  refine frame_call (fun f H => f 1 = .hp 1 1 0 0 ∧ H 1 = .blk false 1 35 21 [case11 y]) ?_ (fun f H hF => ?_)
  · simp (disch := omega) only [wk, tis, Int.reduceNe, Int.reduceEq, Int.reduceLT, Int.reduceLE, Int.reduceAdd, Int.reduceSub, Int.reduceNeg, Int.reduceMul, Int.reduceToNat, Nat.reduceSub, Nat.reduceMul, Nat.reduceLeDiff, Nat.reduceAdd, Nat.reduceLT, Nat.reduceEqDiff, reduceCtorEq, ↓reduceIte, hF]
  refine call_by (c1) (by first | rfl | (simp only [tocvs, tocv, hF]; rfl) | (simp only [tocvs, tocv, toboxes, tobox, updH_at, Nat.reduceEqDiff, ↓reduceIte, hF]; rfl)) (by simp) ?_
  simp (disch := omega) only [wk, tis, Int.reduceNe, Int.reduceEq, Int.reduceLT, Int.reduceLE, Int.reduceAdd, Int.reduceSub, Int.reduceNeg, Int.reduceMul, Int.reduceToNat, Nat.reduceSub, Nat.reduceMul, Nat.reduceLeDiff, Nat.reduceAdd, Nat.reduceLT, Nat.reduceEqDiff, reduceCtorEq, ↓reduceIte, hF]
  refine call_by (nAt) (by first | rfl | (simp only [tocvs, tocv, hF, hlc]; rfl) | (simp only [tocvs, tocv, toboxes, tobox, updH_at, Nat.reduceEqDiff, ↓reduceIte, hF, hlc]; rfl)) (by simp) ?_
  simp (disch := omega) only [wk, tis, Int.reduceNe, Int.reduceEq, Int.reduceLT, Int.reduceLE, Int.reduceAdd, Int.reduceSub, Int.reduceNeg, Int.reduceMul, Int.reduceToNat, Nat.reduceSub, Nat.reduceMul, Nat.reduceLeDiff, Nat.reduceAdd, Nat.reduceLT, Nat.reduceEqDiff, reduceCtorEq, ↓reduceIte, hF, hlc]
  refine call_by (m3) (by first | rfl | (simp only [tocvs, tocv, hF, hlc]; rfl) | (simp only [tocvs, tocv, toboxes, tobox, updH_at, Nat.reduceEqDiff, ↓reduceIte, hF, hlc]; rfl)) (by simp) ?_
  simp (disch := omega) only [wk, tis, Int.reduceNe, Int.reduceEq, Int.reduceLT, Int.reduceLE, Int.reduceAdd, Int.reduceSub, Int.reduceNeg, Int.reduceMul, Int.reduceToNat, Nat.reduceSub, Nat.reduceMul, Nat.reduceLeDiff, Nat.reduceAdd, Nat.reduceLT, Nat.reduceEqDiff, reduceCtorEq, ↓reduceIte, hF, hlc]
  first | exact log_by (by kernel_rfl) | refine ⟨log_by (by kernel_rfl), ?_⟩
  refine call_by (t3) (by first | rfl | (simp only [tocvs, tocv, hF]; rfl) | (simp only [tocvs, tocv, toboxes, tobox, updH_at, Nat.reduceEqDiff, ↓reduceIte, hF]; rfl)) (by simp) ?_
  simp (disch := omega) only [wk, tis, Int.reduceNe, Int.reduceEq, Int.reduceLT, Int.reduceLE, Int.reduceAdd, Int.reduceSub, Int.reduceNeg, Int.reduceMul, Int.reduceToNat, Nat.reduceSub, Nat.reduceMul, Nat.reduceLeDiff, Nat.reduceAdd, Nat.reduceLT, Nat.reduceEqDiff, reduceCtorEq, ↓reduceIte, hF]
  refine call_by (s3) (by first | rfl | (simp only [tocvs, tocv, hF]; rfl) | (simp only [tocvs, tocv, toboxes, tobox, updH_at, Nat.reduceEqDiff, ↓reduceIte, hF]; rfl)) (by simp) ?_
  simp (disch := omega) only [wk, tis, Int.reduceNe, Int.reduceEq, Int.reduceLT, Int.reduceLE, Int.reduceAdd, Int.reduceSub, Int.reduceNeg, Int.reduceMul, Int.reduceToNat, Nat.reduceSub, Nat.reduceMul, Nat.reduceLeDiff, Nat.reduceAdd, Nat.reduceLT, Nat.reduceEqDiff, reduceCtorEq, ↓reduceIte, hF]
  refine call_by (c1) (by first | rfl | (simp only [tocvs, tocv, hF]; rfl) | (simp only [tocvs, tocv, toboxes, tobox, updH_at, Nat.reduceEqDiff, ↓reduceIte, hF]; rfl)) (by simp) ?_
  simp (disch := omega) only [wk, tis, Int.reduceNe, Int.reduceEq, Int.reduceLT, Int.reduceLE, Int.reduceAdd, Int.reduceSub, Int.reduceNeg, Int.reduceMul, Int.reduceToNat, Nat.reduceSub, Nat.reduceMul, Nat.reduceLeDiff, Nat.reduceAdd, Nat.reduceLT, Nat.reduceEqDiff, reduceCtorEq, ↓reduceIte, hF]
  refine call_by (m4) (by first | rfl | (simp only [tocvs, tocv, hF]; rfl) | (simp only [tocvs, tocv, toboxes, tobox, updH_at, Nat.reduceEqDiff, ↓reduceIte, hF]; rfl)) (by simp) ?_
  simp (disch := omega) only [wk, tis, Int.reduceNe, Int.reduceEq, Int.reduceLT, Int.reduceLE, Int.reduceAdd, Int.reduceSub, Int.reduceNeg, Int.reduceMul, Int.reduceToNat, Nat.reduceSub, Nat.reduceMul, Nat.reduceLeDiff, Nat.reduceAdd, Nat.reduceLT, Nat.reduceEqDiff, reduceCtorEq, ↓reduceIte, hF]
  refine call_by (t4) (by first | rfl | (simp only [tocvs, tocv, hF]; rfl) | (simp only [tocvs, tocv, toboxes, tobox, updH_at, Nat.reduceEqDiff, ↓reduceIte, hF]; rfl)) (by simp) ?_
  simp (disch := omega) only [wk, tis, Int.reduceNe, Int.reduceEq, Int.reduceLT, Int.reduceLE, Int.reduceAdd, Int.reduceSub, Int.reduceNeg, Int.reduceMul, Int.reduceToNat, Nat.reduceSub, Nat.reduceMul, Nat.reduceLeDiff, Nat.reduceAdd, Nat.reduceLT, Nat.reduceEqDiff, reduceCtorEq, ↓reduceIte, hF]
  refine call_by (s4) (by first | rfl | (simp only [tocvs, tocv, hF]; rfl) | (simp only [tocvs, tocv, toboxes, tobox, updH_at, Nat.reduceEqDiff, ↓reduceIte, hF]; rfl)) (by simp) ?_
  simp (disch := omega) only [wk, tis, Int.reduceNe, Int.reduceEq, Int.reduceLT, Int.reduceLE, Int.reduceAdd, Int.reduceSub, Int.reduceNeg, Int.reduceMul, Int.reduceToNat, Nat.reduceSub, Nat.reduceMul, Nat.reduceLeDiff, Nat.reduceAdd, Nat.reduceLT, Nat.reduceEqDiff, reduceCtorEq, ↓reduceIte, hF]
  refine call_by (s5) (by first | rfl | (simp only [tocvs, tocv, hF]; rfl) | (simp only [tocvs, tocv, toboxes, tobox, updH_at, Nat.reduceEqDiff, ↓reduceIte, hF]; rfl)) (by simp) ?_
  simp (disch := omega) only [wk, tis, Int.reduceNe, Int.reduceEq, Int.reduceLT, Int.reduceLE, Int.reduceAdd, Int.reduceSub, Int.reduceNeg, Int.reduceMul, Int.reduceToNat, Nat.reduceSub, Nat.reduceMul, Nat.reduceLeDiff, Nat.reduceAdd, Nat.reduceLT, Nat.reduceEqDiff, reduceCtorEq, ↓reduceIte, hF]

theorem fractions_law (P R : List RI) (A B C D : RI) (K M : Int) (At : RI) (E : Int) (Pt : Bool) (F G : List RQ) (X : RQ) (hP : Raw P) (hR : Raw R) (hA : Sz 9223372036854775807 A) (hB : Sz 9223372036854775807 B) (hC : Sz 9223372036854775807 C) (hD : Sz 9223372036854775807 D)
    (hK1 : -9223372036854775808 ≤ K) (hK2 : K ≤ 9223372036854775807) (hM1 : -9223372036854775808 ≤ M) (hM2 : M ≤ 9223372036854775807) (hAt : Sz 9223372036854775807 At) (hE1 : -9223372036854775808 ≤ E) (hE2 : E ≤ 9223372036854775807) (hF : RawQ F) (hG : RawQ G) (hX : SzQ 9223372036854775807 X) :
    AC Tryz.prog 3 [.agg (case11 ⟨P, R, A, B, C, D, K, M, At, E, Pt, F, G, X⟩)] none [cb true] :=
  fractions_ok _ (ok11 P R A B C D K M At E Pt F G X hP hR hA hB hC hD hK1 hK2 hM1 hM2 hAt hE1 hE2 hF hG hX)
end Go.Proofs.YthgecppfgdadiaaGreat
