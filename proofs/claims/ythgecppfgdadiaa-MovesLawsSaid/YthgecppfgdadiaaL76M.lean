/-
  Contracts of the functions that the law reaches.
-/
import Derived.Test.YthgecppfgdadiaaL66M
import Derived.Test.YthgecppfgdadiaaAbsS
import Derived.Test.YthgecppfgdadiaaL36M
import Derived.Test.YthgecppfgdadiaaL24M
namespace Go.Proofs.Ythgecppfgdadiaa
open Go Go.Proofs Go.AL
set_option linter.unusedSimpArgs false
set_option linter.unusedVariables false

def Nt (k : Nat) (l : List Nat) : Prop := l.length ≤ k ∧ Lim l
def SzQ (k : Nat) (r : RQ) : Prop := Sz k r.1 ∧ Nt k r.2
def RawQ (p : List RQ) : Prop := p.length ≤ 9223372036854775807 ∧ ∀ c ∈ p, SzQ 9223372036854775807 c

theorem reads_rat {P : Program} {w : World} {t : TypeId} (h : Reads P w (fun c : (RI × (List Nat × Unit)) => prow c.1 ++ ([.sl (lims c.2.1)] ++ [])) (fun c => Sz 9223372036854775807 c.1 ∧ (Nt 9223372036854775807 c.2.1 ∧ True)) t) : Reads P w qrow (SzQ 9223372036854775807) t := fun enc sp held fuel cs x hx => by
  obtain ⟨a, f, e⟩ := h enc sp held fuel cs x hx
  exact ⟨(a.1, a.2.1), ⟨f.1, f.2.1⟩, e⟩

/-- An exponent that is small, or out of range. -/
def NearOk (k : Int) : Prop := k < 0 ∨ 65536 < k ∨ ∃ n : Nat, k = n ∧ n ≤ 200
theorem nearOk (k : Int) : NearOk (nearZ k) := by
  unfold NearOk nearZ
  by_cases h : 200 < k ∧ k ≤ 65536
  · rw [if_pos h]
    have e := Int.tmod_eq_emod_of_nonneg (a := k) (b := 200) (by omega)
    refine .inr (.inr ⟨(k % 200).toNat, by omega, by omega⟩)
  · rw [if_neg h]
    by_cases h0 : k < 0
    · exact .inl h0
    · by_cases h1 : 65536 < k
      · exact .inr (.inl h1)
      · exact .inr (.inr ⟨k.toNat, by omega, by omega⟩)

theorem fi_sz {a : RI} {k : Nat} (h : Sz k a) : Sz 3 (fi a) := ⟨by simp [fi]; omega, fun x hx => h.2 x (List.mem_of_mem_take hx)⟩
theorem fp_rp {p : List RI} (h : Raw p) : RP 9 3 (fp p) := ⟨by simp [fp]; omega, fun c hc => by
  obtain ⟨d, hd, rfl⟩ := List.mem_map.1 hc
  exact fi_sz (h.2 d (List.mem_of_mem_take hd))⟩

structure Few (y : C11) : Prop where
  P : RP 9 3 y.P
  R : RP 9 3 y.R
  A : Sz 3 y.A
  B : Sz 3 y.B
  C : Sz 3 y.C
  D : Sz 3 y.D
  At : Sz 3 y.At
  K : NearOk y.K
  M : NearOk y.M
  E : NearOk y.E

/-- A case, as it is handed. -/
structure Ok11 (x : C11) : Prop where
  P : Raw x.P
  R : Raw x.R
  A : Sz 9223372036854775807 x.A
  B : Sz 9223372036854775807 x.B
  C : Sz 9223372036854775807 x.C
  D : Sz 9223372036854775807 x.D
  K : -9223372036854775808 ≤ x.K ∧ x.K ≤ 9223372036854775807
  M : -9223372036854775808 ≤ x.M ∧ x.M ≤ 9223372036854775807
  At : Sz 9223372036854775807 x.At
  E : -9223372036854775808 ≤ x.E ∧ x.E ≤ 9223372036854775807
  F : RawQ x.F
  G : RawQ x.G
  X : SzQ 9223372036854775807 x.X

theorem ok11 (P R : List RI) (A B C D : RI) (K M : Int) (At : RI) (E : Int) (Pt : Bool) (F G : List RQ) (X : RQ) (hP : Raw P) (hR : Raw R) (hA : Sz 9223372036854775807 A) (hB : Sz 9223372036854775807 B) (hC : Sz 9223372036854775807 C) (hD : Sz 9223372036854775807 D)
    (hK1 : -9223372036854775808 ≤ K) (hK2 : K ≤ 9223372036854775807) (hM1 : -9223372036854775808 ≤ M) (hM2 : M ≤ 9223372036854775807) (hAt : Sz 9223372036854775807 At) (hE1 : -9223372036854775808 ≤ E) (hE2 : E ≤ 9223372036854775807) (hF : RawQ F) (hG : RawQ G) (hX : SzQ 9223372036854775807 X) :
    Ok11 ⟨P, R, A, B, C, D, K, M, At, E, Pt, F, G, X⟩ := ⟨hP, hR, hA, hB, hC, hD, ⟨hK1, hK2⟩, ⟨hM1, hM2⟩, hAt, ⟨hE1, hE2⟩, hF, hG, hX⟩

theorem few_less {x : C11} (h : Ok11 x) : Few (lessC x) := ⟨fp_rp h.P, fp_rp h.R, fi_sz h.A, fi_sz h.B, fi_sz h.C, fi_sz h.D, fi_sz h.At, nearOk _, nearOk _, nearOk _⟩

theorem less_few {x : C11} (h : Ok11 x) : AC Try.prog 55 [.agg (case11 x)] none [.agg (case11 (lessC x))] := by
  refine less_ok x ?_ ?_ ?_ ?_
  · simp only [List.mem_cons, List.not_mem_nil, or_false, forall_eq_or_imp, forall_eq]
    exact ⟨⟨h.P.1, fun c hc => (h.P.2 c hc).1⟩, ⟨h.R.1, fun c hc => (h.R.2 c hc).1⟩⟩
  · simp only [List.mem_cons, List.not_mem_nil, or_false, forall_eq_or_imp, forall_eq]
    exact ⟨h.A.1, h.B.1, h.C.1, h.D.1, h.At.1, h.X.1.1⟩
  · simp only [List.mem_cons, List.not_mem_nil, or_false, forall_eq_or_imp, forall_eq]
    exact ⟨⟨h.F.1, fun c hc => ⟨(h.F.2 c hc).1.1, (h.F.2 c hc).2.1⟩⟩, ⟨h.G.1, fun c hc => ⟨(h.G.2 c hc).1.1, (h.G.2 c hc).2.1⟩⟩, by simp, ⟨h.X.1.1, h.X.2.1⟩⟩
  · simp only [List.mem_cons, List.not_mem_nil, or_false, forall_eq_or_imp, forall_eq]
    exact ⟨h.K, h.M, h.E⟩

theorem ps_lin (b a : Int) : ps [b, a] = PS.C b + PS.C a * PS.X := by
  rw [ps_cons, ps_const, PS.mul_comm]
end Go.Proofs.Ythgecppfgdadiaa

namespace Go.Proofs.Ythgecppfgdadiaa
open Go Go.Proofs Go.AL
set_option linter.unusedSimpArgs false
set_option linter.unusedVariables false

/-- A value at an integer. -/
def ev : List Int → Int → Int
  | [], _ => 0
  | c :: p, t => c + t * ev p t
theorem C_ev (p : List Int) (t : Int) : PS.C (ev p t) = cmp p (PS.C t) := by
  induction p with
  | nil => rw [ev, cmp_nil, PS.C_zero]
  | cons c p ih => rw [ev, cmp_cons, PS.C_add, PS.C_mul, ih]
theorem C_inj {a b : Int} (h : PS.C a = PS.C b) : a = b := by
  have := congrArg (fun f => PS.c f 0) h
  simpa [PS.c_C] using this
/-- The sum of c_i * a^i * b^(n-1-i). -/
def ihom : List Int → Int → Int → Int
  | [], _, _ => 0
  | c :: p, a, b => c * b ^ p.length + a * ihom p a b
theorem C_ihom (p : List Int) (a b : Int) : PS.C (ihom p a b) = hom p (PS.C a) (PS.C b) := by
  induction p with
  | nil => rw [ihom, hom, PS.C_zero]
  | cons c p ih => rw [ihom, hom, PS.C_add, PS.C_mul, PS.C_mul, C_pow, ih]

theorem zl_ev {K kt : Nat} {t : Int} (ht : zl t ≤ kt) : ∀ {p : List Int}, (∀ z ∈ p, zl z ≤ K) → zl (ev p t) ≤ K + p.length * (kt + 1)
  | [], _ => by rw [ev, zl_zero]; omega
  | c :: p, h => by
    have ih := zl_ev (p := p) ht fun z hz => h z (List.mem_cons_of_mem _ hz)
    have h1 := zl_add c (t * ev p t)
    have h2 := zl_mul t (ev p t)
    have h3 := h c (by simp)
    rw [ev, List.length_cons, Nat.succ_mul]
    omega
theorem zl_ihom {K k : Nat} {a b : Int} (ha : zl a ≤ k) (hb : zl b ≤ k) : ∀ {p : List Int}, (∀ z ∈ p, zl z ≤ K) → zl (ihom p a b) ≤ K + p.length * (k + 1) + 1
  | [], _ => by rw [ihom, zl_zero]; omega
  | c :: p, h => by
    have ih := zl_ihom (p := p) ha hb fun z hz => h z (List.mem_cons_of_mem _ hz)
    have h1 := zl_add (c * b ^ p.length) (a * ihom p a b)
    have h2 := zl_mul a (ihom p a b)
    have h3 := h c (by simp)
    have h4 := zl_mul c (b ^ p.length)
    have h5 := zl_pow hb p.length
    rw [ihom, List.length_cons, Nat.succ_mul]
    rw [Nat.mul_succ] at ih ⊢
    omega

theorem rneg_ok (c : RI) (h : Sz (2 ^ 40) c) : AC Try.prog 69 [cr c] none [cz (-iv c)] := by
  refine AC.by_walk (rs := [.cell 2 40]) ords Try.func69 (by rfl) (by rfl) (by rfl) (by rfl) (by rfl) ?_
  simp (disch := omega) only [wk, tis, Int.reduceNe, Int.reduceEq, Int.reduceLT, Int.reduceLE, Int.reduceAdd, Int.reduceSub, Int.reduceNeg, Int.reduceMul, Int.reduceToNat, Nat.reduceSub, Nat.reduceMul, Nat.reduceLeDiff, Nat.reduceAdd, Nat.reduceLT, Nat.reduceEqDiff, reduceCtorEq, ↓reduceIte]
  have m := rI_ok (!c.1) c.2 h.2 h.1
  have e : sg (!c.1) (nv c.2) = -iv c := by
    rw [iv_sg]
    unfold sg
    cases c.1 <;> simp
  rw [e] at m
  refine call_by (m) (by rfl) (by simp) ?_
  simp (disch := omega) only [wk, tis, Int.reduceNe, Int.reduceEq, Int.reduceLT, Int.reduceLE, Int.reduceAdd, Int.reduceSub, Int.reduceNeg, Int.reduceMul, Int.reduceToNat, Nat.reduceSub, Nat.reduceMul, Nat.reduceLeDiff, Nat.reduceAdd, Nat.reduceLT, Nat.reduceEqDiff, reduceCtorEq, ↓reduceIte]

theorem drop_cf (q : List Int) {i : Nat} (h : i < q.length) : q.drop i = cf q i :: q.drop (i + 1) := by
  rw [List.drop_eq_getElem_cons h]
  simp [cf, List.getD, h]

theorem value_ok (p : List RI) (t : RI) (hp : RP (2 ^ 10) (2 ^ 20) p) (ht : Sz (2 ^ 20) t) : AC Try.prog 66 [cw p, cr t] none [cz (ev (pv p) (iv t))] := by
  have hl := hp.1
  have hpl := pv_len p
  have zt := zl_iv ht
  have hb : ∀ i, zl (ev ((pv p).drop i) (iv t)) ≤ 2 ^ 32 := fun i => by
    have h := zl_ev (K := 2 ^ 20) (p := (pv p).drop i) zt fun z hz => hp.pv.2 z (List.mem_of_mem_drop hz)
    have h2 : ((pv p).drop i).length ≤ 2 ^ 10 := by rw [List.length_drop]; omega
    have h3 := Nat.mul_le_mul_right (2 ^ 20 + 1) h2
    have h4 : 2 ^ 20 + 2 ^ 10 * (2 ^ 20 + 1) ≤ 2 ^ 32 := by decide
    omega
  have e0 : canon (ev ((pv p).drop p.length) (iv t)) = (false, []) := by rw [List.drop_of_length_le (by omega), ev, canon_zero]
  refine AC.by_walk (rs := [.cell 4 40]) ords Try.func66 (by rfl) (by rfl) (by rfl) (by rfl) (by rfl) ?_
  simp (disch := omega) only [wk, tis, Int.reduceNe, Int.reduceEq, Int.reduceLT, Int.reduceLE, Int.reduceAdd, Int.reduceSub, Int.reduceNeg, Int.reduceMul, Int.reduceToNat, Nat.reduceSub, Nat.reduceMul, Nat.reduceLeDiff, Nat.reduceAdd, Nat.reduceLT, Nat.reduceEqDiff, reduceCtorEq, ↓reduceIte]
  refine aloop_by (fun f H => ∃ (i st3 st4 st5 : Nat), i ≤ p.length ∧ f 6 = .iv (.int .i64 ((i : Int) - 1)) ∧ f 0 = .iv (.sl (raws p)) ∧ f 3 = .hp 3 st3 0 0 ∧ H 3 = .blk false st3 40 2 [prow t] ∧ f 4 = .hp 4 st4 0 0 ∧ H 4 = .blk false st4 40 2 [prow (false, [])] ∧ f 5 = .hp 5 st5 0 0 ∧ H 5 = .blk false st5 40 2 [prow (canon (ev ((pv p).drop i) (iv t)))]) (fun f H => (intAt f 6 + 1).toNat) ?_ ?_
  · refine ⟨p.length, 1, 1, 1, by omega, ?_⟩
    simp (disch := omega) only [wk, tis, Int.reduceNe, Int.reduceEq, Int.reduceLT, Int.reduceLE, Int.reduceAdd, Int.reduceSub, Int.reduceNeg, Int.reduceMul, Int.reduceToNat, Nat.reduceSub, Nat.reduceMul, Nat.reduceLeDiff, Nat.reduceAdd, Nat.reduceLT, Nat.reduceEqDiff, reduceCtorEq, ↓reduceIte, e0]
  rintro f H ⟨i, st3, st4, st5, hi, hF⟩
  rw [intAt_of hF.1]
  simp (disch := omega) only [wk, tis, Int.reduceNe, Int.reduceEq, Int.reduceLT, Int.reduceLE, Int.reduceAdd, Int.reduceSub, Int.reduceNeg, Int.reduceMul, Int.reduceToNat, Nat.reduceSub, Nat.reduceMul, Nat.reduceLeDiff, Nat.reduceAdd, Nat.reduceLT, Nat.reduceEqDiff, reduceCtorEq, ↓reduceIte, hF]
  refine if_by (fun hlt => ?_) (fun hlt => ?_)
  · obtain ⟨j, rfl⟩ : ∃ j, i = j + 1 := ⟨i - 1, by omega⟩
    have ej : ((j + 1 : Nat) : Int) - 1 = (j : Int) := by omega
    rw [ej] at hF
    have hd := drop_cf (pv p) (i := j) (by omega)
    have zj := hp.pv.cf j
    have zb := hb (j + 1)
    have zm := zl_mul (ev ((pv p).drop (j + 1)) (iv t)) (iv t)
    simp (disch := omega) only [wk, tis, Int.reduceNe, Int.reduceEq, Int.reduceLT, Int.reduceLE, Int.reduceAdd, Int.reduceSub, Int.reduceNeg, Int.reduceMul, Int.reduceToNat, Nat.reduceSub, Nat.reduceMul, Nat.reduceLeDiff, Nat.reduceAdd, Nat.reduceLT, Nat.reduceEqDiff, reduceCtorEq, ↓reduceIte, hF, ej]
    refine ⟨tmps_by (by kernel_rfl), ?_⟩
    have m := rMul_ok (canon (ev ((pv p).drop (j + 1)) (iv t))) t ((sz_canon _).mono (by omega)) (ht.mono (by omega))
    rw [iv_canon] at m
    refine call_by (m) (by first | rfl | (simp only [tocvs, tocv, hF, ej]; rfl) | (simp only [tocvs, tocv, toboxes, tobox, updH_at, Nat.reduceEqDiff, ↓reduceIte, hF, ej]; rfl)) (by simp) ?_
    simp (disch := omega) only [wk, tis, Int.reduceNe, Int.reduceEq, Int.reduceLT, Int.reduceLE, Int.reduceAdd, Int.reduceSub, Int.reduceNeg, Int.reduceMul, Int.reduceToNat, Nat.reduceSub, Nat.reduceMul, Nat.reduceLeDiff, Nat.reduceAdd, Nat.reduceLT, Nat.reduceEqDiff, reduceCtorEq, ↓reduceIte, hF, ej]
    have s := rAdd_ok (canon (ev ((pv p).drop (j + 1)) (iv t) * iv t)) (p.getD j (false, [])) ((sz_canon _).mono (by omega)) ((hp.get j).mono (by omega))
    rw [iv_canon, ← cf_pv] at s
    refine call_by (s) (by first | rfl | (simp only [tocvs, tocv, hF, ej]; rfl) | (simp only [tocvs, tocv, toboxes, tobox, updH_at, Nat.reduceEqDiff, ↓reduceIte, hF, ej]; rfl)) (by simp) ?_
    simp (disch := omega) only [wk, tis, Int.reduceNe, Int.reduceEq, Int.reduceLT, Int.reduceLE, Int.reduceAdd, Int.reduceSub, Int.reduceNeg, Int.reduceMul, Int.reduceToNat, Nat.reduceSub, Nat.reduceMul, Nat.reduceLeDiff, Nat.reduceAdd, Nat.reduceLT, Nat.reduceEqDiff, reduceCtorEq, ↓reduceIte, hF, ej]
    first | exact log_by (by kernel_rfl) | refine ⟨log_by (by kernel_rfl), ?_⟩
    have ev' : ev ((pv p).drop (j + 1)) (iv t) * iv t + cf (pv p) j = ev ((pv p).drop j) (iv t) := by rw [hd, ev, Int.add_comm, Int.mul_comm]
    refine ⟨⟨j, st3, st4, st5, by omega, rfl, rfl, rfl, rfl, by rw [ev']; exact ⟨rfl, rfl, rfl⟩⟩, by omega⟩
  · have hi0 : i = 0 := by omega
    subst hi0
    rw [List.drop_zero] at hF
    simp (disch := omega) only [wk, tis, Int.reduceNe, Int.reduceEq, Int.reduceLT, Int.reduceLE, Int.reduceAdd, Int.reduceSub, Int.reduceNeg, Int.reduceMul, Int.reduceToNat, Nat.reduceSub, Nat.reduceMul, Nat.reduceLeDiff, Nat.reduceAdd, Nat.reduceLT, Nat.reduceEqDiff, reduceCtorEq, ↓reduceIte, hF]

theorem homo_ok (p : List RI) (a b : RI) (hp : RP (2 ^ 10) (2 ^ 20) p) (ha : Sz (2 ^ 20) a) (hb : Sz (2 ^ 20) b) : AC Try.prog 70 [cw p, cr a, cr b] none [cz (ihom (trimz (pv p)) (iv a) (iv b))] := by
  have za := zl_iv ha
  have zb := zl_iv hb
  refine AC.by_walk (rs := [.cell 6 40]) ords Try.func70 (by rfl) (by rfl) (by rfl) (by rfl) (by rfl) ?_
  simp (disch := omega) only [wk, tis, Int.reduceNe, Int.reduceEq, Int.reduceLT, Int.reduceLE, Int.reduceAdd, Int.reduceSub, Int.reduceNeg, Int.reduceMul, Int.reduceToNat, Nat.reduceSub, Nat.reduceMul, Nat.reduceLeDiff, Nat.reduceAdd, Nat.reduceLT, Nat.reduceEqDiff, reduceCtorEq, ↓reduceIte]
  refine call_by ((tN_ok p (hp.mono (by omega) (by omega)))) (by rfl) (by simp) ?_
  simp (disch := omega) only [wk, tis, Int.reduceNe, Int.reduceEq, Int.reduceLT, Int.reduceLE, Int.reduceAdd, Int.reduceSub, Int.reduceNeg, Int.reduceMul, Int.reduceToNat, Nat.reduceSub, Nat.reduceMul, Nat.reduceLeDiff, Nat.reduceAdd, Nat.reduceLT, Nat.reduceEqDiff, reduceCtorEq, ↓reduceIte]
  have hA := hp.pv.trimz
  unfold cpoly
  generalize trimz (pv p) = A at *
  have hAl := hA.1
  have hq : (A.map canon).length = A.length := by simp
  have hB : ∀ i, zl (ihom (A.drop i) (iv a) (iv b)) ≤ 2 ^ 32 := fun i => by
    have h := zl_ihom (K := 2 ^ 20) (p := A.drop i) za zb fun z hz => hA.2 z (List.mem_of_mem_drop hz)
    have h2 : (A.drop i).length ≤ 2 ^ 10 := by rw [List.length_drop]; omega
    have h3 := Nat.mul_le_mul_right (2 ^ 20 + 1) h2
    have h4 : 2 ^ 20 + 2 ^ 10 * (2 ^ 20 + 1) + 1 ≤ 2 ^ 32 := by decide
    omega
  refine call_by ((rZ_ok 1 (by omega) (by omega))) (by first | rfl | (simp only [tocvs, tocv, hq]; rfl) | (simp only [tocvs, tocv, toboxes, tobox, updH_at, Nat.reduceEqDiff, ↓reduceIte, hq]; rfl)) (by simp) ?_
  simp (disch := omega) only [wk, tis, Int.reduceNe, Int.reduceEq, Int.reduceLT, Int.reduceLE, Int.reduceAdd, Int.reduceSub, Int.reduceNeg, Int.reduceMul, Int.reduceToNat, Nat.reduceSub, Nat.reduceMul, Nat.reduceLeDiff, Nat.reduceAdd, Nat.reduceLT, Nat.reduceEqDiff, reduceCtorEq, ↓reduceIte, hq]
  have e0 : canon (ihom (A.drop A.length) (iv a) (iv b)) = (false, []) := by rw [List.drop_length, ihom, canon_zero]
  have e1 : canon (iv b ^ (A.length - A.length)) = canon 1 := by rw [Nat.sub_self, Int.pow_zero]
  refine aloop_by (fun f H => ∃ (i st4 st5 st6 st7 st8 : Nat), i ≤ A.length ∧ f 9 = .iv (.int .i64 ((i : Int) - 1)) ∧ f 0 = .iv (.sl (raws (A.map canon))) ∧ f 4 = .hp 4 st4 0 0 ∧ H 4 = .blk false st4 40 2 [prow a] ∧ f 5 = .hp 5 st5 0 0 ∧ H 5 = .blk false st5 40 2 [prow b] ∧ f 6 = .hp 6 st6 0 0 ∧ H 6 = .blk false st6 40 2 [prow (false, [])] ∧ f 7 = .hp 7 st7 0 0 ∧ H 7 = .blk false st7 40 2 [prow (canon (ihom (A.drop i) (iv a) (iv b)))] ∧ f 8 = .hp 8 st8 0 0 ∧ H 8 = .blk false st8 40 2 [prow (canon (iv b ^ (A.length - i)))]) (fun f H => (intAt f 9 + 1).toNat) ?_ ?_
  · refine ⟨A.length, 1, 1, 1, 1, 1, by omega, ?_⟩
    simp (disch := omega) only [wk, tis, Int.reduceNe, Int.reduceEq, Int.reduceLT, Int.reduceLE, Int.reduceAdd, Int.reduceSub, Int.reduceNeg, Int.reduceMul, Int.reduceToNat, Nat.reduceSub, Nat.reduceMul, Nat.reduceLeDiff, Nat.reduceAdd, Nat.reduceLT, Nat.reduceEqDiff, reduceCtorEq, ↓reduceIte, e0, e1]
  rintro f H ⟨i, st4, st5, st6, st7, st8, hi, hF⟩
  rw [intAt_of hF.1]
  simp (disch := omega) only [wk, tis, Int.reduceNe, Int.reduceEq, Int.reduceLT, Int.reduceLE, Int.reduceAdd, Int.reduceSub, Int.reduceNeg, Int.reduceMul, Int.reduceToNat, Nat.reduceSub, Nat.reduceMul, Nat.reduceLeDiff, Nat.reduceAdd, Nat.reduceLT, Nat.reduceEqDiff, reduceCtorEq, ↓reduceIte, hF]
  refine if_by (fun hlt => ?_) (fun hlt => ?_)
  · obtain ⟨j, rfl⟩ : ∃ j, i = j + 1 := ⟨i - 1, by omega⟩
    have ej : ((j + 1 : Nat) : Int) - 1 = (j : Int) := by omega
    rw [ej] at hF
    have hd := drop_cf A (i := j) (by omega)
    have zj := hA.cf j
    have zh := hB (j + 1)
    have zp := zl_pow_b zb (i := A.length - (j + 1)) (by omega)
    have zm := zl_mul (ihom (A.drop (j + 1)) (iv a) (iv b)) (iv a)
    have zm2 := zl_mul (cf A j) (iv b ^ (A.length - (j + 1)))
    simp (disch := omega) only [wk, tis, Int.reduceNe, Int.reduceEq, Int.reduceLT, Int.reduceLE, Int.reduceAdd, Int.reduceSub, Int.reduceNeg, Int.reduceMul, Int.reduceToNat, Nat.reduceSub, Nat.reduceMul, Nat.reduceLeDiff, Nat.reduceAdd, Nat.reduceLT, Nat.reduceEqDiff, reduceCtorEq, ↓reduceIte, hF, ej, hq]
    refine ⟨tmps_by (by kernel_rfl), ?_⟩
    have m := rMul_ok (canon (ihom (A.drop (j + 1)) (iv a) (iv b))) a ((sz_canon _).mono (by omega)) (ha.mono (by omega))
    rw [iv_canon] at m
    refine call_by (m) (by first | rfl | (simp only [tocvs, tocv, hF, ej, hq]; rfl) | (simp only [tocvs, tocv, toboxes, tobox, updH_at, Nat.reduceEqDiff, ↓reduceIte, hF, ej, hq]; rfl)) (by simp) ?_
    simp (disch := omega) only [wk, tis, Int.reduceNe, Int.reduceEq, Int.reduceLT, Int.reduceLE, Int.reduceAdd, Int.reduceSub, Int.reduceNeg, Int.reduceMul, Int.reduceToNat, Nat.reduceSub, Nat.reduceMul, Nat.reduceLeDiff, Nat.reduceAdd, Nat.reduceLT, Nat.reduceEqDiff, reduceCtorEq, ↓reduceIte, hF, ej, hq]
    have m2 := rMul_ok (canon (cf A j)) (canon (iv b ^ (A.length - (j + 1)))) ((sz_canon _).mono (by omega)) ((sz_canon _).mono (by omega))
    rw [iv_canon, iv_canon] at m2
    refine call_by (m2) (by first | rfl | (simp only [tocvs, tocv, hF, ej, hq]; rfl) | (simp only [tocvs, tocv, toboxes, tobox, updH_at, Nat.reduceEqDiff, ↓reduceIte, hF, ej, hq]; rfl)) (by simp) ?_
    simp (disch := omega) only [wk, tis, Int.reduceNe, Int.reduceEq, Int.reduceLT, Int.reduceLE, Int.reduceAdd, Int.reduceSub, Int.reduceNeg, Int.reduceMul, Int.reduceToNat, Nat.reduceSub, Nat.reduceMul, Nat.reduceLeDiff, Nat.reduceAdd, Nat.reduceLT, Nat.reduceEqDiff, reduceCtorEq, ↓reduceIte, hF, ej, hq]
    have s := rAdd_ok (canon (ihom (A.drop (j + 1)) (iv a) (iv b) * iv a)) (canon (cf A j * iv b ^ (A.length - (j + 1)))) ((sz_canon _).mono (by omega)) ((sz_canon _).mono (by omega))
    rw [iv_canon, iv_canon] at s
    refine call_by (s) (by first | rfl | (simp only [tocvs, tocv, hF, ej, hq]; rfl) | (simp only [tocvs, tocv, toboxes, tobox, updH_at, Nat.reduceEqDiff, ↓reduceIte, hF, ej, hq]; rfl)) (by simp) ?_
    simp (disch := omega) only [wk, tis, Int.reduceNe, Int.reduceEq, Int.reduceLT, Int.reduceLE, Int.reduceAdd, Int.reduceSub, Int.reduceNeg, Int.reduceMul, Int.reduceToNat, Nat.reduceSub, Nat.reduceMul, Nat.reduceLeDiff, Nat.reduceAdd, Nat.reduceLT, Nat.reduceEqDiff, reduceCtorEq, ↓reduceIte, hF, ej, hq]
    first | exact log_by (by kernel_rfl) | refine ⟨log_by (by kernel_rfl), ?_⟩
    have m3 := rMul_ok (canon (iv b ^ (A.length - (j + 1)))) b ((sz_canon _).mono (by omega)) (hb.mono (by omega))
    rw [iv_canon, ← Int.pow_succ, show (A.length - (j + 1)).succ = A.length - j by omega] at m3
    refine call_by (m3) (by first | rfl | (simp only [tocvs, tocv, hF, ej, hq]; rfl) | (simp only [tocvs, tocv, toboxes, tobox, updH_at, Nat.reduceEqDiff, ↓reduceIte, hF, ej, hq]; rfl)) (by simp) ?_
    simp (disch := omega) only [wk, tis, Int.reduceNe, Int.reduceEq, Int.reduceLT, Int.reduceLE, Int.reduceAdd, Int.reduceSub, Int.reduceNeg, Int.reduceMul, Int.reduceToNat, Nat.reduceSub, Nat.reduceMul, Nat.reduceLeDiff, Nat.reduceAdd, Nat.reduceLT, Nat.reduceEqDiff, reduceCtorEq, ↓reduceIte, hF, ej, hq]
    have e' : ihom (A.drop (j + 1)) (iv a) (iv b) * iv a + cf A j * iv b ^ (A.length - (j + 1)) = ihom (A.drop j) (iv a) (iv b) := by rw [hd, ihom, List.length_drop, Int.add_comm, Int.mul_comm (iv a)]
    refine ⟨⟨j, st4, st5, st6, st7, st8, by omega, rfl, rfl, rfl, rfl, rfl, rfl, rfl, by rw [e']; exact ⟨rfl, rfl, rfl, rfl⟩⟩, by omega⟩
  · have hi0 : i = 0 := by omega
    subst hi0
    rw [List.drop_zero] at hF
    simp (disch := omega) only [wk, tis, Int.reduceNe, Int.reduceEq, Int.reduceLT, Int.reduceLE, Int.reduceAdd, Int.reduceSub, Int.reduceNeg, Int.reduceMul, Int.reduceToNat, Nat.reduceSub, Nat.reduceMul, Nat.reduceLeDiff, Nat.reduceAdd, Nat.reduceLT, Nat.reduceEqDiff, reduceCtorEq, ↓reduceIte, hF]
end Go.Proofs.Ythgecppfgdadiaa

namespace Go.Proofs.Ythgecppfgdadiaa
open Go Go.Proofs Go.AL
set_option linter.unusedSimpArgs false
set_option linter.unusedVariables false

theorem cmp_two (b a : Int) (F : PS) : cmp [b, a] F = PS.C b + PS.C a * F := by
  rw [cmp_cons, cmp_cons, cmp_nil, PS.mul_zero, PS.add_zero, PS.mul_comm]
theorem cmp_const (b : Int) (F : PS) : cmp [b] F = PS.C b := by rw [cmp_cons, cmp_nil, PS.mul_zero, PS.add_zero]
theorem cmp_sc (a : Int) (p : List Int) (F : PS) : cmp (sc a p) F = cmp p (PS.C a * F) := by
  induction p with
  | nil => rfl
  | cons c p ih =>
    rw [sc, cmp_cons, cmp_pscale, ih, cmp_cons]
    ac_rfl

theorem value_g {p : List RI} {P : List Int} {t out : Int} (hp : RP (2 ^ 10) (2 ^ 20) p) (ht : zl t ≤ 2 ^ 20) (e : ps (pv p) = ps P) (eo : cmp P (PS.C t) = PS.C out) : AC Try.prog 66 [cw p, cz t] none [cz out] := by
  have h := value_ok p (canon t) hp ((sz_canon _).mono ht)
  rw [iv_canon] at h
  have : ev (pv p) t = out := C_inj (by rw [C_ev, ← eo]; exact cmp_ps _ e)
  rwa [this] at h
theorem homo_g {p : List RI} {a b out : Int} (hp : RP (2 ^ 10) (2 ^ 20) p) (ha : zl a ≤ 2 ^ 20) (hb : zl b ≤ 2 ^ 20) (eo : hom (trimz (pv p)) (PS.C a) (PS.C b) = PS.C out) : AC Try.prog 70 [cw p, cz a, cz b] none [cz out] := by
  have h := homo_ok p (canon a) (canon b) hp ((sz_canon _).mono ha) ((sz_canon _).mono hb)
  rw [iv_canon, iv_canon] at h
  have : ihom (trimz (pv p)) a b = out := C_inj (by rw [C_ihom, ← eo])
  rwa [this] at h
theorem radd_g {a b : RI} {x y z : Int} (ha : Sz (2 ^ 30) a) (hb : Sz (2 ^ 30) b) (ex : iv a = x) (ey : iv b = y) (e : x + y = z) : AC Try.prog 67 [cr a, cr b] none [cz z] := by
  have h := rAdd_ok a b (ha.mono (by omega)) (hb.mono (by omega))
  rwa [ex, ey, e] at h
theorem rmul_g {a b : RI} {x y z : Int} (ha : Sz (2 ^ 30) a) (hb : Sz (2 ^ 30) b) (ex : iv a = x) (ey : iv b = y) (e : x * y = z) : AC Try.prog 68 [cr a, cr b] none [cz z] := by
  have h := rMul_ok a b (ha.mono (by omega)) (hb.mono (by omega))
  rwa [ex, ey, e] at h
theorem same1 {z : Int} (h : zl z ≤ 2 ^ 40) : AC Try.prog 42 [cz z, cz z] none [cb true] := by
  have := rSameInt_ok (canon z) (canon z) (Nat.le_trans (show (canon z).2.length ≤ zl z from Nat.le_refl _) (by omega)) (Nat.le_trans (show (canon z).2.length ≤ zl z from Nat.le_refl _) (by omega))
  rwa [decide_eq_true rfl] at this

theorem cz_sz {z : Int} {K : Nat} (h : zl z ≤ K) : Sz K (canon z) := (sz_canon z).mono h

theorem pb_small' {p f g : List Int} (hp : PB 9 3 p) (hf : PB 9 3 f) (hg : PB 9 3 g) : PB 100 60 (lhom p f g) := by
  have h := pb_lhom hf hg (by omega) (by omega) hp
  have hl := hp.1
  exact h.mono (by omega) (by omega)
theorem zl_ev3 {p : List Int} {t : Int} (hp : PB 9 3 p) (ht : zl t ≤ 60) : zl (ev p t) ≤ 700 := by
  have h := zl_ev ht hp.2
  have hl := hp.1
  omega
theorem zl_ihom3 {p : List Int} {a b : Int} (hp : PB 9 3 p) (ha : zl a ≤ 60) (hb : zl b ≤ 60) : zl (ihom p a b) ≤ 700 := by
  have h := zl_ihom ha hb hp.2
  have hl := hp.1
  omega
end Go.Proofs.Ythgecppfgdadiaa

namespace Go.Proofs.Ythgecppfgdadiaa
open Go Go.Proofs Go.AL
set_option linter.unusedSimpArgs false
set_option linter.unusedVariables false

theorem pb_two3' {b a : RI} (hb : Sz 3 b) (ha : Sz 3 a) : PB 9 3 [iv b, iv a] := ⟨by simp, fun z hz => by
  rcases List.mem_cons.1 hz with rfl | hz
  · exact zl_iv hb
  · rw [List.mem_singleton.1 hz]; exact zl_iv ha⟩
theorem pb_sm3' {l : List Int} (hl : l.length ≤ 9) (h : ∀ z ∈ l, z.natAbs < W) : PB 9 3 l := (small_pb l 9 hl h).mono (Nat.le_refl _) (by omega)
theorem one3' : Sz 3 (canon 1) := one_sz (by omega)
theorem pb_sc3' {a : Int} {p : List Int} (hp : PB 9 3 p) (ha : zl a ≤ 3) : PB 100 60 (sc a p) := .of (by rw [sc_len]; exact Nat.le_trans hp.1 (by omega)) fun i => by
  rw [cf_sc]
  by_cases hi : i < p.length
  · have h1 := zl_mul (cf p i) (a ^ i)
    have h2 := zl_pow ha i
    have h3 := hp.cf i
    have h4 := hp.1
    omega
  · rw [cf_ge (by omega), Int.zero_mul, zl_zero]; omega
theorem pb_wt3' {k : Nat} {p : List Int} (hp : PB 9 3 p) (hk : k ≤ 200) : PB 9 60 (wt (2 ^ k) p) := (zl_wt2 hp (by omega)).mono (by omega) (by omega)
theorem pb_small2' {p f g : List Int} (hp : PB 9 60 p) (hf : PB 9 60 f) (hg : PB 9 60 g) : PB 100 700 (lhom p f g) := by
  have h := pb_lhom hf hg (by omega) (by omega) hp
  have hl := hp.1
  exact h.mono (by omega) (by omega)

/-- What the loop of the law calls, at one place. -/
structure At8 (y : C11) (S1 S2 S3 S4 S5 S6 S7 S8 : List Int) (k : Int) : Prop where
  z : AC Try.prog 65 [ci k] none [cz k]
  v1 : ∃ a v, AC Try.prog 66 [cp S1, cz k] none [cz v] ∧ AC Try.prog 67 [cz k, cr y.A] none [cz a] ∧ AC Try.prog 66 [cw y.P, cz a] none [cz v] ∧ AC Try.prog 42 [cz v, cz v] none [cb true]
  v2 : ∃ a v, AC Try.prog 66 [cp S2, cz k] none [cz v] ∧ AC Try.prog 68 [cz k, cr y.A] none [cz a] ∧ AC Try.prog 66 [cw y.P, cz a] none [cz v] ∧ AC Try.prog 42 [cz v, cz v] none [cb true]
  v3 : ∃ a v, AC Try.prog 66 [cp S3, cz k] none [cz v] ∧ AC Try.prog 69 [cz k] none [cz a] ∧ AC Try.prog 66 [cw y.P, cz a] none [cz v] ∧ AC Try.prog 42 [cz v, cz v] none [cb true]
  v4 : ∃ a v, AC Try.prog 66 [cp S4, cz k] none [cz v] ∧ AC Try.prog 66 [cw y.R, cz k] none [cz a] ∧ AC Try.prog 66 [cw y.P, cz a] none [cz v] ∧ AC Try.prog 42 [cz v, cz v] none [cb true]
  v5 : ∃ a v, AC Try.prog 66 [cp S5, cz k] none [cz v] ∧ AC Try.prog 67 [cz k, cz 1] none [cz a] ∧ AC Try.prog 70 [cw y.P, cz 1, cz a] none [cz v] ∧ AC Try.prog 42 [cz v, cz v] none [cb true]
  v6 : ∃ a b c d v, AC Try.prog 68 [cr y.A, cz k] none [cz a] ∧ AC Try.prog 67 [cz a, cr y.B] none [cz b] ∧ AC Try.prog 68 [cr y.C, cz k] none [cz c] ∧ AC Try.prog 67 [cz c, cr y.D] none [cz d] ∧
    AC Try.prog 66 [cp S6, cz k] none [cz v] ∧ AC Try.prog 70 [cw y.P, cz b, cz d] none [cz v] ∧ AC Try.prog 42 [cz v, cz v] none [cb true]
  v7 : ∃ v, AC Try.prog 66 [cp S7, cz k] none [cz v] ∧ AC Try.prog 70 [cw y.P, cz k, cz 2] none [cz v] ∧ AC Try.prog 42 [cz v, cz v] none [cb true]
  v8 : ∃ a v, AC Try.prog 66 [cp S8, cz k] none [cz v] ∧ AC Try.prog 67 [cz k, cz 1] none [cz a] ∧ AC Try.prog 70 [cw y.P, cz a, cz 2] none [cz v] ∧ AC Try.prog 42 [cz v, cz v] none [cb true]

theorem at8 {y : C11} (hy : Few y) {k : Int} (hk1 : -4 ≤ k) (hk2 : k ≤ 4) :
    At8 y (lhom (pv y.P) [iv y.A, 1] [1]) (sc (iv y.A) (trimz (pv y.P))) (sc (-1) (trimz (pv y.P))) (lhom (trimz (pv y.P)) (pv y.R) [1]) (lhom (trimz (pv y.P)) [1, 0] [1, 1]) (lhom (trimz (pv y.P)) [iv y.B, iv y.A] [iv y.D, iv y.C])
      (wt 2 (trimz (pv y.P))) (lhom (wt 2 (trimz (pv y.P))) [1, 1] [1]) k := by
  have zk : zl k ≤ 1 := zl_le.mpr (by simp only [W]; omega)
  have zA := zl_iv hy.A
  have zB := zl_iv hy.B
  have zC := zl_iv hy.C
  have zD := zl_iv hy.D
  have RPP : RP (2 ^ 10) (2 ^ 20) y.P := hy.P.mono (by omega) (by omega)
  have RPR : RP (2 ^ 10) (2 ^ 20) y.R := hy.R.mono (by omega) (by omega)
  have pP := hy.P.pv
  have pT := hy.P.pv.trimz
  have pR := hy.R.pv
  have z1 : zl 1 ≤ 1 := zl_le.mpr (by decide)
  have z2 : zl 2 ≤ 1 := zl_le.mpr (by decide)
  have zn : zl (-1) ≤ 1 := zl_le.mpr (by decide)
  have sA : Sz (2 ^ 30) y.A := hy.A.mono (by omega)
  have sB : Sz (2 ^ 30) y.B := hy.B.mono (by omega)
  have sC : Sz (2 ^ 30) y.C := hy.C.mono (by omega)
  have sD : Sz (2 ^ 30) y.D := hy.D.mono (by omega)
  have sk : Sz (2 ^ 30) (canon k) := cz_sz (by omega)
  have one : PB 9 3 [1] := pb_sm3' (by decide) (by decide)
  have p11 : PB 9 3 [1, 1] := pb_sm3' (by decide) (by decide)
  have p10 : PB 9 3 [1, 0] := pb_sm3' (by decide) (by decide)
  have hA1 : PB 9 3 [iv y.A, 1] := by have := pb_two3' hy.A one3'; rwa [iv_canon] at this
  have g : ∀ {S : List Int} {n m : Nat}, n ≤ 100 → m ≤ 700 → PB n m S → RP (2 ^ 10) (2 ^ 20) (cn S) := fun hn hm h => rp_cn (h.mono (by omega) (by omega))
  have pw2 := pb_wt3' (k := 1) pT (by omega)
  rw [Int.pow_one] at pw2
  refine ⟨rZ_ok k (by omega) (by omega), ?_, ?_, ?_, ?_, ?_, ?_, ?_, ?_⟩
  · have za := zl_add k (iv y.A)
    refine ⟨k + iv y.A, ev (pv y.P) (k + iv y.A), value_g (g (by omega) (by omega) (pb_small' pP hA1 one)) (by omega) (ps_cn _) ?_, radd_g sk sA (iv_canon _) rfl rfl, value_g RPP (by omega) rfl (C_ev _ _).symm, same1 (Nat.le_trans (zl_ev3 pP (by omega)) (by omega))⟩
    rw [cmp_lhom, cmp_two, cmp_const, C_ev, PS.C_add, PS.C_one, PS.one_mul, PS.add_comm]
    rfl
  · have za := zl_mul k (iv y.A)
    refine ⟨k * iv y.A, ev (pv y.P) (k * iv y.A), value_g (g (by omega) (by omega) (pb_sc3' pT zA)) (by omega) (ps_cn _) ?_, rmul_g sk sA (iv_canon _) rfl rfl, value_g RPP (by omega) rfl (C_ev _ _).symm, same1 (Nat.le_trans (zl_ev3 pP (by omega)) (by omega))⟩
    rw [cmp_sc, C_ev, PS.C_mul, PS.mul_comm]
    exact cmp_ps _ (ps_trimz _)
  · have za := zl_neg k
    have hn := rneg_ok (canon k) (sk.mono (by omega))
    rw [iv_canon] at hn
    refine ⟨-k, ev (pv y.P) (-k), value_g (g (by omega) (by omega) (pb_sc3' pT (by omega))) (by omega) (ps_cn _) ?_, hn, value_g RPP (by omega) rfl (C_ev _ _).symm, same1 (Nat.le_trans (zl_ev3 pP (by omega)) (by omega))⟩
    rw [cmp_sc, C_ev, ← PS.C_mul, Int.neg_one_mul]
    exact cmp_ps _ (ps_trimz _)
  · have za := zl_ev (K := 3) (t := k) (kt := 1) zk pR.2
    have hl := pR.1
    have za' : zl (ev (pv y.R) k) ≤ 60 := by omega
    refine ⟨ev (pv y.R) k, ev (pv y.P) (ev (pv y.R) k), value_g (g (by omega) (by omega) (pb_small' pT pR one)) (by omega) (ps_cn _) ?_, value_g RPR (by omega) rfl (C_ev _ _).symm, value_g RPP (by omega) rfl (C_ev _ _).symm, same1 (Nat.le_trans (zl_ev3 pP za') (by omega))⟩
    rw [cmp_lhom, cmp_const, ← C_ev, C_ev (pv y.P)]
    exact cmp_ps _ (ps_trimz _)
  · have za := zl_add k 1
    refine ⟨k + 1, ihom (trimz (pv y.P)) 1 (k + 1), value_g (g (by omega) (by omega) (pb_small' pT p10 p11)) (by omega) (ps_cn _) ?_, radd_g sk (cz_sz (by omega)) (iv_canon _) (iv_canon _) rfl, homo_g RPP (by omega) (by omega) (C_ihom _ _ _).symm, same1 (Nat.le_trans (zl_ihom3 pT (by omega) (by omega)) (by omega))⟩
    rw [cmp_lhom, cmp_two, cmp_two, C_ihom, PS.C_zero, PS.zero_mul, PS.add_zero, PS.C_add, PS.C_one, PS.one_mul, PS.add_comm]
  · have m1 := zl_mul (iv y.A) k
    have m2 := zl_add (iv y.A * k) (iv y.B)
    have m3 := zl_mul (iv y.C) k
    have m4 := zl_add (iv y.C * k) (iv y.D)
    refine ⟨_, _, _, _, ihom (trimz (pv y.P)) (iv y.A * k + iv y.B) (iv y.C * k + iv y.D), rmul_g sA sk rfl (iv_canon _) rfl, radd_g (cz_sz (by omega)) sB (iv_canon _) rfl rfl, rmul_g sC sk rfl (iv_canon _) rfl, radd_g (cz_sz (by omega)) sD (iv_canon _) rfl rfl,
      value_g (g (by omega) (by omega) (pb_small' pT (pb_two3' hy.B hy.A) (pb_two3' hy.D hy.C))) (by omega) (ps_cn _) ?_, homo_g RPP (by omega) (by omega) (C_ihom _ _ _).symm, same1 (Nat.le_trans (zl_ihom3 pT (by omega) (by omega)) (by omega))⟩
    rw [cmp_lhom, cmp_two, cmp_two, C_ihom, PS.C_add, PS.C_add, PS.C_mul, PS.C_mul, PS.add_comm (PS.C (iv y.B)), PS.add_comm (PS.C (iv y.D))]
  · refine ⟨ihom (trimz (pv y.P)) k 2, value_g (g (by omega) (by omega) pw2) (by omega) (ps_cn _) ?_, homo_g RPP (by omega) (by omega) (C_ihom _ _ _).symm, same1 (Nat.le_trans (zl_ihom3 pT (by omega) (by omega)) (by omega))⟩
    rw [C_ihom, hom_C]
  · have za := zl_add k 1
    refine ⟨k + 1, ihom (trimz (pv y.P)) (k + 1) 2, value_g (g (by omega) (by omega) (pb_small2' pw2 (p11.mono (by omega) (by omega)) (one.mono (by omega) (by omega)))) (by omega) (ps_cn _) ?_, radd_g sk (cz_sz (by omega)) (iv_canon _) (iv_canon _) rfl, homo_g RPP (by omega) (by omega) (C_ihom _ _ _).symm, same1 (Nat.le_trans (zl_ihom3 pT (by omega) (by omega)) (by omega))⟩
    rw [cmp_lhom, cmp_two, cmp_const, C_ihom, hom_C (trimz (pv y.P)), PS.C_add, PS.C_one, PS.one_mul, PS.add_comm]
    rfl

theorem last8 {y : C11} (hy : Few y) : ∃ v, AC Try.prog 66 [cp (wt 2 (trimz (pv y.P))), cz 1] none [cz v] ∧ AC Try.prog 66 [cp (lhom (wt 2 (trimz (pv y.P))) [1, 1] [1]), cz 0] none [cz v] ∧ AC Try.prog 42 [cz v, cz v] none [cb true] := by
  have pT := hy.P.pv.trimz
  have z1 : zl 1 ≤ 1 := zl_le.mpr (by decide)
  have z2 : zl 2 ≤ 1 := zl_le.mpr (by decide)
  have one : PB 9 3 [1] := pb_sm3' (by decide) (by decide)
  have p11 : PB 9 3 [1, 1] := pb_sm3' (by decide) (by decide)
  have pw2 := pb_wt3' (k := 1) pT (by omega)
  rw [Int.pow_one] at pw2
  have pw3 := pb_small2' pw2 (p11.mono (n' := 9) (k' := 60) (by omega) (by omega)) (one.mono (n' := 9) (k' := 60) (by omega) (by omega))
  refine ⟨ihom (trimz (pv y.P)) 1 2, value_g (rp_cn (pw2.mono (by omega) (by omega))) (by omega) (ps_cn _) (by rw [C_ihom, hom_C]), value_g (rp_cn (pw3.mono (by omega) (by omega))) (by rw [zl_zero]; omega) (ps_cn _) ?_, same1 (Nat.le_trans (zl_ihom3 pT (by omega) (by omega)) (by omega))⟩
  rw [cmp_lhom, cmp_two, cmp_const, C_ihom, hom_C (trimz (pv y.P)), PS.C_zero, PS.mul_zero, PS.add_zero]
  rfl

theorem values_ok (x : C11) (h : Ok11 x) : AC Try.prog 7 [.agg (case11 x)] none [cb true] := by
  have hl := less_few h
  have hy := few_less h
  generalize lessC x = y at hl hy
  have RP10 : RP (2 ^ 10) (2 ^ 20) y.P := hy.P.mono (by omega) (by omega)
  have RP9 : RP (2 ^ 10) (2 ^ 19) y.P := hy.P.mono (by omega) (by omega)
  have RPR : RP (2 ^ 10) (2 ^ 20) y.R := hy.R.mono (by omega) (by omega)
  have RPc : RP (2 ^ 40) (2 ^ 40) y.P := hy.P.mono (by omega) (by omega)
  have RRc : RP (2 ^ 40) (2 ^ 40) y.R := hy.R.mono (by omega) (by omega)
  have SA : Sz (2 ^ 20) y.A := hy.A.mono (by omega)
  have SB : Sz (2 ^ 20) y.B := hy.B.mono (by omega)
  have SC : Sz (2 ^ 20) y.C := hy.C.mono (by omega)
  have SD : Sz (2 ^ 20) y.D := hy.D.mono (by omega)
  have c1 := lc_ok y.P RPc
  have c2 := lc_ok y.R RRc
  have nA := ln_ok y.A (Nat.le_trans hy.A.1 (by omega))
  have nB := ln_ok y.B (Nat.le_trans hy.B.1 (by omega))
  have nC := ln_ok y.C (Nat.le_trans hy.C.1 (by omega))
  have nD := ln_ok y.D (Nat.le_trans hy.D.1 (by omega))
  have m1 := mshift_g (P := pv y.P) RP10 SA rfl (show ps (lhom (pv y.P) [iv y.A, 1] [1]) = cmp (pv y.P) (ps [iv y.A, 1]) by rw [ps_lhom, ps_one]; rfl)
  have m2 := mscale_ok y.P y.A RP10 SA
  have m3 := mflip_ok y.P RP10
  have m4 := mcompose_ok y.P y.R RP10 RPR
  have m5 := mline2_ok y.P RP10
  have m6 := mmoebius_ok y.P y.A y.B y.C y.D RP10 SA SB SC SD
  have m7 := mhalves_g RP9 (show ps (lhom (wt 2 (trimz (pv y.P))) [1, 1] [1]) = cmp (wt 2 (trimz (pv y.P))) (ps [1, 1]) by rw [ps_lhom, ps_one]; rfl)
  have A8 := fun k hk1 hk2 => at8 hy (k := k) hk1 hk2
  have hlast := last8 hy
  generalize lhom (pv y.P) [iv y.A, 1] [1] = S1 at *
  generalize sc (iv y.A) (trimz (pv y.P)) = S2 at *
  generalize sc (-1) (trimz (pv y.P)) = S3 at *
  generalize lhom (trimz (pv y.P)) (pv y.R) [1] = S4 at *
  generalize lhom (trimz (pv y.P)) [1, 0] [1, 1] = S5 at *
  generalize lhom (trimz (pv y.P)) [iv y.B, iv y.A] [iv y.D, iv y.C] = S6 at *
  generalize lhom (wt 2 (trimz (pv y.P))) [1, 1] [1] = S8 at *
  generalize wt 2 (trimz (pv y.P)) = S7 at *
  refine AC.by_walk (rs := [.tmp 2]) ords Try.func7 (by rfl) (by rfl) (by rfl) (by rfl) (by rfl) ?_
  simp (disch := omega) only [wk, tis, Int.reduceNe, Int.reduceEq, Int.reduceLT, Int.reduceLE, Int.reduceAdd, Int.reduceSub, Int.reduceNeg, Int.reduceMul, Int.reduceToNat, Nat.reduceSub, Nat.reduceMul, Nat.reduceLeDiff, Nat.reduceAdd, Nat.reduceLT, Nat.reduceEqDiff, reduceCtorEq, ↓reduceIte]
  refine call_by (fixed_ok) (by rfl) (by simp) ?_
  simp (disch := omega) only [wk, tis, Int.reduceNe, Int.reduceEq, Int.reduceLT, Int.reduceLE, Int.reduceAdd, Int.reduceSub, Int.reduceNeg, Int.reduceMul, Int.reduceToNat, Nat.reduceSub, Nat.reduceMul, Nat.reduceLeDiff, Nat.reduceAdd, Nat.reduceLT, Nat.reduceEqDiff, reduceCtorEq, ↓reduceIte]
  refine call_by (hl) (by rfl) (by simp) ?_
  simp (disch := omega) only [wk, tis, Int.reduceNe, Int.reduceEq, Int.reduceLT, Int.reduceLE, Int.reduceAdd, Int.reduceSub, Int.reduceNeg, Int.reduceMul, Int.reduceToNat, Nat.reduceSub, Nat.reduceMul, Nat.reduceLeDiff, Nat.reduceAdd, Nat.reduceLT, Nat.reduceEqDiff, reduceCtorEq, ↓reduceIte]
  refine ⟨tmps_by (by kernel_rfl), ?_⟩
  refine frame_call (fun f H => f 1 = .hp 1 1 0 0 ∧ f 2 = .iv (.bool false) ∧ H 1 = .blk false 1 68 21 [case11 y]) ?_ (fun f H hF => ?_)
  · simp (disch := omega) only [wk, tis, Int.reduceNe, Int.reduceEq, Int.reduceLT, Int.reduceLE, Int.reduceAdd, Int.reduceSub, Int.reduceNeg, Int.reduceMul, Int.reduceToNat, Nat.reduceSub, Nat.reduceMul, Nat.reduceLeDiff, Nat.reduceAdd, Nat.reduceLT, Nat.reduceEqDiff, reduceCtorEq, ↓reduceIte]
    rfl
  refine call_by (c1) (by first | rfl | (simp only [tocvs, tocv, hF]; rfl) | (simp only [tocvs, tocv, toboxes, tobox, updH_at, Nat.reduceEqDiff, ↓reduceIte, hF]; rfl)) (by simp) ?_
  simp (disch := omega) only [wk, tis, Int.reduceNe, Int.reduceEq, Int.reduceLT, Int.reduceLE, Int.reduceAdd, Int.reduceSub, Int.reduceNeg, Int.reduceMul, Int.reduceToNat, Nat.reduceSub, Nat.reduceMul, Nat.reduceLeDiff, Nat.reduceAdd, Nat.reduceLT, Nat.reduceEqDiff, reduceCtorEq, ↓reduceIte, hF]
  refine call_by (nA) (by first | rfl | (simp only [tocvs, tocv, hF]; rfl) | (simp only [tocvs, tocv, toboxes, tobox, updH_at, Nat.reduceEqDiff, ↓reduceIte, hF]; rfl)) (by simp) ?_
  simp (disch := omega) only [wk, tis, Int.reduceNe, Int.reduceEq, Int.reduceLT, Int.reduceLE, Int.reduceAdd, Int.reduceSub, Int.reduceNeg, Int.reduceMul, Int.reduceToNat, Nat.reduceSub, Nat.reduceMul, Nat.reduceLeDiff, Nat.reduceAdd, Nat.reduceLT, Nat.reduceEqDiff, reduceCtorEq, ↓reduceIte, hF]
  refine call_by (m1) (by first | rfl | (simp only [tocvs, tocv, hF]; rfl) | (simp only [tocvs, tocv, toboxes, tobox, updH_at, Nat.reduceEqDiff, ↓reduceIte, hF]; rfl)) (by simp) ?_
  simp (disch := omega) only [wk, tis, Int.reduceNe, Int.reduceEq, Int.reduceLT, Int.reduceLE, Int.reduceAdd, Int.reduceSub, Int.reduceNeg, Int.reduceMul, Int.reduceToNat, Nat.reduceSub, Nat.reduceMul, Nat.reduceLeDiff, Nat.reduceAdd, Nat.reduceLT, Nat.reduceEqDiff, reduceCtorEq, ↓reduceIte, hF]
  refine call_by (c1) (by first | rfl | (simp only [tocvs, tocv, hF]; rfl) | (simp only [tocvs, tocv, toboxes, tobox, updH_at, Nat.reduceEqDiff, ↓reduceIte, hF]; rfl)) (by simp) ?_
  simp (disch := omega) only [wk, tis, Int.reduceNe, Int.reduceEq, Int.reduceLT, Int.reduceLE, Int.reduceAdd, Int.reduceSub, Int.reduceNeg, Int.reduceMul, Int.reduceToNat, Nat.reduceSub, Nat.reduceMul, Nat.reduceLeDiff, Nat.reduceAdd, Nat.reduceLT, Nat.reduceEqDiff, reduceCtorEq, ↓reduceIte, hF]
  refine call_by (nA) (by first | rfl | (simp only [tocvs, tocv, hF]; rfl) | (simp only [tocvs, tocv, toboxes, tobox, updH_at, Nat.reduceEqDiff, ↓reduceIte, hF]; rfl)) (by simp) ?_
  simp (disch := omega) only [wk, tis, Int.reduceNe, Int.reduceEq, Int.reduceLT, Int.reduceLE, Int.reduceAdd, Int.reduceSub, Int.reduceNeg, Int.reduceMul, Int.reduceToNat, Nat.reduceSub, Nat.reduceMul, Nat.reduceLeDiff, Nat.reduceAdd, Nat.reduceLT, Nat.reduceEqDiff, reduceCtorEq, ↓reduceIte, hF]
  refine call_by (m2) (by first | rfl | (simp only [tocvs, tocv, hF]; rfl) | (simp only [tocvs, tocv, toboxes, tobox, updH_at, Nat.reduceEqDiff, ↓reduceIte, hF]; rfl)) (by simp) ?_
  simp (disch := omega) only [wk, tis, Int.reduceNe, Int.reduceEq, Int.reduceLT, Int.reduceLE, Int.reduceAdd, Int.reduceSub, Int.reduceNeg, Int.reduceMul, Int.reduceToNat, Nat.reduceSub, Nat.reduceMul, Nat.reduceLeDiff, Nat.reduceAdd, Nat.reduceLT, Nat.reduceEqDiff, reduceCtorEq, ↓reduceIte, hF]
  refine call_by (c1) (by first | rfl | (simp only [tocvs, tocv, hF]; rfl) | (simp only [tocvs, tocv, toboxes, tobox, updH_at, Nat.reduceEqDiff, ↓reduceIte, hF]; rfl)) (by simp) ?_
  simp (disch := omega) only [wk, tis, Int.reduceNe, Int.reduceEq, Int.reduceLT, Int.reduceLE, Int.reduceAdd, Int.reduceSub, Int.reduceNeg, Int.reduceMul, Int.reduceToNat, Nat.reduceSub, Nat.reduceMul, Nat.reduceLeDiff, Nat.reduceAdd, Nat.reduceLT, Nat.reduceEqDiff, reduceCtorEq, ↓reduceIte, hF]
  refine call_by (m3) (by first | rfl | (simp only [tocvs, tocv, hF]; rfl) | (simp only [tocvs, tocv, toboxes, tobox, updH_at, Nat.reduceEqDiff, ↓reduceIte, hF]; rfl)) (by simp) ?_
  simp (disch := omega) only [wk, tis, Int.reduceNe, Int.reduceEq, Int.reduceLT, Int.reduceLE, Int.reduceAdd, Int.reduceSub, Int.reduceNeg, Int.reduceMul, Int.reduceToNat, Nat.reduceSub, Nat.reduceMul, Nat.reduceLeDiff, Nat.reduceAdd, Nat.reduceLT, Nat.reduceEqDiff, reduceCtorEq, ↓reduceIte, hF]
  first | exact log_by (by kernel_rfl) | refine ⟨log_by (by kernel_rfl), ?_⟩
  refine ⟨tmps_by (by kernel_rfl), ?_⟩
  refine frame_call (fun f H => f 1 = .hp 1 1 0 0 ∧ f 2 = .iv (.bool false) ∧ H 1 = .blk false 1 68 21 [case11 y] ∧ f 3 = .iv (.sl (cpoly S1)) ∧ f 4 = .iv (.sl (cpoly S2)) ∧ f 5 = .iv (.sl (cpoly S3))) ?_ (fun f H hF => ?_)
  · simp (disch := omega) only [wk, tis, Int.reduceNe, Int.reduceEq, Int.reduceLT, Int.reduceLE, Int.reduceAdd, Int.reduceSub, Int.reduceNeg, Int.reduceMul, Int.reduceToNat, Nat.reduceSub, Nat.reduceMul, Nat.reduceLeDiff, Nat.reduceAdd, Nat.reduceLT, Nat.reduceEqDiff, reduceCtorEq, ↓reduceIte, hF]
  refine call_by (c1) (by first | rfl | (simp only [tocvs, tocv, hF]; rfl) | (simp only [tocvs, tocv, toboxes, tobox, updH_at, Nat.reduceEqDiff, ↓reduceIte, hF]; rfl)) (by simp) ?_
  simp (disch := omega) only [wk, tis, Int.reduceNe, Int.reduceEq, Int.reduceLT, Int.reduceLE, Int.reduceAdd, Int.reduceSub, Int.reduceNeg, Int.reduceMul, Int.reduceToNat, Nat.reduceSub, Nat.reduceMul, Nat.reduceLeDiff, Nat.reduceAdd, Nat.reduceLT, Nat.reduceEqDiff, reduceCtorEq, ↓reduceIte, hF]
  refine call_by (c2) (by first | rfl | (simp only [tocvs, tocv, hF]; rfl) | (simp only [tocvs, tocv, toboxes, tobox, updH_at, Nat.reduceEqDiff, ↓reduceIte, hF]; rfl)) (by simp) ?_
  simp (disch := omega) only [wk, tis, Int.reduceNe, Int.reduceEq, Int.reduceLT, Int.reduceLE, Int.reduceAdd, Int.reduceSub, Int.reduceNeg, Int.reduceMul, Int.reduceToNat, Nat.reduceSub, Nat.reduceMul, Nat.reduceLeDiff, Nat.reduceAdd, Nat.reduceLT, Nat.reduceEqDiff, reduceCtorEq, ↓reduceIte, hF]
  refine call_by (m4) (by first | rfl | (simp only [tocvs, tocv, hF]; rfl) | (simp only [tocvs, tocv, toboxes, tobox, updH_at, Nat.reduceEqDiff, ↓reduceIte, hF]; rfl)) (by simp) ?_
  simp (disch := omega) only [wk, tis, Int.reduceNe, Int.reduceEq, Int.reduceLT, Int.reduceLE, Int.reduceAdd, Int.reduceSub, Int.reduceNeg, Int.reduceMul, Int.reduceToNat, Nat.reduceSub, Nat.reduceMul, Nat.reduceLeDiff, Nat.reduceAdd, Nat.reduceLT, Nat.reduceEqDiff, reduceCtorEq, ↓reduceIte, hF]
  refine call_by (c1) (by first | rfl | (simp only [tocvs, tocv, hF]; rfl) | (simp only [tocvs, tocv, toboxes, tobox, updH_at, Nat.reduceEqDiff, ↓reduceIte, hF]; rfl)) (by simp) ?_
  simp (disch := omega) only [wk, tis, Int.reduceNe, Int.reduceEq, Int.reduceLT, Int.reduceLE, Int.reduceAdd, Int.reduceSub, Int.reduceNeg, Int.reduceMul, Int.reduceToNat, Nat.reduceSub, Nat.reduceMul, Nat.reduceLeDiff, Nat.reduceAdd, Nat.reduceLT, Nat.reduceEqDiff, reduceCtorEq, ↓reduceIte, hF]
  refine call_by (m5) (by first | rfl | (simp only [tocvs, tocv, hF]; rfl) | (simp only [tocvs, tocv, toboxes, tobox, updH_at, Nat.reduceEqDiff, ↓reduceIte, hF]; rfl)) (by simp) ?_
  simp (disch := omega) only [wk, tis, Int.reduceNe, Int.reduceEq, Int.reduceLT, Int.reduceLE, Int.reduceAdd, Int.reduceSub, Int.reduceNeg, Int.reduceMul, Int.reduceToNat, Nat.reduceSub, Nat.reduceMul, Nat.reduceLeDiff, Nat.reduceAdd, Nat.reduceLT, Nat.reduceEqDiff, reduceCtorEq, ↓reduceIte, hF]
  first | exact log_by (by kernel_rfl) | refine ⟨log_by (by kernel_rfl), ?_⟩
  refine ⟨tmps_by (by kernel_rfl), ?_⟩
  refine frame_call (fun f H => f 1 = .hp 1 1 0 0 ∧ f 2 = .iv (.bool false) ∧ H 1 = .blk false 1 68 21 [case11 y] ∧ f 3 = .iv (.sl (cpoly S1)) ∧ f 4 = .iv (.sl (cpoly S2)) ∧ f 5 = .iv (.sl (cpoly S3)) ∧ f 6 = .iv (.sl (cpoly S4)) ∧ f 7 = .iv (.sl (cpoly S5))) ?_ (fun f H hF => ?_)
  · simp (disch := omega) only [wk, tis, Int.reduceNe, Int.reduceEq, Int.reduceLT, Int.reduceLE, Int.reduceAdd, Int.reduceSub, Int.reduceNeg, Int.reduceMul, Int.reduceToNat, Nat.reduceSub, Nat.reduceMul, Nat.reduceLeDiff, Nat.reduceAdd, Nat.reduceLT, Nat.reduceEqDiff, reduceCtorEq, ↓reduceIte, hF]
  refine call_by (c1) (by first | rfl | (simp only [tocvs, tocv, hF]; rfl) | (simp only [tocvs, tocv, toboxes, tobox, updH_at, Nat.reduceEqDiff, ↓reduceIte, hF]; rfl)) (by simp) ?_
  simp (disch := omega) only [wk, tis, Int.reduceNe, Int.reduceEq, Int.reduceLT, Int.reduceLE, Int.reduceAdd, Int.reduceSub, Int.reduceNeg, Int.reduceMul, Int.reduceToNat, Nat.reduceSub, Nat.reduceMul, Nat.reduceLeDiff, Nat.reduceAdd, Nat.reduceLT, Nat.reduceEqDiff, reduceCtorEq, ↓reduceIte, hF]
  refine call_by (nA) (by first | rfl | (simp only [tocvs, tocv, hF]; rfl) | (simp only [tocvs, tocv, toboxes, tobox, updH_at, Nat.reduceEqDiff, ↓reduceIte, hF]; rfl)) (by simp) ?_
  simp (disch := omega) only [wk, tis, Int.reduceNe, Int.reduceEq, Int.reduceLT, Int.reduceLE, Int.reduceAdd, Int.reduceSub, Int.reduceNeg, Int.reduceMul, Int.reduceToNat, Nat.reduceSub, Nat.reduceMul, Nat.reduceLeDiff, Nat.reduceAdd, Nat.reduceLT, Nat.reduceEqDiff, reduceCtorEq, ↓reduceIte, hF]
  refine call_by (nB) (by first | rfl | (simp only [tocvs, tocv, hF]; rfl) | (simp only [tocvs, tocv, toboxes, tobox, updH_at, Nat.reduceEqDiff, ↓reduceIte, hF]; rfl)) (by simp) ?_
  simp (disch := omega) only [wk, tis, Int.reduceNe, Int.reduceEq, Int.reduceLT, Int.reduceLE, Int.reduceAdd, Int.reduceSub, Int.reduceNeg, Int.reduceMul, Int.reduceToNat, Nat.reduceSub, Nat.reduceMul, Nat.reduceLeDiff, Nat.reduceAdd, Nat.reduceLT, Nat.reduceEqDiff, reduceCtorEq, ↓reduceIte, hF]
  refine call_by (nC) (by first | rfl | (simp only [tocvs, tocv, hF]; rfl) | (simp only [tocvs, tocv, toboxes, tobox, updH_at, Nat.reduceEqDiff, ↓reduceIte, hF]; rfl)) (by simp) ?_
  simp (disch := omega) only [wk, tis, Int.reduceNe, Int.reduceEq, Int.reduceLT, Int.reduceLE, Int.reduceAdd, Int.reduceSub, Int.reduceNeg, Int.reduceMul, Int.reduceToNat, Nat.reduceSub, Nat.reduceMul, Nat.reduceLeDiff, Nat.reduceAdd, Nat.reduceLT, Nat.reduceEqDiff, reduceCtorEq, ↓reduceIte, hF]
  refine call_by (nD) (by first | rfl | (simp only [tocvs, tocv, hF]; rfl) | (simp only [tocvs, tocv, toboxes, tobox, updH_at, Nat.reduceEqDiff, ↓reduceIte, hF]; rfl)) (by simp) ?_
  simp (disch := omega) only [wk, tis, Int.reduceNe, Int.reduceEq, Int.reduceLT, Int.reduceLE, Int.reduceAdd, Int.reduceSub, Int.reduceNeg, Int.reduceMul, Int.reduceToNat, Nat.reduceSub, Nat.reduceMul, Nat.reduceLeDiff, Nat.reduceAdd, Nat.reduceLT, Nat.reduceEqDiff, reduceCtorEq, ↓reduceIte, hF]
  refine call_by (m6) (by first | rfl | (simp only [tocvs, tocv, hF]; rfl) | (simp only [tocvs, tocv, toboxes, tobox, updH_at, Nat.reduceEqDiff, ↓reduceIte, hF]; rfl)) (by simp) ?_
  simp (disch := omega) only [wk, tis, Int.reduceNe, Int.reduceEq, Int.reduceLT, Int.reduceLE, Int.reduceAdd, Int.reduceSub, Int.reduceNeg, Int.reduceMul, Int.reduceToNat, Nat.reduceSub, Nat.reduceMul, Nat.reduceLeDiff, Nat.reduceAdd, Nat.reduceLT, Nat.reduceEqDiff, reduceCtorEq, ↓reduceIte, hF]
  first | exact log_by (by kernel_rfl) | refine ⟨log_by (by kernel_rfl), ?_⟩
  refine call_by (c1) (by first | rfl | (simp only [tocvs, tocv, hF]; rfl) | (simp only [tocvs, tocv, toboxes, tobox, updH_at, Nat.reduceEqDiff, ↓reduceIte, hF]; rfl)) (by simp) ?_
  simp (disch := omega) only [wk, tis, Int.reduceNe, Int.reduceEq, Int.reduceLT, Int.reduceLE, Int.reduceAdd, Int.reduceSub, Int.reduceNeg, Int.reduceMul, Int.reduceToNat, Nat.reduceSub, Nat.reduceMul, Nat.reduceLeDiff, Nat.reduceAdd, Nat.reduceLT, Nat.reduceEqDiff, reduceCtorEq, ↓reduceIte, hF]
  refine call_by (m7) (by first | rfl | (simp only [tocvs, tocv, hF]; rfl) | (simp only [tocvs, tocv, toboxes, tobox, updH_at, Nat.reduceEqDiff, ↓reduceIte, hF]; rfl)) (by simp) ?_
  simp (disch := omega) only [wk, tis, Int.reduceNe, Int.reduceEq, Int.reduceLT, Int.reduceLE, Int.reduceAdd, Int.reduceSub, Int.reduceNeg, Int.reduceMul, Int.reduceToNat, Nat.reduceSub, Nat.reduceMul, Nat.reduceLeDiff, Nat.reduceAdd, Nat.reduceLT, Nat.reduceEqDiff, reduceCtorEq, ↓reduceIte, hF]
  refine aloop_by (fun f H => ∃ (j : Nat), j ≤ 9 ∧ f 11 = .iv (.int .i64 ((j : Int) - 4)) ∧ f 1 = .hp 1 1 0 0 ∧ f 2 = .iv (.bool false) ∧ H 1 = .blk false 1 68 21 [case11 y] ∧ f 3 = .iv (.sl (cpoly S1)) ∧ f 4 = .iv (.sl (cpoly S2)) ∧ f 5 = .iv (.sl (cpoly S3)) ∧ f 6 = .iv (.sl (cpoly S4)) ∧ f 7 = .iv (.sl (cpoly S5)) ∧ f 8 = .iv (.sl (cpoly S6)) ∧ f 9 = .iv (.sl (cpoly S7)) ∧ f 10 = .iv (.sl (cpoly S8))) (fun f H => (5 - intAt f 11).toNat) ?_ ?_
  · refine ⟨0, by omega, ?_⟩
    simp (disch := omega) only [wk, tis, Int.reduceNe, Int.reduceEq, Int.reduceLT, Int.reduceLE, Int.reduceAdd, Int.reduceSub, Int.reduceNeg, Int.reduceMul, Int.reduceToNat, Nat.reduceSub, Nat.reduceMul, Nat.reduceLeDiff, Nat.reduceAdd, Nat.reduceLT, Nat.reduceEqDiff, reduceCtorEq, ↓reduceIte, hF]
  rintro f H ⟨j, hj, hF⟩
  rw [intAt_of hF.1]
  simp (disch := omega) only [wk, tis, Int.reduceNe, Int.reduceEq, Int.reduceLT, Int.reduceLE, Int.reduceAdd, Int.reduceSub, Int.reduceNeg, Int.reduceMul, Int.reduceToNat, Nat.reduceSub, Nat.reduceMul, Nat.reduceLeDiff, Nat.reduceAdd, Nat.reduceLT, Nat.reduceEqDiff, reduceCtorEq, ↓reduceIte, hF]
  refine if_by (fun hlt => ?_) (fun hlt => ?_)
  · obtain ⟨k, hk⟩ : ∃ k : Int, k = (j : Int) - 4 := ⟨_, rfl⟩
    obtain ⟨z, ⟨a1, w1, x1, x2, x3, x4⟩, ⟨a2, w2, y1, y2, y3, y4⟩, ⟨a3, w3, u1, u2, u3, u4⟩, ⟨a4, w4, d1, d2, d3, d4⟩, ⟨a5, w5, e1, e2, e3, e4⟩, ⟨a6, b6, c6, d6, w6, g1, g2, g3, g4, g5, g6, g7⟩, ⟨w7, i1, i2, i3⟩, ⟨a8, w8, j1, j2, j3, j4⟩⟩ := A8 k (by omega) (by omega)
    have z1 := rZ_ok 1 (by omega) (by omega)
    have z2 := rZ_ok 2 (by omega) (by omega)
    obtain ⟨s12, h12⟩ : ∃ s, s = (H 12).stamp + 1 := ⟨_, rfl⟩
    rw [← hk] at hF ⊢
    simp (disch := omega) only [wk, tis, Int.reduceNe, Int.reduceEq, Int.reduceLT, Int.reduceLE, Int.reduceAdd, Int.reduceSub, Int.reduceNeg, Int.reduceMul, Int.reduceToNat, Nat.reduceSub, Nat.reduceMul, Nat.reduceLeDiff, Nat.reduceAdd, Nat.reduceLT, Nat.reduceEqDiff, reduceCtorEq, ↓reduceIte, hF]
    refine call_by (z) (by first | rfl | (simp only [tocvs, tocv, hF, ← h12]; rfl) | (simp only [tocvs, tocv, toboxes, tobox, updH_at, Nat.reduceEqDiff, ↓reduceIte, hF, ← h12]; rfl)) (by simp) ?_
    simp (disch := omega) only [wk, tis, Int.reduceNe, Int.reduceEq, Int.reduceLT, Int.reduceLE, Int.reduceAdd, Int.reduceSub, Int.reduceNeg, Int.reduceMul, Int.reduceToNat, Nat.reduceSub, Nat.reduceMul, Nat.reduceLeDiff, Nat.reduceAdd, Nat.reduceLT, Nat.reduceEqDiff, reduceCtorEq, ↓reduceIte, hF, ← h12]
    refine ⟨tmps_by (by kernel_rfl), ?_⟩
    refine frame_call (fun f H => f 1 = .hp 1 1 0 0 ∧ f 2 = .iv (.bool false) ∧ H 1 = .blk false 1 68 21 [case11 y] ∧ f 3 = .iv (.sl (cpoly S1)) ∧ f 4 = .iv (.sl (cpoly S2)) ∧ f 5 = .iv (.sl (cpoly S3)) ∧ f 6 = .iv (.sl (cpoly S4)) ∧ f 7 = .iv (.sl (cpoly S5)) ∧ f 8 = .iv (.sl (cpoly S6)) ∧ f 9 = .iv (.sl (cpoly S7)) ∧ f 10 = .iv (.sl (cpoly S8)) ∧ f 11 = .iv (.int .i64 k) ∧ f 12 = .hp 12 s12 0 0 ∧ H 12 = .blk false s12 40 2 [prow (canon k)]) ?_ (fun f H hF => ?_)
    · simp (disch := omega) only [wk, tis, Int.reduceNe, Int.reduceEq, Int.reduceLT, Int.reduceLE, Int.reduceAdd, Int.reduceSub, Int.reduceNeg, Int.reduceMul, Int.reduceToNat, Nat.reduceSub, Nat.reduceMul, Nat.reduceLeDiff, Nat.reduceAdd, Nat.reduceLT, Nat.reduceEqDiff, reduceCtorEq, ↓reduceIte, hF]
    refine call_by (x1) (by first | rfl | (simp only [tocvs, tocv, hF]; rfl) | (simp only [tocvs, tocv, toboxes, tobox, updH_at, Nat.reduceEqDiff, ↓reduceIte, hF]; rfl)) (by simp) ?_
    simp (disch := omega) only [wk, tis, Int.reduceNe, Int.reduceEq, Int.reduceLT, Int.reduceLE, Int.reduceAdd, Int.reduceSub, Int.reduceNeg, Int.reduceMul, Int.reduceToNat, Nat.reduceSub, Nat.reduceMul, Nat.reduceLeDiff, Nat.reduceAdd, Nat.reduceLT, Nat.reduceEqDiff, reduceCtorEq, ↓reduceIte, hF]
    refine call_by (x2) (by first | rfl | (simp only [tocvs, tocv, hF]; rfl) | (simp only [tocvs, tocv, toboxes, tobox, updH_at, Nat.reduceEqDiff, ↓reduceIte, hF]; rfl)) (by simp) ?_
    simp (disch := omega) only [wk, tis, Int.reduceNe, Int.reduceEq, Int.reduceLT, Int.reduceLE, Int.reduceAdd, Int.reduceSub, Int.reduceNeg, Int.reduceMul, Int.reduceToNat, Nat.reduceSub, Nat.reduceMul, Nat.reduceLeDiff, Nat.reduceAdd, Nat.reduceLT, Nat.reduceEqDiff, reduceCtorEq, ↓reduceIte, hF]
    refine call_by (x3) (by first | rfl | (simp only [tocvs, tocv, hF]; rfl) | (simp only [tocvs, tocv, toboxes, tobox, updH_at, Nat.reduceEqDiff, ↓reduceIte, hF]; rfl)) (by simp) ?_
    simp (disch := omega) only [wk, tis, Int.reduceNe, Int.reduceEq, Int.reduceLT, Int.reduceLE, Int.reduceAdd, Int.reduceSub, Int.reduceNeg, Int.reduceMul, Int.reduceToNat, Nat.reduceSub, Nat.reduceMul, Nat.reduceLeDiff, Nat.reduceAdd, Nat.reduceLT, Nat.reduceEqDiff, reduceCtorEq, ↓reduceIte, hF]
    refine call_by (x4) (by first | rfl | (simp only [tocvs, tocv, hF]; rfl) | (simp only [tocvs, tocv, toboxes, tobox, updH_at, Nat.reduceEqDiff, ↓reduceIte, hF]; rfl)) (by simp) ?_
    simp (disch := omega) only [wk, tis, Int.reduceNe, Int.reduceEq, Int.reduceLT, Int.reduceLE, Int.reduceAdd, Int.reduceSub, Int.reduceNeg, Int.reduceMul, Int.reduceToNat, Nat.reduceSub, Nat.reduceMul, Nat.reduceLeDiff, Nat.reduceAdd, Nat.reduceLT, Nat.reduceEqDiff, reduceCtorEq, ↓reduceIte, hF]
    refine call_by (y1) (by first | rfl | (simp only [tocvs, tocv, hF]; rfl) | (simp only [tocvs, tocv, toboxes, tobox, updH_at, Nat.reduceEqDiff, ↓reduceIte, hF]; rfl)) (by simp) ?_
    simp (disch := omega) only [wk, tis, Int.reduceNe, Int.reduceEq, Int.reduceLT, Int.reduceLE, Int.reduceAdd, Int.reduceSub, Int.reduceNeg, Int.reduceMul, Int.reduceToNat, Nat.reduceSub, Nat.reduceMul, Nat.reduceLeDiff, Nat.reduceAdd, Nat.reduceLT, Nat.reduceEqDiff, reduceCtorEq, ↓reduceIte, hF]
    refine call_by (y2) (by first | rfl | (simp only [tocvs, tocv, hF]; rfl) | (simp only [tocvs, tocv, toboxes, tobox, updH_at, Nat.reduceEqDiff, ↓reduceIte, hF]; rfl)) (by simp) ?_
    simp (disch := omega) only [wk, tis, Int.reduceNe, Int.reduceEq, Int.reduceLT, Int.reduceLE, Int.reduceAdd, Int.reduceSub, Int.reduceNeg, Int.reduceMul, Int.reduceToNat, Nat.reduceSub, Nat.reduceMul, Nat.reduceLeDiff, Nat.reduceAdd, Nat.reduceLT, Nat.reduceEqDiff, reduceCtorEq, ↓reduceIte, hF]
    refine call_by (y3) (by first | rfl | (simp only [tocvs, tocv, hF]; rfl) | (simp only [tocvs, tocv, toboxes, tobox, updH_at, Nat.reduceEqDiff, ↓reduceIte, hF]; rfl)) (by simp) ?_
    simp (disch := omega) only [wk, tis, Int.reduceNe, Int.reduceEq, Int.reduceLT, Int.reduceLE, Int.reduceAdd, Int.reduceSub, Int.reduceNeg, Int.reduceMul, Int.reduceToNat, Nat.reduceSub, Nat.reduceMul, Nat.reduceLeDiff, Nat.reduceAdd, Nat.reduceLT, Nat.reduceEqDiff, reduceCtorEq, ↓reduceIte, hF]
    refine call_by (y4) (by first | rfl | (simp only [tocvs, tocv, hF]; rfl) | (simp only [tocvs, tocv, toboxes, tobox, updH_at, Nat.reduceEqDiff, ↓reduceIte, hF]; rfl)) (by simp) ?_
    simp (disch := omega) only [wk, tis, Int.reduceNe, Int.reduceEq, Int.reduceLT, Int.reduceLE, Int.reduceAdd, Int.reduceSub, Int.reduceNeg, Int.reduceMul, Int.reduceToNat, Nat.reduceSub, Nat.reduceMul, Nat.reduceLeDiff, Nat.reduceAdd, Nat.reduceLT, Nat.reduceEqDiff, reduceCtorEq, ↓reduceIte, hF]
    refine call_by (u1) (by first | rfl | (simp only [tocvs, tocv, hF]; rfl) | (simp only [tocvs, tocv, toboxes, tobox, updH_at, Nat.reduceEqDiff, ↓reduceIte, hF]; rfl)) (by simp) ?_
    simp (disch := omega) only [wk, tis, Int.reduceNe, Int.reduceEq, Int.reduceLT, Int.reduceLE, Int.reduceAdd, Int.reduceSub, Int.reduceNeg, Int.reduceMul, Int.reduceToNat, Nat.reduceSub, Nat.reduceMul, Nat.reduceLeDiff, Nat.reduceAdd, Nat.reduceLT, Nat.reduceEqDiff, reduceCtorEq, ↓reduceIte, hF]
    refine call_by (u2) (by first | rfl | (simp only [tocvs, tocv, hF]; rfl) | (simp only [tocvs, tocv, toboxes, tobox, updH_at, Nat.reduceEqDiff, ↓reduceIte, hF]; rfl)) (by simp) ?_
    simp (disch := omega) only [wk, tis, Int.reduceNe, Int.reduceEq, Int.reduceLT, Int.reduceLE, Int.reduceAdd, Int.reduceSub, Int.reduceNeg, Int.reduceMul, Int.reduceToNat, Nat.reduceSub, Nat.reduceMul, Nat.reduceLeDiff, Nat.reduceAdd, Nat.reduceLT, Nat.reduceEqDiff, reduceCtorEq, ↓reduceIte, hF]
    refine call_by (u3) (by first | rfl | (simp only [tocvs, tocv, hF]; rfl) | (simp only [tocvs, tocv, toboxes, tobox, updH_at, Nat.reduceEqDiff, ↓reduceIte, hF]; rfl)) (by simp) ?_
    simp (disch := omega) only [wk, tis, Int.reduceNe, Int.reduceEq, Int.reduceLT, Int.reduceLE, Int.reduceAdd, Int.reduceSub, Int.reduceNeg, Int.reduceMul, Int.reduceToNat, Nat.reduceSub, Nat.reduceMul, Nat.reduceLeDiff, Nat.reduceAdd, Nat.reduceLT, Nat.reduceEqDiff, reduceCtorEq, ↓reduceIte, hF]
    refine call_by (u4) (by first | rfl | (simp only [tocvs, tocv, hF]; rfl) | (simp only [tocvs, tocv, toboxes, tobox, updH_at, Nat.reduceEqDiff, ↓reduceIte, hF]; rfl)) (by simp) ?_
    simp (disch := omega) only [wk, tis, Int.reduceNe, Int.reduceEq, Int.reduceLT, Int.reduceLE, Int.reduceAdd, Int.reduceSub, Int.reduceNeg, Int.reduceMul, Int.reduceToNat, Nat.reduceSub, Nat.reduceMul, Nat.reduceLeDiff, Nat.reduceAdd, Nat.reduceLT, Nat.reduceEqDiff, reduceCtorEq, ↓reduceIte, hF]
    first | exact log_by (by kernel_rfl) | refine ⟨log_by (by kernel_rfl), ?_⟩
    refine ⟨tmps_by (by kernel_rfl), ?_⟩
    refine frame_call (fun f H => f 1 = .hp 1 1 0 0 ∧ f 2 = .iv (.bool false) ∧ H 1 = .blk false 1 68 21 [case11 y] ∧ f 3 = .iv (.sl (cpoly S1)) ∧ f 4 = .iv (.sl (cpoly S2)) ∧ f 5 = .iv (.sl (cpoly S3)) ∧ f 6 = .iv (.sl (cpoly S4)) ∧ f 7 = .iv (.sl (cpoly S5)) ∧ f 8 = .iv (.sl (cpoly S6)) ∧ f 9 = .iv (.sl (cpoly S7)) ∧ f 10 = .iv (.sl (cpoly S8)) ∧ f 11 = .iv (.int .i64 k) ∧ f 12 = .hp 12 s12 0 0 ∧ H 12 = .blk false s12 40 2 [prow (canon k)]) ?_ (fun f H hF => ?_)
    · simp (disch := omega) only [wk, tis, Int.reduceNe, Int.reduceEq, Int.reduceLT, Int.reduceLE, Int.reduceAdd, Int.reduceSub, Int.reduceNeg, Int.reduceMul, Int.reduceToNat, Nat.reduceSub, Nat.reduceMul, Nat.reduceLeDiff, Nat.reduceAdd, Nat.reduceLT, Nat.reduceEqDiff, reduceCtorEq, ↓reduceIte, hF]
    refine call_by (d1) (by first | rfl | (simp only [tocvs, tocv, hF]; rfl) | (simp only [tocvs, tocv, toboxes, tobox, updH_at, Nat.reduceEqDiff, ↓reduceIte, hF]; rfl)) (by simp) ?_
    simp (disch := omega) only [wk, tis, Int.reduceNe, Int.reduceEq, Int.reduceLT, Int.reduceLE, Int.reduceAdd, Int.reduceSub, Int.reduceNeg, Int.reduceMul, Int.reduceToNat, Nat.reduceSub, Nat.reduceMul, Nat.reduceLeDiff, Nat.reduceAdd, Nat.reduceLT, Nat.reduceEqDiff, reduceCtorEq, ↓reduceIte, hF]
    refine call_by (d2) (by first | rfl | (simp only [tocvs, tocv, hF]; rfl) | (simp only [tocvs, tocv, toboxes, tobox, updH_at, Nat.reduceEqDiff, ↓reduceIte, hF]; rfl)) (by simp) ?_
    simp (disch := omega) only [wk, tis, Int.reduceNe, Int.reduceEq, Int.reduceLT, Int.reduceLE, Int.reduceAdd, Int.reduceSub, Int.reduceNeg, Int.reduceMul, Int.reduceToNat, Nat.reduceSub, Nat.reduceMul, Nat.reduceLeDiff, Nat.reduceAdd, Nat.reduceLT, Nat.reduceEqDiff, reduceCtorEq, ↓reduceIte, hF]
    refine call_by (d3) (by first | rfl | (simp only [tocvs, tocv, hF]; rfl) | (simp only [tocvs, tocv, toboxes, tobox, updH_at, Nat.reduceEqDiff, ↓reduceIte, hF]; rfl)) (by simp) ?_
    simp (disch := omega) only [wk, tis, Int.reduceNe, Int.reduceEq, Int.reduceLT, Int.reduceLE, Int.reduceAdd, Int.reduceSub, Int.reduceNeg, Int.reduceMul, Int.reduceToNat, Nat.reduceSub, Nat.reduceMul, Nat.reduceLeDiff, Nat.reduceAdd, Nat.reduceLT, Nat.reduceEqDiff, reduceCtorEq, ↓reduceIte, hF]
    refine call_by (d4) (by first | rfl | (simp only [tocvs, tocv, hF]; rfl) | (simp only [tocvs, tocv, toboxes, tobox, updH_at, Nat.reduceEqDiff, ↓reduceIte, hF]; rfl)) (by simp) ?_
    simp (disch := omega) only [wk, tis, Int.reduceNe, Int.reduceEq, Int.reduceLT, Int.reduceLE, Int.reduceAdd, Int.reduceSub, Int.reduceNeg, Int.reduceMul, Int.reduceToNat, Nat.reduceSub, Nat.reduceMul, Nat.reduceLeDiff, Nat.reduceAdd, Nat.reduceLT, Nat.reduceEqDiff, reduceCtorEq, ↓reduceIte, hF]
    refine call_by (e1) (by first | rfl | (simp only [tocvs, tocv, hF]; rfl) | (simp only [tocvs, tocv, toboxes, tobox, updH_at, Nat.reduceEqDiff, ↓reduceIte, hF]; rfl)) (by simp) ?_
    simp (disch := omega) only [wk, tis, Int.reduceNe, Int.reduceEq, Int.reduceLT, Int.reduceLE, Int.reduceAdd, Int.reduceSub, Int.reduceNeg, Int.reduceMul, Int.reduceToNat, Nat.reduceSub, Nat.reduceMul, Nat.reduceLeDiff, Nat.reduceAdd, Nat.reduceLT, Nat.reduceEqDiff, reduceCtorEq, ↓reduceIte, hF]
    refine call_by (z1) (by first | rfl | (simp only [tocvs, tocv, hF]; rfl) | (simp only [tocvs, tocv, toboxes, tobox, updH_at, Nat.reduceEqDiff, ↓reduceIte, hF]; rfl)) (by simp) ?_
    simp (disch := omega) only [wk, tis, Int.reduceNe, Int.reduceEq, Int.reduceLT, Int.reduceLE, Int.reduceAdd, Int.reduceSub, Int.reduceNeg, Int.reduceMul, Int.reduceToNat, Nat.reduceSub, Nat.reduceMul, Nat.reduceLeDiff, Nat.reduceAdd, Nat.reduceLT, Nat.reduceEqDiff, reduceCtorEq, ↓reduceIte, hF]
    refine call_by (z1) (by first | rfl | (simp only [tocvs, tocv, hF]; rfl) | (simp only [tocvs, tocv, toboxes, tobox, updH_at, Nat.reduceEqDiff, ↓reduceIte, hF]; rfl)) (by simp) ?_
    simp (disch := omega) only [wk, tis, Int.reduceNe, Int.reduceEq, Int.reduceLT, Int.reduceLE, Int.reduceAdd, Int.reduceSub, Int.reduceNeg, Int.reduceMul, Int.reduceToNat, Nat.reduceSub, Nat.reduceMul, Nat.reduceLeDiff, Nat.reduceAdd, Nat.reduceLT, Nat.reduceEqDiff, reduceCtorEq, ↓reduceIte, hF]
    refine call_by (e2) (by first | rfl | (simp only [tocvs, tocv, hF]; rfl) | (simp only [tocvs, tocv, toboxes, tobox, updH_at, Nat.reduceEqDiff, ↓reduceIte, hF]; rfl)) (by simp) ?_
    simp (disch := omega) only [wk, tis, Int.reduceNe, Int.reduceEq, Int.reduceLT, Int.reduceLE, Int.reduceAdd, Int.reduceSub, Int.reduceNeg, Int.reduceMul, Int.reduceToNat, Nat.reduceSub, Nat.reduceMul, Nat.reduceLeDiff, Nat.reduceAdd, Nat.reduceLT, Nat.reduceEqDiff, reduceCtorEq, ↓reduceIte, hF]
    refine call_by (e3) (by first | rfl | (simp only [tocvs, tocv, hF]; rfl) | (simp only [tocvs, tocv, toboxes, tobox, updH_at, Nat.reduceEqDiff, ↓reduceIte, hF]; rfl)) (by simp) ?_
    simp (disch := omega) only [wk, tis, Int.reduceNe, Int.reduceEq, Int.reduceLT, Int.reduceLE, Int.reduceAdd, Int.reduceSub, Int.reduceNeg, Int.reduceMul, Int.reduceToNat, Nat.reduceSub, Nat.reduceMul, Nat.reduceLeDiff, Nat.reduceAdd, Nat.reduceLT, Nat.reduceEqDiff, reduceCtorEq, ↓reduceIte, hF]
    refine call_by (e4) (by first | rfl | (simp only [tocvs, tocv, hF]; rfl) | (simp only [tocvs, tocv, toboxes, tobox, updH_at, Nat.reduceEqDiff, ↓reduceIte, hF]; rfl)) (by simp) ?_
    simp (disch := omega) only [wk, tis, Int.reduceNe, Int.reduceEq, Int.reduceLT, Int.reduceLE, Int.reduceAdd, Int.reduceSub, Int.reduceNeg, Int.reduceMul, Int.reduceToNat, Nat.reduceSub, Nat.reduceMul, Nat.reduceLeDiff, Nat.reduceAdd, Nat.reduceLT, Nat.reduceEqDiff, reduceCtorEq, ↓reduceIte, hF]
    first | exact log_by (by kernel_rfl) | refine ⟨log_by (by kernel_rfl), ?_⟩
    refine ⟨tmps_by (by kernel_rfl), ?_⟩
    refine frame_call (fun f H => f 1 = .hp 1 1 0 0 ∧ f 2 = .iv (.bool false) ∧ H 1 = .blk false 1 68 21 [case11 y] ∧ f 3 = .iv (.sl (cpoly S1)) ∧ f 4 = .iv (.sl (cpoly S2)) ∧ f 5 = .iv (.sl (cpoly S3)) ∧ f 6 = .iv (.sl (cpoly S4)) ∧ f 7 = .iv (.sl (cpoly S5)) ∧ f 8 = .iv (.sl (cpoly S6)) ∧ f 9 = .iv (.sl (cpoly S7)) ∧ f 10 = .iv (.sl (cpoly S8)) ∧ f 11 = .iv (.int .i64 k) ∧ f 12 = .hp 12 s12 0 0 ∧ H 12 = .blk false s12 40 2 [prow (canon k)]) ?_ (fun f H hF => ?_)
    · simp (disch := omega) only [wk, tis, Int.reduceNe, Int.reduceEq, Int.reduceLT, Int.reduceLE, Int.reduceAdd, Int.reduceSub, Int.reduceNeg, Int.reduceMul, Int.reduceToNat, Nat.reduceSub, Nat.reduceMul, Nat.reduceLeDiff, Nat.reduceAdd, Nat.reduceLT, Nat.reduceEqDiff, reduceCtorEq, ↓reduceIte, hF]
    refine call_by (g1) (by first | rfl | (simp only [tocvs, tocv, hF]; rfl) | (simp only [tocvs, tocv, toboxes, tobox, updH_at, Nat.reduceEqDiff, ↓reduceIte, hF]; rfl)) (by simp) ?_
    simp (disch := omega) only [wk, tis, Int.reduceNe, Int.reduceEq, Int.reduceLT, Int.reduceLE, Int.reduceAdd, Int.reduceSub, Int.reduceNeg, Int.reduceMul, Int.reduceToNat, Nat.reduceSub, Nat.reduceMul, Nat.reduceLeDiff, Nat.reduceAdd, Nat.reduceLT, Nat.reduceEqDiff, reduceCtorEq, ↓reduceIte, hF]
    refine call_by (g2) (by first | rfl | (simp only [tocvs, tocv, hF]; rfl) | (simp only [tocvs, tocv, toboxes, tobox, updH_at, Nat.reduceEqDiff, ↓reduceIte, hF]; rfl)) (by simp) ?_
    simp (disch := omega) only [wk, tis, Int.reduceNe, Int.reduceEq, Int.reduceLT, Int.reduceLE, Int.reduceAdd, Int.reduceSub, Int.reduceNeg, Int.reduceMul, Int.reduceToNat, Nat.reduceSub, Nat.reduceMul, Nat.reduceLeDiff, Nat.reduceAdd, Nat.reduceLT, Nat.reduceEqDiff, reduceCtorEq, ↓reduceIte, hF]
    refine call_by (g3) (by first | rfl | (simp only [tocvs, tocv, hF]; rfl) | (simp only [tocvs, tocv, toboxes, tobox, updH_at, Nat.reduceEqDiff, ↓reduceIte, hF]; rfl)) (by simp) ?_
    simp (disch := omega) only [wk, tis, Int.reduceNe, Int.reduceEq, Int.reduceLT, Int.reduceLE, Int.reduceAdd, Int.reduceSub, Int.reduceNeg, Int.reduceMul, Int.reduceToNat, Nat.reduceSub, Nat.reduceMul, Nat.reduceLeDiff, Nat.reduceAdd, Nat.reduceLT, Nat.reduceEqDiff, reduceCtorEq, ↓reduceIte, hF]
    refine call_by (g4) (by first | rfl | (simp only [tocvs, tocv, hF]; rfl) | (simp only [tocvs, tocv, toboxes, tobox, updH_at, Nat.reduceEqDiff, ↓reduceIte, hF]; rfl)) (by simp) ?_
    simp (disch := omega) only [wk, tis, Int.reduceNe, Int.reduceEq, Int.reduceLT, Int.reduceLE, Int.reduceAdd, Int.reduceSub, Int.reduceNeg, Int.reduceMul, Int.reduceToNat, Nat.reduceSub, Nat.reduceMul, Nat.reduceLeDiff, Nat.reduceAdd, Nat.reduceLT, Nat.reduceEqDiff, reduceCtorEq, ↓reduceIte, hF]
    first | exact log_by (by kernel_rfl) | refine ⟨log_by (by kernel_rfl), ?_⟩
    refine ⟨tmps_by (by kernel_rfl), ?_⟩
    refine call_by (g5) (by first | rfl | (simp only [tocvs, tocv, hF]; rfl) | (simp only [tocvs, tocv, toboxes, tobox, updH_at, Nat.reduceEqDiff, ↓reduceIte, hF]; rfl)) (by simp) ?_
    simp (disch := omega) only [wk, tis, Int.reduceNe, Int.reduceEq, Int.reduceLT, Int.reduceLE, Int.reduceAdd, Int.reduceSub, Int.reduceNeg, Int.reduceMul, Int.reduceToNat, Nat.reduceSub, Nat.reduceMul, Nat.reduceLeDiff, Nat.reduceAdd, Nat.reduceLT, Nat.reduceEqDiff, reduceCtorEq, ↓reduceIte, hF]
    refine call_by (g6) (by first | rfl | (simp only [tocvs, tocv, hF]; rfl) | (simp only [tocvs, tocv, toboxes, tobox, updH_at, Nat.reduceEqDiff, ↓reduceIte, hF]; rfl)) (by simp) ?_
    simp (disch := omega) only [wk, tis, Int.reduceNe, Int.reduceEq, Int.reduceLT, Int.reduceLE, Int.reduceAdd, Int.reduceSub, Int.reduceNeg, Int.reduceMul, Int.reduceToNat, Nat.reduceSub, Nat.reduceMul, Nat.reduceLeDiff, Nat.reduceAdd, Nat.reduceLT, Nat.reduceEqDiff, reduceCtorEq, ↓reduceIte, hF]
    refine call_by (g7) (by first | rfl | (simp only [tocvs, tocv, hF]; rfl) | (simp only [tocvs, tocv, toboxes, tobox, updH_at, Nat.reduceEqDiff, ↓reduceIte, hF]; rfl)) (by simp) ?_
    simp (disch := omega) only [wk, tis, Int.reduceNe, Int.reduceEq, Int.reduceLT, Int.reduceLE, Int.reduceAdd, Int.reduceSub, Int.reduceNeg, Int.reduceMul, Int.reduceToNat, Nat.reduceSub, Nat.reduceMul, Nat.reduceLeDiff, Nat.reduceAdd, Nat.reduceLT, Nat.reduceEqDiff, reduceCtorEq, ↓reduceIte, hF]
    first | exact log_by (by kernel_rfl) | refine ⟨log_by (by kernel_rfl), ?_⟩
    refine ⟨tmps_by (by kernel_rfl), ?_⟩
    refine frame_call (fun f H => f 1 = .hp 1 1 0 0 ∧ f 2 = .iv (.bool false) ∧ H 1 = .blk false 1 68 21 [case11 y] ∧ f 3 = .iv (.sl (cpoly S1)) ∧ f 4 = .iv (.sl (cpoly S2)) ∧ f 5 = .iv (.sl (cpoly S3)) ∧ f 6 = .iv (.sl (cpoly S4)) ∧ f 7 = .iv (.sl (cpoly S5)) ∧ f 8 = .iv (.sl (cpoly S6)) ∧ f 9 = .iv (.sl (cpoly S7)) ∧ f 10 = .iv (.sl (cpoly S8)) ∧ f 11 = .iv (.int .i64 k) ∧ f 12 = .hp 12 s12 0 0 ∧ H 12 = .blk false s12 40 2 [prow (canon k)]) ?_ (fun f H hF => ?_)
    · simp (disch := omega) only [wk, tis, Int.reduceNe, Int.reduceEq, Int.reduceLT, Int.reduceLE, Int.reduceAdd, Int.reduceSub, Int.reduceNeg, Int.reduceMul, Int.reduceToNat, Nat.reduceSub, Nat.reduceMul, Nat.reduceLeDiff, Nat.reduceAdd, Nat.reduceLT, Nat.reduceEqDiff, reduceCtorEq, ↓reduceIte, hF]
    refine call_by (i1) (by first | rfl | (simp only [tocvs, tocv, hF]; rfl) | (simp only [tocvs, tocv, toboxes, tobox, updH_at, Nat.reduceEqDiff, ↓reduceIte, hF]; rfl)) (by simp) ?_
    simp (disch := omega) only [wk, tis, Int.reduceNe, Int.reduceEq, Int.reduceLT, Int.reduceLE, Int.reduceAdd, Int.reduceSub, Int.reduceNeg, Int.reduceMul, Int.reduceToNat, Nat.reduceSub, Nat.reduceMul, Nat.reduceLeDiff, Nat.reduceAdd, Nat.reduceLT, Nat.reduceEqDiff, reduceCtorEq, ↓reduceIte, hF]
    refine call_by (z2) (by first | rfl | (simp only [tocvs, tocv, hF]; rfl) | (simp only [tocvs, tocv, toboxes, tobox, updH_at, Nat.reduceEqDiff, ↓reduceIte, hF]; rfl)) (by simp) ?_
    simp (disch := omega) only [wk, tis, Int.reduceNe, Int.reduceEq, Int.reduceLT, Int.reduceLE, Int.reduceAdd, Int.reduceSub, Int.reduceNeg, Int.reduceMul, Int.reduceToNat, Nat.reduceSub, Nat.reduceMul, Nat.reduceLeDiff, Nat.reduceAdd, Nat.reduceLT, Nat.reduceEqDiff, reduceCtorEq, ↓reduceIte, hF]
    refine call_by (i2) (by first | rfl | (simp only [tocvs, tocv, hF]; rfl) | (simp only [tocvs, tocv, toboxes, tobox, updH_at, Nat.reduceEqDiff, ↓reduceIte, hF]; rfl)) (by simp) ?_
    simp (disch := omega) only [wk, tis, Int.reduceNe, Int.reduceEq, Int.reduceLT, Int.reduceLE, Int.reduceAdd, Int.reduceSub, Int.reduceNeg, Int.reduceMul, Int.reduceToNat, Nat.reduceSub, Nat.reduceMul, Nat.reduceLeDiff, Nat.reduceAdd, Nat.reduceLT, Nat.reduceEqDiff, reduceCtorEq, ↓reduceIte, hF]
    refine call_by (i3) (by first | rfl | (simp only [tocvs, tocv, hF]; rfl) | (simp only [tocvs, tocv, toboxes, tobox, updH_at, Nat.reduceEqDiff, ↓reduceIte, hF]; rfl)) (by simp) ?_
    simp (disch := omega) only [wk, tis, Int.reduceNe, Int.reduceEq, Int.reduceLT, Int.reduceLE, Int.reduceAdd, Int.reduceSub, Int.reduceNeg, Int.reduceMul, Int.reduceToNat, Nat.reduceSub, Nat.reduceMul, Nat.reduceLeDiff, Nat.reduceAdd, Nat.reduceLT, Nat.reduceEqDiff, reduceCtorEq, ↓reduceIte, hF]
    refine call_by (j1) (by first | rfl | (simp only [tocvs, tocv, hF]; rfl) | (simp only [tocvs, tocv, toboxes, tobox, updH_at, Nat.reduceEqDiff, ↓reduceIte, hF]; rfl)) (by simp) ?_
    simp (disch := omega) only [wk, tis, Int.reduceNe, Int.reduceEq, Int.reduceLT, Int.reduceLE, Int.reduceAdd, Int.reduceSub, Int.reduceNeg, Int.reduceMul, Int.reduceToNat, Nat.reduceSub, Nat.reduceMul, Nat.reduceLeDiff, Nat.reduceAdd, Nat.reduceLT, Nat.reduceEqDiff, reduceCtorEq, ↓reduceIte, hF]
    refine call_by (z1) (by first | rfl | (simp only [tocvs, tocv, hF]; rfl) | (simp only [tocvs, tocv, toboxes, tobox, updH_at, Nat.reduceEqDiff, ↓reduceIte, hF]; rfl)) (by simp) ?_
    simp (disch := omega) only [wk, tis, Int.reduceNe, Int.reduceEq, Int.reduceLT, Int.reduceLE, Int.reduceAdd, Int.reduceSub, Int.reduceNeg, Int.reduceMul, Int.reduceToNat, Nat.reduceSub, Nat.reduceMul, Nat.reduceLeDiff, Nat.reduceAdd, Nat.reduceLT, Nat.reduceEqDiff, reduceCtorEq, ↓reduceIte, hF]
    refine call_by (j2) (by first | rfl | (simp only [tocvs, tocv, hF]; rfl) | (simp only [tocvs, tocv, toboxes, tobox, updH_at, Nat.reduceEqDiff, ↓reduceIte, hF]; rfl)) (by simp) ?_
    simp (disch := omega) only [wk, tis, Int.reduceNe, Int.reduceEq, Int.reduceLT, Int.reduceLE, Int.reduceAdd, Int.reduceSub, Int.reduceNeg, Int.reduceMul, Int.reduceToNat, Nat.reduceSub, Nat.reduceMul, Nat.reduceLeDiff, Nat.reduceAdd, Nat.reduceLT, Nat.reduceEqDiff, reduceCtorEq, ↓reduceIte, hF]
    refine call_by (z2) (by first | rfl | (simp only [tocvs, tocv, hF]; rfl) | (simp only [tocvs, tocv, toboxes, tobox, updH_at, Nat.reduceEqDiff, ↓reduceIte, hF]; rfl)) (by simp) ?_
    simp (disch := omega) only [wk, tis, Int.reduceNe, Int.reduceEq, Int.reduceLT, Int.reduceLE, Int.reduceAdd, Int.reduceSub, Int.reduceNeg, Int.reduceMul, Int.reduceToNat, Nat.reduceSub, Nat.reduceMul, Nat.reduceLeDiff, Nat.reduceAdd, Nat.reduceLT, Nat.reduceEqDiff, reduceCtorEq, ↓reduceIte, hF]
    refine call_by (j3) (by first | rfl | (simp only [tocvs, tocv, hF]; rfl) | (simp only [tocvs, tocv, toboxes, tobox, updH_at, Nat.reduceEqDiff, ↓reduceIte, hF]; rfl)) (by simp) ?_
    simp (disch := omega) only [wk, tis, Int.reduceNe, Int.reduceEq, Int.reduceLT, Int.reduceLE, Int.reduceAdd, Int.reduceSub, Int.reduceNeg, Int.reduceMul, Int.reduceToNat, Nat.reduceSub, Nat.reduceMul, Nat.reduceLeDiff, Nat.reduceAdd, Nat.reduceLT, Nat.reduceEqDiff, reduceCtorEq, ↓reduceIte, hF]
    refine call_by (j4) (by first | rfl | (simp only [tocvs, tocv, hF]; rfl) | (simp only [tocvs, tocv, toboxes, tobox, updH_at, Nat.reduceEqDiff, ↓reduceIte, hF]; rfl)) (by simp) ?_
    simp (disch := omega) only [wk, tis, Int.reduceNe, Int.reduceEq, Int.reduceLT, Int.reduceLE, Int.reduceAdd, Int.reduceSub, Int.reduceNeg, Int.reduceMul, Int.reduceToNat, Nat.reduceSub, Nat.reduceMul, Nat.reduceLeDiff, Nat.reduceAdd, Nat.reduceLT, Nat.reduceEqDiff, reduceCtorEq, ↓reduceIte, hF]
    first | exact log_by (by kernel_rfl) | refine ⟨log_by (by kernel_rfl), ?_⟩
    exact ⟨⟨j + 1, by omega, by omega⟩, by omega⟩
  · obtain ⟨v, i1, i2, i3⟩ := hlast
    have z0 := rZ_ok 0 (by omega) (by omega)
    have z1 := rZ_ok 1 (by omega) (by omega)
    simp (disch := omega) only [wk, tis, Int.reduceNe, Int.reduceEq, Int.reduceLT, Int.reduceLE, Int.reduceAdd, Int.reduceSub, Int.reduceNeg, Int.reduceMul, Int.reduceToNat, Nat.reduceSub, Nat.reduceMul, Nat.reduceLeDiff, Nat.reduceAdd, Nat.reduceLT, Nat.reduceEqDiff, reduceCtorEq, ↓reduceIte, hF]
    refine call_by (z1) (by first | rfl | (simp only [tocvs, tocv, hF]; rfl) | (simp only [tocvs, tocv, toboxes, tobox, updH_at, Nat.reduceEqDiff, ↓reduceIte, hF]; rfl)) (by simp) ?_
    simp (disch := omega) only [wk, tis, Int.reduceNe, Int.reduceEq, Int.reduceLT, Int.reduceLE, Int.reduceAdd, Int.reduceSub, Int.reduceNeg, Int.reduceMul, Int.reduceToNat, Nat.reduceSub, Nat.reduceMul, Nat.reduceLeDiff, Nat.reduceAdd, Nat.reduceLT, Nat.reduceEqDiff, reduceCtorEq, ↓reduceIte, hF]
    refine call_by (i1) (by first | rfl | (simp only [tocvs, tocv, hF]; rfl) | (simp only [tocvs, tocv, toboxes, tobox, updH_at, Nat.reduceEqDiff, ↓reduceIte, hF]; rfl)) (by simp) ?_
    simp (disch := omega) only [wk, tis, Int.reduceNe, Int.reduceEq, Int.reduceLT, Int.reduceLE, Int.reduceAdd, Int.reduceSub, Int.reduceNeg, Int.reduceMul, Int.reduceToNat, Nat.reduceSub, Nat.reduceMul, Nat.reduceLeDiff, Nat.reduceAdd, Nat.reduceLT, Nat.reduceEqDiff, reduceCtorEq, ↓reduceIte, hF]
    refine call_by (z0) (by first | rfl | (simp only [tocvs, tocv, hF]; rfl) | (simp only [tocvs, tocv, toboxes, tobox, updH_at, Nat.reduceEqDiff, ↓reduceIte, hF]; rfl)) (by simp) ?_
    simp (disch := omega) only [wk, tis, Int.reduceNe, Int.reduceEq, Int.reduceLT, Int.reduceLE, Int.reduceAdd, Int.reduceSub, Int.reduceNeg, Int.reduceMul, Int.reduceToNat, Nat.reduceSub, Nat.reduceMul, Nat.reduceLeDiff, Nat.reduceAdd, Nat.reduceLT, Nat.reduceEqDiff, reduceCtorEq, ↓reduceIte, hF]
    refine call_by (i2) (by first | rfl | (simp only [tocvs, tocv, hF]; rfl) | (simp only [tocvs, tocv, toboxes, tobox, updH_at, Nat.reduceEqDiff, ↓reduceIte, hF]; rfl)) (by simp) ?_
    simp (disch := omega) only [wk, tis, Int.reduceNe, Int.reduceEq, Int.reduceLT, Int.reduceLE, Int.reduceAdd, Int.reduceSub, Int.reduceNeg, Int.reduceMul, Int.reduceToNat, Nat.reduceSub, Nat.reduceMul, Nat.reduceLeDiff, Nat.reduceAdd, Nat.reduceLT, Nat.reduceEqDiff, reduceCtorEq, ↓reduceIte, hF]
    refine call_by (i3) (by first | rfl | (simp only [tocvs, tocv, hF]; rfl) | (simp only [tocvs, tocv, toboxes, tobox, updH_at, Nat.reduceEqDiff, ↓reduceIte, hF]; rfl)) (by simp) ?_
    simp (disch := omega) only [wk, tis, Int.reduceNe, Int.reduceEq, Int.reduceLT, Int.reduceLE, Int.reduceAdd, Int.reduceSub, Int.reduceNeg, Int.reduceMul, Int.reduceToNat, Nat.reduceSub, Nat.reduceMul, Nat.reduceLeDiff, Nat.reduceAdd, Nat.reduceLT, Nat.reduceEqDiff, reduceCtorEq, ↓reduceIte, hF]

theorem values_law (P R : List RI) (A B C D : RI) (K M : Int) (At : RI) (E : Int) (Pt : Bool) (F G : List RQ) (X : RQ) (hP : Raw P) (hR : Raw R) (hA : Sz 9223372036854775807 A) (hB : Sz 9223372036854775807 B) (hC : Sz 9223372036854775807 C) (hD : Sz 9223372036854775807 D)
    (hK1 : -9223372036854775808 ≤ K) (hK2 : K ≤ 9223372036854775807) (hM1 : -9223372036854775808 ≤ M) (hM2 : M ≤ 9223372036854775807) (hAt : Sz 9223372036854775807 At) (hE1 : -9223372036854775808 ≤ E) (hE2 : E ≤ 9223372036854775807) (hF : RawQ F) (hG : RawQ G) (hX : SzQ 9223372036854775807 X) :
    AC Try.prog 7 [.agg (case11 ⟨P, R, A, B, C, D, K, M, At, E, Pt, F, G, X⟩)] none [cb true] :=
  values_ok _ (ok11 P R A B C D K M At E Pt F G X hP hR hA hB hC hD hK1 hK2 hM1 hM2 hAt hE1 hE2 hF hG hX)
end Go.Proofs.Ythgecppfgdadiaa

namespace Go.Proofs.Ythgecppfgdadiaa
open Go Go.Proofs Go.AL
set_option linter.unusedSimpArgs false
set_option linter.unusedVariables false

theorem smul_ok (a b : List RI) (ha : RP (2 ^ 30) (2 ^ 35) a) (hb : RP (2 ^ 30) (2 ^ 35) b) : AC Try.prog 30 [cw a, cw b] none [cp (pmul (pv a) (pv b))] := by
  refine AC.by_walk (rs := [.tmp 4]) ords Try.func30 (by rfl) (by rfl) (by rfl) (by rfl) (by rfl) ?_
  have pa := ha.pv.trimz
  have pb := hb.pv.trimz
  have e0 : cp (pmul (pv a) (pv b)) = cp (pmul (trimz (pv a)) (trimz (pv b))) := cp_ps (by rw [ps_pmul, ps_pmul, ps_trimz, ps_trimz])
  rw [e0]
  simp (disch := omega) only [wk, tis, Int.reduceNe, Int.reduceEq, Int.reduceLT, Int.reduceLE, Int.reduceAdd, Int.reduceSub, Int.reduceNeg, Int.reduceMul, Int.reduceToNat, Nat.reduceSub, Nat.reduceMul, Nat.reduceLeDiff, Nat.reduceAdd, Nat.reduceLT, Nat.reduceEqDiff, reduceCtorEq, ↓reduceIte]
  refine call_by ((snorm_ok a (ha.mono (by omega) (by omega)))) (by rfl) (by simp) ?_
  simp (disch := omega) only [wk, tis, Int.reduceNe, Int.reduceEq, Int.reduceLT, Int.reduceLE, Int.reduceAdd, Int.reduceSub, Int.reduceNeg, Int.reduceMul, Int.reduceToNat, Nat.reduceSub, Nat.reduceMul, Nat.reduceLeDiff, Nat.reduceAdd, Nat.reduceLT, Nat.reduceEqDiff, reduceCtorEq, ↓reduceIte]
  refine call_by ((snorm_ok b (hb.mono (by omega) (by omega)))) (by rfl) (by simp) ?_
  simp (disch := omega) only [wk, tis, Int.reduceNe, Int.reduceEq, Int.reduceLT, Int.reduceLE, Int.reduceAdd, Int.reduceSub, Int.reduceNeg, Int.reduceMul, Int.reduceToNat, Nat.reduceSub, Nat.reduceMul, Nat.reduceLeDiff, Nat.reduceAdd, Nat.reduceLT, Nat.reduceEqDiff, reduceCtorEq, ↓reduceIte]
  unfold cpoly
  generalize trimz (pv a) = A at *
  generalize trimz (pv b) = B at *
  have hA := pa.1
  have hB := pb.1
  have hAl : (A.map canon).length = A.length := by simp
  have hBl : (B.map canon).length = B.length := by simp
  simp (disch := omega) only [wk, tis, Int.reduceNe, Int.reduceEq, Int.reduceLT, Int.reduceLE, Int.reduceAdd, Int.reduceSub, Int.reduceNeg, Int.reduceMul, Int.reduceToNat, Nat.reduceSub, Nat.reduceMul, Nat.reduceLeDiff, Nat.reduceAdd, Nat.reduceLT, Nat.reduceEqDiff, reduceCtorEq, ↓reduceIte, hAl, hBl]
  by_cases hza : (A.length : Int) = 0
  · have hA0 : A = [] := by rw [← List.length_eq_zero_iff]; omega
    subst hA0
    simp (disch := omega) only [wk, tis, Int.reduceNe, Int.reduceEq, Int.reduceLT, Int.reduceLE, Int.reduceAdd, Int.reduceSub, Int.reduceNeg, Int.reduceMul, Int.reduceToNat, Nat.reduceSub, Nat.reduceMul, Nat.reduceLeDiff, Nat.reduceAdd, Nat.reduceLT, Nat.reduceEqDiff, reduceCtorEq, ↓reduceIte, hza, hBl]
    have : trimz (pmul [] B) = [] := by rw [← List.length_eq_zero_iff, trimz_len, tz_zero_iff]; intro k; rw [cf_pmul]; rfl
    unfold cpoly; rw [this]; rfl
  by_cases hzb : (B.length : Int) = 0
  · have hB0 : B = [] := by rw [← List.length_eq_zero_iff]; omega
    subst hB0
    simp (disch := omega) only [wk, tis, Int.reduceNe, Int.reduceEq, Int.reduceLT, Int.reduceLE, Int.reduceAdd, Int.reduceSub, Int.reduceNeg, Int.reduceMul, Int.reduceToNat, Nat.reduceSub, Nat.reduceMul, Nat.reduceLeDiff, Nat.reduceAdd, Nat.reduceLT, Nat.reduceEqDiff, reduceCtorEq, ↓reduceIte, hza, hzb, hAl]
    have : trimz (pmul A []) = [] := by
      rw [← List.length_eq_zero_iff, trimz_len, tz_zero_iff]; intro k; rw [cf_pmul, cv_none]
    unfold cpoly; rw [this]; rfl
  simp (disch := omega) only [wk, tis, Int.reduceNe, Int.reduceEq, Int.reduceLT, Int.reduceLE, Int.reduceAdd, Int.reduceSub, Int.reduceNeg, Int.reduceMul, Int.reduceToNat, Nat.reduceSub, Nat.reduceMul, Nat.reduceLeDiff, Nat.reduceAdd, Nat.reduceLT, Nat.reduceEqDiff, reduceCtorEq, ↓reduceIte, hza, hzb, hAl, hBl]
  have eN : (A.length : Int) + (B.length : Int) - 1 = ((A.length + B.length - 1 : Nat) : Int) := by omega
  rw [eN]
  simp (disch := omega) only [wk, tis, Int.reduceNe, Int.reduceEq, Int.reduceLT, Int.reduceLE, Int.reduceAdd, Int.reduceSub, Int.reduceNeg, Int.reduceMul, Int.reduceToNat, Nat.reduceSub, Nat.reduceMul, Nat.reduceLeDiff, Nat.reduceAdd, Nat.reduceLT, Nat.reduceEqDiff, reduceCtorEq, ↓reduceIte, hAl, hBl]
  generalize hN : A.length + B.length - 1 = N at *
  refine aloop_by (fun f H => ∃ (i st : Nat) (out : List Int), i ≤ A.length ∧ out.length = N ∧ (∀ k, cf out k = cv (A.take i) (cf B) k) ∧ f 6 = .iv (.int .i64 i) ∧ f 0 = .iv (.sl (raws (A.map canon))) ∧ f 1 = .iv (.sl (raws (B.map canon))) ∧ f 5 = .hs 26 st ∧ H 26 = .blk false st 40 2 (raws (out.map canon))) (fun f H => (A.length - intAt f 6).toNat) ?_ ?_
  · refine ⟨0, 1, List.replicate N 0, by omega, by simp, fun k => by rw [cf_rep]; rfl, ?_⟩
    simp (disch := omega) only [wk, tis, Int.reduceNe, Int.reduceEq, Int.reduceLT, Int.reduceLE, Int.reduceAdd, Int.reduceSub, Int.reduceNeg, Int.reduceMul, Int.reduceToNat, Nat.reduceSub, Nat.reduceMul, Nat.reduceLeDiff, Nat.reduceAdd, Nat.reduceLT, Nat.reduceEqDiff, reduceCtorEq, ↓reduceIte, rep_canon, hAl]
  rintro f H ⟨i, st, out, hi, hol, hv, hF⟩
  rw [intAt_of hF.1]
  simp (disch := omega) only [wk, tis, Int.reduceNe, Int.reduceEq, Int.reduceLT, Int.reduceLE, Int.reduceAdd, Int.reduceSub, Int.reduceNeg, Int.reduceMul, Int.reduceToNat, Nat.reduceSub, Nat.reduceMul, Nat.reduceLeDiff, Nat.reduceAdd, Nat.reduceLT, Nat.reduceEqDiff, reduceCtorEq, ↓reduceIte, hF]
  simp (disch := omega) only [wk, tis, Int.reduceNe, Int.reduceEq, Int.reduceLT, Int.reduceLE, Int.reduceAdd, Int.reduceSub, Int.reduceNeg, Int.reduceMul, Int.reduceToNat, Nat.reduceSub, Nat.reduceMul, Nat.reduceLeDiff, Nat.reduceAdd, Nat.reduceLT, Nat.reduceEqDiff, reduceCtorEq, ↓reduceIte, hAl]
  refine if_by (fun hlt => ?_) (fun hlt => ?_)
  · simp (disch := omega) only [wk, tis, Int.reduceNe, Int.reduceEq, Int.reduceLT, Int.reduceLE, Int.reduceAdd, Int.reduceSub, Int.reduceNeg, Int.reduceMul, Int.reduceToNat, Nat.reduceSub, Nat.reduceMul, Nat.reduceLeDiff, Nat.reduceAdd, Nat.reduceLT, Nat.reduceEqDiff, reduceCtorEq, ↓reduceIte, hF, hAl, hBl]
    refine aloop_by (fun f H => ∃ (j st : Nat) (out : List Int), j ≤ B.length ∧ out.length = N ∧ (∀ k, cf out k = cv (A.take i) (cf B) k + (if i ≤ k ∧ k < i + j then cf A i * cf B (k - i) else 0)) ∧ f 7 = .iv (.int .i64 j) ∧ f 0 = .iv (.sl (raws (A.map canon))) ∧ f 1 = .iv (.sl (raws (B.map canon))) ∧ f 5 = .hs 26 st ∧ f 6 = .iv (.int .i64 i) ∧ H 26 = .blk false st 40 2 (raws (out.map canon))) (fun f H => (B.length - intAt f 7).toNat) ?_ ?_
    · refine ⟨0, st, out, by omega, hol, fun k => by rw [hv k, if_neg (by omega), Int.add_zero], ?_⟩
      simp (disch := omega) only [wk, tis, Int.reduceNe, Int.reduceEq, Int.reduceLT, Int.reduceLE, Int.reduceAdd, Int.reduceSub, Int.reduceNeg, Int.reduceMul, Int.reduceToNat, Nat.reduceSub, Nat.reduceMul, Nat.reduceLeDiff, Nat.reduceAdd, Nat.reduceLT, Nat.reduceEqDiff, reduceCtorEq, ↓reduceIte, hF]
    rintro f H ⟨j, st, out, hj, hol, hv, hF⟩
    rw [intAt_of hF.1]
    simp (disch := omega) only [wk, tis, Int.reduceNe, Int.reduceEq, Int.reduceLT, Int.reduceLE, Int.reduceAdd, Int.reduceSub, Int.reduceNeg, Int.reduceMul, Int.reduceToNat, Nat.reduceSub, Nat.reduceMul, Nat.reduceLeDiff, Nat.reduceAdd, Nat.reduceLT, Nat.reduceEqDiff, reduceCtorEq, ↓reduceIte, hF]
    simp (disch := omega) only [wk, tis, Int.reduceNe, Int.reduceEq, Int.reduceLT, Int.reduceLE, Int.reduceAdd, Int.reduceSub, Int.reduceNeg, Int.reduceMul, Int.reduceToNat, Nat.reduceSub, Nat.reduceMul, Nat.reduceLeDiff, Nat.reduceAdd, Nat.reduceLT, Nat.reduceEqDiff, reduceCtorEq, ↓reduceIte, hBl]
    refine if_by (fun hlj => ?_) (fun hlj => ?_)
    · have hq : (out.map canon).length = N := by rw [List.length_map, hol]
      have eij : (i : Int) + (j : Int) = ((i + j : Nat) : Int) := by omega
      simp (disch := omega) only [wk, tis, Int.reduceNe, Int.reduceEq, Int.reduceLT, Int.reduceLE, Int.reduceAdd, Int.reduceSub, Int.reduceNeg, Int.reduceMul, Int.reduceToNat, Nat.reduceSub, Nat.reduceMul, Nat.reduceLeDiff, Nat.reduceAdd, Nat.reduceLT, Nat.reduceEqDiff, reduceCtorEq, ↓reduceIte, hF, hq, hAl, hBl, eij]
      refine ⟨tmps_by (by kernel_rfl), ?_⟩
      have hAi := pa.cf i
      have hBj := pb.cf j
      have hprod := zl_mul (cf A i) (cf B j)
      have hold : cf out (i + j) = cv (A.take i) (cf B) (i + j) := by rw [hv, if_neg (by omega), Int.add_zero]
      have hzo : zl (cf out (i + j)) ≤ 2 ^ 35 + 2 ^ 35 + 1 := by rw [hold]; exact zl_cv (PB_take pa i) pb (by decide) _
      have m := rMul_ok (canon (cf A i)) (canon (cf B j)) ((sz_canon _).mono (by omega)) ((sz_canon _).mono (by omega))
      rw [iv_canon, iv_canon] at m
      refine call_by (m) (by first | rfl | (simp only [tocvs, tocv, hF, hq, hAl, hBl]; rfl) | (simp only [tocvs, tocv, toboxes, tobox, updH_at, Nat.reduceEqDiff, ↓reduceIte, hF, hq, hAl, hBl]; rfl)) (by simp) ?_
      simp (disch := omega) only [wk, tis, Int.reduceNe, Int.reduceEq, Int.reduceLT, Int.reduceLE, Int.reduceAdd, Int.reduceSub, Int.reduceNeg, Int.reduceMul, Int.reduceToNat, Nat.reduceSub, Nat.reduceMul, Nat.reduceLeDiff, Nat.reduceAdd, Nat.reduceLT, Nat.reduceEqDiff, reduceCtorEq, ↓reduceIte, hF, hq, hAl, hBl]
      have s := rAdd_ok (canon (cf out (i + j))) (canon (cf A i * cf B j)) ((sz_canon _).mono (by omega)) ((sz_canon _).mono (by omega))
      rw [iv_canon, iv_canon] at s
      refine call_by (s) (by first | rfl | (simp only [tocvs, tocv, hF, hq, hAl, hBl]; rfl) | (simp only [tocvs, tocv, toboxes, tobox, updH_at, Nat.reduceEqDiff, ↓reduceIte, hF, hq, hAl, hBl]; rfl)) (by simp) ?_
      simp (disch := omega) only [wk, tis, Int.reduceNe, Int.reduceEq, Int.reduceLT, Int.reduceLE, Int.reduceAdd, Int.reduceSub, Int.reduceNeg, Int.reduceMul, Int.reduceToNat, Nat.reduceSub, Nat.reduceMul, Nat.reduceLeDiff, Nat.reduceAdd, Nat.reduceLT, Nat.reduceEqDiff, reduceCtorEq, ↓reduceIte, hF, hq, hAl, hBl]
      first | exact log_by (by kernel_rfl) | refine ⟨log_by (by kernel_rfl), ?_⟩
      refine ⟨⟨j + 1, st, out.set (i + j) (cf out (i + j) + cf A i * cf B j), by omega, by simp [hol], fun k => ?_, by omega, rfl, rfl⟩, by omega⟩
      rw [cf_set (by omega)]
      by_cases e : k = i + j
      · subst e
        rw [if_pos rfl, if_pos ⟨by omega, by omega⟩, hold, Nat.add_sub_cancel_left]
      · rw [if_neg e, hv k]
        by_cases hk : i ≤ k ∧ k < i + j
        · rw [if_pos hk, if_pos ⟨hk.1, by omega⟩]
        · rw [if_neg hk, if_neg (by omega)]
    · simp (disch := omega) only [wk, tis, Int.reduceNe, Int.reduceEq, Int.reduceLT, Int.reduceLE, Int.reduceAdd, Int.reduceSub, Int.reduceNeg, Int.reduceMul, Int.reduceToNat, Nat.reduceSub, Nat.reduceMul, Nat.reduceLeDiff, Nat.reduceAdd, Nat.reduceLT, Nat.reduceEqDiff, reduceCtorEq, ↓reduceIte, hF, hAl, hBl]
      refine ⟨⟨i + 1, st, out, by omega, hol, fun k => ?_, by omega, rfl, rfl⟩, by omega⟩
      rw [hv k, cv_take_succ]
      congr 1
      by_cases hk : i ≤ k
      · rw [if_pos hk]
        by_cases hk2 : k < i + j
        · rw [if_pos ⟨hk, hk2⟩]
        · rw [if_neg (by omega), cf_ge (q := B) (by omega), Int.mul_zero]
      · rw [if_neg hk, if_neg (by omega)]
  · simp (disch := omega) only [wk, tis, Int.reduceNe, Int.reduceEq, Int.reduceLT, Int.reduceLE, Int.reduceAdd, Int.reduceSub, Int.reduceNeg, Int.reduceMul, Int.reduceToNat, Nat.reduceSub, Nat.reduceMul, Nat.reduceLeDiff, Nat.reduceAdd, Nat.reduceLT, Nat.reduceEqDiff, reduceCtorEq, ↓reduceIte, hF, hAl, hBl]
    have hiA : i = A.length := by omega
    have e : cp (pmul A B) = cp (pv (out.map canon)) := by
      refine cp_ext fun k => ?_
      rw [pv_canon, hv, cf_pmul, hiA, List.take_length]
    unfold cpoly at e
    rw [e]
    refine call_by ((snorm_ok (out.map canon) (RP.canon (.of (by omega) fun k => by rw [hv]; exact Nat.le_trans (zl_cv (PB_take pa i) pb (by decide) k) (by omega))))) (by first | rfl | (simp only [tocvs, tocv, hF, hAl, hBl]; rfl) | (simp only [tocvs, tocv, toboxes, tobox, updH_at, Nat.reduceEqDiff, ↓reduceIte, hF, hAl, hBl]; rfl)) (by simp) ?_
    simp (disch := omega) only [wk, tis, Int.reduceNe, Int.reduceEq, Int.reduceLT, Int.reduceLE, Int.reduceAdd, Int.reduceSub, Int.reduceNeg, Int.reduceMul, Int.reduceToNat, Nat.reduceSub, Nat.reduceMul, Nat.reduceLeDiff, Nat.reduceAdd, Nat.reduceLT, Nat.reduceEqDiff, reduceCtorEq, ↓reduceIte, hF, hAl, hBl]

theorem spow_ok (p : List RI) (n : Int) (h : RP (2 ^ 15) (2 ^ 20) p) : AC Try.prog 37 [cw p, ci n] none [cp (if 0 ≤ n ∧ n ≤ 1000 then ppow (pv p) n.toNat else []), ci (if n < 0 then 3 else if 1000 < n then 13 else 0)] := by
  refine AC.by_walk (rs := [.tmp 4, .tmp 5]) ords Try.func37 (by rfl) (by rfl) (by rfl) (by rfl) (by rfl) ?_
  simp (disch := omega) only [wk, tis, Int.reduceNe, Int.reduceEq, Int.reduceLT, Int.reduceLE, Int.reduceAdd, Int.reduceSub, Int.reduceNeg, Int.reduceMul, Int.reduceToNat, Nat.reduceSub, Nat.reduceMul, Nat.reduceLeDiff, Nat.reduceAdd, Nat.reduceLT, Nat.reduceEqDiff, reduceCtorEq, ↓reduceIte]
  refine call_by ((splain_ok n)) (by rfl) (by simp) ?_
  simp (disch := omega) only [wk, tis, Int.reduceNe, Int.reduceEq, Int.reduceLT, Int.reduceLE, Int.reduceAdd, Int.reduceSub, Int.reduceNeg, Int.reduceMul, Int.reduceToNat, Nat.reduceSub, Nat.reduceMul, Nat.reduceLeDiff, Nat.reduceAdd, Nat.reduceLT, Nat.reduceEqDiff, reduceCtorEq, ↓reduceIte]
  by_cases h1 : n < 0
  · have : ¬ (0 ≤ n ∧ n ≤ 1000) := by omega
    simp (disch := omega) only [wk, tis, Int.reduceNe, Int.reduceEq, Int.reduceLT, Int.reduceLE, Int.reduceAdd, Int.reduceSub, Int.reduceNeg, Int.reduceMul, Int.reduceToNat, Nat.reduceSub, Nat.reduceMul, Nat.reduceLeDiff, Nat.reduceAdd, Nat.reduceLT, Nat.reduceEqDiff, reduceCtorEq, ↓reduceIte, h1, this]
    rfl
  by_cases h2 : 1000 < n
  · have : ¬ (0 ≤ n ∧ n ≤ 1000) := by omega
    simp (disch := omega) only [wk, tis, Int.reduceNe, Int.reduceEq, Int.reduceLT, Int.reduceLE, Int.reduceAdd, Int.reduceSub, Int.reduceNeg, Int.reduceMul, Int.reduceToNat, Nat.reduceSub, Nat.reduceMul, Nat.reduceLeDiff, Nat.reduceAdd, Nat.reduceLT, Nat.reduceEqDiff, reduceCtorEq, ↓reduceIte, h1, h2, this]
    rfl
  have h3 : 0 ≤ n ∧ n ≤ 1000 := by omega
  obtain ⟨m, rfl⟩ := Int.eq_ofNat_of_zero_le h3.1
  have hm : m ≤ 1000 := by omega
  simp (disch := omega) only [wk, tis, Int.reduceNe, Int.reduceEq, Int.reduceLT, Int.reduceLE, Int.reduceAdd, Int.reduceSub, Int.reduceNeg, Int.reduceMul, Int.reduceToNat, Nat.reduceSub, Nat.reduceMul, Nat.reduceLeDiff, Nat.reduceAdd, Nat.reduceLT, Nat.reduceEqDiff, reduceCtorEq, ↓reduceIte, h1, h2, h3]
  have s1 := sof_ok [1] (by decide) (by decide)
  refine call_by (s1) (by first | rfl | (simp only [tocvs, tocv, h1, h2]; rfl) | (simp only [tocvs, tocv, toboxes, tobox, updH_at, Nat.reduceEqDiff, ↓reduceIte, h1, h2]; rfl)) (by simp) ?_
  simp (disch := omega) only [wk, tis, Int.reduceNe, Int.reduceEq, Int.reduceLT, Int.reduceLE, Int.reduceAdd, Int.reduceSub, Int.reduceNeg, Int.reduceMul, Int.reduceToNat, Nat.reduceSub, Nat.reduceMul, Nat.reduceLeDiff, Nat.reduceAdd, Nat.reduceLT, Nat.reduceEqDiff, reduceCtorEq, ↓reduceIte, h1, h2]
  have hb : ∀ x, x ≤ 1000 → PB (2 ^ 30) (2 ^ 35) (ppow (pv p) x) := fun x hx => ((h.pv.ppow (by decide)) x).mono (by omega) (by omega)
  refine aloop_by (fun f H => ∃ (i : Nat), i ≤ m ∧ f 8 = .iv (.int .i64 i) ∧ f 0 = .iv (.sl (raws p)) ∧ f 1 = .iv (.int .i64 m) ∧ f 7 = .iv (.sl (cpoly (ppow (pv p) i)))) (fun f H => (m - intAt f 8).toNat) ?_ ?_
  · refine ⟨0, by omega, ?_⟩
    simp (disch := omega) only [wk, tis, Int.reduceNe, Int.reduceEq, Int.reduceLT, Int.reduceLE, Int.reduceAdd, Int.reduceSub, Int.reduceNeg, Int.reduceMul, Int.reduceToNat, Nat.reduceSub, Nat.reduceMul, Nat.reduceLeDiff, Nat.reduceAdd, Nat.reduceLT, Nat.reduceEqDiff, reduceCtorEq, ↓reduceIte, ppow]
  rintro f H ⟨i, hi, hF⟩
  rw [intAt_of hF.1]
  simp (disch := omega) only [wk, tis, Int.reduceNe, Int.reduceEq, Int.reduceLT, Int.reduceLE, Int.reduceAdd, Int.reduceSub, Int.reduceNeg, Int.reduceMul, Int.reduceToNat, Nat.reduceSub, Nat.reduceMul, Nat.reduceLeDiff, Nat.reduceAdd, Nat.reduceLT, Nat.reduceEqDiff, reduceCtorEq, ↓reduceIte, hF]
  refine if_by (fun hlt => ?_) (fun hlt => ?_)
  · simp (disch := omega) only [wk, tis, Int.reduceNe, Int.reduceEq, Int.reduceLT, Int.reduceLE, Int.reduceAdd, Int.reduceSub, Int.reduceNeg, Int.reduceMul, Int.reduceToNat, Nat.reduceSub, Nat.reduceMul, Nat.reduceLeDiff, Nat.reduceAdd, Nat.reduceLT, Nat.reduceEqDiff, reduceCtorEq, ↓reduceIte, hF]
    have hm := smul_ok (cn (ppow (pv p) i)) p (rp_cn (hb i (by omega))) (h.mono (by omega) (by omega))
    have e : cp (pmul (pv (cn (ppow (pv p) i))) (pv p)) = cp (ppow (pv p) (i + 1)) := cp_ps (by rw [ps_pmul, ps_cn, ps_ppow, ps_ppow]; rfl)
    rw [e] at hm
    refine call_by (hm) (by first | rfl | (simp only [tocvs, tocv, hF]; rfl) | (simp only [tocvs, tocv, toboxes, tobox, updH_at, Nat.reduceEqDiff, ↓reduceIte, hF]; rfl)) (by simp) ?_
    simp (disch := omega) only [wk, tis, Int.reduceNe, Int.reduceEq, Int.reduceLT, Int.reduceLE, Int.reduceAdd, Int.reduceSub, Int.reduceNeg, Int.reduceMul, Int.reduceToNat, Nat.reduceSub, Nat.reduceMul, Nat.reduceLeDiff, Nat.reduceAdd, Nat.reduceLT, Nat.reduceEqDiff, reduceCtorEq, ↓reduceIte, hF]
    exact ⟨⟨i + 1, by omega, by omega, rfl⟩, by omega⟩
  · simp (disch := omega) only [wk, tis, Int.reduceNe, Int.reduceEq, Int.reduceLT, Int.reduceLE, Int.reduceAdd, Int.reduceSub, Int.reduceNeg, Int.reduceMul, Int.reduceToNat, Nat.reduceSub, Nat.reduceMul, Nat.reduceLeDiff, Nat.reduceAdd, Nat.reduceLT, Nat.reduceEqDiff, reduceCtorEq, ↓reduceIte, hF]
    have : i = m := by omega
    subst this
    rfl

theorem lplain_ok (e w : Int) : AC Try.prog 35 [ci e, ci w] none [cb (decide (e = w))] := by
  refine AC.by_walk (rs := [.tmp 4]) ords Try.func35 (by rfl) (by rfl) (by rfl) (by rfl) (by rfl) ?_
  simp (disch := omega) only [wk, tis, Int.reduceNe, Int.reduceEq, Int.reduceLT, Int.reduceLE, Int.reduceAdd, Int.reduceSub, Int.reduceNeg, Int.reduceMul, Int.reduceToNat, Nat.reduceSub, Nat.reduceMul, Nat.reduceLeDiff, Nat.reduceAdd, Nat.reduceLT, Nat.reduceEqDiff, reduceCtorEq, ↓reduceIte]

end Go.Proofs.Ythgecppfgdadiaa

namespace Go.Proofs.Ythgecppfgdadiaa
open Go Go.Proofs Go.AL
set_option linter.unusedSimpArgs false
set_option linter.unusedVariables false

theorem tat_ok (p : List RI) (i : Nat) (hl : p.length ≤ 2 ^ 40) : AC Try.prog 129 [cw p, ci i] none [cr (p.getD i (false, []))] := by
  refine AC.by_walk (rs := [.cell 4 40]) ords Try.func129 (by rfl) (by rfl) (by rfl) (by rfl) (by rfl) ?_
  simp (disch := omega) only [wk, tis, Int.reduceNe, Int.reduceEq, Int.reduceLT, Int.reduceLE, Int.reduceAdd, Int.reduceSub, Int.reduceNeg, Int.reduceMul, Int.reduceToNat, Nat.reduceSub, Nat.reduceMul, Nat.reduceLeDiff, Nat.reduceAdd, Nat.reduceLT, Nat.reduceEqDiff, reduceCtorEq, ↓reduceIte]
  refine if_by (fun h => ?_) (fun h => ?_)
  · simp (disch := omega) only [wk, tis, Int.reduceNe, Int.reduceEq, Int.reduceLT, Int.reduceLE, Int.reduceAdd, Int.reduceSub, Int.reduceNeg, Int.reduceMul, Int.reduceToNat, Nat.reduceSub, Nat.reduceMul, Nat.reduceLeDiff, Nat.reduceAdd, Nat.reduceLT, Nat.reduceEqDiff, reduceCtorEq, ↓reduceIte]
  · simp (disch := omega) only [wk, tis, Int.reduceNe, Int.reduceEq, Int.reduceLT, Int.reduceLE, Int.reduceAdd, Int.reduceSub, Int.reduceNeg, Int.reduceMul, Int.reduceToNat, Nat.reduceSub, Nat.reduceMul, Nat.reduceLeDiff, Nat.reduceAdd, Nat.reduceLT, Nat.reduceEqDiff, reduceCtorEq, ↓reduceIte]
    simp [List.getD, show p.length ≤ i by omega]

theorem cv_take_full (p : List Int) (g : Nat → Int) (i : Nat) : cv (p.take (i + 1)) g i = cv p g i := by
  have key : ∀ m, cv (p.take (i + 1 + m)) g i = cv (p.take (i + 1)) g i := fun m => by
    induction m with
    | zero => rfl
    | succ m ih => rw [show i + 1 + (m + 1) = i + 1 + m + 1 by omega, cv_take_succ, if_neg (by omega), Int.add_zero, ih]
  rw [← key p.length, List.take_of_length_le (by omega)]

theorem tplus_ok (a b : List RI) (ha : RP (2 ^ 30) (2 ^ 36) a) (hb : RP (2 ^ 30) (2 ^ 36) b) : AC Try.prog 74 [cw a, cw b] none [cp (padd (pv a) (pv b))] := by
  refine AC.by_walk (rs := [.tmp 4]) ords Try.func74 (by rfl) (by rfl) (by rfl) (by rfl) (by rfl) ?_
  have hla := ha.1
  have hlb := hb.1
  generalize hn : max a.length b.length = n at *
  have hpl : (padd (pv a) (pv b)).length = n := by simp [padd, pv_len, hn]
  simp (disch := omega) only [wk, tis, Int.reduceNe, Int.reduceEq, Int.reduceLT, Int.reduceLE, Int.reduceAdd, Int.reduceSub, Int.reduceNeg, Int.reduceMul, Int.reduceToNat, Nat.reduceSub, Nat.reduceMul, Nat.reduceLeDiff, Nat.reduceAdd, Nat.reduceLT, Nat.reduceEqDiff, reduceCtorEq, ↓reduceIte]
  refine aloop_nil 5 5 40 2 (by simp (disch := omega) only [wk, tis, Int.reduceNe, Int.reduceEq, Int.reduceLT, Int.reduceLE, Int.reduceAdd, Int.reduceSub, Int.reduceNeg, Int.reduceMul, Int.reduceToNat, Nat.reduceSub, Nat.reduceMul, Nat.reduceLeDiff, Nat.reduceAdd, Nat.reduceLT, Nat.reduceEqDiff, reduceCtorEq, ↓reduceIte]) (fun f H => ∃ (i st : Nat), i ≤ n ∧ f 6 = .iv (.int .i64 i) ∧ f 0 = .iv (.sl (raws a)) ∧ f 1 = .iv (.sl (raws b)) ∧ f 5 = .hs 5 st ∧ H 5 = .blk false st 40 2 (raws (((padd (pv a) (pv b)).take i).map canon))) (fun f H => (n - intAt f 6).toNat) ?_ ?_
  · refine ⟨0, 1, by omega, ?_⟩
    simp (disch := omega) only [wk, tis, Int.reduceNe, Int.reduceEq, Int.reduceLT, Int.reduceLE, Int.reduceAdd, Int.reduceSub, Int.reduceNeg, Int.reduceMul, Int.reduceToNat, Nat.reduceSub, Nat.reduceMul, Nat.reduceLeDiff, Nat.reduceAdd, Nat.reduceLT, Nat.reduceEqDiff, reduceCtorEq, ↓reduceIte, ghostF, ghostH, List.take_zero]
  rintro f H ⟨i, st, hi, hF⟩
  rw [intAt_of hF.1]
  simp (disch := omega) only [wk, tis, Int.reduceNe, Int.reduceEq, Int.reduceLT, Int.reduceLE, Int.reduceAdd, Int.reduceSub, Int.reduceNeg, Int.reduceMul, Int.reduceToNat, Nat.reduceSub, Nat.reduceMul, Nat.reduceLeDiff, Nat.reduceAdd, Nat.reduceLT, Nat.reduceEqDiff, reduceCtorEq, ↓reduceIte, hF]
  by_cases hlt : i < n
  · have h3 : (i : Int) < a.length ∨ (¬ (i : Int) < a.length ∧ (i : Int) < b.length) := by omega
    have hq : (((padd (pv a) (pv b)).take i).map canon).length = i := by rw [List.length_map, List.length_take]; omega
    have z1 := ha.pv.cf i
    have z2 := hb.pv.cf i
    have c1 := tat_ok a i (by omega)
    have c2 := tat_ok b i (by omega)
    have m := rAdd_ok (a.getD i (false, [])) (b.getD i (false, [])) ((ha.get i).mono (by omega)) ((hb.get i).mono (by omega))
    rw [← cf_pv, ← cf_pv] at m
    have e : (padd (pv a) (pv b)).take (i + 1) = (padd (pv a) (pv b)).take i ++ [cf (pv a) i + cf (pv b) i] := by
      rw [List.take_add_one, ← cf_padd]
      congr 1
      simp [cf, List.getD, show i < (padd (pv a) (pv b)).length by omega]
    rcases h3 with h | ⟨h, h'⟩
    all_goals
      first | simp (disch := omega) only [wk, tis, Int.reduceNe, Int.reduceEq, Int.reduceLT, Int.reduceLE, Int.reduceAdd, Int.reduceSub, Int.reduceNeg, Int.reduceMul, Int.reduceToNat, Nat.reduceSub, Nat.reduceMul, Nat.reduceLeDiff, Nat.reduceAdd, Nat.reduceLT, Nat.reduceEqDiff, reduceCtorEq, ↓reduceIte, hF, h, h', hq] | simp (disch := omega) only [wk, tis, Int.reduceNe, Int.reduceEq, Int.reduceLT, Int.reduceLE, Int.reduceAdd, Int.reduceSub, Int.reduceNeg, Int.reduceMul, Int.reduceToNat, Nat.reduceSub, Nat.reduceMul, Nat.reduceLeDiff, Nat.reduceAdd, Nat.reduceLT, Nat.reduceEqDiff, reduceCtorEq, ↓reduceIte, hF, h, hq]
      refine call_by (c1) (by first | rfl | (simp only [tocvs, tocv, hF, hq]; rfl) | (simp only [tocvs, tocv, toboxes, tobox, updH_at, Nat.reduceEqDiff, ↓reduceIte, hF, hq]; rfl)) (by simp) ?_
      simp (disch := omega) only [wk, tis, Int.reduceNe, Int.reduceEq, Int.reduceLT, Int.reduceLE, Int.reduceAdd, Int.reduceSub, Int.reduceNeg, Int.reduceMul, Int.reduceToNat, Nat.reduceSub, Nat.reduceMul, Nat.reduceLeDiff, Nat.reduceAdd, Nat.reduceLT, Nat.reduceEqDiff, reduceCtorEq, ↓reduceIte, hF, hq]
      refine call_by (c2) (by first | rfl | (simp only [tocvs, tocv, hF, hq]; rfl) | (simp only [tocvs, tocv, toboxes, tobox, updH_at, Nat.reduceEqDiff, ↓reduceIte, hF, hq]; rfl)) (by simp) ?_
      simp (disch := omega) only [wk, tis, Int.reduceNe, Int.reduceEq, Int.reduceLT, Int.reduceLE, Int.reduceAdd, Int.reduceSub, Int.reduceNeg, Int.reduceMul, Int.reduceToNat, Nat.reduceSub, Nat.reduceMul, Nat.reduceLeDiff, Nat.reduceAdd, Nat.reduceLT, Nat.reduceEqDiff, reduceCtorEq, ↓reduceIte, hF, hq]
      refine call_by (m) (by first | rfl | (simp only [tocvs, tocv, hF, hq]; rfl) | (simp only [tocvs, tocv, toboxes, tobox, updH_at, Nat.reduceEqDiff, ↓reduceIte, hF, hq]; rfl)) (by simp) ?_
      simp (disch := omega) only [wk, tis, Int.reduceNe, Int.reduceEq, Int.reduceLT, Int.reduceLE, Int.reduceAdd, Int.reduceSub, Int.reduceNeg, Int.reduceMul, Int.reduceToNat, Nat.reduceSub, Nat.reduceMul, Nat.reduceLeDiff, Nat.reduceAdd, Nat.reduceLT, Nat.reduceEqDiff, reduceCtorEq, ↓reduceIte, hF, hq]
      exact ⟨⟨i + 1, st + 1, by omega, by omega, by rw [e]; exact ⟨rfl, rfl⟩⟩, by omega⟩
  · have h1 : ¬ (i : Int) < a.length := by omega
    have h2 : ¬ (i : Int) < b.length := by omega
    simp (disch := omega) only [wk, tis, Int.reduceNe, Int.reduceEq, Int.reduceLT, Int.reduceLE, Int.reduceAdd, Int.reduceSub, Int.reduceNeg, Int.reduceMul, Int.reduceToNat, Nat.reduceSub, Nat.reduceMul, Nat.reduceLeDiff, Nat.reduceAdd, Nat.reduceLT, Nat.reduceEqDiff, reduceCtorEq, ↓reduceIte, hF, h1, h2]
    have hb := ha.pv.padd hb.pv
    have := tN_ok ((padd (pv a) (pv b)).map canon) (RP.canon (hb.mono (by omega) (by omega)))
    rw [pv_canon] at this
    rw [List.take_of_length_le (by omega)] at hF
    refine call_by (this) (by first | rfl | (simp only [tocvs, tocv, hF]; rfl) | (simp only [tocvs, tocv, toboxes, tobox, updH_at, Nat.reduceEqDiff, ↓reduceIte, hF]; rfl)) (by simp) ?_
    simp (disch := omega) only [wk, tis, Int.reduceNe, Int.reduceEq, Int.reduceLT, Int.reduceLE, Int.reduceAdd, Int.reduceSub, Int.reduceNeg, Int.reduceMul, Int.reduceToNat, Nat.reduceSub, Nat.reduceMul, Nat.reduceLeDiff, Nat.reduceAdd, Nat.reduceLT, Nat.reduceEqDiff, reduceCtorEq, ↓reduceIte, hF]

theorem ttimes_ok (a b : List RI) (ha : RP (2 ^ 30) (2 ^ 35) a) (hb : RP (2 ^ 30) (2 ^ 35) b) : AC Try.prog 75 [cw a, cw b] none [cp (pmul (pv a) (pv b))] := by
  refine AC.by_walk (rs := [.tmp 4]) ords Try.func75 (by rfl) (by rfl) (by rfl) (by rfl) (by rfl) ?_
  have hla := ha.1
  have hlb := hb.1
  have pla := pv_len a
  have plb := pv_len b
  obtain ⟨F, hFd⟩ : ∃ F : Nat → List Int, F = fun i => (List.range i).map fun k => cv (pv a) (cf (pv b)) k := ⟨_, rfl⟩
  have hFl : ∀ i, (F i).length = i := fun i => by rw [hFd]; simp
  have hF0 : F 0 = [] := by rw [hFd]; rfl
  have hFs : ∀ i, F (i + 1) = F i ++ [cv (pv a) (cf (pv b)) i] := fun i => by rw [hFd]; simp [List.range_succ]
  simp (disch := omega) only [wk, tis, Int.reduceNe, Int.reduceEq, Int.reduceLT, Int.reduceLE, Int.reduceAdd, Int.reduceSub, Int.reduceNeg, Int.reduceMul, Int.reduceToNat, Nat.reduceSub, Nat.reduceMul, Nat.reduceLeDiff, Nat.reduceAdd, Nat.reduceLT, Nat.reduceEqDiff, reduceCtorEq, ↓reduceIte]
  refine aloop_nil 5 5 40 2 (by simp (disch := omega) only [wk, tis, Int.reduceNe, Int.reduceEq, Int.reduceLT, Int.reduceLE, Int.reduceAdd, Int.reduceSub, Int.reduceNeg, Int.reduceMul, Int.reduceToNat, Nat.reduceSub, Nat.reduceMul, Nat.reduceLeDiff, Nat.reduceAdd, Nat.reduceLT, Nat.reduceEqDiff, reduceCtorEq, ↓reduceIte]) (fun f H => ∃ (i st : Nat), i ≤ a.length + b.length ∧ f 6 = .iv (.int .i64 i) ∧ f 0 = .iv (.sl (raws a)) ∧ f 1 = .iv (.sl (raws b)) ∧ f 5 = .hs 5 st ∧ H 5 = .blk false st 40 2 (raws ((F i).map canon))) (fun f H => (a.length + b.length - intAt f 6).toNat) ?_ ?_
  · refine ⟨0, 1, by omega, ?_⟩
    simp (disch := omega) only [wk, tis, Int.reduceNe, Int.reduceEq, Int.reduceLT, Int.reduceLE, Int.reduceAdd, Int.reduceSub, Int.reduceNeg, Int.reduceMul, Int.reduceToNat, Nat.reduceSub, Nat.reduceMul, Nat.reduceLeDiff, Nat.reduceAdd, Nat.reduceLT, Nat.reduceEqDiff, reduceCtorEq, ↓reduceIte, ghostF, ghostH, hF0]
  rintro f H ⟨i, st, hi, hF⟩
  rw [intAt_of hF.1]
  simp (disch := omega) only [wk, tis, Int.reduceNe, Int.reduceEq, Int.reduceLT, Int.reduceLE, Int.reduceAdd, Int.reduceSub, Int.reduceNeg, Int.reduceMul, Int.reduceToNat, Nat.reduceSub, Nat.reduceMul, Nat.reduceLeDiff, Nat.reduceAdd, Nat.reduceLT, Nat.reduceEqDiff, reduceCtorEq, ↓reduceIte, hF]
  refine if_by (fun hlt => ?_) (fun hlt => ?_)
  · have hq : ((F i).map canon).length = i := by rw [List.length_map, hFl]
    simp (disch := omega) only [wk, tis, Int.reduceNe, Int.reduceEq, Int.reduceLT, Int.reduceLE, Int.reduceAdd, Int.reduceSub, Int.reduceNeg, Int.reduceMul, Int.reduceToNat, Nat.reduceSub, Nat.reduceMul, Nat.reduceLeDiff, Nat.reduceAdd, Nat.reduceLT, Nat.reduceEqDiff, reduceCtorEq, ↓reduceIte, hF, hq]
    refine aloop_by (fun f H => ∃ (k st st7 : Nat), k ≤ i + 1 ∧ f 8 = .iv (.int .i64 k) ∧ f 6 = .iv (.int .i64 i) ∧ f 0 = .iv (.sl (raws a)) ∧ f 1 = .iv (.sl (raws b)) ∧ f 5 = .hs 5 st ∧ H 5 = .blk false st 40 2 (raws ((F i).map canon)) ∧ f 7 = .hp 7 st7 0 0 ∧ H 7 = .blk false st7 40 2 [prow (canon (cv ((pv a).take k) (cf (pv b)) i))]) (fun f H => (i + 1 - intAt f 8).toNat) ?_ ?_
    · refine ⟨0, st, (H 7).stamp + 1, by omega, ?_⟩
      simp (disch := omega) only [wk, tis, Int.reduceNe, Int.reduceEq, Int.reduceLT, Int.reduceLE, Int.reduceAdd, Int.reduceSub, Int.reduceNeg, Int.reduceMul, Int.reduceToNat, Nat.reduceSub, Nat.reduceMul, Nat.reduceLeDiff, Nat.reduceAdd, Nat.reduceLT, Nat.reduceEqDiff, reduceCtorEq, ↓reduceIte, hF, canon_zero, List.take_zero, show cv [] (cf (pv b)) i = 0 from rfl]
    rintro f H ⟨k, st, st7, hk, hF⟩
    rw [intAt_of hF.1]
    simp (disch := omega) only [wk, tis, Int.reduceNe, Int.reduceEq, Int.reduceLT, Int.reduceLE, Int.reduceAdd, Int.reduceSub, Int.reduceNeg, Int.reduceMul, Int.reduceToNat, Nat.reduceSub, Nat.reduceMul, Nat.reduceLeDiff, Nat.reduceAdd, Nat.reduceLT, Nat.reduceEqDiff, reduceCtorEq, ↓reduceIte, hF]
    refine if_by (fun hki => ?_) (fun hki => ?_)
    · have hki' : k ≤ i := by omega
      have hz := zl_cv (PB_take ha.pv k) hb.pv (by decide) i
      have hs := cv_take_succ (g := cf (pv b)) (pv a) k i
      rw [if_pos hki'] at hs
      by_cases h1 : (k : Int) < a.length
      · by_cases h2 : (i : Int) - k < b.length
        · have eik : (i : Int) - k = ((i - k : Nat) : Int) := by omega
          have h2' : ((i - k : Nat) : Int) < b.length := by omega
          have h2'' : i - k < b.length := by omega
          have zak := ha.pv.cf k
          have zbk := hb.pv.cf (i - k)
          have hprod := zl_mul (cf (pv a) k) (cf (pv b) (i - k))
          simp (disch := omega) only [wk, tis, Int.reduceNe, Int.reduceEq, Int.reduceLT, Int.reduceLE, Int.reduceAdd, Int.reduceSub, Int.reduceNeg, Int.reduceMul, Int.reduceToNat, Nat.reduceSub, Nat.reduceMul, Nat.reduceLeDiff, Nat.reduceAdd, Nat.reduceLT, Nat.reduceEqDiff, reduceCtorEq, ↓reduceIte, hF, hq, h1, eik, h2', h2'']
          refine ⟨tmps_by (by kernel_rfl), ?_⟩
          have m := rMul_ok (a.getD k (false, [])) (b.getD (i - k) (false, [])) ((ha.get k).mono (by omega)) ((hb.get (i - k)).mono (by omega))
          rw [← cf_pv, ← cf_pv] at m
          refine call_by (m) (by first | rfl | (simp only [tocvs, tocv, hF, hq]; rfl) | (simp only [tocvs, tocv, toboxes, tobox, updH_at, Nat.reduceEqDiff, ↓reduceIte, hF, hq]; rfl)) (by simp) ?_
          simp (disch := omega) only [wk, tis, Int.reduceNe, Int.reduceEq, Int.reduceLT, Int.reduceLE, Int.reduceAdd, Int.reduceSub, Int.reduceNeg, Int.reduceMul, Int.reduceToNat, Nat.reduceSub, Nat.reduceMul, Nat.reduceLeDiff, Nat.reduceAdd, Nat.reduceLT, Nat.reduceEqDiff, reduceCtorEq, ↓reduceIte, hF, hq]
          have s := rAdd_ok (canon (cv ((pv a).take k) (cf (pv b)) i)) (canon (cf (pv a) k * cf (pv b) (i - k))) ((sz_canon _).mono (by omega)) ((sz_canon _).mono (by omega))
          rw [iv_canon, iv_canon] at s
          refine call_by (s) (by first | rfl | (simp only [tocvs, tocv, hF, hq]; rfl) | (simp only [tocvs, tocv, toboxes, tobox, updH_at, Nat.reduceEqDiff, ↓reduceIte, hF, hq]; rfl)) (by simp) ?_
          simp (disch := omega) only [wk, tis, Int.reduceNe, Int.reduceEq, Int.reduceLT, Int.reduceLE, Int.reduceAdd, Int.reduceSub, Int.reduceNeg, Int.reduceMul, Int.reduceToNat, Nat.reduceSub, Nat.reduceMul, Nat.reduceLeDiff, Nat.reduceAdd, Nat.reduceLT, Nat.reduceEqDiff, reduceCtorEq, ↓reduceIte, hF, hq]
          first | exact log_by (by kernel_rfl) | refine ⟨log_by (by kernel_rfl), ?_⟩
          exact ⟨⟨k + 1, st, st7, by omega, by omega, by rw [hs]; exact ⟨rfl, rfl, rfl, rfl⟩⟩, by omega⟩
        · rw [cf_ge (q := pv b) (by omega), Int.mul_zero, Int.add_zero] at hs
          simp (disch := omega) only [wk, tis, Int.reduceNe, Int.reduceEq, Int.reduceLT, Int.reduceLE, Int.reduceAdd, Int.reduceSub, Int.reduceNeg, Int.reduceMul, Int.reduceToNat, Nat.reduceSub, Nat.reduceMul, Nat.reduceLeDiff, Nat.reduceAdd, Nat.reduceLT, Nat.reduceEqDiff, reduceCtorEq, ↓reduceIte, hF, hq, h1, h2]
          exact ⟨⟨k + 1, st, st7, by omega, by omega, by rw [hs]; exact ⟨rfl, rfl, rfl, rfl⟩⟩, by omega⟩
      · rw [cf_ge (q := pv a) (by omega), Int.zero_mul, Int.add_zero] at hs
        simp (disch := omega) only [wk, tis, Int.reduceNe, Int.reduceEq, Int.reduceLT, Int.reduceLE, Int.reduceAdd, Int.reduceSub, Int.reduceNeg, Int.reduceMul, Int.reduceToNat, Nat.reduceSub, Nat.reduceMul, Nat.reduceLeDiff, Nat.reduceAdd, Nat.reduceLT, Nat.reduceEqDiff, reduceCtorEq, ↓reduceIte, hF, hq, h1]
        exact ⟨⟨k + 1, st, st7, by omega, by omega, by rw [hs]; exact ⟨rfl, rfl, rfl, rfl⟩⟩, by omega⟩
    · have ek : k = i + 1 := by omega
      subst ek
      rw [cv_take_full] at hF
      simp (disch := omega) only [wk, tis, Int.reduceNe, Int.reduceEq, Int.reduceLT, Int.reduceLE, Int.reduceAdd, Int.reduceSub, Int.reduceNeg, Int.reduceMul, Int.reduceToNat, Nat.reduceSub, Nat.reduceMul, Nat.reduceLeDiff, Nat.reduceAdd, Nat.reduceLT, Nat.reduceEqDiff, reduceCtorEq, ↓reduceIte, hF, hq]
      exact ⟨⟨i + 1, st + 1, by omega, by omega, by rw [hFs]; exact ⟨rfl, rfl⟩⟩, by omega⟩
  · simp (disch := omega) only [wk, tis, Int.reduceNe, Int.reduceEq, Int.reduceLT, Int.reduceLE, Int.reduceAdd, Int.reduceSub, Int.reduceNeg, Int.reduceMul, Int.reduceToNat, Nat.reduceSub, Nat.reduceMul, Nat.reduceLeDiff, Nat.reduceAdd, Nat.reduceLT, Nat.reduceEqDiff, reduceCtorEq, ↓reduceIte, hF]
    have hi' : i = a.length + b.length := by omega
    have e : F i = pmul (pv a) (pv b) := by rw [hFd, hi', ← pla, ← plb]; rfl
    rw [e] at hF
    have hb := ha.pv.pmul hb.pv (by decide)
    have := tN_ok ((pmul (pv a) (pv b)).map canon) (RP.canon (hb.mono (by omega) (by omega)))
    rw [pv_canon] at this
    refine call_by (this) (by first | rfl | (simp only [tocvs, tocv, hF]; rfl) | (simp only [tocvs, tocv, toboxes, tobox, updH_at, Nat.reduceEqDiff, ↓reduceIte, hF]; rfl)) (by simp) ?_
    simp (disch := omega) only [wk, tis, Int.reduceNe, Int.reduceEq, Int.reduceLT, Int.reduceLE, Int.reduceAdd, Int.reduceSub, Int.reduceNeg, Int.reduceMul, Int.reduceToNat, Nat.reduceSub, Nat.reduceMul, Nat.reduceLeDiff, Nat.reduceAdd, Nat.reduceLT, Nat.reduceEqDiff, reduceCtorEq, ↓reduceIte, hF]
end Go.Proofs.Ythgecppfgdadiaa

namespace Go.Proofs.Ythgecppfgdadiaa
open Go Go.Proofs Go.AL
set_option linter.unusedSimpArgs false
set_option linter.unusedVariables false

theorem tplus_g' {a b : List RI} {q r : List Int} (ha : RP (2 ^ 30) (2 ^ 36) a) (hb : RP (2 ^ 30) (2 ^ 36) b) (eq : ps (pv a) = ps q) (er : ps (pv b) = ps r) : AC Try.prog 74 [cw a, cw b] none [cp (padd q r)] := by
  have h := tplus_ok a b ha hb
  rwa [cp_ps (show ps (padd (pv a) (pv b)) = ps (padd q r) by rw [ps_padd, ps_padd, eq, er])] at h
theorem ttimes_g' {a b : List RI} {q r : List Int} (ha : RP (2 ^ 30) (2 ^ 35) a) (hb : RP (2 ^ 30) (2 ^ 35) b) (eq : ps (pv a) = ps q) (er : ps (pv b) = ps r) : AC Try.prog 75 [cw a, cw b] none [cp (pmul q r)] := by
  have h := ttimes_ok a b ha hb
  rwa [cp_ps (show ps (pmul (pv a) (pv b)) = ps (pmul q r) by rw [ps_pmul, ps_pmul, eq, er])] at h
theorem mscale_g {p : List RI} {a : RI} {P out : List Int} (hp : RP (2 ^ 10) (2 ^ 20) p) (ha : Sz (2 ^ 20) a) (e : ps (pv p) = ps P) (eo : ps out = cmp P (PS.C (iv a) * PS.X)) : AC Try.prog 59 [cw p, cr a] none [cp out] := by
  have h := mscale_ok p a hp ha
  rwa [cp_ps (show ps (sc (iv a) (trimz (pv p))) = ps out by rw [ps_sc, eo]; exact (cmp_ps _ (ps_trimz _)).trans (cmp_ps _ e))] at h
theorem mflip_g {p : List RI} {P out : List Int} (hp : RP (2 ^ 10) (2 ^ 20) p) (e : ps (pv p) = ps P) (eo : ps out = cmp P (PS.C (-1) * PS.X)) : AC Try.prog 60 [cw p] none [cp out] := by
  have h := mflip_ok p hp
  rwa [cp_ps (show ps (sc (-1) (trimz (pv p))) = ps out by rw [ps_sc, eo]; exact (cmp_ps _ (ps_trimz _)).trans (cmp_ps _ e))] at h

/-- What the moves by one power series have in common. -/
structure Hom3 (g : Nat) (args : List CV) (P R : List Int) : Prop where
  ex : ∃ a b : List Int, AC Try.prog g (cp P :: args) none [cp a] ∧ AC Try.prog g (cp R :: args) none [cp b] ∧
    AC Try.prog 74 [cp a, cp b] none [cp (padd a b)] ∧ AC Try.prog g (cp (padd P R) :: args) none [cp (padd a b)] ∧ AC Try.prog 72 [cp (padd a b), cp (padd a b)] none [cb true] ∧
    AC Try.prog 75 [cp a, cp b] none [cp (pmul a b)] ∧ AC Try.prog g (cp (pmul P R) :: args) none [cp (pmul a b)] ∧ AC Try.prog 72 [cp (pmul a b), cp (pmul a b)] none [cb true]

theorem hom3 {g : Nat} {args : List CV} {F : PS} {P R a b : List Int} (hP : PB 9 3 P) (hR : PB 9 3 R) (ha : PB 100 700 a) (hb : PB 100 700 b) (ea : ps a = cmp P F) (eb : ps b = cmp R F)
    (h : ∀ {q : List RI} {Q out : List Int}, RP (2 ^ 10) (2 ^ 20) q → ps (pv q) = ps Q → ps out = cmp Q F → AC Try.prog g (cw q :: args) none [cp out]) : Hom3 g args P R := by
  have r9 : ∀ {Q : List Int} {n k : Nat}, n ≤ 300 → k ≤ 2000 → PB n k Q → RP (2 ^ 10) (2 ^ 20) (cn Q) := fun hn hk h => rp_cn (h.mono (by omega) (by omega))
  have hs := hP.padd hR
  have hm := hP.pmul hR (by decide)
  have hs2 := ha.padd hb
  have hm2 := ha.pmul hb (by decide)
  refine ⟨a, b, h (r9 (by omega) (by omega) hP) (ps_cn P) ea, h (r9 (by omega) (by omega) hR) (ps_cn R) eb, tplus_g' (rp_cn (ha.mono (by omega) (by omega))) (rp_cn (hb.mono (by omega) (by omega))) (ps_cn a) (ps_cn b), ?_, tsame_g (hs2.mono (by omega) (by omega)) (hs2.mono (by omega) (by omega)) rfl,
    ttimes_g' (rp_cn (ha.mono (by omega) (by omega))) (rp_cn (hb.mono (by omega) (by omega))) (ps_cn a) (ps_cn b), ?_, tsame_g (hm2.mono (by omega) (by omega)) (hm2.mono (by omega) (by omega)) rfl⟩
  · exact h (q := cn (padd P R)) (r9 (by omega) (by omega) hs) (ps_cn _) (by rw [ps_padd, ea, eb, cmp_padd])
  · exact h (q := cn (pmul P R)) (r9 (by omega) (by omega) hm) (ps_cn _) (by rw [ps_pmul, ea, eb, cmp_pmul])

theorem pb_sc7 {a : Int} {p : List Int} (hp : PB 9 3 p) (ha : zl a ≤ 3) : PB 100 700 (sc a p) := (pb_sc3' hp ha).mono (by omega) (by omega)

theorem shift2 (p : List Int) (a b : Int) : cmp (lhom p [a, 1] [1]) (ps [b, 1]) = cmp p (ps [a + b, 1]) := by
  rw [cmp_lhom, cmp_two, cmp_const, ps_lin, ps_lin, PS.C_add, PS.C_one, PS.one_mul, PS.one_mul, PS.add_assoc]
  rfl
theorem flip2 (p : List Int) : cmp (sc (-1) p) (PS.C (-1) * PS.X) = ps p := by
  rw [cmp_sc, ← PS.mul_assoc, ← PS.C_mul, show (-1 : Int) * -1 = 1 by decide, PS.C_one, PS.one_mul, cmp_X]
theorem rv2 {m : Nat} {q : List Int} (h : tz q ≤ m + 1) (k : Nat) : cf (rv m (pv (cn (rv m q)))) k = cf q k := by
  rw [cf_rv]
  by_cases hk : k ≤ m
  · rw [if_pos hk, ps_eq (ps_cn (rv m q)), cf_rv, if_pos (by omega), show m - (m - k) = k by omega]
  · rw [if_neg hk, cf_ge_tz q (by omega)]
theorem moeb_into (p : List Int) (f : PS) (k : Nat) : hom p f (ps [2 ^ k, 0]) = cmp (wt (2 ^ k) p) f := by
  rw [ps_lin, PS.C_zero, PS.zero_mul, PS.add_zero, hom_C]
end Go.Proofs.Ythgecppfgdadiaa
