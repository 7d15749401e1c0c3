/-
 Contracts of the functions that the law reaches.
-/
import Derived.Test.YtfmpegbdeppjbaaGreatL104M
import Derived.Test.YtfmpegbdeppjbaaGreatAbsT
import Derived.Test.YtfmpegbdeppjbaaGreatL298M
import Derived.Test.YtfmpegbdeppjbaaGreatL12M
import Derived.Test.YtfmpegbdeppjbaaGreatAbsYM
set_option maxHeartbeats 2000000
namespace Go.Proofs.YtfmpegbdeppjbaaGreat
open Go Go.Proofs Go.AL
set_option linter.unusedSimpArgs false
set_option linter.unusedVariables false
theorem pq_cqs (X : List Rat) : pq (qvs (cqs X)) = pq X := by rw [qvs_cqs, pq_trimq]
theorem cqs_pq {X Y : List Rat} (h : pq X = pq Y) : cqs X = cqs Y := cqs_ext (pq_eq h)
theorem qpmul_g {p q : List RQ} {n k : Nat} {X Y : List Rat} (hp : GQ n k p) (hq : GQ n k q) (hn : n ≤ 2 ^ 28) (hM : n * k + k + 2 ≤ 2 ^ 34) (hk : 1 ≤ k) (ex : pq (qvs p) = pq X) (ey : pq (qvs q) = pq Y) : AC Tryz.prog 13 [cqw p, cqw q] none [cqp (mulq X Y), ci 0] := by
 have h := qpmul_ok p q n k hp hq hn hM hk
 rwa [show cqp (mulq (qvs p) (qvs q)) = cqp (mulq X Y) from congrArg cqw (cqs_pq (by rw [pq_mulq, pq_mulq, ex, ey]))] at h
def fma (c : Rat) (a b : Rat) : Rat := a + c * b


theorem fq_spl (x y z : IV) (b c : OB) (r : RQ) : splice [x, y, z] 0 (frq b c r) = frq b c r := rfl
theorem fq_take (b c : OB) (r : RQ) : List.take 3 (frq b c r) = frq b c r := rfl
def fqrows (bs : List (OB × OB)) (l : List RQ) : List (List IV) := List.zipWith (fun b r => frq b.1 b.2 r) bs l
theorem fqrows_len {bs : List (OB × OB)} {l : List RQ} (h : bs.length = l.length) : (fqrows bs l).length = l.length := by simp [fqrows, h]
theorem fqrows_snoc {bs : List (OB × OB)} {l : List RQ} (h : bs.length = l.length) (b c : OB) (r : RQ) : fqrows bs l ++ [frq b c r] = fqrows (bs ++ [(b, c)]) (l ++ [r]) := by
 rw [fqrows, fqrows, List.zipWith_append h]; rfl
theorem fqrows_at {bs : List (OB × OB)} {l : List RQ} (h : bs.length = l.length) {i : Nat} (hi : i < l.length) : (fqrows bs l)[i]? = some (frq (bs.getD i (none, none)).1 (bs.getD i (none, none)).2 (l.getD i q0)) := by
 have h2 : i < bs.length := by omega
 simp [fqrows, List.getElem?_zipWith, List.getD, hi, h2]
theorem fqrows_get {bs : List (OB × OB)} {l : List RQ} (h : bs.length = l.length) {i : Nat} (hi : i < l.length) : (fqrows bs l).getD i [] = frq (bs.getD i (none, none)).1 (bs.getD i (none, none)).2 (l.getD i q0) := by
 rw [List.getD, fqrows_at h hi]; rfl
theorem fqrows_rows (bs : List (OB × OB)) (l : List RQ) : (∀ r ∈ fqrows bs l, r.length = 3) ↔ True := ⟨fun _ => trivial, fun _ r hr => by
 obtain ⟨i, hi⟩ := List.getElem?_of_mem hr
 rw [fqrows, List.getElem?_zipWith] at hi
 split at hi
 ·injection hi with hi; rw [← hi]; rfl
 ·cases hi⟩
theorem fqrows_take (bs : List (OB × OB)) (l : List RQ) (k : Nat) : (fqrows bs l).take k = fqrows (bs.take k) (l.take k) := by rw [fqrows, fqrows, List.take_zipWith]
def idq (bs : List (OB × OB)) : List Nat := bs.flatMap fun p => oid p.1 ++ oid p.2
theorem idq_snoc (bs : List (OB × OB)) (b c : OB) : idq (bs ++ [(b, c)]) = idq bs ++ (oid b ++ oid c) := by simp [idq]
theorem idq_nones (n : Nat) : idq (List.replicate n (none, none)) = [] := by simp [idq, oid]
theorem ids_fqrows : ∀ {bs : List (OB × OB)} {l : List RQ}, bs.length = l.length → idsRows (fqrows bs l) = idq bs
 | [], _, h => by simp [fqrows, idq, idsRows]
 | p :: bs, [], h => by simp at h
 | (b, c) :: bs, r :: l, h => by
  have ih := ids_fqrows (bs := bs) (l := l) (by simpa using h)
  simp only [fqrows, idq, List.zipWith_cons_cons, idsRows, List.flatMap_cons, idsRow, IV.ids, List.nil_append, List.append_nil, ids_lims] at ih ⊢
  rw [ih]
  cases b <;> cases c <;> rfl
abbrev fqp (b : OB) (bs : List (OB × OB)) (l : List RQ) : IV := .own b 32 3 (fqrows bs l)
def RQp (l : List RQ) (e : Int) (B E : Nat) (res : List CV) : Prop := ∃ b bs, res = [.iv (fqp b bs l), ci e] ∧ bs.length = l.length ∧ Nw B E (oid b ++ idq bs)
theorem ne_qp (l : List RQ) (e : Int) (B : Nat) : ∃ E res, B ≤ E ∧ RQp l e B E res := ⟨B, _, Nat.le_refl _, none, List.replicate l.length (none, none), rfl, by simp, by rw [idq_nones]; exact .nil _ _⟩
theorem soft_fqp {b : OB} {bs : List (OB × OB)} {l : List RQ} (h : bs.length = l.length) : Soft (fqp b bs l) (.sl (rats l)) := by
 have key : ∀ (i : Nat) (r r' : List IV), (fqrows bs l)[i]? = some r → (rats l)[i]? = some r' → ∃ b c, r = frq b c (l.getD i q0) ∧ r' = qrow (l.getD i q0) := by
  intro i r r' hr hr'
  have hi : i < l.length := by
   have := (List.getElem?_eq_some_iff.1 hr).1; rw [fqrows_len h] at this; exact this
  rw [fqrows_at h hi] at hr
  simp only [rats, List.getElem?_map, List.getElem?_eq_getElem hi, Option.map_some, Option.some.injEq] at hr'
  refine ⟨_, _, by injection hr with hr; exact hr.symm, by rw [← hr']; simp [List.getD, hi]⟩
 refine .own _ _ _ _ _ (by rw [fqrows_len h, rats_len]) (fun i r r' hr hr' => ?_) (fun i r r' hr hr' j x x' hx hx' => ?_)
 ·obtain ⟨b, c, rfl, rfl⟩ := key i r r' hr hr'; rfl
 ·obtain ⟨b, c, rfl, rfl⟩ := key i r r' hr hr'
  match j with
  | 0 => cases hx; cases hx'; exact .refl _
  | 1 => cases hx; cases hx'; exact soft_nat
  | 2 => cases hx; cases hx'; exact soft_nat
  | j + 3 => simp at hx
theorem nwput2 {B E F : Nat} {b : OB} {l : List Nat} (h : Nw B E l) (hE : E ≤ F) (hb : ∀ g cap, b = some (g, cap) → B ≤ g ∧ g < F ∧ g ∉ l) : Nw B F (oid b ++ l) := by
 cases b with
 | none => exact h.mono (Nat.le_refl _) hE
 | some g =>
  have := hb g.1 g.2 rfl
  exact (h.mono (Nat.le_refl _) hE).cons this.2.2 this.1 this.2.1
theorem qtrimx_t (X : List Rat) (bs : List (OB × OB)) (hb : bs.length = X.length) (h : QB (2 ^ 40) (2 ^ 38) X) : ACT Tryz.prog 78 [.any] 0 32 3 (fqrows bs (X.map crat)) (fqrows (bs.take (tzq X)) (cqs X)) := by
 have fin : ∀ k, k = tzq X → fqrows (bs.take (tzq X)) (cqs X) = (fqrows bs (X.map crat)).take k := fun k e => by rw [fqrows_take, ← List.map_take, e]; rfl
 have htl := tzq_le X
 have hl := h.1
 have hbl : bs.length = (X.map crat).length := by rw [List.length_map]; exact hb
 have hq : (fqrows bs (X.map crat)).length = X.length := by rw [fqrows_len hbl, List.length_map]
 refine ACT.by_walk (rs := [.tmp 2]) ords Tryz.func78 (by rfl) (by rfl) (by rfl) (by rfl) (by rfl) ?_
 simp (disch := omega) only [wt, seval]
 refine aloop_by (fun f H => ∃ k : Nat, k ≤ X.length ∧ f 0 = .hs 0 1 ∧ f 3 = .iv (.int .i64 k) ∧ H 0 = .blk false 1 32 3 (fqrows bs (X.map crat)) ∧ tzq (X.take k) = tzq X) (fun f H => (intAt f 3).toNat) ?_ ?_
 ·exact ⟨X.length, Nat.le_refl _, by simp only [wt, seval], by simp only [wt, seval, hq], by simp only [wt, seval], by rw [List.take_length]⟩
 rintro f H ⟨k, hk, h0, h3, hh, ht⟩
 rw [intAt_of h3]
 by_cases hc : 0 < (k : Int)
 ·have ek : ((k : Int) - 1).toNat = k - 1 := by omega
  have ek' : k = (k - 1) + 1 := by omega
  have e := fqrows_get hbl (i := k - 1) (by rw [List.length_map]; omega)
  have e2 : (X.map crat).getD (k - 1) q0 = crat (cfq X (k - 1)) := by
   have hk1 : k - 1 < X.length := by omega
   simp [List.getD, cfq, hk1]
  rw [e2] at e
  have z := (qpzero_ok (crat (cfq X (k - 1))) (szq_crat (h.cz (by omega) _)) (nv_crat0 _)).soft (.cons (soft_frq (bs.getD (k - 1) (none, none)).1 (bs.getD (k - 1) (none, none)).2 _) .nil)
  rw [qv_crat] at z
  simp (disch := omega) only [wt, seval, fq_take, h0, h3, hh, hc, ek, hq, e]
  refine call_by (z) (by rfl) (by simp) ?_
  simp (disch := omega) only [wt, seval]
  by_cases hz : cfq X (k - 1) = 0
  ·simp (disch := omega) only [wt, seval, h0, h3, hh, hz]
   refine ⟨⟨k - 1, by omega, by omega, ?_⟩, by omega⟩
   rw [← tzq_take_zero (k := k - 1) (by omega) hz, ← ek', ht]
  ·simp (disch := omega) only [wt, seval, h0, h3, hh, hz]
   have hk : k = tzq X := by
    have := tzq_full (q := X) (k := k - 1) (by omega) hz
    rw [← ek', ht] at this; exact this.symm
   refine ⟨by omega, fin k hk⟩
 ·have hk : k = tzq X := by
   obtain rfl : k = 0 := by omega
   rw [← ht]; rfl
  simp (disch := omega) only [wt, seval, h0, h3, hh, hc]
  refine ⟨by omega, fin k hk⟩
theorem qaddx_ok (a b : RQ) (ha : SzQ (2 ^ 35) a) (hb : SzQ (2 ^ 35) b) (h0 : nv a.2 ≠ 0) (h1 : nv b.2 ≠ 0) : ACX Tryz.prog 72 [cqq a, cqq b] (RRqE (crat (qv a + qv b)) 0) := by
 have c := qchecks_two a b (ha.mono (by omega)) (hb.mono (by omega)) h0 h1
 have t1 := qtimes_ok a.1 b.2 (ha.1.mono (by omega)) ⟨Nat.le_trans hb.2.1 (by omega), hb.2.2⟩
 have t2 := qtimes_ok b.1 a.2 (hb.1.mono (by omega)) ⟨Nat.le_trans ha.2.1 (by omega), ha.2.2⟩
 have z1 := zl_mul (iv a.1) (nv b.2 : Nat)
 have z2 := zl_mul (iv b.1) (nv a.2 : Nat)
 have y1 := zl_iv ha.1
 have y2 := zl_iv hb.1
 have y3 := nt_zl ha.2
 have y4 := nt_zl hb.2
 have z3 := zl_add (iv a.1 * (nv b.2 : Nat)) (iv b.1 * (nv a.2 : Nat))
 have s := zadd_ok (canon (iv a.1 * (nv b.2 : Nat))) (canon (iv b.1 * (nv a.2 : Nat))) ((sz_canon _).mono (by omega)) ((sz_canon _).mono (by omega))
 rw [iv_canon, iv_canon] at s
 have m := mmul_ok a.2 b.2 ha.2.2 hb.2.2 (Nat.le_trans ha.2.1 (by omega)) (Nat.le_trans hb.2.1 (by omega))
 have hw : (wd (nv a.2 * nv b.2)).length ≤ 2 ^ 35 + 2 ^ 35 := wd_len2 y3 y4
 have r := qredx_ok (canon (iv a.1 * (nv b.2 : Nat) + iv b.1 * (nv a.2 : Nat))) (wd (nv a.2 * nv b.2)) ((sz_canon _).mono (by omega)) ⟨by omega, lim_wd _⟩ (by rw [nv_wd]; exact Nat.mul_ne_zero h0 h1)
 rw [iv_canon, nv_wd, mk_add h0 h1] at r
 refine ACX.by_walk zi0 (rs := [.cell 4 32, .tmp 5]) ords Tryz.func72 (by rfl) (by rfl) (by rfl) (by rfl) (by rfl) (ne_rqe _ _) (fun B0 => ?_)
 simp (disch := omega) only [wt, seval, rqs, rats_two]
 refine call_by (c) (by rfl) (by simp) ?_
 simp (disch := omega) only [wt, seval, rqs]
 refine .inl ⟨tmps_by (by kernel_rfl), ?_⟩
 refine call_by (t1) (by rfl) (by simp) ?_
 simp (disch := omega) only [wt, seval, rqs]
 refine call_by (t2) (by rfl) (by simp) ?_
 simp only [wt, seval]
 refine call_by (s) (by rfl) (by simp) ?_
 simp (disch := omega) only [wt, seval]
 refine call_by (m) (by rfl) (by simp) ?_
 simp only [wt, seval]
 refine callx_by (r) (by rfl) (by simp) (by rfl) ?_
 rintro B1 E1 _ hB1 hE1 ⟨b1, c1, rfl, hb1⟩
 simp (disch := omega) only [wt, seval, fq_spl]
 refine ⟨log_by (by kernel_rfl), ?_⟩
 refine opn_done [.agg (frq b1 c1 (crat (qv a + qv b))), ci 0] (by rfl) (by simp (disch := omega) only [wt, seval, fq_take]) ?_
 intro E hE
 exact ⟨b1, c1, rfl, hb1.mono hB1 (by omega)⟩
theorem qmakex_ok (a b : RI) (ha : Sz (2 ^ 38) a) (hb : Sz (2 ^ 38) b) (h0 : iv b ≠ 0) : ACX Tryz.prog 87 [cr a, cr b] (RRqE (crat ((iv a : Rat) / (iv b : Rat))) 0) := by
 have s := zsign_ok b (hb.mono (by omega))
 have hs0 : (iv b).sign ≠ 0 := fun h => h0 (Int.sign_eq_zero_iff_zero.mp h)
 have n := zneg_ok a (ha.mono (by omega))
 have w := zabsn_ok b (hb.mono (by omega))
 have za := zl_iv ha
 have zb := zl_iv hb
 have d := mk_div (a := iv a) h0
 refine ACX.by_walk zi0 (rs := [.cell 4 32, .tmp 5]) ords Tryz.func87 (by rfl) (by rfl) (by rfl) (by rfl) (by rfl) (ne_rqe _ _) (fun B0 => ?_)
 simp (disch := omega) only [wt, seval]
 refine call_by (s) (by rfl) (by simp) ?_
 simp (disch := omega) only [wt, seval]
 simp (disch := omega) only [wt, seval, hs0]
 refine call_by (s) (by rfl) (by simp) ?_
 simp (disch := omega) only [wt, seval]
 have hsg := sign_neg (iv b)
 by_cases h : iv b < 0
 ·have h1 := hsg.mpr h
  rw [if_pos h] at d
  have r := qredx_ok (canon (-iv a)) (wd (iv b).natAbs) ((sz_canon _).mono (by rw [zl_neg]; exact za)) ⟨zb, lim_wd _⟩ (by rw [nv_wd]; omega)
  rw [iv_canon, nv_wd, d] at r
  simp (disch := omega) only [wt, seval, h1]
  refine call_by (n) (by rfl) (by simp) ?_
  simp (disch := omega) only [wt, seval]
  refine .inl ⟨tmps_by (by kernel_rfl), ?_⟩
  refine call_by (w) (by rfl) (by simp) ?_
  simp only [wt, seval]
  refine callx_by (r) (by rfl) (by simp) (by rfl) ?_
  rintro B1 E1 _ hB1 hE1 ⟨b1, c1, rfl, hb1⟩
  simp (disch := omega) only [wt, seval, fq_spl]
  refine ⟨log_by (by kernel_rfl), ?_⟩
  refine opn_done [.agg (frq b1 c1 (crat ((iv a : Rat) / (iv b : Rat)))), ci 0] (by rfl) (by simp (disch := omega) only [wt, seval, fq_take]) ?_
  intro E hE
  exact ⟨b1, c1, rfl, hb1.mono hB1 (by omega)⟩
 ·have h1 : ¬ (iv b).sign < 0 := fun h' => h (hsg.mp h')
  rw [if_neg h] at d
  have r := qredx_ok a (wd (iv b).natAbs) ha ⟨zb, lim_wd _⟩ (by rw [nv_wd]; omega)
  rw [nv_wd, d] at r
  simp (disch := omega) only [wt, seval, h1]
  refine .inl ⟨tmps_by (by kernel_rfl), ?_⟩
  refine call_by (w) (by rfl) (by simp) ?_
  simp only [wt, seval]
  refine callx_by (r) (by rfl) (by simp) (by rfl) ?_
  rintro B1 E1 _ hB1 hE1 ⟨b1, c1, rfl, hb1⟩
  simp (disch := omega) only [wt, seval, fq_spl]
  refine ⟨log_by (by kernel_rfl), ?_⟩
  refine opn_done [.agg (frq b1 c1 (crat ((iv a : Rat) / (iv b : Rat)))), ci 0] (by rfl) (by simp (disch := omega) only [wt, seval, fq_take]) ?_
  intro E hE
  exact ⟨b1, c1, rfl, hb1.mono hB1 (by omega)⟩
theorem qnormx_ok (r : RQ) (h : SzQ (2 ^ 38) r) (h0 : nv r.2 ≠ 0) : ACX Tryz.prog 77 [cqq r] (RRqE (crat (qv r)) 0) := by
 have c := qcheck_good r ⟨Nat.le_trans h.2.1 (by omega), h.2.2⟩ h0
 have m := qredx_ok r.1 r.2 h.1 h.2 h0
 refine ACX.by_walk zi0 (rs := [.cell 2 32, .tmp 3]) ords Tryz.func77 (by rfl) (by rfl) (by rfl) (by rfl) (by rfl) (ne_rqe _ _) (fun B0 => ?_)
 simp (disch := omega) only [wt, seval, rqs]
 refine call_by (c) (by rfl) (by simp) ?_
 simp (disch := omega) only [wt, seval, rqs]
 refine callx_by (m) (by rfl) (by simp) (by rfl) ?_
 rintro B1 E1 _ hB1 hE1 ⟨b1, c1, rfl, hb1⟩
 simp (disch := omega) only [wt, seval, fq_spl]
 refine opn_done [.agg (frq b1 c1 (crat (qv r))), ci 0] (by rfl) (by simp (disch := omega) only [wt, seval, fq_take]; rfl) ?_
 intro E hE
 exact ⟨b1, c1, rfl, hb1.mono hB1 (by omega)⟩
theorem idq_take {B E : Nat} {bs : List (OB × OB)} (k : Nat) (h : Nw B E (idq bs)) : Nw B E (idq (bs.take k)) := by
 have e : idq bs = idq (bs.take k) ++ idq (bs.drop k) := by
  rw [idq, idq, idq, ← List.flatMap_append, List.take_append_drop]
 rw [e] at h
 exact ⟨(List.nodup_append.1 h.1).1, fun g hg => h.2 g (List.mem_append_left _ hg)⟩
theorem take_len {α : Type} {bs : List α} {n k : Nat} (h : bs.length = n) (hk : k ≤ n) : (bs.take k).length = k := by rw [List.length_take]; omega
theorem qp_end {B E E2 : Nat} {bs : List (OB × OB)} {X : List Rat} {b : OB} (hb : bs.length = X.length) (hn : Nw B E (idq bs)) (hE : E ≤ E2) (h : ∀ g cap, b = some (g, cap) → B ≤ g ∧ g < E2 ∧ g ∉ idsRows (fqrows (bs.take (tzq X)) (cqs X))) : (bs.take (tzq X)).length = (cqs X).length ∧ Nw B E2 (oid b ++ idq (bs.take (tzq X))) := by
 have e : (bs.take (tzq X)).length = (cqs X).length := by rw [cqs_len, take_len hb (tzq_le X)]
 rw [ids_fqrows e] at h
 exact ⟨e, nwput2 (idq_take _ hn) hE h⟩
set_option maxRecDepth 4000 in
theorem qpnormx_ok (p : List RQ) (h : GQ (2 ^ 40) (2 ^ 38) p) : ACX Tryz.prog 14 [cqw p] (RQp (cqs (qvs p)) 0) := by
 refine ACX.by_walk zi0 (rs := [.tmp 2, .tmp 3]) ords Tryz.func14 (by rfl) (by rfl) (by rfl) (by rfl) (by rfl) (ne_qp _ _) (fun B => ?_)
 have hl := h.1
 have hvl : (qvs p).length = p.length := qvs_len p
 simp (disch := omega) only [wt, seval, rqs]
 refine aloop_nil 4 4 32 3 (by simp only [wt, seval]) (fun f H => ∃ (i st : Nat) (bs : List (OB × OB)) (E : Nat), i ≤ p.length ∧ bs.length = i ∧ B ≤ E ∧ Nw B E (idq bs) ∧ f 9 = .iv (.sl (rats p)) ∧ f 10 = .iv (.int .i64 p.length) ∧ f 11 = .iv (.int .i64 i) ∧ f 4 = .hs 4 st ∧ H 4 = .blk false st 32 3 (fqrows bs (((qvs p).take i).map crat)) ∧ H 999 = .mrk E) (fun f H => (p.length - intAt f 11).toNat) ?_ ?_
 ·refine ⟨0, 1, [], B, by omega, rfl, Nat.le_refl _, .nil _ _, ?_⟩
  simp only [wt, seval, ghostF, ghostH, List.take_zero]
  rfl
 rintro f H ⟨i, st, bs, E, hi, hbs, hBE, hnw, h9, h10, h11, h4, hH, h999⟩
 rw [intAt_of h11]
 simp (disch := omega) only [wt, seval, h10, h11]
 have hq : (((qvs p).take i).map crat).length = i := by rw [List.length_map, List.length_take]; omega
 have hql : (fqrows bs (((qvs p).take i).map crat)).length = i := by rw [fqrows_len (by omega), hq]
 refine if_by (fun hlt => ?_) (fun hlt => ?_)
 ·have hlt' : i < p.length := by omega
  have m := qnormx_ok (p.getD i q0) (h.get hlt') (h.den hlt')
  rw [← cfq_qvs] at m
  simp (disch := omega) only [wt, seval, rqs, h9, h11]
  refine callx_by (m) (by rfl) (by simp) (by assumption) ?_
  rintro B' E' _ hB hE ⟨b, c, rfl, hb⟩
  simp (disch := omega) only [wt, seval, fq_spl, fq_take, h9, h10, h11, h4, hH, hql]
  have e := takeq_snoc (q := qvs p) (i := i) (by omega)
  refine ⟨⟨i + 1, st + 1, bs ++ [(b, c)], E', by omega, by simp [hbs], by omega, ?_, by omega, rfl, ?_, rfl⟩, by omega⟩
  ·rw [idq_snoc]; exact hnw.append hb (by omega) hB (by omega)
  ·rw [e, List.map_append, fqrows_snoc (by omega)]; rfl
 ·simp (disch := omega) only [wt, seval, h4]
  obtain rfl : i = p.length := by omega
  rw [List.take_of_length_le (by omega)] at hH
  have t := qtrimx_t (qvs p) bs (by omega) h.qb
  refine callt_by (t) (by first | rfl | (simp only [wt, seval, rqs, lay_own, spl_own, lay_frq, fq_spl, fq_take, fqrows_rows, h9, h10, h11, h4, hH, h999]; done)) (by first | rfl | (simp only [seval, hH]; done)) (by rfl) (by simp) (by simp) ?_
  simp only [wt, seval]
  refine opn_by 2 4 _ 32 3 ((fqrows (bs.take (tzq (qvs p))) (cqs (qvs p)))) (by first | rfl | assumption | simp only [wt, seval, rqs, lay_own, spl_own, lay_frq, fq_spl, fq_take, fqrows_rows]) (by first | rfl | assumption | simp only [wt, seval, rqs, lay_own, spl_own, lay_frq, fq_spl, fq_take, fqrows_rows]) (by assumption) ?_
  rintro b E2 hE2 hb
  refine opn_done [.iv (fqp b (bs.take (tzq (qvs p))) (cqs (qvs p))), ci 0] (by rfl) (by simp (disch := omega) only [wt, seval]) ?_
  intro E hE
  obtain ⟨e1, e2⟩ := qp_end (by omega) hnw hE2 (fun g cap e => ⟨(hb.2 g cap e).1, (hb.2 g cap e).2.1, (hb.2 g cap e).2.2.1⟩)
  exact ⟨b, _, rfl, e1, e2.mono (Nat.le_refl _) hE⟩
set_option maxRecDepth 4000 in
theorem qeachx_ok (p q : List RQ) (g : Nat) (F : Rat → Rat → Rat) (K : Nat) (hp : GQ (2 ^ 30) K p) (hq : GQ (2 ^ 30) K q) (hK : K ≤ 2 ^ 35) (hK1 : 1 ≤ K) (hF0 : F 0 0 = 0) (hs : ∀ a b, qz a ≤ K → qz b ≤ K → qz (F a b) ≤ 2 ^ 38)
  (hop : ∀ a b, qz a ≤ K → qz b ≤ K → ACX Tryz.prog g [cqz a, cqz b] (RRqE (crat (F a b)) 0)) : ACX Tryz.prog 71 [cqw p, cqw q, .fn g []] (RQp (cqs (zipq F (qvs p) (qvs q))) 0) := by
 have m := qboth_ok p q (hp.mono (by omega) (by omega)) (hq.mono (by omega) (by omega))
 have hA := hp.qb.trimq
 have hB := hq.qb.trimq
 have e : cqs (zipq F (qvs p) (qvs q)) = cqs (zipq F (trimq (qvs p)) (trimq (qvs q))) := (cqs_ext fun k => by rw [cfq_zipq hF0, cfq_zipq hF0, cfq_trimq, cfq_trimq])
 rw [e]
 refine ACX.by_walk zi0 (rs := [.tmp 6, .tmp 7]) ords Tryz.func71 (by rfl) (by rfl) (by rfl) (by rfl) (by rfl) (ne_qp _ _) (fun B0 => ?_)
 simp only [wt, seval]
 refine call_by (m) (by rfl) (by simp) ?_
 simp (disch := omega) only [wt, seval, rqs]
 have ua : cqs (qvs p) = (trimq (qvs p)).map crat := rfl
 have ub : cqs (qvs q) = (trimq (qvs q)).map crat := rfl
 rw [ua, ub]
 clear ua ub m e
 generalize trimq (qvs p) = A at *
 generalize trimq (qvs q) = B at *
 have hAl := hA.1
 have hBl := hB.1
 have hqa : (A.map crat).length = A.length := List.length_map _
 have hqb : (B.map crat).length = B.length := List.length_map _
 have hRl := zipq_len F A B
 have hR : QB (2 ^ 40) (2 ^ 38) (zipq F A B) := .of (by omega) fun i => by rw [cfq_zipq hF0]; exact hs _ _ (hA.cz hK1 i) (hB.cz hK1 i)
 obtain ⟨n, hn⟩ : ∃ n, n = max A.length B.length := ⟨_, rfl⟩
 have hnI : max (A.length : Int) (B.length : Int) = (n : Int) := by omega
 rw [← hn] at hRl
 simp only [seval, hqa, hqb, hnI]
 have hRL := hRl
 generalize hX : zipq F A B = X at *
 have hcx : ∀ k, cfq X k = F (cfq A k) (cfq B k) := fun k => by rw [← hX, cfq_zipq hF0]
 refine aloop_nil 11 11 32 3 (by simp only [wt, seval]) (fun f H => ∃ (i st : Nat) (bs : List (OB × OB)) (E : Nat), i ≤ n ∧ bs.length = i ∧ B0 ≤ E ∧ Nw B0 E (idq bs) ∧ f 30 = .iv (.int .i64 i) ∧ f 29 = .iv (.int .i64 n) ∧ f 8 = .iv (.sl (rats (A.map crat))) ∧ f 9 = .iv (.sl (rats (B.map crat))) ∧ f 2 = .fn g [] ∧ f 11 = .hs 11 st ∧ H 11 = .blk false st 32 3 (fqrows bs ((X.take i).map crat)) ∧ H 999 = .mrk E) (fun f H => (n - intAt f 30).toNat) ?_ ?_
 ·refine ⟨0, 1, [], B0, by omega, rfl, Nat.le_refl _, .nil _ _, ?_⟩
  simp only [wt, seval, ghostF, ghostH, List.take_zero]
  rfl
 rintro f H ⟨i, st, bs, E, hi, hbs, hBE, hnw, h30, h29, h8, h9, h2, h11, hH, h999⟩
 rw [intAt_of h30]
 simp (disch := omega) only [wt, seval, h30, h29]
 have hq : ((X.take i).map crat).length = i := by rw [List.length_map, List.length_take]; omega
 have hql : (fqrows bs ((X.take i).map crat)).length = i := by rw [fqrows_len (by omega), hq]
 refine if_by (fun hlt => ?_) (fun hlt => ?_)
 ·have c1 := qcoef_nat A i (hA.mono (by omega) (by omega))
  have c2 := qcoef_nat B i (hB.mono (by omega) (by omega))
  have o := hop (cfq A i) (cfq B i) (hA.cz hK1 i) (hB.cz hK1 i)
  rw [← hcx] at o
  simp (disch := omega) only [wt, seval, h30, h8, h2]
  refine call_by (c1) (by rfl) (by simp) ?_
  simp (disch := omega) only [wt, seval, h9]
  refine call_by (c2) (by rfl) (by simp) ?_
  simp (disch := omega) only [wt, seval]
  refine callx_by (o) (by rfl) (by simp) (by assumption) ?_
  rintro B' E' _ hB1 hE1 ⟨b, c, rfl, hb⟩
  simp (disch := omega) only [wt, seval, fq_spl, fq_take, h30, h29, h8, h9, h2, h11, hH, hql]
  have e := takeq_snoc (q := X) (i := i) (by omega)
  refine ⟨⟨i + 1, st + 1, bs ++ [(b, c)], E', by omega, by simp [hbs], by omega, ?_, by omega, rfl, ?_, rfl⟩, by omega⟩
  ·rw [idq_snoc]; exact hnw.append hb (by omega) hB1 (by omega)
  ·rw [e, List.map_append, fqrows_snoc (by omega)]; rfl
 ·simp (disch := omega) only [wt, seval, h11]
  obtain rfl : i = n := by omega
  rw [List.take_of_length_le (by omega)] at hH
  have t := qtrimx_t X bs (by omega) hR
  refine callt_by (t) (by first | rfl | (simp only [wt, seval, rqs, lay_own, spl_own, lay_frq, fq_spl, fq_take, fqrows_rows, h30, h29, h8, h9, h2, h11, hH, h999]; done)) (by first | rfl | (simp only [seval, hH]; done)) (by rfl) (by simp) (by simp) ?_
  simp only [wt, seval]
  refine opn_by 6 11 _ 32 3 ((fqrows (bs.take (tzq X)) (cqs X))) (by first | rfl | assumption | simp only [wt, seval, rqs, lay_own, spl_own, lay_frq, fq_spl, fq_take, fqrows_rows]) (by first | rfl | assumption | simp only [wt, seval, rqs, lay_own, spl_own, lay_frq, fq_spl, fq_take, fqrows_rows]) (by assumption) ?_
  rintro b E2 hE2 hb
  refine opn_done [.iv (fqp b (bs.take (tzq X)) (cqs X)), ci 0] (by rfl) (by simp (disch := omega) only [wt, seval]) ?_
  intro E hE
  obtain ⟨e1, e2⟩ := qp_end (by omega) hnw hE2 (fun g cap e => ⟨(hb.2 g cap e).1, (hb.2 g cap e).2.1, (hb.2 g cap e).2.2.1⟩)
  exact ⟨b, _, rfl, e1, e2.mono (Nat.le_refl _) hE⟩
theorem qpaddx_ok (p q : List RQ) (K : Nat) (hp : GQ (2 ^ 30) K p) (hq : GQ (2 ^ 30) K q) (hK : K ≤ 2 ^ 35) (hK1 : 1 ≤ K) : ACX Tryz.prog 11 [cqw p, cqw q] (RQp (cqs (addq (qvs p) (qvs q))) 0) := by
 have m := qeachx_ok p q 72 (fun a b => a + b) K hp hq hK hK1 (by decide +kernel) (fun a b ha hb => by have := qz_add a b; omega) (fun a b ha hb => by
  have := qaddx_ok (crat a) (crat b) (szq_crat (by omega)) (szq_crat (by omega)) (nv_crat0 _) (nv_crat0 _)
  rwa [qv_crat, qv_crat] at this)
 rw [show zipq (fun a b => a + b) (qvs p) (qvs q) = addq (qvs p) (qvs q) from rfl] at m
 refine ACX.by_walk zi0 (rs := [.tmp 4, .tmp 5]) ords Tryz.func11 (by rfl) (by rfl) (by rfl) (by rfl) (by rfl) (ne_qp _ _) (fun B => ?_)
 simp only [wt, seval]
 refine callx_by (m) (by rfl) (by simp) (by rfl) ?_
 rintro B' E _ hB hE ⟨b, bs, rfl, hl, hn⟩
 simp (disch := omega) only [wt, seval]
 refine opn_done [.iv (fqp b bs (cqs (addq (qvs p) (qvs q)))), ci 0] (by rfl) (by simp (disch := omega) only [wt, seval]) ?_
 intro E hE
 exact ⟨b, bs, rfl, hl, hn.mono hB (by omega)⟩
set_option maxRecDepth 4000 in
theorem qoverx_ok (L : List Int) (d e : Nat) (hL : PB (2 ^ 31) (2 ^ 37) L) (hd : (wd d).length ≤ 2 ^ 35) (he : (wd e).length ≤ 2 ^ 35) (hd0 : d ≠ 0) (he0 : e ≠ 0) : ACX Tryz.prog 75 [cw (L.map canon), cl (wd d), cl (wd e)] (RQp (cqs (divl L ((d * e : Nat) : Int))) 0) := by
 have hl := hL.1
 have hq : (L.map canon).length = L.length := List.length_map _
 have hrl := divl_len L ((d * e : Nat) : Int)
 have n1 := znat_ok false d (by omega)
 have n2 := znat_ok false e (by omega)
 rw [sgf] at n1 n2
 have m := zmul_ok (canon (d : Int)) (canon (e : Int)) ((sz_canon _).mono (by rw [zl_nat]; omega)) ((sz_canon _).mono (by rw [zl_nat]; omega))
 rw [iv_canon, iv_canon, ← Int.natCast_mul] at m
 have hde : d * e ≠ 0 := Nat.mul_ne_zero hd0 he0
 have hw : (wd (d * e)).length ≤ 2 ^ 35 + 2 ^ 35 := wd_len2 hd he
 have hR : QB (2 ^ 40) (2 ^ 38) (divl L ((d * e : Nat) : Int)) := (QB.divl hL hde (by omega)).mono (by omega) (by omega)
 refine ACX.by_walk zi0 (rs := [.tmp 6, .tmp 7]) ords Tryz.func75 (by rfl) (by rfl) (by rfl) (by rfl) (by rfl) (ne_qp _ _) (fun B0 => ?_)
 simp only [wt, seval]
 refine call_by (n1) (by rfl) (by simp) ?_
 simp only [wt, seval]
 refine call_by (n2) (by rfl) (by simp) ?_
 simp only [wt, seval]
 refine call_by (m) (by rfl) (by simp) ?_
 simp (disch := omega) only [wt, seval]
 have hcx : ∀ k, cfq (divl L ((d * e : Nat) : Int)) k = (cf L k : Rat) / (((d * e : Nat) : Int) : Rat) := fun k => cfq_divl _ _ _
 generalize divl L ((d * e : Nat) : Int) = X at *
 refine aloop_nil 9 9 32 3 (by simp only [wt, seval]) (fun f H => ∃ (i st st8 : Nat) (bs : List (OB × OB)) (E : Nat), i ≤ L.length ∧ bs.length = i ∧ B0 ≤ E ∧ Nw B0 E (idq bs) ∧ f 21 = .iv (.int .i64 i) ∧ f 20 = .iv (.int .i64 L.length) ∧ f 19 = .iv (.sl (raws (L.map canon))) ∧ f 8 = .hp 8 st8 0 0 ∧ H 8 = .blk false st8 30 2 [prow (canon ((d * e : Nat) : Int))] ∧ f 9 = .hs 9 st ∧ H 9 = .blk false st 32 3 (fqrows bs ((X.take i).map crat)) ∧ H 999 = .mrk E) (fun f H => (L.length - intAt f 21).toNat) ?_ ?_
 ·refine ⟨0, 1, 1, [], B0, by omega, rfl, Nat.le_refl _, .nil _ _, ?_⟩
  simp only [wt, seval, ghostF, ghostH, List.take_zero, hq]
  rfl
 rintro f H ⟨i, st, st8, bs, E, hi, hbs, hBE, hnw, h21, h20, h19, h8, hH8, h9, hH, h999⟩
 rw [intAt_of h21]
 simp (disch := omega) only [wt, seval, h21, h20]
 have hrq : ((X.take i).map crat).length = i := by rw [List.length_map, List.length_take]; omega
 have hql : (fqrows bs ((X.take i).map crat)).length = i := by rw [fqrows_len (by omega), hrq]
 refine if_by (fun hlt => ?_) (fun hlt => ?_)
 ·have e1 := canon_getD L i
  have hz := hL.cf i
  have k := qmakex_ok (canon (cf L i)) (canon ((d * e : Nat) : Int)) ((sz_canon _).mono (by omega)) ((sz_canon _).mono (by rw [zl_nat]; omega)) (by rw [iv_canon]; omega)
  rw [iv_canon, iv_canon, ← hcx] at k
  simp (disch := omega) only [wt, seval, h21, h19, h8, hH8, e1, hq]
  refine callx_by (k) (by rfl) (by simp) (by assumption) ?_
  rintro B' E' _ hB1 hE1 ⟨b, c, rfl, hb⟩
  simp (disch := omega) only [wt, seval, fq_spl, fq_take, h21, h20, h19, h8, hH8, h9, hH, hql]
  have et := takeq_snoc (q := X) (i := i) (by omega)
  refine ⟨⟨i + 1, st + 1, st8, bs ++ [(b, c)], E', by omega, by simp [hbs], by omega, ?_, by omega, rfl, rfl, rfl, ?_, rfl⟩, by omega⟩
  ·rw [idq_snoc]; exact hnw.append hb (by omega) hB1 (by omega)
  ·rw [et, List.map_append, fqrows_snoc (by omega)]; rfl
 ·simp (disch := omega) only [wt, seval, h9]
  obtain rfl : i = L.length := by omega
  rw [List.take_of_length_le (by omega)] at hH
  have t := qtrimx_t X bs (by omega) hR
  refine callt_by (t) (by first | rfl | (simp only [wt, seval, rqs, lay_own, spl_own, lay_frq, fq_spl, fq_take, fqrows_rows, h21, h20, h19, h8, hH8, h9, hH, h999]; done)) (by first | rfl | (simp only [seval, hH]; done)) (by rfl) (by simp) (by simp) ?_
  simp only [wt, seval]
  refine opn_by 6 9 _ 32 3 ((fqrows (bs.take (tzq X)) (cqs X))) (by first | rfl | assumption | simp only [wt, seval, rqs, lay_own, spl_own, lay_frq, fq_spl, fq_take, fqrows_rows]) (by first | rfl | assumption | simp only [wt, seval, rqs, lay_own, spl_own, lay_frq, fq_spl, fq_take, fqrows_rows]) (by assumption) ?_
  rintro b E2 hE2 hb
  refine opn_done [.iv (fqp b (bs.take (tzq X)) (cqs X)), ci 0] (by rfl) (by simp (disch := omega) only [wt, seval]) ?_
  intro E hE
  obtain ⟨e1, e2⟩ := qp_end (by omega) hnw hE2 (fun g cap e => ⟨(hb.2 g cap e).1, (hb.2 g cap e).2.1, (hb.2 g cap e).2.2.1⟩)
  exact ⟨b, _, rfl, e1, e2.mono (Nat.le_refl _) hE⟩
theorem qpmulx_ok (p q : List RQ) (n k : Nat) (hp : GQ n k p) (hq : GQ n k q) (hn : n ≤ 2 ^ 28) (hM : n * k + k + 2 ≤ 2 ^ 34) (hk : 1 ≤ k) : ACX Tryz.prog 13 [cqw p, cqw q] (RQp (cqs (mulq (qvs p) (qvs q))) 0) := by
 have m := qboth_ok p q (hp.mono (by omega) (by omega)) (hq.mono (by omega) (by omega))
 have hA := hp.qb.trimq
 have hB := hq.qb.trimq
 have e : cqs (mulq (qvs p) (qvs q)) = cqs (mulq (trimq (qvs p)) (trimq (qvs q))) := (cqs_ext fun k => (mulq_trim _ _ k).symm)
 have tA := trimq_trimq (qvs p)
 have tB := trimq_trimq (qvs q)
 rw [e]
 refine ACX.by_walk zi0 (rs := [.tmp 4, .tmp 5]) ords Tryz.func13 (by rfl) (by rfl) (by rfl) (by rfl) (by rfl) (ne_qp _ _) (fun B0 => ?_)
 simp only [wt, seval]
 refine call_by (m) (by rfl) (by simp) ?_
 simp (disch := omega) only [wt, seval, rqs]
 have ua : cqs (qvs p) = (trimq (qvs p)).map crat := rfl
 have ub : cqs (qvs q) = (trimq (qvs q)).map crat := rfl
 rw [ua, ub]
 clear ua ub m e
 generalize trimq (qvs p) = A at *
 generalize trimq (qvs q) = B at *
 have hqa : (A.map crat).length = A.length := List.length_map _
 have hqb : (B.map crat).length = B.length := List.length_map _
 by_cases ha : A.length = 0
 ·have ha' : ((A.map crat).length : Int) = 0 := by omega
  have hn := mulq_nil (A := A) (B := B) (.inl (by rw [tA]; exact List.length_eq_zero_iff.mp ha))
  rw [hn]
  simp only [wt, seval, ha']
  refine opn_nils 4 32 3 (by rfl) ?_
  refine opn_done [.iv (fqp none [] []), ci 0] (by rfl) (by simp (disch := omega) only [wt, seval]; rfl) ?_
  intro E hE
  exact ⟨none, [], rfl, rfl, .nil _ _⟩
 have ha' : ¬ ((A.map crat).length : Int) = 0 := by omega
 by_cases hb : B.length = 0
 ·have hb' : ((B.map crat).length : Int) = 0 := by omega
  have hn := mulq_nil (A := A) (B := B) (.inr (by rw [tB]; exact List.length_eq_zero_iff.mp hb))
  rw [hn]
  simp only [wt, seval, ha', hb']
  refine opn_nils 4 32 3 (by rfl) ?_
  refine opn_done [.iv (fqp none [] []), ci 0] (by rfl) (by simp (disch := omega) only [wt, seval]; rfl) ?_
  intro E hE
  exact ⟨none, [], rfl, rfl, .nil _ _⟩
 have hb' : ¬ ((B.map crat).length : Int) = 0 := by omega
 have c1 := qclear_ok (A.map crat) n k hA.gq hn hM
 have c2 := qclear_ok (B.map crat) n k hB.gq hn hM
 rw [qvs_map, tA] at c1
 rw [qvs_map, tB] at c2
 have pA := hA.clr.mono (n' := 2 ^ 30) (k' := 2 ^ 35) (by omega) (by omega)
 have pB := hB.clr.mono (n' := 2 ^ 30) (k' := 2 ^ 35) (by omega) (by omega)
 have z := pmul_ok ((clr A).map canon) ((clr B).map canon) (RP.canon pA) (RP.canon pB)
 rw [pv_canon, pv_canon] at z
 have l1 := cden_len hA
 have l2 := cden_len hB
 have pm := (pA.pmul pB (by decide)).trimz
 have o := qoverx_ok (trimz (pmul (clr A) (clr B))) (cden A) (cden B) (pm.mono (by omega) (by omega)) (by omega) (by omega) (cden_ne A) (cden_ne B)
 have ee : cqs (divl (trimz (pmul (clr A) (clr B))) ((cden A * cden B : Nat) : Int)) = cqs (mulq A B) := cqs_ext (cfq_clear_mul A B)
 rw [ee] at o
 simp only [wt, seval, ha', hb']
 refine call_by (c1) (by rfl) (by simp) ?_
 simp (disch := omega) only [wt, seval]
 refine call_by (c2) (by rfl) (by simp) ?_
 simp (disch := omega) only [wt, seval]
 refine call_by (z) (by rfl) (by simp) ?_
 simp only [wt, seval]
 refine callx_by (o) (by rfl) (by simp) (by rfl) ?_
 rintro B' E _ hB1 hE ⟨b, bs, rfl, hl, hn2⟩
 simp (disch := omega) only [wt, seval]
 refine opn_done [.iv (fqp b bs (cqs (mulq A B))), ci 0] (by rfl) (by simp (disch := omega) only [wt, seval]) ?_
 intro E hE
 exact ⟨b, bs, rfl, hl, hn2.mono hB1 (by omega)⟩
theorem nofx_ok (x : Nat) (h : x < W) : ACX Tryz.prog 92 [cu x] (RNat (wd x)) := by
 refine ACX.by_walk zi0 (rs := [.tmp 2]) ords Tryz.func92 (by rfl) (by rfl) (by rfl) (by rfl) (by rfl) (ne_nat _) (fun B => ?_)
 simp (disch := omega) only [wt, seval]
 have m := ownx_ok [x] (Lim.cons h Lim.nil) (by simp)
 have e : nv [x] = x := by simp [nv, vl]
 rw [e] at m
 refine callx_by (m) (by rfl) (by simp) (by rfl) ?_
 rintro B' E _ hB hE ⟨b, rfl, hb⟩
 simp only [wt, seval]
 refine opn_done [.iv (fnat b (wd x))] (by rfl) (by simp (disch := omega) only [wt, seval]) ?_
 intro E hE
 exact ⟨b, rfl, hb.mono hB (by omega)⟩
theorem zOfx_ok (n : Int) (h : -9223372036854775808 ≤ n) (h' : n ≤ 9223372036854775807) : ACX Tryz.prog 91 [ci n] (RInt n) := by
 refine ACX.by_walk zi0 (rs := [.cell 2 30]) ords Tryz.func91 (by rfl) (by rfl) (by rfl) (by rfl) (by rfl) (ne_int _) (fun B => ?_)
 simp (disch := omega) only [wt, seval]
 refine if_by (fun hn => ?_) (fun hn => ?_)
 ·simp (disch := omega) only [wt, seval]
  rw [wrap_neg_u64 h hn]
  refine callx_by ((nofx_ok n.natAbs (by simp only [W]; omega))) (by rfl) (by simp) (by rfl) ?_
  rintro B' E _ hB hE ⟨b, rfl, hb⟩
  simp only [wt, seval]
  have e : n = sg true n.natAbs := by unfold sg; simp; omega
  have := zofx_ok true n.natAbs b
  rw [← e] at this
  refine call_by (this) (by rfl) (by simp) ?_
  simp (disch := omega) only [wt, seval, spl_own]
  refine opn_done [.agg (fint b n)] (by rfl) (by simp (disch := omega) only [wt, seval]; rfl) ?_
  intro E hE
  exact ⟨b, rfl, hb.mono hB (by omega)⟩
 ·simp (disch := omega) only [wt, seval]
  rw [wrap_pos_u64 (by omega) h']
  refine callx_by ((nofx_ok n.natAbs (by simp only [W]; omega))) (by rfl) (by simp) (by rfl) ?_
  rintro B' E _ hB hE ⟨b, rfl, hb⟩
  simp only [wt, seval]
  have e : n = sg false n.natAbs := by unfold sg; simp; omega
  have := zofx_ok false n.natAbs b
  rw [← e] at this
  refine call_by (this) (by rfl) (by simp) ?_
  simp (disch := omega) only [wt, seval, spl_own]
  refine opn_done [.agg (fint b n)] (by rfl) (by simp (disch := omega) only [wt, seval]; rfl) ?_
  intro E hE
  exact ⟨b, rfl, hb.mono hB (by omega)⟩
def ids (bs : List OB) : List Nat := bs.flatMap oid
theorem ids_snoc (bs : List OB) (b : OB) : ids (bs ++ [b]) = ids bs ++ oid b := by simp [ids]
theorem ids_nones (n : Nat) : ids (List.replicate n none) = [] := by
 simp [ids, oid]


theorem ids_app (bs cs : List OB) : ids (bs ++ cs) = ids bs ++ ids cs := by simp [ids]

theorem soft_fnat (b : OB) (l : List Nat) : SoftC (.iv (fnat b l)) (cl l) := by
 refine .iv (.own _ _ _ _ _ rfl (fun i r r' h h' => ?_) (fun i r r' h h' j x x' hx hx' => ?_))
 ·rw [h] at h'; cases h'; rfl
 ·rw [h] at h'; cases h'; rw [hx] at hx'; cases hx'; exact .refl _

theorem fld_int1 {zi : Zi} : fldA Tryz.prog 30 1 = some (1, 1, false) := by kernel_rfl
set_option linter.defProp false
@[reducible] def zW : Zi := ⟨none, fun _ => false, (· == 5), .no⟩
theorem zbxW (e : Nat) : @Zi.bx zW e = false := rfl
theorem zbsW (e : Nat) : @Zi.bs zW e = (e == 5) := rfl
theorem zstW : @Zi.st zW = .no := rfl
theorem zslW : @zsl zW = .sl [] := rfl
set_option maxRecDepth 100000 in
theorem ewholex_ok (n : Int) (h : -9223372036854775808 ≤ n) (h' : n ≤ 9223372036854775807) : ACX Tryz.prog 120 [ci n] (RRq (crat (n : Rat))) := by
 have z := zOfx_ok n h h'
 rw [crat_int n]
 refine ACX.by_walk zW (rs := [.cell 2 32]) ords Tryz.func120 (by rfl) (by rfl) (by rfl) (by rfl) (by rfl) (ne_rq _) (fun B => ?_)
 simp (disch := omega) only [wt, seval, zbxW, zstW, zslW]
 refine callx_by (z) (by rfl) (by simp) (by rfl) ?_
 rintro B1 E1 _ hB1 hE1 ⟨b, rfl, hb⟩
 simp only [wt, seval, zbsW]
 refine buildx_by (e := 134) (by rfl) (by rfl) (by simp only [tis]; exact ⟨⟨trivial, trivial⟩, trivial, trivial, by decide, by simp, rfl⟩) (by first | rfl | simp only [wt, seval, rqs, lay_own, spl_own, lay_frq, fq_spl, fq_take, fqrows_rows, zbxW, zbsW, zstW, zslW]) ?_
 intro B2 E2 c hB2 hE2 hcn hc
 simp (disch := omega) only [wt, seval, lay_frq, zslW]
 refine opn_done [.agg (frq b c (canon n, [1]))] (by rfl) (by simp (disch := omega) only [wt, seval, zslW]; rfl) ?_
 intro E hE
 refine ⟨b, c, rfl, ?_⟩
 have h3 : Nw B2 E2 (oid c) := Nw.oid fun g cap e => by have := hc g cap e; omega
 exact (hb.append h3 (by omega) (by omega) (by omega)).mono (by omega) (by omega)
set_option maxRecDepth 4000 in
theorem eAtx_ok (p : List RQ) (x : RQ) (B : Nat) (v : VB p x B) : ACX Tryz.prog 50 [cqw p, cqq x] (RRqE (crat (evq (qvs p) (qv x))) 0) := by
 have hl := v.hp.1
 have hb := v.b
 have g := qgood_ok p (v.hp.bq.mono (by omega) (by omega))
 rw [v.hp.gd] at g
 have o := qcheck_good x ⟨Nat.le_trans v.hx.2.1 (by omega), v.hx.2.2⟩ v.d
 have w := ewholex_ok 0 (by omega) (by omega)
 rw [Rat.intCast_zero] at w
 have e0 : evq ((qvs p).drop p.length) (qv x) = 0 := by rw [← qvs_len p, List.drop_length]; rfl
 refine ACX.by_walk zi0 (rs := [.cell 4 32, .tmp 5]) ords Tryz.func50 (by rfl) (by rfl) (by rfl) (by rfl) (by rfl) (ne_rqe _ _) (fun B0 => ?_)
 simp (disch := omega) only [wt, seval]
 refine call_by (g) (by rfl) (by simp) ?_
 simp (disch := omega) only [wt, seval, rqs]
 refine call_by (o) (by rfl) (by simp) ?_
 simp (disch := omega) only [wt, seval]
 refine callx_by (w) (by rfl) (by simp) (by rfl) ?_
 rintro B1 E1 _ hB1 hE1 ⟨b1, c1, rfl, hn1⟩
 simp (disch := omega) only [wt, seval, rqs, fq_spl]
 refine aloop_by (fun f H => ∃ (i st3 st6 E : Nat) (b c : OB), i ≤ p.length ∧ B0 ≤ E ∧ Nw B0 E (oid b ++ oid c) ∧ f 7 = .iv (.int .i64 ((i : Int) - 1)) ∧ f 0 = .iv (.sl (rats p)) ∧ f 3 = .hp 3 st3 0 0 ∧ H 3 = .blk false st3 32 3 [qrow x] ∧ f 6 = .hp 6 st6 0 0 ∧ H 6 = .blk false st6 32 3 [frq b c (crat (evq ((qvs p).drop i) (qv x)))] ∧ f 4 = .hp 4 1 0 0 ∧ H 4 = .blk false 1 32 3 [[.bool false, .sl [], .sl []]] ∧ H 999 = .mrk E) (fun f H => (intAt f 7 + 1).toNat) ?_ ?_
 ·refine ⟨p.length, 1, 1, E1, b1, c1, by omega, by omega, hn1.mono (by omega) (Nat.le_refl _), ?_⟩
  simp only [wt, seval, e0]
 rintro f H ⟨i, st3, st6, E, b, c, hi, hBE, hn, h7, h0, h3, hH3, h6, hH6, h4, hH4, h9⟩
 rw [intAt_of h7]
 simp (disch := omega) only [wt, seval, h7]
 refine if_by (fun hlt => ?_) (fun hlt => ?_)
 ·obtain ⟨j, rfl⟩ : ∃ j, i = j + 1 := ⟨i - 1, by omega⟩
  have ej : ((j + 1 : Nat) : Int) - 1 = (j : Int) := by omega
  rw [ej] at h7
  have hlt' : j < p.length := by omega
  have hr := v.hp.get hlt'
  have hrd := v.hp.den hlt'
  have z1 := v.drop (j + 1)
  have z2 := v.drop j
  have zx := qz_raw v.hx v.d
  have zm := qz_mul (evq ((qvs p).drop (j + 1)) (qv x)) (qv x)
  have m := (qmul_ok (crat (evq ((qvs p).drop (j + 1)) (qv x))) x (szq_crat (by omega)) (v.hx.mono (by omega)) (nv_crat0 _) v.d).soft (.cons (soft_frq b c _) (.cons (.refl _) .nil))
  rw [qv_crat] at m
  have s := qaddx_ok (crat (evq ((qvs p).drop (j + 1)) (qv x) * qv x)) (p.getD j q0) (szq_crat (by omega)) (hr.mono (by omega)) (nv_crat0 _) hrd
  rw [qv_crat, ← cfq_qvs, show evq ((qvs p).drop (j + 1)) (qv x) * qv x + cfq (qvs p) j = evq ((qvs p).drop j) (qv x) from (evq_drop (qvs p) (qv x) (by rw [qvs_len]; exact hlt')).symm] at s
  simp (disch := omega) only [wt, seval, rqs, fq_take, h3, hH3, h6, hH6, ej]
  refine call_by (m) (by rfl) (by simp) ?_
  simp (disch := omega) only [wt, seval, rqs, h7, h0, h6, hH6]
  refine .inl ⟨tmps_by (by kernel_rfl), ?_⟩
  refine callx_by (s) (by rfl) (by simp) (by assumption) ?_
  rintro B2 E2 _ hB2 hE2 ⟨b2, c2, rfl, hn2⟩
  simp (disch := omega) only [wt, seval, fq_spl, h7, h0, h3, hH3, h6, h4, hH4]
  refine ⟨log_by (by kernel_rfl), ?_⟩
  refine ⟨⟨j, st3, st6, E2, b2, c2, by omega, by omega, hn2.mono (by omega) (Nat.le_refl _), by omega, rfl, rfl, rfl, rfl, rfl⟩, by omega⟩
 ·have hi0 : i = 0 := by omega
  subst hi0
  rw [List.drop_zero] at hH6
  simp (disch := omega) only [wt, seval, fq_spl, fq_take, h6, hH6, h4, hH4]
  refine opn_done [.agg (frq b c (crat (evq (qvs p) (qv x)))), ci 0] (by assumption) (by simp (disch := omega) only [wt, seval, fq_take, h4]) ?_
  intro E hE
  exact ⟨b, c, rfl, hn.mono (by omega) (by omega)⟩
theorem eAtx_bad (p : List RQ) (x : RQ) (hp : BQ (2 ^ 40) (2 ^ 38) p) (hx : SzQ (2 ^ 38) x) (h : gd p = false ∨ nv x.2 = 0) : ACX Tryz.prog 50 [cqw p, cqq x] (RRqE q0 1) := by
 have g := qgood_ok p (hp.mono (by omega) (by omega))
 refine ACX.by_walk ziX (rs := [.cell 4 32, .tmp 5]) ords Tryz.func50 (by rfl) (by rfl) (by rfl) (by rfl) (by rfl) (ne_rqe _ _) (fun B => ?_)
 simp (disch := omega) only [wt, seval]
 cases hg : gd p with
 | false =>
  rw [hg] at g
  refine call_by (g) (by rfl) (by simp) ?_
  simp (disch := omega) only [wt, seval]
  refine opn_done [.agg (frq none none q0), ci 1] (by rfl) (by simp (disch := omega) only [wt, seval]; rfl) ?_
  intro E hE
  exact ⟨none, none, rfl, .nil _ _⟩
 | true =>
  rw [hg] at g
  have h0 : nv x.2 = 0 := h.resolve_left (by rw [hg]; decide)
  have o := qcheck_bad x ⟨Nat.le_trans hx.2.1 (by omega), hx.2.2⟩ h0
  refine call_by (g) (by rfl) (by simp) ?_
  simp (disch := omega) only [wt, seval, rqs]
  refine call_by (o) (by rfl) (by simp) ?_
  simp (disch := omega) only [wt, seval]
  refine opn_done [.agg (frq none none q0), ci 1] (by rfl) (by simp (disch := omega) only [wt, seval]; rfl) ?_
  intro E hE
  exact ⟨none, none, rfl, .nil _ _⟩
theorem softI (b : OB) (n : Int) : SoftC (.agg (fint b n)) (cz n) := .agg rfl (soft_fint b n)
theorem fi_take (b : OB) (n : Int) : List.take 2 (fint b n) = fint b n := rfl
set_option maxRecDepth 4000 in
theorem eatintx_ok (p : List RI) (t : RI) (hp : RP (2 ^ 10) (2 ^ 20) p) (ht : Sz (2 ^ 20) t) : ACX Tryz.prog 44 [cw p, cr t] (RInt (ev (pv p) (iv t))) := by
 have hl := hp.1
 have hpl := pv_len p
 have zt := zl_iv ht
 have hb : ∀ i, zl (ev ((pv p).drop i) (iv t)) ≤ 2 ^ 32 := fun i => ev_bound hp zt _ (by rw [List.length_drop]; omega) fun z hz => List.mem_of_mem_drop hz
 have e0 : ev ((pv p).drop p.length) (iv t) = 0 := by rw [List.drop_of_length_le (by omega), ev]
 refine ACX.by_walk zi0 (rs := [.cell 4 30]) ords Tryz.func44 (by rfl) (by rfl) (by rfl) (by rfl) (by rfl) (ne_int _) (fun B0 => ?_)
 simp (disch := omega) only [wt, seval]
 refine callx_by ((zOfx_ok 0 (by omega) (by omega))) (by rfl) (by simp) (by rfl) ?_
 rintro B1 E1 _ hB1 hE1 ⟨b1, rfl, hn1⟩
 simp (disch := omega) only [wt, seval, spl_own]
 refine aloop_by (fun f H => ∃ (i st3 st5 E : Nat) (b : OB), i ≤ p.length ∧ B0 ≤ E ∧ Nw B0 E (oid b) ∧ f 6 = .iv (.int .i64 ((i : Int) - 1)) ∧ f 0 = .iv (.sl (raws p)) ∧ f 3 = .hp 3 st3 0 0 ∧ H 3 = .blk false st3 30 2 [prow t] ∧ f 4 = .hp 4 1 0 0 ∧ H 4 = .blk false 1 30 2 [prow (false, [])] ∧ f 5 = .hp 5 st5 0 0 ∧ H 5 = .blk false st5 30 2 [fint b (ev ((pv p).drop i) (iv t))] ∧ H 999 = .mrk E) (fun f H => (intAt f 6 + 1).toNat) ?_ ?_
 ·refine ⟨p.length, 1, 1, E1, b1, by omega, by omega, hn1.mono (by omega) (Nat.le_refl _), ?_⟩
  simp only [wt, seval, e0]
  rfl
 rintro f H ⟨i, st3, st5, E, b, hi, hBE, hn, h6, h0, h3, hH3, h4, hH4, h5, hH5, h9⟩
 rw [intAt_of h6]
 simp (disch := omega) only [wt, seval, h6]
 refine if_by (fun hlt => ?_) (fun hlt => ?_)
 ·obtain ⟨j, rfl⟩ : ∃ j, i = j + 1 := ⟨i - 1, by omega⟩
  have ej : ((j + 1 : Nat) : Int) - 1 = (j : Int) := by omega
  rw [ej] at h6
  have hd := drop_cf (pv p) (i := j) (by omega)
  have zj := hp.pv.cf j
  have zb := hb (j + 1)
  have zm := zl_mul (ev ((pv p).drop (j + 1)) (iv t)) (iv t)
  simp (disch := omega) only [wt, seval, fi_take, h3, hH3, h5, hH5, ej]
  refine .inl ⟨tmps_by (by kernel_rfl), ?_⟩
  have m := zmul_ok (canon (ev ((pv p).drop (j + 1)) (iv t))) t ((sz_canon _).mono (by omega)) (ht.mono (by omega))
  rw [iv_canon] at m
  replace m := m.soft (.cons (softI b _) (.cons (.refl _) .nil))
  refine call_by (m) (by rfl) (by simp) ?_
  simp (disch := omega) only [wt, seval, h6, h0]
  have s := zaddx_ok (canon (ev ((pv p).drop (j + 1)) (iv t) * iv t)) (p.getD j (false, [])) ((sz_canon _).mono (by omega)) ((hp.get j).mono (by omega))
  rw [iv_canon, ← cf_pv] at s
  refine callx_by (s) (by rfl) (by simp) (by assumption) ?_
  rintro B2 E2 _ hB2 hE2 ⟨b2, rfl, hn2⟩
  simp (disch := omega) only [wt, seval, h6, h0, h3, hH3, h4, hH4, h5, hH5]
  refine ⟨log_by (by kernel_rfl), ?_⟩
  have ev' : ev ((pv p).drop (j + 1)) (iv t) * iv t + cf (pv p) j = ev ((pv p).drop j) (iv t) := by rw [hd, ev, Int.add_comm, Int.mul_comm]
  refine ⟨⟨j, st3, st5, E2, b2, by omega, by omega, hn2.mono (by omega) (Nat.le_refl _), by omega, rfl, rfl, rfl, by rw [← ev']; rfl, rfl⟩, by omega⟩
 ·have hi0 : i = 0 := by omega
  subst hi0
  rw [List.drop_zero] at hH5
  simp (disch := omega) only [wt, seval, spl_own, fi_take, h4, hH4, h5, hH5]
  refine opn_done [.agg (fint b (ev (pv p) (iv t)))] (by assumption) (by simp (disch := omega) only [wt, seval, h4]; rfl) ?_
  intro E hE
  exact ⟨b, rfl, hn.mono (by omega) (by omega)⟩
set_option maxRecDepth 4000 in
theorem ehomogx_ok (p : List RI) (a b : RI) (hp : RP (2 ^ 10) (2 ^ 20) p) (ha : Sz (2 ^ 20) a) (hb : Sz (2 ^ 20) b) : ACX Tryz.prog 45 [cw p, cr a, cr b] (RInt (ihom (trimz (pv p)) (iv a) (iv b))) := by
 have za := zl_iv ha
 have zb := zl_iv hb
 refine ACX.by_walk zi0 (rs := [.cell 6 30]) ords Tryz.func45 (by rfl) (by rfl) (by rfl) (by rfl) (by rfl) (ne_int _) (fun B0 => ?_)
 simp (disch := omega) only [wt, seval]
 refine call_by ((pnorm_ok p (hp.mono (by omega) (by omega)))) (by rfl) (by simp) ?_
 simp only [wt, seval]
 have hA := hp.pv.trimz
 unfold cpoly
 generalize trimz (pv p) = A at *
 have hAl := hA.1
 have hq : (A.map canon).length = A.length := by simp
 have hB : ∀ i, zl (ihom (A.drop i) (iv a) (iv b)) ≤ 2 ^ 32 := fun i => by
  have h := zl_ihom (K := 2 ^ 20) (p := A.drop i) za zb fun z hz => hA.2 z (List.mem_of_mem_drop hz)
  have h2 : (A.drop i).length ≤ 2 ^ 10 := by rw [List.length_drop]; omega
  have h3 := Nat.mul_le_mul_right (2 ^ 20 + 1) h2
  have h4 : 2 ^ 20 + 2 ^ 10 * (2 ^ 20 + 1) + 1 ≤ 2 ^ 32 := by decide
  omega
 refine callx_by ((zOfx_ok 0 (by omega) (by omega))) (by rfl) (by simp) (by rfl) ?_
 rintro B1 E1 _ hB1 hE1 ⟨b1, rfl, hn1⟩
 simp only [wt, seval]
 refine call_by ((zOf_ok 1 (by omega) (by omega))) (by rfl) (by simp) ?_
 simp (disch := omega) only [wt, seval, spl_own, hq]
 have e0 : ihom (A.drop A.length) (iv a) (iv b) = 0 := by rw [List.drop_length, ihom]
 have e1 : canon (iv b ^ (A.length - A.length)) = canon 1 := by rw [Nat.sub_self, Int.pow_zero]
 refine aloop_by (fun f H => ∃ (i st4 st5 st7 st8 E : Nat) (c : OB), i ≤ A.length ∧ B0 ≤ E ∧ Nw B0 E (oid c) ∧ f 9 = .iv (.int .i64 ((i : Int) - 1)) ∧ f 0 = .iv (.sl (raws (A.map canon))) ∧ f 4 = .hp 4 st4 0 0 ∧ H 4 = .blk false st4 30 2 [prow a] ∧ f 5 = .hp 5 st5 0 0 ∧ H 5 = .blk false st5 30 2 [prow b] ∧ f 6 = .hp 6 1 0 0 ∧ H 6 = .blk false 1 30 2 [prow (false, [])] ∧ f 7 = .hp 7 st7 0 0 ∧ H 7 = .blk false st7 30 2 [fint c (ihom (A.drop i) (iv a) (iv b))] ∧ f 8 = .hp 8 st8 0 0 ∧ H 8 = .blk false st8 30 2 [prow (canon (iv b ^ (A.length - i)))] ∧ H 999 = .mrk E) (fun f H => (intAt f 9 + 1).toNat) ?_ ?_
 ·refine ⟨A.length, 1, 1, 1, 1, E1, b1, by omega, by omega, hn1.mono (by omega) (Nat.le_refl _), ?_⟩
  simp only [wt, seval, e0, e1]
  try rfl
 rintro f H ⟨i, st4, st5, st7, st8, E, c, hi, hBE, hn, h9, h0, h4, hH4, h5, hH5, h6, hH6, h7, hH7, h8, hH8, h99⟩
 rw [intAt_of h9]
 simp (disch := omega) only [wt, seval, h9]
 refine if_by (fun hlt => ?_) (fun hlt => ?_)
 ·obtain ⟨j, rfl⟩ : ∃ j, i = j + 1 := ⟨i - 1, by omega⟩
  have ej : ((j + 1 : Nat) : Int) - 1 = (j : Int) := by omega
  rw [ej] at h9
  have hd := drop_cf A (i := j) (by omega)
  have zj := hA.cf j
  have zh := hB (j + 1)
  have zp := zl_pow_b zb (i := A.length - (j + 1)) (by omega)
  have zm := zl_mul (ihom (A.drop (j + 1)) (iv a) (iv b)) (iv a)
  have zm2 := zl_mul (cf A j) (iv b ^ (A.length - (j + 1)))
  simp (disch := omega) only [wt, seval, fi_take, h4, hH4, h7, hH7, ej]
  refine .inl ⟨tmps_by (by kernel_rfl), ?_⟩
  have m := zmul_ok (canon (ihom (A.drop (j + 1)) (iv a) (iv b))) a ((sz_canon _).mono (by omega)) (ha.mono (by omega))
  rw [iv_canon] at m
  replace m := m.soft (.cons (softI c _) (.cons (.refl _) .nil))
  refine call_by (m) (by rfl) (by simp) ?_
  simp (disch := omega) only [wt, seval, h9, h0, h8, hH8, hq]
  have m2 := zmul_ok (canon (cf A j)) (canon (iv b ^ (A.length - (j + 1)))) ((sz_canon _).mono (by omega)) ((sz_canon _).mono (by omega))
  rw [iv_canon, iv_canon] at m2
  refine call_by (m2) (by rfl) (by simp) ?_
  simp (disch := omega) only [wt, seval]
  have s := zaddx_ok (canon (ihom (A.drop (j + 1)) (iv a) (iv b) * iv a)) (canon (cf A j * iv b ^ (A.length - (j + 1)))) ((sz_canon _).mono (by omega)) ((sz_canon _).mono (by omega))
  rw [iv_canon, iv_canon] at s
  refine callx_by (s) (by rfl) (by simp) (by assumption) ?_
  rintro B2 E2 _ hB2 hE2 ⟨b2, rfl, hn2⟩
  simp (disch := omega) only [wt, seval, h5, hH5, h7, hH7, h8, hH8]
  refine ⟨log_by (by kernel_rfl), ?_⟩
  have m3 := zmul_ok (canon (iv b ^ (A.length - (j + 1)))) b ((sz_canon _).mono (by omega)) (hb.mono (by omega))
  rw [iv_canon, ← Int.pow_succ, show (A.length - (j + 1)).succ = A.length - j by omega] at m3
  refine call_by (m3) (by rfl) (by simp) ?_
  simp (disch := omega) only [wt, seval, h9, h0, h4, hH4, h5, hH5, h6, hH6, h7, h8, hH8]
  have e' : ihom (A.drop (j + 1)) (iv a) (iv b) * iv a + cf A j * iv b ^ (A.length - (j + 1)) = ihom (A.drop j) (iv a) (iv b) := by rw [hd, ihom, List.length_drop, Int.add_comm, Int.mul_comm (iv a)]
  refine ⟨⟨j, st4, st5, st7, st8, E2, b2, by omega, by omega, hn2.mono (by omega) (Nat.le_refl _), by omega, rfl, rfl, rfl, rfl, rfl, by rw [← e']; rfl, rfl, rfl, rfl⟩, by omega⟩
 ·have hi0 : i = 0 := by omega
  subst hi0
  rw [List.drop_zero] at hH7
  simp (disch := omega) only [wt, seval, spl_own, fi_take, h6, hH6, h7, hH7]
  refine opn_done [.agg (fint c (ihom A (iv a) (iv b)))] (by assumption) (by simp (disch := omega) only [wt, seval, h6]; rfl) ?_
  intro E hE
  exact ⟨c, rfl, hn.mono (by omega) (by omega)⟩
def tabl (P : List Rat) (x s : Rat) (n : Nat) : List Rat := (List.range n).map fun i : Nat => evq P (x + (i : Rat) * s)
theorem tabl_len (P : List Rat) (x s : Rat) (n : Nat) : (tabl P x s n).length = n := by simp [tabl]
theorem tabl_zero (P : List Rat) (x s : Rat) : tabl P x s 0 = [] := by simp [tabl]
theorem tabl_succ (P : List Rat) (x s : Rat) (n : Nat) : tabl P x s (n + 1) = tabl P x s n ++ [evq P (x + (n : Rat) * s)] := by
 simp [tabl, List.range_succ]
structure TPl (x s y : RQ) (i : Nat) : Prop where
 v : qv y = qv x + (i : Rat) * qv s
 z : SzQ (200 + i * 201) y
 d : nv y.2 ≠ 0
theorem tpl_zero {x s : RQ} (hx : SzQ 200 x) (dx : nv x.2 ≠ 0) : TPl x s x 0 := ⟨by rw [show ((0 : Nat) : Rat) = 0 from rfl, Rat.zero_mul, Rat.add_zero], hx, dx⟩
theorem tpl_next {x s y : RQ} {i : Nat} (h : TPl x s y i) (hs : SzQ 200 s) (ds : nv s.2 ≠ 0) : TPl x s (crat (qv y + qv s)) (i + 1) := ⟨by
 have : ((1 : Nat) : Rat) = 1 := rfl
 rw [qv_crat, h.v, Rat.natCast_add, this]
 grind, by
 have h1 := qz_add (qv y) (qv s)
 have h2 := qz_raw h.z h.d
 have h3 := qz_raw hs ds
 exact szq_crat (by omega), nv_crat0 _⟩
theorem tpl_vb {p : List RQ} {x s y : RQ} {i : Nat} (h : TPl x s y i) (hp : GQ 40 200 p) (hi : i ≤ 12) : VB p y (2 ^ 34) :=
 VB.of (K := 200) (X := 4096) (n := 40) hp (h.z.mono (by omega)) h.d (by omega) (by omega) (by omega)
theorem egood_ok (l : List RQ) (h : BQ (2 ^ 40) (2 ^ 38) l) : AC Tryz.prog 121 [cqw l] none [cb (gd l)] := by
 have g := qgood_ok l (h.mono (by omega) (by omega))
 refine AC.by_walk (rs := [.tmp 2]) ords Tryz.func121 (by rfl) (by rfl) (by rfl) (by rfl) (by rfl) ?_
 simp only [wt, seval]
 refine call_by (g) (by rfl) (by simp) ?_
 simp (disch := omega) only [wt, seval]
 try rfl
def upq (c : Rat) (n : Nat) : List Rat := List.replicate n 0 ++ [c]
def dc (A B : List Rat) : Rat := cfq A (A.length - 1) / cfq B (B.length - 1)
def dn1 (A B : List Rat) : List Rat := trimq (zipq (fma (-1)) A (mulq (upq (dc A B) (A.length - B.length)) B))
theorem tzq_low {q : List Rat} {n : Nat} (h : ∀ k, n ≤ k → cfq q k = 0) : tzq q ≤ n := by
 rcases Nat.lt_or_ge n (tzq q) with h1 | h1
 ·exact absurd (h (tzq q - 1) (by omega)) (cfq_tzq_pred (by omega))
 ·exact h1
def dit (A B : List Rat) : Nat → List Rat
 | 0 => A
 | k + 1 => dn1 (dit A B k) B
theorem CD.cf {D n M : Nat} {q : List Rat} (h : CB D n M q) (k : Nat) : CD D M (cfq q k) := by
 by_cases hk : k < q.length
 ·rw [cfq_lt hk]; exact h.c _ (List.getElem_mem hk)
 ·rw [cfq_ge (by omega)]; exact CD.zero _ _
theorem qz_inv (q : Rat) : qz (1 / q) ≤ qz q := by
 by_cases h : q.num = 0
 ·have : q = 0 := Rat.num_eq_zero.mp h
  rw [this, show (1 : Rat) / 0 = 0 by decide +kernel]
  exact Nat.le_refl _
 ·have h1 : (q.num : Rat) ≠ 0 := fun e => h (Rat.intCast_eq_zero_iff.mp e)
  have h2 := natr_ne q.den_nz
  have e : (1 : Rat) / q = ((q.den : Int) : Rat) / (q.num : Rat) := by
   have h3 : q = (q.num : Rat) / (q.den : Rat) := by rw [← Rat.mkRat_eq_div]; exact (Rat.mkRat_self q).symm
   rw [Rat.intCast_natCast]
   conv => lhs; rw [h3]
   grind
  have hp := qz_parts q
  rw [e, ← mk_div h]
  refine qz_mk (by omega) ?_ ?_
  ·split
   ·rw [zl_neg, zl_nat]; exact hp.2
   ·rw [zl_nat]; exact hp.2
  ·exact hp.1
theorem qz_div (p q : Rat) : qz (p / q) ≤ qz p + qz q := by
 have h1 := qz_mul p (1 / q)
 have h2 := qz_inv q
 rw [show p * (1 / q) = p / q by rw [Rat.div_def, Rat.div_def, Rat.one_mul]] at h1
 omega
theorem CD.den_dvd {D M : Nat} {q : Rat} (hD : D ≠ 0) (h : CD D M q) : q.den ∣ D := by
 obtain ⟨z, e, hz⟩ := h
 have h1 := natr_ne hD
 have h2 := natr_ne q.den_nz
 have h3 : (q.num : Rat) / (q.den : Rat) = (z : Rat) / (D : Rat) := by
  rw [← e, ← Rat.mkRat_eq_div]; exact Rat.mkRat_self q
 have h4 : (q.num : Rat) * (D : Rat) = (z : Rat) * (q.den : Rat) := by grind
 have h5 : q.num * (D : Int) = z * (q.den : Int) := by
  rw [← Rat.intCast_natCast, ← Rat.intCast_natCast, ← Rat.intCast_mul, ← Rat.intCast_mul] at h4
  exact Rat.intCast_inj.mp h4
 have h6 : q.den ∣ q.num.natAbs * D := ⟨z.natAbs, by
  have := congrArg Int.natAbs h5
  rw [Int.natAbs_mul, Int.natAbs_mul, Int.natAbs_natCast, Int.natAbs_natCast] at this
  rw [this, Nat.mul_comm]⟩
 exact (q.reduced.symm).dvd_of_dvd_mul_left h6
theorem qsum_cd {D M n : Nat} {f : Nat → Rat} (h : ∀ i, i < n → CD D M (f i)) : CD D (M + n) (qsum n f) := by
 induction n with
 | zero => exact CD.zero _ _
 | succ n ih =>
  have h1 := ih fun i hi => h i (by omega)
  have h2 := h n (by omega)
  exact (h1.add h2).mono (by omega)
theorem lcmL_dvd {D : Nat} : ∀ (l : List Nat) (i : Nat), (∀ x ∈ l, x ∣ D) → lcmL (l.take i) ∣ D
 | l, 0, _ => by rw [List.take_zero]; exact Nat.one_dvd _
 | l, i + 1, h => by
  by_cases hi : i < l.length
  ·rw [lcmL_take hi]
   refine Nat.lcm_dvd (lcmL_dvd l i h) (h _ ?_)
   rw [List.getD, List.getElem?_eq_getElem hi, Option.getD_some]
   exact List.getElem_mem hi
  ·rw [List.take_of_length_le (by omega), ← List.take_of_length_le (l := l) (i := i) (by omega)]
   exact lcmL_dvd l i h
theorem CB.dens_dvd {D n M : Nat} {A : List Rat} (h : CB D n M A) : ∀ x ∈ dens A, x ∣ D := fun x hx => by
 obtain ⟨c, hc, rfl⟩ := List.mem_map.1 hx
 exact (h.c c hc).den_dvd h.d
theorem CB.lcm_len {D n M : Nat} {A : List Rat} (h : CB D n M A) (i : Nat) : (wd (lcmL ((dens A).take i))).length ≤ M :=
 Nat.le_trans (wd_len_mono (Nat.le_of_dvd (Nat.pos_of_ne_zero h.d) (lcmL_dvd _ i h.dens_dvd))) h.w
theorem CB.cden_dvd {D n M : Nat} {A : List Rat} (h : CB D n M A) : cden A ∣ D := by
 have := lcmL_dvd (dens A) (dens A).length h.dens_dvd
 rwa [List.take_length] at this
theorem CB.cden_len {D n M : Nat} {A : List Rat} (h : CB D n M A) : (wd (cden A)).length ≤ M :=
 Nat.le_trans (wd_len_mono (Nat.le_of_dvd (Nat.pos_of_ne_zero h.d) h.cden_dvd)) h.w
theorem CB.mulq {D E n m M N : Nat} {A B : List Rat} (hA : CB D n M A) (hB : CB E m N B) : CB (D * E) (n + m) (M + N + (n + m)) (mulq A B) where
 d := Nat.mul_ne_zero hA.d hB.d
 w := by
  have h1 := AL.wd_mul_len D E
  have h2 := hA.w
  have h3 := hB.w
  omega
 l := by
  simp only [mulq_def, List.length_map, List.length_range]
  have := hA.l
  have := hB.l
  omega
 c := fun c hc => by
  obtain ⟨k, hk, rfl⟩ := List.getElem_of_mem hc
  have hl : k < n + m := by
   simp only [mulq_def, List.length_map, List.length_range] at hk
   have := hA.l
   have := hB.l
   omega
  rw [← cfq_lt hk, cfq_mulq, PQ.cvq_conv]
  exact (qsum_cd (n := k + 1) (f := fun i => cfq A i * cfq B (k - i)) fun i _ => CD.mul hA.d hB.d (CD.cf hA _) (CD.cf hB _)).mono (by omega)
structure DV (A B : List Rat) (n K : Nat) : Prop where
 la : A.length ≤ 2 ^ 28
 lb : B.length ≤ 2 ^ 28
 h0 : B.length ≠ 0
 hb : cfq B (B.length - 1) ≠ 0
 ta : trimq A = A
 tb : trimq B = B
 en : (dit A B n).length < B.length
 hj : ∀ j, j < n → B.length ≤ (dit A B j).length
 za : ∀ k, k ≤ n → ∀ i, qz (cfq (dit A B k) i) ≤ K
 zb : ∀ i, qz (cfq B i) ≤ K
 k1 : 1 ≤ K
 k2 : K ≤ 2 ^ 32
def hrows : HC → Nat
 | .blk _ _ _ _ rows => rows.length
 | _ => 0


theorem CB.one_list : CB 1 1 1 [1] where
 d := by omega
 w := by decide +kernel
 l := Nat.le_refl _
 c := fun c hc => by
  rcases List.mem_singleton.1 hc with rfl
  exact ⟨1, by decide +kernel, by decide +kernel⟩
def PWH (A : List Rat) (m N K : Nat) : Prop := ∀ k, k ≤ m → ∃ D, CB D N K (powq A k)
structure PWK (A : List Rat) (m N K : Nat) : Prop where
 h : ∀ k, k ≤ m → ∃ D, CB D N K (trimq (powq A k))
theorem PWH.k {A : List Rat} {m N K : Nat} (h : PWH A m N K) : PWK A m N K := ⟨fun k hk => by
 obtain ⟨D, hD⟩ := h k hk
 exact ⟨D, hD.trim⟩⟩
theorem PWK.mono {A : List Rat} {m N K N' K' : Nat} (h : PWK A m N K) (hN : N ≤ N') (hK : K ≤ K') : PWK A m N' K' := ⟨fun k hk => by
 obtain ⟨D, hD⟩ := h.h k hk
 exact ⟨D, hD.mono hN hK⟩⟩
theorem CB.part {D E n m M N : Nat} {A B : List Rat} (hA : CB D n M A) (hB : CB E m N B) (h1 : 1 ≤ M + N + (n + m)) (i k : Nat) : qz (cvq (A.take i) (cfq B) k) ≤ M + N + (n + m) := by
 have h := ((hA.sub (r := A.take i) (by rw [List.length_take]; have := hA.l; omega) fun c hc => List.mem_of_mem_take hc).mulq hB).qb.cz h1 k
 rwa [cfq_mulq] at h
theorem evq_addq : ∀ (p q : List Rat) (x : Rat), evq (addq p q) x = evq p x + evq q x
 | [], q, x => by
  rw [evq_ext x (q := q) fun k => by rw [cfq_addq, cfq_nil, Rat.zero_add], evq, Rat.zero_add]
 | c :: p, [], x => by
  rw [evq_ext x (q := c :: p) fun k => by rw [cfq_addq, cfq_nil, Rat.add_zero], evq_nil, Rat.add_zero]
 | c :: p, d :: q, x => by
  have e : ∀ k, cfq (addq (c :: p) (d :: q)) k = cfq ((c + d) :: addq p q) k := fun k => by
   rw [cfq_addq]
   cases k with
   | zero => rfl
   | succ k => rw [cfq_cons_succ, cfq_cons_succ, cfq_cons_succ, cfq_addq]
  rw [evq_ext x e, evq, evq, evq, evq_addq p q x]
  grind
theorem evq_sclq (c : Rat) (p : List Rat) (x : Rat) : evq (sclq c p) x = c * evq p x := by
 induction p with
 | nil => rw [show sclq c [] = [] from rfl, evq]; grind
 | cons d p ih =>
  rw [show sclq c (d :: p) = (d * c) :: sclq c p from rfl, evq, evq, ih]
  grind
theorem evq_mulq : ∀ (p q : List Rat) (x : Rat), evq (mulq p q) x = evq p x * evq q x
 | [], q, x => by
  rw [evq_ext x (q := []) fun k => by rw [cfq_mulq]; rfl, evq]
  grind
 | c :: p, q, x => by
  have e : ∀ k, cfq (mulq (c :: p) q) k = cfq (addq (sclq c q) (0 :: mulq p q)) k := fun k => by
   rw [cfq_mulq_cons, cfq_addq, cfq_sclq, Rat.mul_comm c]
   congr 1
   cases k with
   | zero => rfl
   | succ k => rfl
  rw [evq_ext x e, evq_addq, evq_sclq, evq, evq, evq_mulq p q x]
  grind
def sfar (q : List Int) (b : Bool) : Int := if b = false ∧ ((tz q : Int) - 1).tmod 2 = 1 then -(lc q).sign else (lc q).sign
theorem sfar_bound (q : List Int) (b : Bool) : -1 ≤ sfar q b ∧ sfar q b ≤ 1 := by
 have h : -1 ≤ (lc q).sign ∧ (lc q).sign ≤ 1 := by
  rcases Int.lt_trichotomy (lc q) 0 with h | h | h
  ·rw [Int.sign_eq_neg_one_of_neg h]; omega
  ·rw [h]; decide
  ·rw [Int.sign_eq_one_of_pos h]; omega
 unfold sfar
 split <;> omega
theorem esfar_ok (p : List RI) (b : Bool) (h : RP (2 ^ 30) (2 ^ 35) p) : AC Tryz.prog 126 [cw p, cb b] none [ci (sfar (pv p) b)] := by
 have hl := h.1
 have htl := tz_le (pv p)
 rw [pv_len] at htl
 have l := plead_ok p (h.mono (by omega) (by omega))
 have zl' := h.pv.cf (tz (pv p) - 1)
 have s := zsign_ok (canon (cf (pv p) (tz (pv p) - 1))) ((sz_canon _).mono (by omega))
 rw [iv_canon] at s
 have d := pdeg_ok p (h.mono (by omega) (by omega))
 have e0 : sfar (pv p) b = if b = false ∧ ((tz (pv p) : Int) - 1).tmod 2 = 1 then -(cf (pv p) (tz (pv p) - 1)).sign else (cf (pv p) (tz (pv p) - 1)).sign := rfl
 have hb : -1 ≤ (cf (pv p) (tz (pv p) - 1)).sign ∧ (cf (pv p) (tz (pv p) - 1)).sign ≤ 1 := by
  have := sfar_bound (pv p) true
  simp only [sfar, Bool.true_eq_false, false_and, if_false] at this
  exact this
 rw [e0]
 generalize (cf (pv p) (tz (pv p) - 1)).sign = sg0 at *
 refine AC.by_walk (rs := [.tmp 4]) ords Tryz.func126 (by rfl) (by rfl) (by rfl) (by rfl) (by rfl) ?_
 simp only [wt, seval]
 refine call_by (l) (by rfl) (by simp) ?_
 simp only [wt, seval]
 refine call_by (s) (by rfl) (by simp) ?_
 simp (disch := omega) only [wt, seval]
 cases b with
 | true =>
  rw [if_neg (by simp)]
  simp (disch := omega) only [wt, seval]
 | false =>
  by_cases hm : ((tz (pv p) : Int) - 1).tmod 2 = 1
  ·rw [if_pos ⟨rfl, hm⟩]
   simp only [wt, seval]
   refine call_by (d) (by rfl) (by simp) ?_
   simp (disch := omega) only [wt, seval]
   simp (disch := omega) only [wt, seval, hm]
   rw [Int.zero_sub]
  ·rw [if_neg (fun h => hm h.2)]
   simp only [wt, seval]
   refine call_by (d) (by rfl) (by simp) ?_
   simp (disch := omega) only [wt, seval]
   simp (disch := omega) only [wt, seval, hm]
theorem sqq_cons (c d : Rat) (p : List Rat) (a : Rat) : sqq (c :: d :: p) a = evq (d :: p) a :: sqq (d :: p) a := by
 simp only [sqq, List.length_cons, Nat.add_sub_cancel, List.range_succ_eq_map, List.map_cons, List.map_map, List.drop_succ_cons, List.drop_zero]
 rfl
theorem evq_cons (c : Rat) (p : List Rat) (x : Rat) : evq (c :: p) x = c + x * evq p x := rfl
theorem evq_split (p : List Rat) (a x : Rat) : evq p x = evq p a + (x - a) * evq (sqq p a) x := by
 induction p with
 | nil => rw [sqq_nil, evq_nil, evq_nil]; grind
 | cons c p ih =>
  cases p with
  | nil => rw [show sqq [c] a = [] from rfl]; simp only [evq_cons, evq_nil]; grind
  | cons d p =>
   rw [sqq_cons, evq_cons c, evq_cons c, evq_cons (evq (d :: p) a), ih]
   generalize evq (d :: p) a = u
   generalize evq (sqq (d :: p) a) x = v
   grind
theorem sqq_all_zero {p : List Rat} {a : Rat} (h : ∀ k, cfq (sqq p a) k = 0) (h0 : evq p a = 0) : ∀ k, cfq p k = 0 := fun k => by
 by_cases hk : k < p.length
 ·have e := evq_drop p a hk
  have e1 : evq (p.drop (k + 1)) a = 0 := by rw [← cfq_sqq]; exact h k
  have e2 : evq (p.drop k) a = 0 := by
   cases k with
   | zero => rwa [List.drop_zero]
   | succ j => rw [← cfq_sqq]; exact h j
  rw [e1, e2] at e
  show p.getD k 0 = 0
  grind
 ·exact cfq_ge (by omega)
theorem roots_zero : ∀ (X p : List Rat), p.length ≤ X.length → X.Nodup → (∀ x ∈ X, evq p x = 0) → ∀ k, cfq p k = 0
 | [], p, hl, _, _ => by
  rw [List.length_eq_zero_iff.mp (Nat.le_zero.mp hl)]; exact cfq_nil
 | a :: X, p, hl, hd, hz => by
  have hd' := List.nodup_cons.mp hd
  refine sqq_all_zero (roots_zero X (sqq p a) (by rw [sqq_len]; rw [List.length_cons] at hl; omega) hd'.2 fun x hx => ?_) (hz a (by simp))
  have e := evq_split p a x
  rw [hz x (by simp [hx]), hz a (by simp)] at e
  have hne : x ≠ a := fun e => hd'.1 (e ▸ hx)
  have hne' : x - a ≠ 0 := fun h => hne (by grind)
  grind
theorem roots_low {X p : List Rat} (hl : ∀ k, X.length ≤ k → cfq p k = 0) (hd : X.Nodup) (hz : ∀ x ∈ X, evq p x = 0) (k : Nat) : cfq p k = 0 := by
 rw [← cfq_trimq]
 refine roots_zero X (trimq p) ?_ hd (fun x hx => by rw [evq_trim]; exact hz x hx) k
 rw [trimq_len]
 exact tzq_low hl
theorem interp_unique {X p q : List Rat} (hp : ∀ k, X.length ≤ k → cfq p k = 0) (hq : ∀ k, X.length ≤ k → cfq q k = 0) (hd : X.Nodup) (hz : ∀ x ∈ X, evq p x = evq q x) (k : Nat) : cfq p k = cfq q k := by
 have h := roots_low (X := X) (p := addq p (sclq (-1) q)) (fun k hk => by rw [cfq_addq, cfq_sclq, hp k hk, hq k hk]; grind) hd (fun x hx => by rw [evq_addq, evq_sclq, hz x hx]; grind) k
 rw [cfq_addq, cfq_sclq] at h
 grind
theorem nodup_of {X : List Rat} (h : ∀ i j, j < i → i < X.length → cfq X i ≠ cfq X j) : X.Nodup := by
 rw [List.Nodup, List.pairwise_iff_getElem]
 intro i j hi hj hij e
 have := h j i hij hj
 rw [cfq_lt hj, cfq_lt hi] at this
 exact this e.symm
theorem nodup_cf {X : List Rat} (h : X.Nodup) {i j : Nat} (hi : i < X.length) (hj : j < X.length) (hij : i ≠ j) : cfq X i ≠ cfq X j := by
 rw [cfq_lt hi, cfq_lt hj]
 rw [List.Nodup, List.pairwise_iff_getElem] at h
 rcases Nat.lt_or_gt_of_ne hij with hl | hl
 ·exact h i j hi hj hl
 ·exact fun e => h j i hj hi hl e.symm
def lineq (c : Rat) : List Rat := [-c, 1]
theorem evq_line (c x : Rat) : evq (lineq c) x = x - c := by
 rw [lineq, evq, evq, evq_nil]; grind
theorem cfq_line (c : Rat) (k : Nat) (h : 1 < k) : cfq (lineq c) k = 0 := cfq_ge (by simp [lineq]; omega)
def froot (X : List Rat) (b : Nat) : Nat → List Rat
 | 0 => [1]
 | k + 1 => if k = b then froot X b k else mulq (froot X b k) (lineq (cfq X k))
theorem froot_zero (X : List Rat) (b k i : Nat) (hi : i < k) (hb : i ≠ b) : evq (froot X b k) (cfq X i) = 0 := by
 induction k with
 | zero => omega
 | succ k ih =>
  rw [froot]
  by_cases hk : i = k
  ·subst hk
   rw [if_neg hb, evq_mulq, evq_line]; grind
  ·have h := ih (by omega)
   split
   ·exact h
   ·rw [evq_mulq, h, Rat.zero_mul]
theorem froot_ne (X : List Rat) (b k : Nat) (x : Rat) (h : ∀ i, i < k → i ≠ b → x ≠ cfq X i) : evq (froot X b k) x ≠ 0 := by
 induction k with
 | zero => rw [froot, evq, evq_nil]; grind
 | succ k ih =>
  have h1 := ih fun i hi => h i (by omega)
  rw [froot]
  split
  ·exact h1
  ·rename_i hk
   have h2 := h k (by omega) hk
   rw [evq_mulq, evq_line]
   have h3 : x - cfq X k ≠ 0 := fun e => h2 (by grind)
   exact fun e => by rcases Rat.mul_eq_zero.mp e with e | e <;> contradiction
def fdeg (b k : Nat) : Nat := if b < k then k - 1 else k
theorem froot_deg (X : List Rat) (b k : Nat) : cfq (froot X b k) (fdeg b k) = 1 ∧ ∀ j, fdeg b k < j → cfq (froot X b k) j = 0 := by
 induction k with
 | zero =>
  refine ⟨rfl, fun j hj => cfq_ge ?_⟩
  rw [froot, List.length_singleton]; omega
 | succ k ih =>
  rw [froot]
  by_cases hk : k = b
  ·rw [if_pos hk, show fdeg b (k + 1) = fdeg b k by unfold fdeg; rw [if_pos (by omega), if_neg (by omega)]; omega]
   exact ih
  ·rw [if_neg hk, show fdeg b (k + 1) = fdeg b k + 1 by unfold fdeg; split <;> split <;> omega]
   obtain ⟨h1, h2⟩ := cvq_top (g := cfq (lineq (cfq X k))) (n := 1) (fun j hj => cfq_line _ j hj) (froot X b k) (fdeg b k) ih.2
   refine ⟨?_, fun j hj => by rw [cfq_mulq]; exact h2 j hj⟩
   rw [cfq_mulq, h1, ih.1, show cfq (lineq (cfq X k)) 1 = 1 from rfl, Rat.mul_one]
theorem CB.line {c : Rat} {K : Nat} (h : qz c ≤ K) : CB c.den 2 K (lineq c) where
 d := c.den_nz
 w := Nat.le_trans (qz_parts c).2 h
 l := Nat.le_refl _
 c := fun x hx => by
  rcases List.mem_cons.1 hx with rfl | hx
  ·exact ((CD.ofRat c).neg).mono (Nat.le_trans (qz_parts c).1 h)
  ·rcases List.mem_singleton.1 hx with rfl
   refine ⟨(c.den : Int), ?_, ?_⟩
   ·rw [Rat.intCast_natCast, Rat.div_def, Rat.mul_inv_cancel _ (natr_ne c.den_nz)]
   ·rw [zl_nat]; exact Nat.le_trans (qz_parts c).2 h
theorem froot_cb {X : List Rat} {K N : Nat} (h : ∀ i, qz (cfq X i) ≤ K) (b : Nat) : ∀ k, k ≤ N → ∃ E, CB E (1 + 2 * k) (1 + k * (K + 2 * N + 3)) (froot X b k)
 | 0, _ => ⟨1, by rw [Nat.mul_zero, Nat.zero_mul]; exact CB.one_list⟩
 | k + 1, hk => by
  obtain ⟨E, hE⟩ := froot_cb (N := N) h b k (by omega)
  have e2 : (k + 1) * (K + 2 * N + 3) = k * (K + 2 * N + 3) + (K + 2 * N + 3) := Nat.succ_mul k _
  rw [froot]
  split
  ·exact ⟨E, hE.mono (by omega) (by omega)⟩
  ·exact ⟨_, (hE.mulq (CB.line (h k))).mono (by omega) (by omega)⟩
theorem CB.addq {D E n m M N : Nat} {A B : List Rat} (hA : CB D n M A) (hB : CB E m N B) : CB (D * E) (max n m) (M + N + 1) (addq A B) where
 d := Nat.mul_ne_zero hA.d hB.d
 w := by
  have h1 := AL.wd_mul_len D E
  have h2 := hA.w
  have h3 := hB.w
  omega
 l := by
  simp only [Go.Proofs.YtfmpegbdeppjbaaGreat.addq, List.length_map, List.length_range]
  have := hA.l
  have := hB.l
  omega
 c := fun c hc => by
  obtain ⟨k, hk, rfl⟩ := List.getElem_of_mem hc
  rw [← cfq_lt hk, cfq_addq]
  have h1 := CD.up hA.d hB.d hB.w (CD.cf hA k)
  have h2 := CD.up hB.d hA.d hA.w (CD.cf hB k)
  rw [Nat.mul_comm] at h2
  exact (h1.add h2).mono (by omega)
theorem CB.const {c : Rat} {K : Nat} (h : qz c ≤ K) : CB c.den 1 K [c] where
 d := c.den_nz
 w := Nat.le_trans (qz_parts c).2 h
 l := Nat.le_refl _
 c := fun x hx => by
  rcases List.mem_singleton.1 hx with rfl
  exact (CD.ofRat x).mono (Nat.le_trans (qz_parts x).1 h)
def lagk (X Y : List Rat) (i : Nat) : Rat := cfq Y i / evq (froot X i X.length) (cfq X i)
def lags (X Y : List Rat) : Nat → List Rat
 | 0 => []
 | i + 1 => addq (lags X Y i) (mulq (froot X i X.length) [lagk X Y i])
theorem evq_const (c x : Rat) : evq [c] x = c := by rw [evq, evq_nil]; grind
theorem lag_ne {X : List Rat} (hd : X.Nodup) {i : Nat} (hi : i < X.length) : evq (froot X i X.length) (cfq X i) ≠ 0 :=
 froot_ne X i X.length _ fun j hj hji => nodup_cf hd hi hj (Ne.symm hji)
theorem lags_at {X Y : List Rat} (hd : X.Nodup) {j : Nat} (hj : j < X.length) : ∀ k, k ≤ X.length → evq (lags X Y k) (cfq X j) = if j < k then cfq Y j else 0
 | 0, _ => by rw [lags, evq_nil, if_neg (by omega)]
 | k + 1, hk => by
  rw [lags, evq_addq, evq_mulq, evq_const, lags_at hd hj k (by omega)]
  by_cases e : j = k
  ·subst e
   rw [if_neg (by omega), if_pos (by omega), lagk]
   have := lag_ne hd hj
   grind
  ·rw [froot_zero X k X.length j hj e, Rat.zero_mul, Rat.add_zero]
   by_cases h : j < k
   ·rw [if_pos h, if_pos (by omega)]
   ·rw [if_neg h, if_neg (by omega)]
theorem lags_deg (X Y : List Rat) : ∀ k, k ≤ X.length → ∀ j, X.length ≤ j → cfq (lags X Y k) j = 0
 | 0, _, j, _ => by rw [lags]; rfl
 | k + 1, hk, j, hj => by
  rw [lags, cfq_addq, lags_deg X Y k (by omega) j hj, Rat.zero_add]
  have hf := (froot_deg X k X.length).2
  have e : fdeg k X.length = X.length - 1 := by unfold fdeg; rw [if_pos (by omega)]
  rw [e] at hf
  obtain ⟨_, h2⟩ := cvq_top (g := cfq [lagk X Y k]) (n := 0) (fun i hi => cfq_ge (by simp; omega)) (froot X k X.length) (X.length - 1) hf
  rw [cfq_mulq]
  exact h2 j (by omega)
theorem lagk_z {X Y : List Rat} {K : Nat} (hX : ∀ i, qz (cfq X i) ≤ K) (hY : ∀ i, qz (cfq Y i) ≤ K) (hl : X.length ≤ 40) (i : Nat) : qz (lagk X Y i) ≤ K + (81 * (1 + 40 * (K + 83) + K + 1) + 1) := by
 obtain ⟨E, hE⟩ := froot_cb (N := 40) hX i X.length hl
 have hE' := hE.mono (n := 1 + 2 * X.length) (m := 81) (N := 1 + 40 * (K + 83)) (by omega) (by
  have : X.length * (K + 2 * 40 + 3) ≤ 40 * (K + 2 * 40 + 3) := Nat.mul_le_mul_right _ hl
  omega)
 have hq := hE'.qb
 have h1 := qz_evq (K := 1 + 40 * (K + 83)) (hX i) hq.2
 have h2 := Nat.mul_le_mul_right (1 + 40 * (K + 83) + K + 1) hq.1
 have h3 := qz_div (cfq Y i) (evq (froot X i X.length) (cfq X i))
 have h4 := hY i
 unfold lagk
 omega
def lagT (K : Nat) : Nat := (1 + 40 * (K + 83)) + (K + (81 * (1 + 40 * (K + 83) + K + 1) + 1)) + 82
theorem lags_cb {X Y : List Rat} {K : Nat} (hX : ∀ i, qz (cfq X i) ≤ K) (hY : ∀ i, qz (cfq Y i) ≤ K) (hl : X.length ≤ 40) : ∀ k, ∃ E, CB E 82 (1 + k * (lagT K + 1)) (lags X Y k)
 | 0 => ⟨1, by omega, by rw [Nat.zero_mul]; decide +kernel, Nat.zero_le _, fun c hc => nomatch hc⟩
 | k + 1 => by
  obtain ⟨E, hE⟩ := lags_cb hX hY hl k
  obtain ⟨F, hF⟩ := froot_cb (N := 40) hX k X.length hl
  have hF' := hF.mono (n := 1 + 2 * X.length) (m := 81) (N := 1 + 40 * (K + 83)) (by omega) (by
   have : X.length * (K + 2 * 40 + 3) ≤ 40 * (K + 2 * 40 + 3) := Nat.mul_le_mul_right _ hl
   omega)
  have hm := hF'.mulq (CB.const (lagk_z hX hY hl k))
  have e2 : (k + 1) * (lagT K + 1) = k * (lagT K + 1) + (lagT K + 1) := Nat.succ_mul k _
  exact ⟨_, (hE.addq hm).mono (by omega) (by unfold lagT at *; omega)⟩
def newc (X Y S : List Rat) (k : Nat) : Rat := (cfq Y k - evq S (cfq X k)) / evq (froot X X.length k) (cfq X k)
def news (X Y : List Rat) : Nat → List Rat
 | 0 => []
 | k + 1 => addq (news X Y k) (sclq (newc X Y (news X Y k) k) (froot X X.length k))
theorem news_at {X Y : List Rat} : ∀ k, k ≤ X.length → (∀ i j, j < i → i < k → cfq X i ≠ cfq X j) → ∀ j, j < k → evq (news X Y k) (cfq X j) = cfq Y j
 | 0, _, _, j, hj => by omega
 | k + 1, hk, hd, j, hj => by
  rw [news, evq_addq, evq_sclq]
  by_cases e : j = k
  ·subst e
   have hne : evq (froot X X.length j) (cfq X j) ≠ 0 := froot_ne X X.length j _ fun i hi _ => hd j i hi (by omega)
   unfold newc
   grind
  ·rw [froot_zero X X.length k j (by omega) (by omega), Rat.mul_zero, Rat.add_zero]
   exact news_at k (by omega) (fun i j h1 h2 => hd i j h1 (by omega)) j (by omega)
theorem news_deg (X Y : List Rat) : ∀ k, k ≤ X.length → ∀ j, k ≤ j → cfq (news X Y k) j = 0
 | 0, _, j, _ => by rw [news]; rfl
 | k + 1, hk, j, hj => by
  have hf := (froot_deg X X.length k).2 j (by unfold fdeg; rw [if_neg (by omega)]; omega)
  rw [news, cfq_addq, cfq_sclq, hf, Rat.zero_mul, Rat.add_zero]
  exact news_deg X Y k (by omega) j (by omega)
theorem cfq_take {q : List Rat} {n i : Nat} (h : i < n) : cfq (q.take n) i = cfq q i := by
 simp [cfq, List.getD, h]
theorem news_lags {X Y : List Rat} {k : Nat} (hk : k ≤ X.length) (hd : ∀ i j, j < i → i < k → cfq X i ≠ cfq X j) (j : Nat) : cfq (news X Y k) j = cfq (lags (X.take k) (Y.take k) k) j := by
 have hl : (X.take k).length = k := by rw [List.length_take]; omega
 have hn : (X.take k).Nodup := nodup_of fun i j h1 h2 => by
  rw [hl] at h2
  rw [cfq_take h2, cfq_take (by omega)]
  exact hd i j h1 h2
 refine interp_unique (X := X.take k) (fun i hi => news_deg X Y k hk i (by omega)) (fun i hi => lags_deg (X.take k) (Y.take k) k (by omega) i hi) hn (fun x hx => ?_) j
 obtain ⟨i, hi, rfl⟩ := List.getElem_of_mem hx
 rw [← cfq_lt hi]
 rw [lags_at hn hi k (by omega), if_pos (by omega), cfq_take (by omega), cfq_take (by omega)]
 exact news_at k hk hd i (by omega)
theorem qz_take {q : List Rat} {K : Nat} (hK : 1 ≤ K) (h : ∀ i, qz (cfq q i) ≤ K) (n i : Nat) : qz (cfq (q.take n) i) ≤ K := by
 by_cases hi : i < n
 ·rw [cfq_take hi]; exact h i
 ·rw [cfq_ge (by rw [List.length_take]; omega), qz_zero]; exact hK
theorem news_z {X Y : List Rat} {K k : Nat} (hK : 1 ≤ K) (hX : ∀ i, qz (cfq X i) ≤ K) (hY : ∀ i, qz (cfq Y i) ≤ K) (hl : X.length ≤ 40) (hk : k ≤ X.length) (hd : ∀ i j, j < i → i < k → cfq X i ≠ cfq X j) (j : Nat) : qz (cfq (news X Y k) j) ≤ 1 + 40 * (lagT K + 1) := by
 rw [news_lags hk hd]
 obtain ⟨E, hE⟩ := lags_cb (X := X.take k) (Y := Y.take k) (qz_take hK hX k) (qz_take hK hY k) (by rw [List.length_take]; omega) k
 have h1 := hE.qb.cz (by omega) j
 have h2 : k * (lagT K + 1) ≤ 40 * (lagT K + 1) := Nat.mul_le_mul_right _ (by omega)
 omega

theorem cf200 {xs : List RQ} (hx : GQ 40 200 xs) (i : Nat) : qz (cfq (qvs xs) i) ≤ 200 := hx.qb.cz (by omega) i
theorem qsc1_ok (a b : Rat) (c : RQ) (K : Nat) (ha : qz a ≤ K) (hc : SzQ K c) (h0 : nv c.2 ≠ 0) (hK : K ≤ 2 ^ 35) : AC Tryz.prog 171 [cqz a, cqz b, .box (qrow c)] none [cqz (a * qv c), ci 0] := by
 have m := qmul_ok (crat a) c (szq_crat (by omega)) (hc.mono hK) (nv_crat0 _) h0
 rw [qv_crat] at m
 refine AC.by_walk (rs := [.cell 5 32, .tmp 6]) ords Tryz.func171 (by rfl) (by rfl) (by rfl) (by rfl) (by rfl) ?_
 simp (disch := omega) only [wt, seval, rqs]
 refine call_by (m) (by rfl) (by simp) ?_
 simp (disch := omega) only [wt, seval, rqs]
 try rfl
theorem qeach1_ok (p q : List RQ) (g : Nat) (row : List IV) (F : Rat → Rat → Rat) (K : Nat) (hp : GQ (2 ^ 30) K p) (hq : GQ (2 ^ 30) K q) (hK : K ≤ 2 ^ 35) (hK1 : 1 ≤ K) (hF0 : F 0 0 = 0) (hs : ∀ a b, qz a ≤ K → qz b ≤ K → qz (F a b) ≤ 2 ^ 38)
  (hop : ∀ a b, qz a ≤ K → qz b ≤ K → AC Tryz.prog g [cqz a, cqz b, .box row] none [cqz (F a b), ci 0]) : AC Tryz.prog 71 [cqw p, cqw q, .fn g [row]] none [cqp (zipq F (qvs p) (qvs q)), ci 0] := by
 have m := qboth_ok p q (hp.mono (by omega) (by omega)) (hq.mono (by omega) (by omega))
 have hA := hp.qb.trimq
 have hB := hq.qb.trimq
 have e : cqp (zipq F (qvs p) (qvs q)) = cqp (zipq F (trimq (qvs p)) (trimq (qvs q))) := congrArg cqw (cqs_ext fun k => by rw [cfq_zipq hF0, cfq_zipq hF0, cfq_trimq, cfq_trimq])
 rw [e]
 refine AC.by_walk (rs := [.tmp 6, .tmp 7]) ords Tryz.func71 (by rfl) (by rfl) (by rfl) (by rfl) (by rfl) ?_
 simp only [wt, seval]
 refine call_by (m) (by rfl) (by simp) ?_
 simp (disch := omega) only [wt, seval, rqs]
 unfold cqs
 generalize trimq (qvs p) = A at *
 generalize trimq (qvs q) = B at *
 have hAl := hA.1
 have hBl := hB.1
 have hqa : (A.map crat).length = A.length := List.length_map _
 have hqb : (B.map crat).length = B.length := List.length_map _
 have hRl := zipq_len F A B
 have hR : QB (2 ^ 40) (2 ^ 38) (zipq F A B) := .of (by omega) fun i => by rw [cfq_zipq hF0]; exact hs _ _ (hA.cz hK1 i) (hB.cz hK1 i)
 obtain ⟨n, hn⟩ : ∃ n, n = max A.length B.length := ⟨_, rfl⟩
 have hnI : max (A.length : Int) (B.length : Int) = (n : Int) := by omega
 rw [← hn] at hRl
 simp only [seval, hqa, hqb, hnI]
 refine aloop_nil 11 11 32 3 (by simp only [wt, seval]) (fun f H => ∃ (i st : Nat), i ≤ n ∧ f 30 = .iv (.int .i64 i) ∧ f 29 = .iv (.int .i64 n) ∧ f 8 = .iv (.sl (rats (A.map crat))) ∧ f 9 = .iv (.sl (rats (B.map crat))) ∧ f 2 = .fn g [.ip row] ∧ f 11 = .hs 11 st ∧ H 11 = .blk false st 32 3 (rats (((zipq F A B).take i).map crat))) (fun f H => (n - intAt f 30).toNat) ?_ ?_
 ·refine ⟨0, 1, by omega, ?_⟩
  simp only [wt, seval, rqs, ghostF, ghostH, List.take_zero]
 rintro f H ⟨i, st, hi, hF⟩
 rw [intAt_of hF.1]
 simp (disch := omega) only [wt, seval, hF]
 refine if_by (fun hlt => ?_) (fun hlt => ?_)
 ·have hq : (((zipq F A B).take i).map crat).length = i := by rw [List.length_map, List.length_take]; omega
  have c1 := qcoef_nat A i (hA.mono (by omega) (by omega))
  have c2 := qcoef_nat B i (hB.mono (by omega) (by omega))
  have o := hop (cfq A i) (cfq B i) (hA.cz hK1 i) (hB.cz hK1 i)
  simp (disch := omega) only [wt, seval, hF]
  refine call_by (c1) (by rfl) (by simp) ?_
  simp (disch := omega) only [wt, seval, hF]
  refine call_by (c2) (by rfl) (by simp) ?_
  simp (disch := omega) only [wt, seval]
  refine call_by (o) (by rfl) (by simp) ?_
  simp (disch := omega) only [wt, seval, rqs, hF, hq]
  have e := takeq_snoc (q := zipq F A B) (i := i) (by omega)
  rw [cfq_zipq hF0] at e
  refine ⟨⟨i + 1, st + 1, by omega, ?_⟩, by omega⟩
  rw [e, List.map_append]
  (repeat' apply And.intro) <;> first | rfl | omega
 ·simp (disch := omega) only [wt, seval, hF]
  rw [List.take_of_length_le (by omega)] at hF
  have m := qtrim_own (zipq F A B) hR
  refine call_by (m) (by simp only [tocvs, tocv, hF]; rfl) (by simp) ?_
  simp (disch := omega) only [wt, seval, hF]
theorem qscale_ok (p : List RQ) (c : RQ) (K : Nat) (hp : GQ (2 ^ 30) K p) (hc : SzQ K c) (h0 : nv c.2 ≠ 0) (hK : K ≤ 2 ^ 35) (hK1 : 1 ≤ K) : AC Tryz.prog 123 [cqw p, cqq c] none [cqp (sclq (qv c) (qvs p)), ci 0] := by
 have k := qcheck_good c ⟨Nat.le_trans hc.2.1 (by omega), hc.2.2⟩ h0
 have zc := qz_raw hc h0
 have m := qeach1_ok p [] 171 (qrow c) (fun a _ => a * qv c) K hp ⟨Nat.zero_le _, fun r hr => nomatch hr⟩ hK hK1 (Rat.zero_mul _) (fun a b ha hb => by have := qz_mul a (qv c); omega) (fun a b ha hb => qsc1_ok a b c K ha hc h0 hK)
 rw [show cqp (zipq (fun a _ => a * qv c) (qvs p) (qvs [])) = cqp (sclq (qv c) (qvs p)) from congrArg cqw (cqs_ext fun j => by rw [cfq_zipq (F := fun a _ => a * qv c) (Rat.zero_mul _), cfq_sclq])] at m
 refine AC.by_walk (rs := [.tmp 4, .tmp 5]) ords Tryz.func123 (by rfl) (by rfl) (by rfl) (by rfl) (by rfl) ?_
 simp (disch := omega) only [wt, seval, rqs]
 refine call_by (k) (by rfl) (by simp) ?_
 simp (disch := omega) only [wt, seval]
 refine call_by (m) (by rfl) (by simp) ?_
 simp (disch := omega) only [wt, seval]
 try rfl
theorem qneg_ok (a : RQ) (ha : SzQ (2 ^ 38) a) (h0 : nv a.2 ≠ 0) : AC Tryz.prog 172 [cqq a] none [cqz (-qv a), ci 0] := by
 have n := zneg_ok a.1 (ha.1.mono (by omega))
 have y1 := zl_iv ha.1
 have m := qnorm_ok (canon (-iv a.1), a.2) ⟨(sz_canon _).mono (by rw [zl_neg]; exact y1), ha.2⟩ h0
 rw [show qv (canon (-iv a.1), a.2) = -qv a by rw [qv, qv, iv_canon, Rat.neg_mkRat]] at m
 refine AC.by_walk (rs := [.cell 2 32, .tmp 3]) ords Tryz.func172 (by rfl) (by rfl) (by rfl) (by rfl) (by rfl) ?_
 simp (disch := omega) only [wt, seval, rqs]
 refine call_by (n) (by rfl) (by simp) ?_
 simp (disch := omega) only [wt, seval, rqs]
 refine call_by (m) (by rfl) (by simp) ?_
 simp (disch := omega) only [wt, seval, rqs]
 try rfl
theorem eline_ok (x : RQ) (hx : SzQ (2 ^ 34) x) (h0 : nv x.2 ≠ 0) : AC Tryz.prog 124 [cqq x] none [cqw ((lineq (qv x)).map crat)] := by
 have n := qneg_ok x (hx.mono (by omega)) h0
 have w := ewhole_ok 1 (by omega) (by omega)
 rw [show ((1 : Int) : Rat) = 1 from rfl] at w
 refine AC.by_walk (rs := [.tmp 2]) ords Tryz.func124 (by rfl) (by rfl) (by rfl) (by rfl) (by rfl) ?_
 simp (disch := omega) only [wt, seval, rqs]
 refine call_by (n) (by rfl) (by simp) ?_
 simp (disch := omega) only [wt, seval, rqs]
 refine .inl ⟨tmps_by (by kernel_rfl), ?_⟩
 refine call_by (w) (by rfl) (by simp) ?_
 simp (disch := omega) only [wt, seval]
 refine ⟨log_by (by kernel_rfl), ?_⟩
 try rfl
theorem froot_qb {xs : List RQ} (hx : GQ 40 200 xs) (b k : Nat) (hk : k ≤ 40) : QB 81 11321 (froot (qvs xs) b k) := by
 obtain ⟨E, hE⟩ := froot_cb (N := 40) (cf200 hx) b k hk
 exact (hE.mono (m := 81) (N := 11321) (by omega) (by
  have : k * (200 + 2 * 40 + 3) ≤ 40 * (200 + 2 * 40 + 3) := Nat.mul_le_mul_right _ hk
  omega)).qb
theorem ewhole1 : AC Tryz.prog 120 [ci 1] none [cqz 1] := by
 have w := ewhole_ok 1 (by omega) (by omega)
 rwa [show ((1 : Int) : Rat) = 1 from rfl] at w
theorem news_qb {xs ys : List RQ} (hx : GQ 40 200 xs) (hy : GQ 40 200 ys) {k : Nat} (hk : k ≤ xs.length) (hd : ∀ i j, j < i → i < k → cfq (qvs xs) i ≠ cfq (qvs xs) j) : QB 40 (2 ^ 26) (trimq (news (qvs xs) (qvs ys) k)) := .of (by
  rw [trimq_len]
  have := tzq_low (q := news (qvs xs) (qvs ys) k) (n := k) fun j hj => news_deg (qvs xs) (qvs ys) k (by rw [qvs_len]; exact hk) j hj
  have := hx.1
  omega) fun i => by
 rw [cfq_trimq]
 have h := news_z (X := qvs xs) (Y := qvs ys) (K := 200) (by omega) (cf200 hx) (cf200 hy) (by rw [qvs_len]; exact hx.1) (by rw [qvs_len]; exact hk) hd i
 have e : lagT 200 = 944886 := by decide
 omega
set_option maxRecDepth 4000 in
theorem etablex_ok (p : List RQ) (x s : RQ) (n : Nat) (hn : n ≤ 12) (hp : GQ 40 200 p) (hx : SzQ 200 x) (hs : SzQ 200 s) (dx : nv x.2 ≠ 0) (ds : nv s.2 ≠ 0) : ACX Tryz.prog 56 [cqw p, cqq x, cqq s, ci n] (RQp ((tabl (qvs p) (qv x) (qv s) n).map crat) 0) := by
 have g := qgood_ok p (hp.bq.mono (by omega) (by omega))
 rw [hp.gd] at g
 have g2 := egood_ok [x, s] (BQ.mono (n := 2) (k := 200) ⟨by simp, fun r hr => by
  simp only [List.mem_cons, List.not_mem_nil, or_false] at hr
  rcases hr with rfl | rfl <;> assumption⟩ (by omega) (by omega))
 rw [show gd [x, s] = true from gd_iff.mpr fun r hr => by
  simp only [List.mem_cons, List.not_mem_nil, or_false] at hr
  rcases hr with rfl | rfl <;> assumption] at g2
 have p3 := rats_two x s
 have hn1 : ¬ (n : Int) < 0 := by omega
 have hn2 : ¬ (10000 : Int) < (n : Int) := by omega
 have t0 := tpl_zero (s := s) hx dx
 refine ACX.by_walk zi0 (rs := [.tmp 8, .tmp 9]) ords Tryz.func56 (by rfl) (by rfl) (by rfl) (by rfl) (by rfl) (ne_qp _ _) (fun B0 => ?_)
 simp (disch := omega) only [wt, seval]
 refine call_by (g) (by rfl) (by simp) ?_
 simp (disch := omega) only [wt, seval, rqs, p3]
 refine call_by (g2) (by rfl) (by simp) ?_
 simp (disch := omega) only [wt, seval, rqs, hn1, hn2]
 refine aloop_nil 10 10 32 3 (by simp only [wt, seval]) (fun f H => ∃ (i st s11 E : Nat) (y : RQ) (bs : List (OB × OB)), i ≤ n ∧ TPl x s y i ∧ bs.length = i ∧ B0 ≤ E ∧ Nw B0 E (idq bs) ∧ f 33 = .iv (.int .i64 i) ∧ f 32 = .iv (.int .i64 n) ∧ f 0 = .iv (.sl (rats p)) ∧ f 11 = .hp 11 s11 0 0 ∧ H 11 = .blk false s11 32 3 [qrow y] ∧ f 6 = .hp 6 1 0 0 ∧ H 6 = .blk false 1 32 3 [qrow s] ∧ f 10 = .hs 10 st ∧ H 10 = .blk false st 32 3 (fqrows bs ((tabl (qvs p) (qv x) (qv s) i).map crat)) ∧ H 999 = .mrk E) (fun f H => (n - intAt f 33).toNat) ?_ ?_
 ·refine ⟨0, 1, 1, B0, x, [], by omega, t0, rfl, Nat.le_refl _, .nil _ _, ?_⟩
  simp only [wt, seval, ghostF, ghostH, tabl_zero]
  rfl
 rintro f H ⟨i, st, s11, E, y, bs, hi, hy, hbs, hBE, hnw, h33, h32, h0, h11, hH11, h6, hH6, h10, hH, h999⟩
 rw [intAt_of h33]
 simp (disch := omega) only [wt, seval, h33, h32]
 have hq : ((tabl (qvs p) (qv x) (qv s) i).map crat).length = i := by rw [List.length_map, tabl_len]
 have hql : (fqrows bs ((tabl (qvs p) (qv x) (qv s) i).map crat)).length = i := by rw [fqrows_len (by omega), hq]
 refine if_by (fun hlt => ?_) (fun hlt => ?_)
 ·have v := tpl_vb hy hp (by omega)
  have a := eAtx_ok p y _ v
  have hy' := tpl_next hy hs ds
  have w := qadd_ok y s (hy.z.mono (by omega)) (hs.mono (by omega)) hy.d ds
  simp (disch := omega) only [wt, seval, rqs, h0, h11, hH11]
  refine callx_by (a) (by rfl) (by simp) (by assumption) ?_
  rintro B1 E1 _ hB1 hE1 ⟨b, c, rfl, hb⟩
  simp (disch := omega) only [wt, seval, rqs, fq_spl, fq_take, h11, hH11, h6, hH6, h10, hH, hql]
  refine call_by (w) (by rfl) (by simp) ?_
  simp (disch := omega) only [wt, seval, rqs, h33, h32, h0, h11, hH11, h6, hH6]
  refine ⟨⟨i + 1, st + 1, s11, E1, _, bs ++ [(b, c)], by omega, hy', by simp [hbs], by omega, ?_, by omega, rfl, rfl, rfl, ?_, rfl⟩, by omega⟩
  ·rw [idq_snoc]; exact hnw.append hb (by omega) hB1 (by omega)
  ·rw [tabl_succ, List.map_append, ← hy.v, fqrows_snoc (by omega)]; rfl
 ·simp (disch := omega) only [wt, seval, h10]
  obtain rfl : i = n := by omega
  refine opn_by 8 10 _ 32 3 ((fqrows bs ((tabl (qvs p) (qv x) (qv s) i).map crat))) (by first | rfl | assumption | simp only [wt, seval, rqs, lay_own, spl_own, lay_frq, fq_spl, fq_take, fqrows_rows]) (by first | rfl | assumption | simp only [wt, seval, rqs, lay_own, spl_own, lay_frq, fq_spl, fq_take, fqrows_rows]) (by assumption) ?_
  rintro b E2 hE2 hb
  refine opn_done [.iv (fqp b bs ((tabl (qvs p) (qv x) (qv s) i).map crat)), ci 0] (by rfl) (by simp (disch := omega) only [wt, seval]) ?_
  intro E hE
  refine ⟨b, bs, rfl, by omega, (nwput2 hnw hE2 (fun g cap e => ⟨(hb.2 g cap e).1, (hb.2 g cap e).2.1, ?_⟩)).mono (Nat.le_refl _) hE⟩
  have := (hb.2 g cap e).2.2.1
  rwa [ids_fqrows (by omega)] at this
theorem etablex_bad (p : List RQ) (x s : RQ) (n : Int) (hp : BQ 40 200 p) (hx : SzQ 200 x) (hs : SzQ 200 s) (h : gd p = false ∨ nv x.2 = 0 ∨ nv s.2 = 0) : ACX Tryz.prog 56 [cqw p, cqq x, cqq s, ci n] (RQp [] 1) := by
 have g := qgood_ok p (hp.mono (by omega) (by omega))
 have g2 := egood_ok [x, s] (BQ.mono (n := 2) (k := 200) ⟨by simp, fun r hr => by
  simp only [List.mem_cons, List.not_mem_nil, or_false] at hr
  rcases hr with rfl | rfl <;> assumption⟩ (by omega) (by omega))
 have p3 := rats_two x s
 cases hg : gd p with
 | false =>
  rw [hg] at g
  refine ACX.by_walk zi0 (rs := [.tmp 8, .tmp 9]) ords Tryz.func56 (by rfl) (by rfl) (by rfl) (by rfl) (by rfl) (ne_qp _ _) (fun B => ?_)
  simp (disch := omega) only [wt, seval]
  refine call_by (g) (by rfl) (by simp) ?_
  simp (disch := omega) only [wt, seval]
  refine opn_nils 8 32 3 (by rfl) ?_
  refine opn_done [.iv (fqp none [] []), ci 1] (by rfl) (by simp (disch := omega) only [wt, seval]; rfl) ?_
  intro E hE
  exact ⟨none, [], rfl, rfl, .nil _ _⟩
 | true =>
  rw [hg] at g
  have e : gd [x, s] = false := by
   rw [Bool.eq_false_iff]
   intro hh
   have hh := gd_iff.mp hh
   rcases h with h | h | h
   ·rw [hg] at h; exact nomatch h
   ·exact hh x (by simp) h
   ·exact hh s (by simp) h
  rw [e] at g2
  refine ACX.by_walk zi0 (rs := [.tmp 8, .tmp 9]) ords Tryz.func56 (by rfl) (by rfl) (by rfl) (by rfl) (by rfl) (ne_qp _ _) (fun B => ?_)
  simp (disch := omega) only [wt, seval]
  refine call_by (g) (by rfl) (by simp) ?_
  simp (disch := omega) only [wt, seval, rqs, p3]
  refine call_by (g2) (by rfl) (by simp) ?_
  simp (disch := omega) only [wt, seval]
  refine opn_nils 8 32 3 (by rfl) ?_
  refine opn_done [.iv (fqp none [] []), ci 1] (by rfl) (by simp (disch := omega) only [wt, seval]; rfl) ?_
  intro E hE
  exact ⟨none, [], rfl, rfl, .nil _ _⟩
theorem softs_fqp {b : OB} {bs : List (OB × OB)} {l : List RQ} (h : bs.length = l.length) : SoftC (.iv (fqp b bs l)) (cqw l) := .iv (soft_fqp h)
set_option maxRecDepth 20000 in
theorem eFrootsx_ok (xs : List RQ) (hx : GQ 40 200 xs) (hx0 : xs ≠ []) : ACX Tryz.prog 55 [cqw xs] (RQp (cqs (froot (qvs xs) xs.length xs.length)) 0) := by
 have g := egood_ok xs (hx.bq.mono (by omega) (by omega))
 rw [hx.gd] at g
 have hl := hx.1
 have hl0 : xs.length ≠ 0 := fun h => hx0 (List.length_eq_zero_iff.1 h)
 have e0 : rats (cqs (froot (qvs xs) xs.length 0)) = [qrow (crat 1)] := rfl
 refine ACX.by_walk zi0 (rs := [.tmp 2, .tmp 3]) ords Tryz.func55 (by rfl) (by rfl) (by rfl) (by rfl) (by rfl) (ne_qp _ _) (fun B0 => ?_)
 simp only [wt, seval]
 refine call_by (g) (by rfl) (by simp) ?_
 simp (disch := omega) only [wt, seval]
 refine call_by (ewhole1) (by rfl) (by simp) ?_
 simp (disch := omega) only [wt, seval, rqs]
 refine aloop_w (.iv 4 11 1 false 32 3 [qrow (crat 1)] (by simp only [wt, seval]) (by simp only [wt, seval]) (.refl _ _)) (fun f H => ∃ (k E : Nat), k ≤ xs.length ∧ B0 ≤ E ∧ f 14 = .iv (.int .i64 k) ∧ f 13 = .iv (.int .i64 xs.length) ∧ f 12 = .iv (.sl (rats xs)) ∧ H 999 = .mrk E ∧ ((k = 0 ∧ f 4 = .iv (.sl (rats (cqs (froot (qvs xs) xs.length k))))) ∨ (k ≠ 0 ∧ ∃ b bs, bs.length = (cqs (froot (qvs xs) xs.length k)).length ∧ Nw B0 E (oid b ++ idq bs) ∧ f 4 = .iv (fqp b bs (cqs (froot (qvs xs) xs.length k)))))) (fun f H => (xs.length - intAt f 14).toNat) ?_ ?_
 ·refine ⟨0, B0, by omega, Nat.le_refl _, by simp only [wt, seval]; try rfl, by simp only [wt, seval], by simp only [wt, seval], by simp only [wt, seval]; try rfl, .inl ⟨rfl, by rw [e0]; simp only [wt, seval]⟩⟩
 rintro f H ⟨k, E, hk, hBE, h14, h13, h12, h999, hV⟩
 rw [intAt_of h14]
 simp (disch := omega) only [wt, seval, h14, h13]
 refine if_by (fun hlt => ?_) (fun hlt => ?_)
 ·have hlt' : k < xs.length := by omega
  have es : froot (qvs xs) xs.length (k + 1) = mulq (froot (qvs xs) xs.length k) (lineq (cfq (qvs xs) k)) := by rw [froot, if_neg (by omega)]
  have n := eline_ok (xs.getD k q0) ((hx.get hlt').mono (by omega)) (hx.den hlt')
  rw [← cfq_qvs] at n
  have hq := froot_qb hx xs.length k (by omega)
  have hcl := (CB.line (cf200 hx k)).qb
  have m := qpmulx_ok (cqs (froot (qvs xs) xs.length k)) ((lineq (cfq (qvs xs) k)).map crat) 81 11321 hq.gqs ((hcl.mono (by omega) (by omega)).gq) (by omega) (by omega) (by omega)
  rw [show cqs (mulq (qvs (cqs (froot (qvs xs) xs.length k))) (qvs ((lineq (cfq (qvs xs) k)).map crat))) = cqs (froot (qvs xs) xs.length (k + 1)) by
   rw [es, qvs_map]; exact cqs_ext (mulq_congr (fun j => by rw [← pq_c, pq_cqs, pq_c]) (fun j => rfl))] at m
  rcases hV with ⟨rfl, h4⟩ | ⟨hk0, b, bs, hbl, hnw, h4⟩
  ·simp (disch := omega) only [wt, seval, rqs, h14, h12, h4]
   refine call_by (n) (by rfl) (by simp) ?_
   simp (disch := omega) only [wt, seval]
   refine callx_by (m) (by rfl) (by simp) (by assumption) ?_
   rintro B1 E1 _ hB1 hE1 ⟨b1, bs1, rfl, hl1, hn1⟩
   simp (disch := omega) only [wt, seval, h14, h13, h12]
   refine ⟨⟨1, E1, by omega, by omega, by omega, rfl, .inr ⟨by omega, b1, bs1, hl1, hn1.mono (by omega) (Nat.le_refl _), rfl⟩⟩, by omega⟩
  ·replace m := m.soft (.cons (softs_fqp (b := b) hbl) (.cons (.refl _) .nil))
   simp (disch := omega) only [wt, seval, rqs, h14, h12, h4]
   refine call_by (n) (by rfl) (by simp) ?_
   simp (disch := omega) only [wt, seval]
   refine callx_by (m) (by rfl) (by simp) (by assumption) ?_
   rintro B1 E1 _ hB1 hE1 ⟨b1, bs1, rfl, hl1, hn1⟩
   simp (disch := omega) only [wt, seval, h14, h13, h12]
   refine ⟨⟨k + 1, E1, by omega, by omega, by omega, rfl, .inr ⟨by omega, b1, bs1, hl1, hn1.mono (by omega) (Nat.le_refl _), rfl⟩⟩, by omega⟩
 ·obtain rfl : k = xs.length := by omega
  rcases hV with ⟨e, h4⟩ | ⟨hk0, b, bs, hbl, hnw, h4⟩
  ·exact (hl0 e).elim
  ·simp (disch := omega) only [wt, seval, h4]
   refine opn_done [.iv (fqp b bs (cqs (froot (qvs xs) xs.length xs.length))), ci 0] (by assumption) (by simp (disch := omega) only [wt, seval]) ?_
   intro E hE
   exact ⟨b, bs, rfl, hbl, hnw.mono (Nat.le_refl _) (by omega)⟩
theorem eFrootsx_bad (xs : List RQ) (hx : BQ 40 200 xs) (h : gd xs = false) : ACX Tryz.prog 55 [cqw xs] (RQp [] 1) := by
 have g := egood_ok xs (hx.mono (by omega) (by omega))
 rw [h] at g
 refine ACX.by_walk zi0 (rs := [.tmp 2, .tmp 3]) ords Tryz.func55 (by rfl) (by rfl) (by rfl) (by rfl) (by rfl) (ne_qp _ _) (fun B => ?_)
 simp only [wt, seval]
 refine call_by (g) (by rfl) (by simp) ?_
 simp (disch := omega) only [wt, seval]
 refine opn_nils 2 32 3 (by rfl) ?_
 refine opn_done [.iv (fqp none [] []), ci 1] (by rfl) (by simp (disch := omega) only [wt, seval]; rfl) ?_
 intro E hE
 exact ⟨none, [], rfl, rfl, .nil _ _⟩
set_option maxRecDepth 20000 in
theorem ethroughx_ok (xs ys : List RQ) (hx : GQ 40 200 xs) (hy : GQ 40 200 ys) (hxy : xs.length = ys.length) (hx1 : xs.length = 1) : ACX Tryz.prog 54 [cqw xs, cqw ys] (RQp (cqs (news (qvs xs) (qvs ys) xs.length)) 0) := by
 have hnod : (qvs xs).Nodup := by
  have : (qvs xs).length = 1 := by rw [qvs_len]; exact hx1
  match hq : qvs xs, this with
  | [a], _ => simp
 have g1 := egood_ok xs (hx.bq.mono (by omega) (by omega))
 have g2 := egood_ok ys (hy.bq.mono (by omega) (by omega))
 rw [hx.gd] at g1
 rw [hy.gd] at g2
 have hl := hx.1
 have hl2 := hy.1
 have hql := qvs_len xs
 have hxyi : (xs.length : Int) = (ys.length : Int) := by omega
 have e0 : rats (cqs (froot (qvs xs) xs.length 0)) = [qrow (crat 1)] := rfl
 have e1 : rats (cqs (news (qvs xs) (qvs ys) 0)) = [] := rfl
 refine ACX.by_walk zi0 (rs := [.tmp 4, .tmp 5]) ords Tryz.func54 (by rfl) (by rfl) (by rfl) (by rfl) (by rfl) (ne_qp _ _) (fun B0 => ?_)
 simp only [wt, seval]
 refine call_by (g1) (by rfl) (by simp) ?_
 simp (disch := omega) only [wt, seval]
 refine call_by (g2) (by rfl) (by simp) ?_
 simp (disch := omega) only [wt, seval, rqs, hxyi]
 refine call_by (ewhole1) (by rfl) (by simp) ?_
 simp (disch := omega) only [wt, seval, rqs]
 refine aloop_w (.nilv 6 (by simp only [wt, seval]) (.iv 7 36 1 false 32 3 [qrow (crat 1)] (by simp only [wt, seval]) (by simp only [wt, seval]) (.refl _ _))) (fun f H => ∃ (i E : Nat), i ≤ xs.length ∧ B0 ≤ E ∧ f 39 = .iv (.int .i64 i) ∧ f 38 = .iv (.int .i64 xs.length) ∧ f 37 = .iv (.sl (rats xs)) ∧ f 1 = .iv (.sl (rats ys)) ∧ H 999 = .mrk E ∧ f 7 = .iv (.sl (rats (cqs (froot (qvs xs) xs.length i)))) ∧ ((i = 0 ∧ f 6 = .iv (.sl (rats (cqs (news (qvs xs) (qvs ys) i))))) ∨ (i = 1 ∧ ∃ b bs, bs.length = (cqs (news (qvs xs) (qvs ys) i)).length ∧ Nw B0 E (oid b ++ idq bs) ∧ f 6 = .iv (fqp b bs (cqs (news (qvs xs) (qvs ys) i)))))) (fun f H => (xs.length - intAt f 39).toNat) ?_ ?_
 ·refine ⟨0, B0, by omega, Nat.le_refl _, by simp only [wt, seval]; try rfl, by simp only [wt, seval], by simp only [wt, seval], by simp only [wt, seval], by simp only [wt, seval]; try rfl, by rw [e0]; simp only [wt, seval], .inl ⟨rfl, by rw [e1]; simp only [wt, seval]⟩⟩
 rintro f H ⟨i, E, hi, hBE, h39, h38, h37, h1, h999, h7, hV⟩
 rw [intAt_of h39]
 simp (disch := omega) only [wt, seval, h39, h38]
 refine if_by (fun hlt => ?_) (fun hlt => ?_)
 ·have hlt' : i < xs.length := by omega
  obtain ⟨hi0, h6⟩ : i = 0 ∧ f 6 = .iv (.sl (rats (cqs (news (qvs xs) (qvs ys) i)))) := hV.resolve_right fun h => by omega
  have hx' := hx.get hlt'
  have hdx := hx.den hlt'
  have hy' := hy.get (i := i) (by omega)
  have hdy := hy.den (i := i) (by omega)
  have hfq := froot_qb hx xs.length i (by omega)
  have v1 := VB.of (B := 2 ^ 24) hfq.trimq.gq hx' hdx (by omega) (by omega) (by omega)
  have a1 := eAt_ok ((trimq (froot (qvs xs) xs.length i)).map crat) (xs.getD i q0) _ v1
  rw [qvs_map, evq_trim, ← cfq_qvs] at a1
  have z1 : qz (evq (froot (qvs xs) xs.length i) (cfq (qvs xs) i)) ≤ 2 ^ 24 := by
   have := v1.e (trimq (froot (qvs xs) xs.length i)) (by rw [List.length_map]; exact Nat.le_refl _) (fun c hc => by rw [qvs_map]; exact hc)
   rwa [evq_trim, ← cfq_qvs] at this
  have s1 := qsign_ok (crat (evq (froot (qvs xs) xs.length i) (cfq (qvs xs) i))) (szq_crat (by omega)) (nv_crat0 _)
  rw [sgq_qv (nv_crat0 _), qv_crat] at s1
  by_cases h0 : evq (froot (qvs xs) xs.length i) (cfq (qvs xs) i) = 0
  ·exact (froot_ne (qvs xs) xs.length i (cfq (qvs xs) i) (fun j hj _ => nodup_cf hnod (by omega) (by omega) (by omega)) h0).elim
  ·have hs : ¬ sgq (evq (froot (qvs xs) xs.length i) (cfq (qvs xs) i)) = 0 := fun h => h0 (sgq_eq_zero.mp h)
   have hdn : ∀ j, j < i → cfq (qvs xs) i ≠ cfq (qvs xs) j := fun j hj he => h0 (by rw [he]; exact froot_zero (qvs xs) xs.length i j hj (by omega))
   have hnq := news_qb hx hy hi (fun a b hb ha => by omega)
   have v2 := VB.of (B := 2 ^ 32) hnq.gq hx' hdx (by omega) (by omega) (by omega)
   have a2 := eAt_ok ((trimq (news (qvs xs) (qvs ys) i)).map crat) (xs.getD i q0) _ v2
   rw [qvs_map, evq_trim, ← cfq_qvs] at a2
   have z2 : qz (evq (news (qvs xs) (qvs ys) i) (cfq (qvs xs) i)) ≤ 2 ^ 32 := by
    have := v2.e (trimq (news (qvs xs) (qvs ys) i)) (by rw [List.length_map]; exact Nat.le_refl _) (fun c hc => by rw [qvs_map]; exact hc)
    rwa [evq_trim, ← cfq_qvs] at this
   have b1 := qsub_ok (ys.getD i q0) (crat (evq (news (qvs xs) (qvs ys) i) (cfq (qvs xs) i))) (hy'.mono (by omega)) (szq_crat (by omega)) hdy (nv_crat0 _)
   rw [qv_crat, ← cfq_qvs] at b1
   have z3 : qz (cfq (qvs ys) i - evq (news (qvs xs) (qvs ys) i) (cfq (qvs xs) i)) ≤ 2 ^ 33 := by
    have h1 := cf200 hy i
    have zn : qz (-evq (news (qvs xs) (qvs ys) i) (cfq (qvs xs) i)) ≤ 2 ^ 32 := ((CD.ofRat _).neg.mono (Nat.le_trans (qz_parts _).1 z2)).size (Rat.den_nz _) (Nat.le_trans (qz_parts _).2 z2)
    have := qz_add (cfq (qvs ys) i) (-evq (news (qvs xs) (qvs ys) i) (cfq (qvs xs) i))
    rw [Rat.sub_eq_add_neg]
    omega
   have b2 := qquo_ok (crat (cfq (qvs ys) i - evq (news (qvs xs) (qvs ys) i) (cfq (qvs xs) i))) (crat (evq (froot (qvs xs) xs.length i) (cfq (qvs xs) i))) (szq_crat (by omega)) (szq_crat (by omega)) (nv_crat0 _) (nv_crat0 _) (by rw [iv_crat]; exact fun e => h0 (Rat.num_eq_zero.mp e))
   have z4 := qz_div (cfq (qvs ys) i - evq (news (qvs xs) (qvs ys) i) (cfq (qvs xs) i)) (evq (froot (qvs xs) xs.length i) (cfq (qvs xs) i))
   have ec : (cfq (qvs ys) i - evq (news (qvs xs) (qvs ys) i) (cfq (qvs xs) i)) / evq (froot (qvs xs) xs.length i) (cfq (qvs xs) i) = newc (qvs xs) (qvs ys) (news (qvs xs) (qvs ys) i) i := by rw [newc, hql]
   rw [qv_crat, qv_crat, ec] at b2
   rw [ec] at z4
   have es : news (qvs xs) (qvs ys) (i + 1) = addq (news (qvs xs) (qvs ys) i) (sclq (newc (qvs xs) (qvs ys) (news (qvs xs) (qvs ys) i) i) (froot (qvs xs) xs.length i)) := by rw [news, hql]
   generalize newc (qvs xs) (qvs ys) (news (qvs xs) (qvs ys) i) i = c at *
   have b3 := qscale_ok (cqs (froot (qvs xs) xs.length i)) (crat c) (2 ^ 34) (hfq.gqs.mono (by omega) (by omega)) (szq_crat (by omega)) (nv_crat0 _) (by omega) (by omega)
   rw [qv_crat, show cqp (sclq c (qvs (cqs (froot (qvs xs) xs.length i)))) = cqp (sclq c (froot (qvs xs) xs.length i)) from congrArg cqw (cqs_ext fun j => sclq_congr c (fun j => by rw [qvs_cqs, cfq_trimq]) j)] at b3
   have hsq : QB 81 (2 ^ 34) (sclq c (froot (qvs xs) xs.length i)) := .of (by simp [sclq]; exact hfq.1) fun j => by
    rw [cfq_sclq]
    have h1 := qz_mul (cfq (froot (qvs xs) xs.length i) j) c
    have h2 := hfq.cz (by omega) j
    omega
   have b4 := qpaddx_ok (cqs (news (qvs xs) (qvs ys) i)) (cqs (sclq c (froot (qvs xs) xs.length i))) (2 ^ 34) (hnq.gq.mono (by omega) (by omega)) (hsq.gqs.mono (by omega) (by omega)) (by omega) (by omega)
   rw [show cqs (addq (qvs (cqs (news (qvs xs) (qvs ys) i))) (qvs (cqs (sclq c (froot (qvs xs) xs.length i))))) = cqs (addq (news (qvs xs) (qvs ys) i) (sclq c (froot (qvs xs) xs.length i))) from cqs_ext fun j => by rw [cfq_addq, cfq_addq, qvs_cqs, qvs_cqs, cfq_trimq, cfq_trimq]] at b4
   rw [← es] at b4
   have el : froot (qvs xs) xs.length (i + 1) = mulq (froot (qvs xs) xs.length i) (lineq (cfq (qvs xs) i)) := by rw [froot, if_neg (by omega)]
   have n := eline_ok (xs.getD i q0) (hx'.mono (by omega)) hdx
   rw [← cfq_qvs] at n
   have hcl := (CB.line (cf200 hx i)).qb
   have m := qpmul_g (p := cqs (froot (qvs xs) xs.length i)) (q := (lineq (cfq (qvs xs) i)).map crat) (n := 81) (k := 11321) (X := froot (qvs xs) xs.length i) (Y := lineq (cfq (qvs xs) i)) hfq.gqs ((hcl.mono (by omega) (by omega)).gq) (by omega) (by omega) (by omega) (pq_cqs _) (by rw [qvs_map])
   rw [← el] at m
   simp (disch := omega) only [wt, seval, rqs, h39, h37, h7]
   refine call_by (a1) (by rfl) (by simp) ?_
   simp (disch := omega) only [wt, seval, rqs]
   refine call_by (s1) (by rfl) (by simp) ?_
   simp (disch := omega) only [wt, seval, rqs, h6, hs]
   refine call_by (a2) (by rfl) (by simp) ?_
   simp (disch := omega) only [wt, seval, rqs, h1]
   refine .inl ⟨tmps_by (by kernel_rfl), ?_⟩
   refine call_by (b1) (by rfl) (by simp) ?_
   simp (disch := omega) only [wt, seval, rqs]
   refine ⟨log_by (by kernel_rfl), ?_⟩
   refine call_by (b2) (by rfl) (by simp) ?_
   simp (disch := omega) only [wt, seval, rqs, h7]
   refine call_by (b3) (by rfl) (by simp) ?_
   simp (disch := omega) only [wt, seval, h6]
   refine callx_by (b4) (by rfl) (by simp) (by assumption) ?_
   rintro B1 E1 _ hB1 hE1 ⟨b, bs, rfl, hbl, hbn⟩
   simp (disch := omega) only [wt, seval, rqs, h7]
   refine call_by (n) (by rfl) (by simp) ?_
   simp (disch := omega) only [wt, seval]
   refine call_by (m) (by rfl) (by simp) ?_
   simp (disch := omega) only [wt, seval, h39, h38, h37, h1]
   refine ⟨⟨i + 1, E1, by omega, by omega, by omega, rfl, rfl, .inr ⟨by omega, b, bs, hbl, hbn.mono (by omega) (Nat.le_refl _), rfl⟩⟩, by omega⟩
 ·obtain rfl : i = xs.length := by omega
  obtain ⟨-, b, bs, hbl, hbn, h6⟩ := hV.resolve_left fun h => by omega
  simp (disch := omega) only [wt, seval, h6]
  refine opn_done [.iv (fqp b bs (cqs (news (qvs xs) (qvs ys) xs.length))), ci 0] (by assumption) (by simp (disch := omega) only [wt, seval]) ?_
  intro E hE
  exact ⟨b, bs, rfl, hbl, hbn.mono (Nat.le_refl _) (by omega)⟩
theorem ethroughx_bad (xs ys : List RQ) (hx : BQ 40 200 xs) (hy : BQ 40 200 ys) (h : gd xs = false ∨ gd ys = false) : ACX Tryz.prog 54 [cqw xs, cqw ys] (RQp [] 1) := by
 have g1 := egood_ok xs (hx.mono (by omega) (by omega))
 have g2 := egood_ok ys (hy.mono (by omega) (by omega))
 refine ACX.by_walk zi0 (rs := [.tmp 4, .tmp 5]) ords Tryz.func54 (by rfl) (by rfl) (by rfl) (by rfl) (by rfl) (ne_qp _ _) (fun B => ?_)
 simp only [wt, seval]
 cases hg : gd xs with
 | false =>
  rw [hg] at g1
  refine call_by (g1) (by rfl) (by simp) ?_
  simp (disch := omega) only [wt, seval]
  refine opn_nils 4 32 3 (by rfl) ?_
  refine opn_done [.iv (fqp none [] []), ci 1] (by rfl) (by simp (disch := omega) only [wt, seval]; rfl) ?_
  intro E hE
  exact ⟨none, [], rfl, rfl, .nil _ _⟩
 | true =>
  rw [hg] at g1
  rw [h.resolve_left (by rw [hg]; decide)] at g2
  refine call_by (g1) (by rfl) (by simp) ?_
  simp (disch := omega) only [wt, seval]
  refine call_by (g2) (by rfl) (by simp) ?_
  simp (disch := omega) only [wt, seval]
  refine opn_nils 4 32 3 (by rfl) ?_
  refine opn_done [.iv (fqp none [] []), ci 1] (by rfl) (by simp (disch := omega) only [wt, seval]; rfl) ?_
  intro E hE
  exact ⟨none, [], rfl, rfl, .nil _ _⟩
theorem fqrows_set {bs : List (OB × OB)} {l : List RQ} (h : bs.length = l.length) {i : Nat} (hi : i < l.length) (b c : OB) (r : RQ) : (fqrows bs l).set i (frq b c r) = fqrows (bs.set i (b, c)) (l.set i r) := by
 refine List.ext_getElem? fun j => ?_
 have hb : (bs.set i (b, c)).length = (l.set i r).length := by rw [List.length_set, List.length_set, h]
 by_cases hj : j = i
 ·subst hj
  rw [List.getElem?_set_self (by rw [fqrows_len h]; exact hi), fqrows_at hb (by rw [List.length_set]; exact hi)]
  have h2 : j < bs.length := by omega
  simp [List.getD, hi, h2]
 ·rw [List.getElem?_set_ne (fun e => hj e.symm)]
  simp only [fqrows, List.getElem?_zipWith]
  rw [List.getElem?_set_ne (fun e => hj e.symm), List.getElem?_set_ne (fun e => hj e.symm)]
theorem fqrows_rep (n : Nat) : List.replicate n (frq none none q0) = fqrows (List.replicate n (none, none)) (List.replicate n q0) := by simp [fqrows]
theorem ziX_fq : [IV.bool false, IV.own none 134 1 [], IV.own none 134 1 []] = frq none none q0 := rfl
theorem soft_fqs {bs : List (OB × OB)} {l : List RQ} (h : bs.length = l.length) : SoftC (.iv (.sl (fqrows bs l))) (cqw l) := by
 have := soft_fqp (b := none) h
 refine .iv ?_
 cases this with
 | own _ _ _ _ _ hl hs hh => exact .sl _ _ hl hs hh
theorem idq_get {B E : Nat} {bs : List (OB × OB)} {i : Nat} (h : Nw B E (idq bs)) (hi : i < bs.length) : Nw B E (oid (bs.getD i (none, none)).1 ++ oid (bs.getD i (none, none)).2) := by
 have e : idq bs = idq (bs.take i) ++ ((oid (bs.getD i (none, none)).1 ++ oid (bs.getD i (none, none)).2) ++ idq (bs.drop (i + 1))) := by
  have : bs = bs.take i ++ bs[i] :: bs.drop (i + 1) := by rw [← List.drop_eq_getElem_cons hi, List.take_append_drop]
  conv => lhs; rw [this]
  simp only [idq, List.flatMap_append, List.flatMap_cons, List.getD, List.getElem?_eq_getElem hi, Option.getD_some]
 rw [e] at h
 have h2 := (List.nodup_append.1 h.1).2.1
 exact ⟨(List.nodup_append.1 h2).1, fun g hg => h.2 g (List.mem_append_right _ (List.mem_append_left _ hg))⟩
def RSpl (l : List RQ) (r : RQ) (e : Int) (B E : Nat) (res : List CV) : Prop := ∃ b bs c d, res = [.iv (fqp b bs l), .agg (frq c d r), ci e] ∧ bs.length = l.length ∧ Nw B E ((oid c ++ oid d) ++ (oid b ++ idq bs))
theorem ne_spl (l : List RQ) (r : RQ) (e : Int) (B : Nat) : ∃ E res, B ≤ E ∧ RSpl l r e B E res := ⟨B, _, Nat.le_refl _, none, List.replicate l.length (none, none), none, none, rfl, by simp, by rw [idq_nones]; exact .nil _ _⟩
set_option maxRecDepth 20000 in
theorem esplitx_ok (p : List RQ) (x : RQ) (B : Nat) (v : VB p x B) : ACX Tryz.prog 52 [cqw p, cqq x] (RSpl (cqs (sqq (trimq (qvs p)) (qv x))) (crat (evq (qvs p) (qv x))) 0) := by
 have n := qpnormx_ok p (v.hp.mono (by omega) (by have := v.b; omega))
 have o := qcheck_good x ⟨Nat.le_trans v.hx.2.1 (by have := v.b; omega), v.hx.2.2⟩ v.d
 have w := ewholex_ok 0 (by omega) (by omega)
 rw [Rat.intCast_zero] at w
 have s := v.sb
 have hb := s.b
 rw [← evq_trim]
 refine ACX.by_walk ziX (rs := [.tmp 4, .cell 5 32, .tmp 6]) ords Tryz.func52 (by rfl) (by rfl) (by rfl) (by rfl) (by rfl) (ne_spl _ _ _) (fun B0 => ?_)
 simp (disch := omega) only [wt, seval, ziX_fq]
 refine callx_by (n) (by rfl) (by simp) (by rfl) ?_
 rintro B1 E1 _ hB1 hE1 ⟨bp, bsp, rfl, hlp, hnp⟩
 simp (disch := omega) only [wt, seval, rqs, ziX_fq]
 refine call_by (o) (by rfl) (by simp) ?_
 simp (disch := omega) only [wt, seval]
 rw [show cqs (qvs p) = (trimq (qvs p)).map crat from rfl] at hlp ⊢
 clear n
 generalize trimq (qvs p) = A at *
 have hAl := s.l
 have hq0 : (A.map crat).length = A.length := List.length_map _
 have hq : (fqrows bsp (A.map crat)).length = A.length := by rw [fqrows_len hlp, hq0]
 refine if_by (fun h0 => ?_) (fun h0 => ?_)
 ·have hA : A = [] := List.length_eq_zero_iff.mp (by rw [hq] at h0; omega)
  subst hA
  simp only [wt, seval]
  refine callx_by (w) (by rfl) (by simp) (by rfl) ?_
  rintro B2 E2 _ hB2 hE2 ⟨c, d, rfl, hn2⟩
  simp (disch := omega) only [wt, seval, fq_spl, ziX_fq]
  refine opn_nils 4 32 3 (by rfl) ?_
  refine opn_done [.iv (fqp none [] []), .agg (frq c d (crat 0)), ci 0] (by rfl) (by simp (disch := omega) only [wt, seval, fq_take, ziX_fq]; rfl) ?_
  intro E hE
  exact ⟨none, [], c, d, rfl, rfl, by rw [show oid none ++ idq [] = [] from rfl, List.append_nil]; exact hn2.mono (by omega) (by omega)⟩
 ·rw [hq] at h0
  obtain ⟨n, hn⟩ : ∃ n, A.length = n + 1 := ⟨A.length - 1, by omega⟩
  have en : ((n + 1 : Nat) : Int) - 1 = (n : Int) := by omega
  have en2 : ((n + 1 : Nat) : Int) - 2 = (n : Int) - 1 := by omega
  have hs0 : List.replicate n q0 = List.replicate n q0 ++ ((sqq A (qv x)).drop n).map crat := by have := sqq_start (A := A) (c := qv x); rwa [hn] at this
  have he0 : (fqrows bsp (A.map crat)).getD n [] = frq (bsp.getD n (none, none)).1 (bsp.getD n (none, none)).2 (crat (evq (A.drop n) (qv x))) := by rw [fqrows_get hlp (by omega), evq_last hn, cratq_get (by omega)]
  have hni := idq_get (i := n) (bs := bsp) ⟨(List.nodup_append.1 hnp.1).2.1, fun g hg => hnp.2 g (List.mem_append_right _ hg)⟩ (by omega)
  simp (disch := omega) only [wt, seval, fq_spl, fq_take, ziX_fq, hq, hn, en, en2, he0]
  refine aloop_by (fun f H => ∃ (k st3 st9 st31 E : Nat) (b c : OB) (bs : List (OB × OB)), k ≤ n ∧ bs.length = n ∧ B0 ≤ E ∧ Nw B0 E (oid b ++ oid c) ∧ f 10 = .iv (.int .i64 ((k : Int) - 1)) ∧ f 0 = .iv (fqp bp bsp (A.map crat)) ∧ f 3 = .hp 3 st3 0 0 ∧ H 3 = .blk false st3 32 3 [qrow x] ∧ f 9 = .hp 9 st9 0 0 ∧ H 9 = .blk false st9 32 3 [frq b c (crat (evq (A.drop k) (qv x)))] ∧ f 8 = .hs 31 st31 ∧ H 31 = .blk false st31 32 3 (fqrows bs (List.replicate k q0 ++ ((sqq A (qv x)).drop k).map crat)) ∧ f 5 = .hp 5 1 0 0 ∧ H 5 = .blk false 1 32 3 [frq none none q0] ∧ H 999 = .mrk E) (fun f H => (intAt f 10 + 1).toNat) ?_ ?_
  ·refine ⟨n, 1, 1, 1, E1, _, _, List.replicate n (none, none), by omega, by simp, by omega, hni.mono (by omega) (Nat.le_refl _), ?_⟩
   simp only [wt, seval, ← hs0, fqrows_rep]
  rintro f H ⟨k, st3, st9, st31, E, b, c, bs, hk, hbs, hBE, hnw, h10, h00, h3, hH3, h9, hH9, h8, hH31, h5, hH5, h999⟩
  rw [intAt_of h10]
  simp (disch := omega) only [wt, seval, h10]
  refine if_by (fun hlt => ?_) (fun hlt => ?_)
  ·obtain ⟨j, rfl⟩ : ∃ j, k = j + 1 := ⟨k - 1, by omega⟩
   have ej : ((j + 1 : Nat) : Int) - 1 = (j : Int) := by omega
   rw [ej] at h10
   have hlt' : j < A.length := by omega
   have hc := s.c j hlt'
   have z1 := s.e (j + 1)
   have z2 := s.e j
   have zx := qz_raw s.hx s.d
   have zm := qz_mul (evq (A.drop (j + 1)) (qv x)) (qv x)
   have m := (qmul_ok (crat (evq (A.drop (j + 1)) (qv x))) x (szq_crat (by omega)) (s.hx.mono (by omega)) (nv_crat0 _) s.d).soft (.cons (soft_frq b c _) (.cons (.refl _) .nil))
   rw [qv_crat] at m
   have t := (qaddx_ok (crat (evq (A.drop (j + 1)) (qv x) * qv x)) (crat (cfq A j)) (szq_crat (by omega)) (szq_crat (by omega)) (nv_crat0 _) (nv_crat0 _)).soft (.cons (.refl _) (.cons (soft_frq (bsp.getD j (none, none)).1 (bsp.getD j (none, none)).2 _) .nil))
   rw [qv_crat, qv_crat, show evq (A.drop (j + 1)) (qv x) * qv x + cfq A j = evq (A.drop j) (qv x) from (evq_drop A (qv x) hlt').symm] at t
   have hgj : (fqrows bsp (A.map crat)).getD j [] = frq (bsp.getD j (none, none)).1 (bsp.getD j (none, none)).2 (crat (cfq A j)) := by rw [fqrows_get hlp (by omega), cratq_get hlt']
   have hrl := rep_app_len (j + 1) (A := A) (c := qv x) (by omega)
   have hset := sqq_rep (A := A) (c := qv x) (j := j) (by omega)
   have hrl2 : (fqrows bs (List.replicate (j + 1) q0 ++ ((sqq A (qv x)).drop (j + 1)).map crat)).length = n := by rw [fqrows_len (by omega)]; omega
   have hset2 := fqrows_set (bs := bs) (l := List.replicate (j + 1) q0 ++ ((sqq A (qv x)).drop (j + 1)).map crat) (by omega) (i := j) (by omega) b c (crat (evq (A.drop (j + 1)) (qv x)))
   rw [hset] at hset2
   have hgs : splice ((fqrows bs (List.replicate (j + 1) q0 ++ ((sqq A (qv x)).drop (j + 1)).map crat)).getD j []) 0 (frq b c (crat (evq (A.drop (j + 1)) (qv x)))) = frq b c (crat (evq (A.drop (j + 1)) (qv x))) := by
    rw [fqrows_get (by omega) (by omega)]; rfl
   simp (disch := omega) only [wt, seval, rqs, fq_take, ziX_fq, h10, h3, hH3, h9, hH9, h8, hH31, hrl2, ej, hset2, hgs]
   refine call_by (m) (by rfl) (by simp) ?_
   simp (disch := omega) only [wt, seval, rqs, fq_take, ziX_fq, h10, h00, h9, hH9, hq, hgj]
   refine .inl ⟨tmps_by (by kernel_rfl), ?_⟩
   refine callx_by (t) (by rfl) (by simp) (by assumption) ?_
   rintro B2 E2 _ hB2 hE2 ⟨b2, c2, rfl, hn2⟩
   simp (disch := omega) only [wt, seval, fq_spl, ziX_fq, h10, h00, h3, hH3, h9, h8, h5, hH5]
   refine ⟨log_by (by kernel_rfl), ?_⟩
   refine ⟨⟨j, st3, st9, st31, E2, b2, c2, bs.set j (b, c), by omega, by rw [List.length_set]; exact hbs, by omega, hn2.mono (by omega) (Nat.le_refl _), by omega, rfl, rfl, rfl, rfl, rfl, rfl, rfl⟩, by omega⟩
  ·have hi0 : k = 0 := by omega
   subst hi0
   rw [List.replicate_zero, List.nil_append, List.drop_zero] at hH31
   rw [List.drop_zero] at hH9
   have hbl : bs.length = ((sqq A (qv x)).map crat).length := by
    have := rep_app_len 0 (A := A) (c := qv x) (by omega)
    rw [List.replicate_zero, List.nil_append, List.drop_zero] at this
    omega
   have m1 := (qpnormx_ok ((sqq A (qv x)).map crat) ((s.sqb).mono (by omega) (by omega)).gq).soft (.cons (soft_fqs (bs := bs) hbl) .nil)
   rw [qvs_map] at m1
   simp (disch := omega) only [wt, seval, h8]
   refine callx_by (m1) (by simp only [tocvs, tocv, hH31]; rfl) (by simp) (by assumption) ?_
   rintro B2 E2 _ hB2 hE2 ⟨b2, bs2, rfl, hl2, hn2⟩
   simp (disch := omega) only [wt, seval, fq_spl, fq_take, ziX_fq, h9, hH9, hH31, h5, hH5]
   refine .inl ⟨tmps_by (by kernel_rfl), ?_⟩
   refine ⟨log_by (by kernel_rfl), ?_⟩
   refine opn_done [.iv (fqp b2 bs2 (cqs (sqq A (qv x)))), .agg (frq b c (crat (evq A (qv x)))), ci 0] (by rfl) (by simp (disch := omega) only [wt, seval, fq_take, ziX_fq, h5]) ?_
   intro E hE
   exact ⟨b2, bs2, b, c, rfl, hl2, (hnw.append hn2 (by omega) (by omega) (by omega)).mono (by omega) (by omega)⟩
theorem esplitx_bad (p : List RQ) (x : RQ) (hp : BQ (2 ^ 40) (2 ^ 38) p) (hx : SzQ (2 ^ 38) x) (h : gd p = false ∨ nv x.2 = 0) : ACX Tryz.prog 52 [cqw p, cqq x] (RSpl [] q0 1) := by
 refine ACX.by_walk ziX (rs := [.tmp 4, .cell 5 32, .tmp 6]) ords Tryz.func52 (by rfl) (by rfl) (by rfl) (by rfl) (by rfl) (ne_spl _ _ _) (fun B => ?_)
 simp (disch := omega) only [wt, seval, ziX_fq]
 cases hg : gd p with
 | false =>
  have n := qpnorm_bad p hp hg
  refine call_by (n) (by rfl) (by simp) ?_
  simp (disch := omega) only [wt, seval, rqs, fq_spl, ziX_fq]
  refine opn_nils 4 32 3 (by rfl) ?_
  refine opn_done [.iv (fqp none [] []), .agg (frq none none q0), ci 1] (by rfl) (by simp (disch := omega) only [wt, seval, fq_take, ziX_fq]; rfl) ?_
  intro E hE
  exact ⟨none, [], none, none, rfl, rfl, .nil _ _⟩
 | true =>
  have n := qpnorm_ok p (hp.gq hg)
  have o := qcheck_bad x ⟨Nat.le_trans hx.2.1 (by omega), hx.2.2⟩ (h.resolve_left (by rw [hg]; decide))
  refine call_by (n) (by rfl) (by simp) ?_
  simp (disch := omega) only [wt, seval, rqs, ziX_fq]
  refine call_by (o) (by rfl) (by simp) ?_
  simp (disch := omega) only [wt, seval, fq_spl, ziX_fq]
  refine opn_nils 4 32 3 (by rfl) ?_
  refine opn_done [.iv (fqp none [] []), .agg (frq none none q0), ci 1] (by rfl) (by simp (disch := omega) only [wt, seval, fq_take, ziX_fq]; rfl) ?_
  intro E hE
  exact ⟨none, [], none, none, rfl, rfl, .nil _ _⟩
abbrev fints (b : OB) (l : List Int) : IV := .own b 3 1 (ilims l)
def RInts (n : Nat) (B E : Nat) (res : List CV) : Prop := ∃ b l, res = [.iv (fints b l)] ∧ l.length = n ∧ Nw B E (oid b)
def RIntsE (n : Nat) (e : Int) (B E : Nat) (res : List CV) : Prop := ∃ b l, res = [.iv (fints b l), ci e] ∧ l.length = n ∧ Nw B E (oid b)
theorem ne_ints (n B : Nat) : ∃ E res, B ≤ E ∧ RInts n B E res := ⟨B, _, Nat.le_refl _, none, List.replicate n 0, rfl, by simp, .nil _ _⟩
theorem ne_intse (n : Nat) (e : Int) (B : Nat) : ∃ E res, B ≤ E ∧ RIntsE n e B E res := ⟨B, _, Nat.le_refl _, none, List.replicate n 0, rfl, by simp, .nil _ _⟩
theorem ilims_snc (l : List Int) (x : Int) : ilims l ++ [[.int .i64 x]] = ilims (l ++ [x]) := by simp [ilims]
theorem sfarsx_ok (ps : List (List RI)) (b : Bool) (hl : ps.length ≤ 1000) (h : ∀ p ∈ ps, RP 40 200 p) : ACX Tryz.prog 59 [.iv (.sl (polys ps)), cb b] (RInts ps.length) := by
 refine ACX.by_walk zi0 (rs := [.tmp 4]) ords Tryz.func59 (by rfl) (by rfl) (by rfl) (by rfl) (by rfl) (ne_ints _) (fun B0 => ?_)
 simp (disch := omega) only [wt, seval]
 refine aloop_nil 5 5 3 1 (by simp only [wt, seval]) (fun f H => ∃ (i st : Nat) (l : List Int), i ≤ ps.length ∧ l.length = i ∧ f 10 = .iv (.int .i64 i) ∧ f 8 = .iv (.sl (polys ps)) ∧ f 9 = .iv (.int .i64 ps.length) ∧ f 1 = .iv (.bool b) ∧ f 5 = .hs 5 st ∧ H 5 = .blk false st 3 1 (ilims l) ∧ H 999 = .mrk B0) (fun f H => (ps.length - intAt f 10).toNat) ?_ ?_
 ·refine ⟨0, 1, [], by omega, rfl, ?_⟩
  simp only [wt, seval, ghostF, ghostH]
  rfl
 rintro f H ⟨i, st, l, hi, hll, h10, h8, h9, h1, h5, hH, h999⟩
 rw [intAt_of h10]
 simp (disch := omega) only [wt, seval, h10, h9]
 refine if_by (fun hlt => ?_) (fun hlt => ?_)
 ·have hlt' : i < ps.length := by omega
  have hm : ps.getD i [] ∈ ps := by rw [List.getD, List.getElem?_eq_getElem hlt', Option.getD_some]; exact List.getElem_mem hlt'
  have z := esfar_ok (ps.getD i []) b ((h _ hm).mono (by omega) (by omega))
  have hg := polys_at hlt'
  generalize sfar (pv (ps.getD i [])) b = v at *
  simp (disch := omega) only [wt, seval, h10, h8, h1, h5, hg]
  refine call_by (z) (by rfl) (by simp) ?_
  simp (disch := omega) only [wt, seval, h10, h8, h9, h1, hH, h999]
  refine ⟨⟨i + 1, st + 1, l ++ [v], by omega, by simp [hll], by omega, rfl, by rw [ilims_snc]⟩, by omega⟩
 ·simp (disch := omega) only [wt, seval, h5]
  refine opn_by 4 5 _ 3 1 ((ilims l)) (by first | rfl | assumption | simp only [wt, seval, rqs, polys_len]) (by first | rfl | assumption | simp only [wt, seval, rqs, polys_len]) (by assumption) ?_
  rintro c E2 hE2 hc
  refine opn_done [.iv (fints c l)] (by rfl) (by simp (disch := omega) only [wt, seval]) ?_
  intro E hE
  exact ⟨c, l, rfl, by omega, Nw.oid fun g cap e => by have := hc.2 g cap e; omega⟩
theorem signsx_ok (ps : List (List RI)) (x : RQ) (hl : ps.length ≤ 1000) (h : ∀ p ∈ ps, RP 40 200 p) (hx : SzQ 200 x) (h0 : nv x.2 ≠ 0) : ACX Tryz.prog 57 [.iv (.sl (polys ps)), cqq x] (RIntsE ps.length 0) := by
 have ck := qcheck_good x ⟨Nat.le_trans hx.2.1 (by omega), hx.2.2⟩ h0
 refine ACX.by_walk zi0 (rs := [.tmp 4, .tmp 5]) ords Tryz.func57 (by rfl) (by rfl) (by rfl) (by rfl) (by rfl) (ne_intse _ _) (fun B0 => ?_)
 simp (disch := omega) only [wt, seval, rqs]
 refine call_by (ck) (by rfl) (by simp) ?_
 simp (disch := omega) only [wt, seval]
 refine aloop_nil 7 7 3 1 (by simp only [wt, seval]) (fun f H => ∃ (i st : Nat) (l : List Int), i ≤ ps.length ∧ l.length = i ∧ f 17 = .iv (.int .i64 i) ∧ f 15 = .iv (.sl (polys ps)) ∧ f 16 = .iv (.int .i64 ps.length) ∧ f 3 = .hp 3 1 0 0 ∧ H 3 = .blk false 1 32 3 [qrow x] ∧ f 7 = .hs 7 st ∧ H 7 = .blk false st 3 1 (ilims l) ∧ H 999 = .mrk B0) (fun f H => (ps.length - intAt f 17).toNat) ?_ ?_
 ·refine ⟨0, 1, [], by omega, rfl, ?_⟩
  simp only [wt, seval, ghostF, ghostH]
  rfl
 rintro f H ⟨i, st, l, hi, hll, h17, h15, h16, h3, hH3, h7, hH, h999⟩
 rw [intAt_of h17]
 simp (disch := omega) only [wt, seval, h17, h16]
 refine if_by (fun hlt => ?_) (fun hlt => ?_)
 ·have hlt' : i < ps.length := by omega
  have hm : ps.getD i [] ∈ ps := by rw [List.getD, List.getElem?_eq_getElem hlt', Option.getD_some]; exact List.getElem_mem hlt'
  have z := esign_ok (ps.getD i []) x ((h _ hm).mono (by omega) (by omega)) (hx.mono (by omega)) h0
  have hg := polys_at hlt'
  generalize sgq (evq (qp (pv (ps.getD i []))) (qv x)) = v at *
  simp (disch := omega) only [wt, seval, rqs, h17, h15, h3, hH3, h7, hg]
  refine call_by (z) (by rfl) (by simp) ?_
  simp (disch := omega) only [wt, seval, h17, h15, h16, h3, hH3, hH, h999]
  refine ⟨⟨i + 1, st + 1, l ++ [v], by omega, by simp [hll], by omega, rfl, by rw [ilims_snc]⟩, by omega⟩
 ·simp (disch := omega) only [wt, seval, h7]
  refine opn_by 4 7 _ 3 1 ((ilims l)) (by first | rfl | assumption | simp only [wt, seval, rqs, polys_len]) (by first | rfl | assumption | simp only [wt, seval, rqs, polys_len]) (by assumption) ?_
  rintro c E2 hE2 hc
  refine opn_done [.iv (fints c l), ci 0] (by rfl) (by simp (disch := omega) only [wt, seval]) ?_
  intro E hE
  exact ⟨c, l, rfl, by omega, Nw.oid fun g cap e => by have := hc.2 g cap e; omega⟩
theorem signsx_bad (ps : List (List RI)) (x : RQ) (hx : SzQ 200 x) (h0 : nv x.2 = 0) : ACX Tryz.prog 57 [.iv (.sl (polys ps)), cqq x] (RIntsE 0 1) := by
 have ck := qcheck_bad x ⟨Nat.le_trans hx.2.1 (by omega), hx.2.2⟩ h0
 refine ACX.by_walk zi0 (rs := [.tmp 4, .tmp 5]) ords Tryz.func57 (by rfl) (by rfl) (by rfl) (by rfl) (by rfl) (ne_intse _ _) (fun B0 => ?_)
 simp (disch := omega) only [wt, seval, rqs]
 refine call_by (ck) (by rfl) (by simp) ?_
 simp (disch := omega) only [wt, seval]
 refine opn_nils 4 3 1 (by rfl) ?_
 refine opn_done [.iv (fints none []), ci 1] (by rfl) (by simp (disch := omega) only [wt, seval]; rfl) ?_
 intro E hE
 exact ⟨none, [], rfl, rfl, .nil _ _⟩
end Go.Proofs.YtfmpegbdeppjbaaGreat

namespace Go.Proofs.YtfmpegbdeppjbaaGreat
open Go Go.Proofs Go.AL Go.RowKit
set_option linter.unusedSimpArgs false
set_option linter.unusedVariables false
abbrev Lw := List (List IV)
def LstC (H : AL.Hp) (x : AV) (h s e : Nat) (rows : Lw) : Prop := (rows = [] ∧ x = .nils) ∨ (x = .hs h s ∧ H h = .blk false s e 1 rows)
def BkC (ns qs is : Lw) (hn hq hi : Nat) (H : AL.Hp) : Prop := ∃ rn rq ri sn sq si, H 47 = .nst 1 88 [rn, .nils, rq, .nils, .nils, ri] ∧ LstC H rn hn sn 28 ns ∧ LstC H rq hq sq 23 qs ∧ LstC H ri hi si 102 is
def Bk0 (ns qs is : Lw) (H : AL.Hp) : Prop := BkC ns qs is 600002 600001 600003 H
def KeptB (H H' : AL.Hp) : Prop := ∀ k, k ≠ 47 → k ≠ 600001 → k ≠ 600002 → k ≠ 600003 → H' k = H k
def isL (k : Nat) : Prop := k = 47 ∨ k = 600001 ∨ k = 600002 ∨ k = 600003
def isK (H : AL.Hp) (k : Nat) : Prop := k = 47 ∨ ((k = 600001 ∨ k = 600002 ∨ k = 600003) ∧ ∃ st e sz rows, H k = .blk false st e sz rows)
theorem avreps_rel {w w' : World} {D D' : Nat → Prop} {H H' : AL.Hp} {β β' : Nat → Value} : ∀ {l l' : List AV} {us : List Value}, l'.length = l.length → (∀ (i : Nat) (x x' : AV), l[i]? = some x → l'[i]? = some x' → ∀ v, AVRep w D H β x v → AVRep w' D' H' β' x' v) → AVReps w D H β l us → AVReps w' D' H' β' l' us
 | [], [], [], _, _, _ => by simp [AVReps]
 | x :: l, x' :: l', u :: us, hl, h, k => by
  simp only [AVReps] at k ⊢
  exact ⟨h 0 x x' rfl rfl u k.1, avreps_rel (by simpa using hl) (fun i y y' hy hy' => h (i + 1) y y' (by simpa using hy) (by simpa using hy')) k.2⟩
 | [], [], _ :: _, _, _, k => by simp [AVReps] at k
 | _ :: _, _, [], _, _, k => by simp [AVReps] at k
 | [], _ :: _, _, hl, _, _ => by simp at hl
 | _ :: _, [], _, hl, _, _ => by simp at hl
theorem book_frame {g : Nat} {avs : List AV} {ns qs is ns' qs' is' : Lw}
  (havs : ∀ x ∈ avs, x = .hp 47 1 0 0 ∨ (∃ y, x = .iv y) ∨ ∃ l, x = .agg l)
  (hc : ∀ H0, Bk0 ns qs is H0 → ACI Tryz.prog g avs H0 (fun _ H1 => ∃ hn hq hi, (hn ≠ 47 ∧ hq ≠ 47 ∧ hi ≠ 47 ∧ hn ≠ hq ∧ hn ≠ hi ∧ hq ≠ hi) ∧ BkC ns' qs' is' hn hq hi H1)) (H : AL.Hp) (hB : Bk0 ns qs is H) : ACI Tryz.prog g avs H (fun _ H' => Bk0 ns' qs' is' H' ∧ KeptB H H') := by
 refine ⟨⟨.dead, fun k => if k = 47 then .nst 1 88 [.hs 600002 1, .nils, .hs 600001 1, .nils, .nils, .hs 600003 1] else if k = 600001 then .blk false 1 23 1 qs' else if k = 600002 then .blk false 1 28 1 ns' else if k = 600003 then .blk false 1 102 1 is' else H k,
  ⟨_, _, _, 1, 1, 1, by simp, .inr ⟨rfl, by simp⟩, .inr ⟨rfl, by simp⟩, .inr ⟨rfl, by simp⟩⟩, fun k a b c d => by simp [a, b, c, d]⟩, ?_⟩
 intro G M w0 D0 N f β a w vs R hv
 haveI : ∀ k, Decidable (isK H k) := fun k => Classical.propDecidable _
 obtain ⟨H0, hH0⟩ : ∃ H0 : AL.Hp, H0 = fun k => if isK H k then H k else .none := ⟨_, rfl⟩
 have hK : ∀ k, isK H k → H0 k = H k := fun k hk => by rw [hH0]; simp [hk]
 have hnK : ∀ k, ¬ isK H k → H0 k = .none := fun k hk => by rw [hH0]; simp [hk]
 have b47 := hB
 obtain ⟨rn, rq, ri, sn, sq, si, hb, ln, lq, li⟩ := b47
 have hB0 : Bk0 ns qs is H0 := ⟨rn, rq, ri, sn, sq, si, by rw [hK 47 (.inl rfl)]; exact hb, ln.imp id fun h => ⟨h.1, by rw [hK _ (.inr ⟨.inr (.inl rfl), _, _, _, _, h.2⟩)]; exact h.2⟩, lq.imp id fun h => ⟨h.1, by rw [hK _ (.inr ⟨.inl rfl, _, _, _, _, h.2⟩)]; exact h.2⟩, li.imp id fun h => ⟨h.1, by rw [hK _ (.inr ⟨.inr (.inr rfl), _, _, _, _, h.2⟩)]; exact h.2⟩⟩
 obtain ⟨M1, hM1⟩ : ∃ M1 : Nat → Prop, M1 = fun b => ∃ k, isK H k ∧ (H k).isMut ∧ headOf (β k) = some b := ⟨_, rfl⟩
 obtain ⟨X, hX⟩ : ∃ X : Nat → Prop, X = fun b => D0 b ∨ ∃ k, ¬ isK H k ∧ (H k).isMut ∧ headOf (β k) = some b := ⟨_, rfl⟩
 have hXD : ∀ b, DD H0 β X b ↔ DD H β D0 b := fun b => by
  rw [hX]
  constructor
  ·rintro ((h | ⟨k, _, hm, hk⟩) | ⟨k, hm, hk⟩)
   ·exact .inl h
   ·exact .inr ⟨k, hm, hk⟩
   ·by_cases e : isK H k
    ·rw [hK k e] at hm; exact .inr ⟨k, hm, hk⟩
    ·rw [hnK k e] at hm; exact hm.elim
  ·rintro (h | ⟨k, hm, hk⟩)
   ·exact .inl (.inl h)
   ·by_cases e : isK H k
    ·exact .inr ⟨k, by rw [hK k e]; exact hm, hk⟩
    ·exact .inl (.inr ⟨k, e, hm, hk⟩)
 have gs : Grows w (DD H β D0) w (DD H0 β X) := Grows.of_sub fun b => (hXD b).1
 have c0 : ∀ k c, H0 k = c → c ≠ .none → isK H k ∧ H k = c := fun k c hc hne => by
  by_cases e : isK H k
  ·exact ⟨e, by rw [← hK k e]; exact hc⟩
  ·rw [hnK k e] at hc; exact (hne hc.symm).elim
 have rowsK : ∀ x ∈ [rn, AV.nils, rq, AV.nils, AV.nils, ri], x = .nils ∨ ∃ h s, isK H h ∧ x = .hs h s := fun x hx => by
  simp only [List.mem_cons, List.not_mem_nil, or_false] at hx
  rcases hx with rfl | rfl | rfl | rfl | rfl | rfl
  ·exact ln.elim (fun h => .inl h.2) fun h => .inr ⟨_, _, .inr ⟨.inr (.inl rfl), _, _, _, _, h.2⟩, h.1⟩
  ·exact .inl rfl
  ·exact lq.elim (fun h => .inl h.2) fun h => .inr ⟨_, _, .inr ⟨.inl rfl, _, _, _, _, h.2⟩, h.1⟩
  ·exact .inl rfl
  ·exact .inl rfl
  ·exact li.elim (fun h => .inl h.2) fun h => .inr ⟨_, _, .inr ⟨.inr (.inr rfl), _, _, _, _, h.2⟩, h.1⟩
 have tr : ∀ (l : List AV) (us : List Value), (∀ x ∈ l, x = .nils ∨ ∃ h s, isK H h ∧ x = .hs h s) → AVReps w (DD H β D0) H β l us → AVReps w (DD H0 β X) H0 β l us := fun l => by
  induction l with
  | nil => intro us _ h; cases us <;> simp [AVReps] at h ⊢
  | cons x l ih =>
   intro us hm h
   cases us with
   | nil => simp [AVReps] at h
   | cons u us =>
    simp only [AVReps] at h ⊢
    refine ⟨?_, ih us (fun y hy => hm y (by simp [hy])) h.2⟩
    rcases hm x (by simp) with rfl | ⟨k, s, hk, rfl⟩
    ·exact h.1
    ·have := h.1
     simp only [AVRep] at this ⊢
     rw [hK k hk]; exact this
 -- the callee's own beginning
 have R0 : Rel ⟨fun _ _ => False, true⟩ M1 w X 1 (fun t => if t = 0 then .hs 47 1 else .dead) H0 β { a with tmps := #[β 47], defers := [] } w := by
  refine rel_start rfl rfl (fun b hb => ?_) (fun t => ?_) (fun k st e sz rows hh => ?_) (fun k st e sz rows hh => ?_) (fun k k' hne hm hm' gg hg => ?_) (fun k st e rows hh => ?_) (fun k B hh => ?_) (fun k x v hh => ?_)
  ·rw [hX] at hb
   rw [hM1]
   rcases hb with hb | ⟨k, hk, hm, hh⟩
   ·refine ⟨Nat.lt_of_lt_of_le (R.old b hb).1 R.size, ?_⟩
    rintro ⟨k, hk, hm, hh⟩
    rcases (R.mut_lt hm hh).2 with h | h
    ·have := (R.old b hb).1; omega
    ·exact (R.old b hb).2 h
   ·refine ⟨(R.mut_lt hm hh).1, ?_⟩
    rintro ⟨k', hk', hm', hh'⟩
    exact R.dis k k' (fun e => hk (by rw [e]; exact hk')) hm hm' b hh hh'
  ·by_cases e : t = 0
   ·subst e
    simp only [if_pos, AVRep]
    rw [hK 47 (.inl rfl), hb]
    exact ⟨Nat.le_refl _, fun _ => rfl⟩
   ·simp only [if_neg e, AVRep]
  ·obtain ⟨hk, hh⟩ := c0 k _ hh (by simp)
   have := (R.own k _ _ _ _ hh).mono gs fun _ _ => rfl
   refine ⟨this.1, this.2.imp id ?_⟩
   rintro ⟨gb, cap, cur, hv, _, rest⟩
   exact ⟨gb, cap, cur, hv, .inr (by rw [hM1]; exact ⟨k, hk, by rw [hh]; trivial, by rw [hv]; rfl⟩), rest⟩
  ·obtain ⟨hk, hh⟩ := c0 k _ hh (by simp)
   rcases hk with rfl | ⟨-, st', e', sz', rows', hk⟩
   ·rw [hb] at hh; cases hh
   ·rw [hk] at hh; cases hh
  ·by_cases e : isK H k
   ·by_cases e' : isK H k'
    ·rw [hK k e] at hm; rw [hK k' e'] at hm'
     exact R.dis k k' hne hm hm' gg hg
    ·rw [hnK k' e'] at hm'; exact hm'.elim
   ·rw [hnK k e] at hm; exact hm.elim
  ·obtain ⟨hk, hh⟩ := c0 k _ hh (by simp)
   rcases hk with rfl | ⟨-, st', e', sz', rows', hk⟩
   ·have hn := R.nst 47 _ _ _ hb
    rw [hb] at hh
    injection hh with q1 q2 q3
    subst q1 q2 q3
    rcases hn with hn | ⟨gb, cap, cur, hv, _, q1, q2, q3, q4, q5, q6⟩
    ·simp at hn
    ·exact .inr ⟨gb, cap, cur, hv, .inr (by rw [hM1]; exact ⟨47, .inl rfl, by rw [hb]; trivial, by rw [hv]; rfl⟩), q1, q2, q3, q4, tr _ _ rowsK q5, q6⟩
   ·rw [hk] at hh; cases hh
  ·obtain ⟨hk, hh⟩ := c0 k _ hh (by simp)
   exact R.mrk k B hh
  ·obtain ⟨hk, hh⟩ := c0 k _ hh (by simp)
   rcases hk with rfl | ⟨-, st', e', sz', rows', hk⟩
   ·rw [hb] at hh; cases hh
   ·rw [hk] at hh; cases hh
 obtain ⟨-, hcall⟩ := hc H0 hB0
 have hv0 : AVAll w (DD H0 β X) H0 β avs vs := by
  clear hcall hc
  induction hv with
  | nil => exact .nil
  | @cons x v xs us hx _ ih =>
   refine .cons ?_ (ih fun y hy => havs y (by simp [hy]))
   rcases havs x (by simp) with rfl | ⟨y, rfl⟩ | ⟨l, rfl⟩
   ·simp only [AVRep] at hx ⊢
    rw [hK 47 (.inl rfl)]; exact hx
   ·simp only [AVRep] at hx ⊢
    exact hx.mono gs
   ·simp only [AVRep] at hx ⊢
    obtain ⟨cs, e, hr⟩ := hx
    exact ⟨cs, e, hr.mono gs⟩
 refine CallsR.mono (hcall _ _ _ _ _ _ _ _ _ _ R0 hv0) ?_
 rintro v w' ⟨x, H1, β1, hZ, R1, hx⟩
 obtain ⟨hn, hq, hi, ⟨h1, h2, h3, h4, h5, h6⟩, rn1, rq1, ri1, sn1, sq1, si1, hb1, ln1, lq1, li1⟩ := hZ
 have e47 : β1 47 = β 47 := by
  have := R1.tmps 0
  simp only [if_pos, AVRep] at this
  have h := this.2 (by rw [hb1]; rfl)
  exact h.symm
 obtain ⟨src, hsrc⟩ : ∃ src : Nat → Nat, src = fun k => if k = 47 then 47 else if k = 600002 then hn else if k = 600001 then hq else hi := ⟨_, rfl⟩
 obtain ⟨β', hβ'⟩ : ∃ β' : Nat → Value, β' = fun k => if k = 600002 then β1 hn else if k = 600001 then β1 hq else if k = 600003 then β1 hi else β k := ⟨_, rfl⟩
 obtain ⟨slot, hslot⟩ : ∃ slot : AV → Nat → Nat → Lw → HC, slot = fun x s e rows => match x with | .nils => .gone s 1 | _ => .blk false s e 1 rows := ⟨_, rfl⟩
 obtain ⟨ren, hren⟩ : ∃ ren : AV → Nat → Nat → AV, ren = fun x h s => match x with | .nils => .nils | _ => .hs h s := ⟨_, rfl⟩
 obtain ⟨H', hH'⟩ : ∃ H' : AL.Hp, H' = fun k => if k = 47 then .nst 1 88 [ren rn1 600002 ((H 600002).stamp + 1), .nils, ren rq1 600001 ((H 600001).stamp + 1), .nils, .nils, ren ri1 600003 ((H 600003).stamp + 1)] else if k = 600002 then slot rn1 ((H k).stamp + 1) 28 ns' else if k = 600001 then slot rq1 ((H k).stamp + 1) 23 qs' else if k = 600003 then slot ri1 ((H k).stamp + 1) 102 is' else H k := ⟨_, rfl⟩
 have o47 : H' 47 = .nst 1 88 [ren rn1 600002 ((H 600002).stamp + 1), .nils, ren rq1 600001 ((H 600001).stamp + 1), .nils, .nils, ren ri1 600003 ((H 600003).stamp + 1)] := by rw [hH']; simp
 have o1 : H' 600001 = slot rq1 ((H 600001).stamp + 1) 23 qs' := by rw [hH']; simp
 have o2 : H' 600002 = slot rn1 ((H 600002).stamp + 1) 28 ns' := by rw [hH']; simp
 have o3 : H' 600003 = slot ri1 ((H 600003).stamp + 1) 102 is' := by rw [hH']; simp
 have oo : ∀ k, ¬ isL k → H' k = H k ∧ β' k = β k := fun k hk => by
  unfold isL at hk
  simp only [not_or] at hk
  rw [hH', hβ']
  simp [hk.1, hk.2.1, hk.2.2.1, hk.2.2.2]
 have b47 : β' 47 = β 47 := by rw [hβ']; simp
 have b1 : β' 600001 = β1 hq := by rw [hβ']; simp
 have b2 : β' 600002 = β1 hn := by rw [hβ']; simp
 have b3 : β' 600003 = β1 hi := by rw [hβ']; simp
 have sl : ∀ (x1 : AV) (h s e s' : Nat) (rows : Lw), LstC H1 x1 h s e rows → (rows = [] ∧ x1 = .nils ∧ slot x1 s' e rows = .gone s' 1) ∨ (x1 = .hs h s ∧ H1 h = .blk false s e 1 rows ∧ slot x1 s' e rows = .blk false s' e 1 rows) := fun x1 h s e s' rows c => by
  rcases c with ⟨hr, rfl⟩ | ⟨rfl, hh⟩
  ·exact .inl ⟨hr, rfl, by rw [hslot]⟩
  ·exact .inr ⟨rfl, hh, by rw [hslot]⟩
 have sn' := sl _ _ _ _ ((H 600002).stamp + 1) _ ln1
 have sq' := sl _ _ _ _ ((H 600001).stamp + 1) _ lq1
 have si' := sl _ _ _ _ ((H 600003).stamp + 1) _ li1
 have rnil : ∀ h s, ren .nils h s = .nils := fun h s => by rw [hren]
 have rhs : ∀ h s h' s', ren (.hs h s) h' s' = .hs h' s' := fun h s h' s' => by rw [hren]
 have KL : ∀ k, isK H k → isL k := fun k hk => by
  rcases hk with h | ⟨h | h | h, _⟩
  ·exact .inl h
  ·exact .inr (.inl h)
  ·exact .inr (.inr (.inl h))
  ·exact .inr (.inr (.inr h))
 have sr47 : src 47 = 47 := by rw [hsrc]; simp
 have sr1 : src 600001 = hq := by rw [hsrc]; simp
 have sr2 : src 600002 = hn := by rw [hsrc]; simp
 have sr3 : src 600003 = hi := by rw [hsrc]; simp
 have mutL : ∀ k, isL k → (H' k).isMut → (H1 (src k)).isMut ∧ β' k = β1 (src k) := fun k hk hm => by
  rcases hk with rfl | rfl | rfl | rfl
  ·rw [sr47, hb1]; exact ⟨trivial, by rw [b47, e47]⟩
  ·rw [sr1]
   rcases sq' with ⟨_, _, e⟩ | ⟨_, e, _⟩
   ·rw [o1, e] at hm; exact hm.elim
   ·rw [e]; exact ⟨trivial, b1⟩
  ·rw [sr2]
   rcases sn' with ⟨_, _, e⟩ | ⟨_, e, _⟩
   ·rw [o2, e] at hm; exact hm.elim
   ·rw [e]; exact ⟨trivial, b2⟩
  ·rw [sr3]
   rcases si' with ⟨_, _, e⟩ | ⟨_, e, _⟩
   ·rw [o3, e] at hm; exact hm.elim
   ·rw [e]; exact ⟨trivial, b3⟩
 have inj : ∀ k k', isL k → isL k' → k ≠ k' → src k ≠ src k' := fun k k' hk hk' hne => by
  rcases hk with rfl | rfl | rfl | rfl <;> rcases hk' with rfl | rfl | rfl | rfl <;> simp only [sr47, sr1, sr2, sr3] <;> first | exact (hne rfl).elim | exact h1 | exact h2 | exact h3 | exact h4 | exact h5 | exact h6 | exact Ne.symm h1 | exact Ne.symm h2 | exact Ne.symm h3 | exact Ne.symm h4 | exact Ne.symm h5 | exact Ne.symm h6
 have MD : ∀ b, M1 b → DD H β D0 b ∧ b < w.heap.size ∧ (w0.heap.size ≤ b ∨ M b) := fun b hb => by
  rw [hM1] at hb
  obtain ⟨k, _, hm, hh⟩ := hb
  exact ⟨.inr ⟨k, hm, hh⟩, (R.mut_lt hm hh).1, (R.mut_lt hm hh).2⟩
 have ownB : ∀ b, w.heap.size ≤ b ∨ M1 b → w0.heap.size ≤ b ∨ M b := fun b h => h.elim (fun h => .inl (Nat.le_trans R.size h)) fun h => (MD b h).2.2
 have hd1 : ∀ b, DD H' β' D0 b → DD H1 β1 X b := by
  rintro b (h | ⟨k, hm, hk⟩)
  ·exact .inl (by rw [hX]; exact .inl h)
  ·by_cases e : isL k
   ·obtain ⟨m, e'⟩ := mutL k e hm
    exact .inr ⟨src k, m, by rw [← e']; exact hk⟩
   ·rw [(oo k e).1] at hm
    rw [(oo k e).2] at hk
    exact .inl (by rw [hX]; exact .inr ⟨k, fun h => e (KL k h), hm, hk⟩)
 have g : Grows w (DD H β D0) w' (DD H' β' D0) := by
  refine ⟨R1.size, fun b hb h => ?_, fun b hb h _ => R1.keep b hb fun m => h (MD b m).1⟩
  rcases hd1 b h with h | ⟨u, hm, hk⟩
  ·rw [hX] at h
   rcases h with h | ⟨k, _, hm, hk⟩
   ·exact .inl h
   ·exact .inr ⟨k, hm, hk⟩
  ·rcases (R1.mut_lt hm hk).2 with h | h
   ·omega
   ·exact (MD b h).1
 have gl : Grows w' (DD H1 β1 X) w' (DD H' β' D0) := Grows.of_sub hd1
 have stS : ∀ x1 h s e s' rows, LstC H1 x1 h s e rows → (slot x1 s' e rows).stamp = s' := fun x1 h s e s' rows c => by
  rcases sl x1 h s e s' rows c with ⟨_, _, e⟩ | ⟨_, _, e⟩ <;> rw [e] <;> rfl
 have hs : HStep H β H' β' := fun k => by
  by_cases e : isL k
  ·rcases e with rfl | rfl | rfl | rfl
   ·left; rw [o47, hb]; exact ⟨rfl, rfl, b47⟩
   ·right; rw [o1, stS _ _ _ _ _ _ lq1]; omega
   ·right; rw [o2, stS _ _ _ _ _ _ ln1]; omega
   ·right; rw [o3, stS _ _ _ _ _ _ li1]; omega
  ·left; rw [(oo k e).1, (oo k e).2]; exact ⟨rfl, rfl, rfl⟩
 have keepO : ∀ k b, ¬ isL k → (H k).isMut → headOf (β k) = some b → ¬ M1 b ∧ w'.heap[b]? = w.heap[b]? := fun k b hk hm hh => by
  have nm : ¬ M1 b := fun m => by
   rw [hM1] at m
   obtain ⟨k', hk', hm', hh'⟩ := m
   exact R.dis k k' (fun e => hk (KL k (by rw [e]; exact hk'))) hm hm' b hh hh'
  exact ⟨nm, R1.keep b (R.mut_lt hm hh).1 nm⟩
 have cell : ∀ (x1 : AV) (h s e h' s' : Nat) (rows : Lw), LstC H1 x1 h s e rows → H' h' = slot x1 s' e rows → β' h' = β1 h → ∀ v, AVRep w' (DD H1 β1 X) H1 β1 x1 v → AVRep w' (DD H' β' D0) H' β' (ren x1 h' s') v := fun x1 h s e h' s' rows c ho hbe v hv => by
  rcases sl x1 h s e s' rows c with ⟨_, e1, e2⟩ | ⟨e1, e2, e3⟩
  ·rw [e1, rnil]; rw [e1] at hv; simpa only [AVRep] using hv
  ·rw [e1, rhs]; rw [e1] at hv
   simp only [AVRep] at hv ⊢
   rw [ho, e3, hbe]
   exact ⟨Nat.le_refl _, fun _ => hv.2 (by rw [e2]; rfl)⟩
 refine ⟨.dead, H', β', ⟨⟨_, _, _, (H 600002).stamp + 1, (H 600001).stamp + 1, (H 600003).stamp + 1, o47, ?_, ?_, ?_⟩, fun k a b c d => (oo k (by unfold isL; simp [a, b, c, d])).1⟩, ?_, by simp [AVRep]⟩
 ·rcases sn' with ⟨hr, e1, _⟩ | ⟨e1, _, e3⟩
  ·exact .inl ⟨hr, by rw [e1, rnil]⟩
  ·exact .inr ⟨by rw [e1, rhs], by rw [o2, e3]⟩
 ·rcases sq' with ⟨hr, e1, _⟩ | ⟨e1, _, e3⟩
  ·exact .inl ⟨hr, by rw [e1, rnil]⟩
  ·exact .inr ⟨by rw [e1, rhs], by rw [o1, e3]⟩
 ·rcases si' with ⟨hr, e1, _⟩ | ⟨e1, _, e3⟩
  ·exact .inl ⟨hr, by rw [e1, rnil]⟩
  ·exact .inr ⟨by rw [e1, rhs], by rw [o3, e3]⟩
 refine ⟨R1.os.trans R.os, R1.tape.trans R.tape, R1.output.trans R.output, Nat.le_trans R.size R1.size, fun k hk hm => ?_, R.old, R.tsize, fun d hd => ?_, R.rnd, R.ndup, fun x v h => AVRep.mono g hs _ _ (R.gh x v h), fun t => AVRep.mono g hs _ _ (R.tmps t), fun k st e sz rows hh => ?_, fun k st e sz rows hh => ?_, fun k k' hne hm hm' gg hg hg' => ?_, fun k st e rows hh => ?_, fun k B hh => ?_, fun k x v hh => ?_⟩
 ·have hlt : k < w.heap.size := Nat.lt_of_lt_of_le hk R.size
  rw [R1.keep k hlt fun m => ((MD k m).2.2).elim (fun h => by omega) hm]
  exact R.keep k hk hm
 ·obtain ⟨k, e1, e2, e3⟩ := R.defers d hd
  have hlt : k < w.heap.size := (Array.getElem?_eq_some_iff.1 e3).1
  refine ⟨k, e1, e2, ?_⟩
  rw [R1.keep k hlt fun m => ?_]
  ·exact e3
  ·rw [hM1] at m
   obtain ⟨k', _, hm', hh'⟩ := m
   obtain ⟨cur, ee, hc⟩ := R.mut_cells hm' hh'
   rw [hc] at e3; cases e3
 ·by_cases e' : isL k
  ·obtain ⟨m, eb⟩ := mutL k e' (by rw [hh]; trivial)
   have fin : ∀ h s, H1 h = .blk false s e sz rows → β' k = β1 h → AL.Own w' (DD H' β' D0) w0.heap.size M (β' k) e sz rows := fun h s ho hb' => by
    have := (R1.own h _ _ _ _ ho).mono gl fun _ _ => rfl
    rw [hb']
    refine ⟨this.1, this.2.imp id ?_⟩
    rintro ⟨gb, cap, cur, hv, hB', rest⟩
    exact ⟨gb, cap, cur, hv, ownB gb hB', rest⟩
   rcases e' with rfl | rfl | rfl | rfl
   ·rw [o47] at hh; cases hh
   ·rcases sq' with ⟨_, _, e2⟩ | ⟨_, e2, e3⟩
    ·rw [o1, e2] at hh; cases hh
    ·rw [o1, e3] at hh; injection hh with _ q1 q2 q3 q4; subst q1 q2 q3 q4; exact fin hq _ e2 b1
   ·rcases sn' with ⟨_, _, e2⟩ | ⟨_, e2, e3⟩
    ·rw [o2, e2] at hh; cases hh
    ·rw [o2, e3] at hh; injection hh with _ q1 q2 q3 q4; subst q1 q2 q3 q4; exact fin hn _ e2 b2
   ·rcases si' with ⟨_, _, e2⟩ | ⟨_, e2, e3⟩
    ·rw [o3, e2] at hh; cases hh
    ·rw [o3, e3] at hh; injection hh with _ q1 q2 q3 q4; subst q1 q2 q3 q4; exact fin hi _ e2 b3
  ·rw [(oo k e').1] at hh
   rw [(oo k e').2]
   exact (R.own k _ _ _ _ hh).mono g fun b hb' => (keepO k b e' (by rw [hh]; trivial) hb').2
 ·by_cases e' : isL k
  ·rcases e' with rfl | rfl | rfl | rfl
   ·rw [o47] at hh; cases hh
   ·rcases sq' with ⟨_, _, e2⟩ | ⟨_, _, e2⟩ <;> (rw [o1, e2] at hh; cases hh)
   ·rcases sn' with ⟨_, _, e2⟩ | ⟨_, _, e2⟩ <;> (rw [o2, e2] at hh; cases hh)
   ·rcases si' with ⟨_, _, e2⟩ | ⟨_, _, e2⟩ <;> (rw [o3, e2] at hh; cases hh)
  ·rw [(oo k e').1] at hh
   rw [(oo k e').2]
   have := R.frz k _ _ _ _ hh
   exact ⟨this.1, this.2.1.mono g, this.2.2⟩
 ·by_cases e1 : isL k
  ·obtain ⟨m1, f1⟩ := mutL k e1 hm
   rw [f1] at hg
   by_cases e2 : isL k'
   ·obtain ⟨m2, f2⟩ := mutL k' e2 hm'
    rw [f2] at hg'
    exact R1.dis _ _ (inj k k' e1 e2 hne) m1 m2 gg hg hg'
   ·rw [(oo k' e2).1] at hm'
    rw [(oo k' e2).2] at hg'
    rcases (R1.mut_lt m1 hg).2 with h | h
    ·have := (R.mut_lt hm' hg').1; omega
    ·exact (keepO k' gg e2 hm' hg').1 h
  ·rw [(oo k e1).1] at hm
   rw [(oo k e1).2] at hg
   by_cases e2 : isL k'
   ·obtain ⟨m2, f2⟩ := mutL k' e2 hm'
    rw [f2] at hg'
    rcases (R1.mut_lt m2 hg').2 with h | h
    ·have := (R.mut_lt hm hg).1; omega
    ·exact (keepO k gg e1 hm hg).1 h
   ·rw [(oo k' e2).1] at hm'
    rw [(oo k' e2).2] at hg'
    exact R.dis k k' hne hm hm' gg hg hg'
 ·by_cases e' : isL k
  ·rcases e' with rfl | rfl | rfl | rfl
   ·rw [o47] at hh
    injection hh with q1 q2 q3
    subst q1 q2 q3
    rcases R1.nst 47 _ _ _ hb1 with hn' | ⟨gb, cap, cur, hv, hB', p1, p2, p3, p4, p5, p6⟩
    ·simp at hn'
    ·refine .inr ⟨gb, cap, cur, by rw [b47, ← e47]; exact hv, ownB gb hB', p1, p2, p3, p4, avreps_rel (l := [rn1, .nils, rq1, .nils, .nils, ri1]) (by rfl) (fun i x x' hx hx' v hv => ?_) p5, p6⟩
     match i with
     | 0 => cases hx; cases hx'; exact cell _ _ _ _ _ _ _ ln1 o2 b2 v hv
     | 1 => cases hx; cases hx'; simpa only [AVRep] using hv
     | 2 => cases hx; cases hx'; exact cell _ _ _ _ _ _ _ lq1 o1 b1 v hv
     | 3 => cases hx; cases hx'; simpa only [AVRep] using hv
     | 4 => cases hx; cases hx'; simpa only [AVRep] using hv
     | 5 => cases hx; cases hx'; exact cell _ _ _ _ _ _ _ li1 o3 b3 v hv
     | i + 6 => simp at hx
   ·rcases sq' with ⟨_, _, e2⟩ | ⟨_, _, e2⟩ <;> (rw [o1, e2] at hh; cases hh)
   ·rcases sn' with ⟨_, _, e2⟩ | ⟨_, _, e2⟩ <;> (rw [o2, e2] at hh; cases hh)
   ·rcases si' with ⟨_, _, e2⟩ | ⟨_, _, e2⟩ <;> (rw [o3, e2] at hh; cases hh)
  ·rw [(oo k e').1] at hh
   rw [(oo k e').2]
   exact (R.nst k _ _ _ hh).mono g hs fun b hb' => (keepO k b e' (by rw [hh]; trivial) hb').2
 ·by_cases e' : isL k
  ·rcases e' with rfl | rfl | rfl | rfl
   ·rw [o47] at hh; cases hh
   ·rcases sq' with ⟨_, _, e2⟩ | ⟨_, _, e2⟩ <;> (rw [o1, e2] at hh; cases hh)
   ·rcases sn' with ⟨_, _, e2⟩ | ⟨_, _, e2⟩ <;> (rw [o2, e2] at hh; cases hh)
   ·rcases si' with ⟨_, _, e2⟩ | ⟨_, _, e2⟩ <;> (rw [o3, e2] at hh; cases hh)
  ·rw [(oo k e').1] at hh
   exact Nat.le_trans (R.mrk k B hh) R1.size
 ·by_cases e' : isL k
  ·rcases e' with rfl | rfl | rfl | rfl
   ·rw [o47] at hh; cases hh
   ·rcases sq' with ⟨_, _, e2⟩ | ⟨_, _, e2⟩ <;> (rw [o1, e2] at hh; cases hh)
   ·rcases sn' with ⟨_, _, e2⟩ | ⟨_, _, e2⟩ <;> (rw [o2, e2] at hh; cases hh)
   ·rcases si' with ⟨_, _, e2⟩ | ⟨_, _, e2⟩ <;> (rw [o3, e2] at hh; cases hh)
  ·rw [(oo k e').1] at hh
   exact AVRep.mono g hs _ _ (R.tie k x v hh)
end Go.Proofs.YtfmpegbdeppjbaaGreat

namespace Go.Proofs.YtfmpegbdeppjbaaGreat
open Go Go.Proofs Go.AL
set_option linter.unusedSimpArgs false
set_option linter.unusedVariables false
theorem bk_ex (ns qs is : Lw) (H : AL.Hp) : ∃ H' : AL.Hp, ∃ hn hq hi, (hn ≠ 47 ∧ hq ≠ 47 ∧ hi ≠ 47 ∧ hn ≠ hq ∧ hn ≠ hi ∧ hq ≠ hi) ∧ BkC ns qs is hn hq hi H' :=
 ⟨fun k => if k = 47 then .nst 1 88 [.hs 1 1, .nils, .hs 2 1, .nils, .nils, .hs 3 1] else if k = 1 then .blk false 1 28 1 ns else if k = 2 then .blk false 1 23 1 qs else .blk false 1 102 1 is,
  1, 2, 3, by decide, _, _, _, 1, 1, 1, by simp, .inr ⟨rfl, by simp⟩, .inr ⟨rfl, by simp⟩, .inr ⟨rfl, by simp⟩⟩
theorem LstC.upd {H : AL.Hp} {x : AV} {h s e : Nat} {rows : Lw} (c : LstC H x h s e rows) {k : Nat} (hk : h ≠ k) (v : HC) : LstC (updH H k v) x h s e rows :=
 c.imp id fun h' => ⟨h'.1, by rw [updH_ne _ _ hk]; exact h'.2⟩
theorem bqnat_ok (ns qs is : Lw) (b : OB) (l : List Nat) (hl : ns.length ≤ 100000) (H : AL.Hp) (hB : Bk0 ns qs is H) : ACI Tryz.prog 117 [.hp 47 1 0 0, .iv (fnat b l)] H (fun _ H' => Bk0 (ns ++ [[fnat b l]]) qs is H' ∧ KeptB H H') := by
 refine book_frame (by simp) (fun H0 hB0 => ?_) H hB
 refine ACI.by_walk zi0 (rs := []) ords Tryz.func117 (by rfl) (by rfl) (by rfl) (by rfl) (by rfl) (by rfl) ?_ ?_
 ·obtain ⟨H', h⟩ := bk_ex (ns ++ [[fnat b l]]) qs is H0
  exact ⟨.dead, H', h⟩
 obtain ⟨rn, rq, ri, sn, sq, si, h47, hN, hQ, hI⟩ := hB0
 rcases hN with ⟨rfl, rfl⟩ | ⟨rfl, h11⟩
 ·simp (disch := omega) only [wt, seval, h47]
  refine reti_none ⟨11, 600001, 600003, by decide, _, rq, ri, _, sq, si, updH_same _ _ _, .inr ⟨rfl, ?_⟩, ?_, ?_⟩
  ·rw [updH_ne _ _ (by omega), updH_same]; try rfl
  ·exact ((hQ.upd (by omega) _).upd (by omega) _).upd (by omega) _
  ·exact ((hI.upd (by omega) _).upd (by omega) _).upd (by omega) _
 ·simp (disch := omega) only [wt, seval, h47, h11]
  refine reti_none ⟨600002, 600001, 600003, by decide, _, rq, ri, _, sq, si, updH_same _ _ _, .inr ⟨rfl, ?_⟩, ?_, ?_⟩
  ·rw [updH_ne _ _ (by omega), updH_same]
  ·exact ((hQ.upd (by omega) _).upd (by omega) _).upd (by omega) _
  ·exact ((hI.upd (by omega) _).upd (by omega) _).upd (by omega) _
theorem bqints_ok (ns qs is : Lw) (b : OB) (l : List Int) (hl : is.length ≤ 100000) (H : AL.Hp) (hB : Bk0 ns qs is H) : ACI Tryz.prog 58 [.hp 47 1 0 0, .iv (fints b l)] H (fun _ H' => Bk0 ns qs (is ++ [[fints b l]]) H' ∧ KeptB H H') := by
 refine book_frame (by simp) (fun H0 hB0 => ?_) H hB
 refine ACI.by_walk zi0 (rs := []) ords Tryz.func58 (by rfl) (by rfl) (by rfl) (by rfl) (by rfl) (by rfl) ?_ ?_
 ·obtain ⟨H', h⟩ := bk_ex ns qs (is ++ [[fints b l]]) H0
  exact ⟨.dead, H', h⟩
 obtain ⟨rn, rq, ri, sn, sq, si, h47, hN, hQ, hI⟩ := hB0
 rcases hI with ⟨rfl, rfl⟩ | ⟨rfl, h11⟩
 ·simp (disch := omega) only [wt, seval, List.set_cons_succ, h47]
  refine reti_none ⟨600002, 600001, 11, by decide, rn, rq, _, sn, sq, _, updH_same _ _ _, ?_, ?_, .inr ⟨rfl, ?_⟩⟩
  ·exact ((hN.upd (by omega) _).upd (by omega) _).upd (by omega) _
  ·exact ((hQ.upd (by omega) _).upd (by omega) _).upd (by omega) _
  ·rw [updH_ne _ _ (by omega), updH_same]; try rfl
 ·simp (disch := omega) only [wt, seval, List.set_cons_succ, h47, h11]
  refine reti_none ⟨600002, 600001, 600003, by decide, rn, rq, _, sn, sq, _, updH_same _ _ _, ?_, ?_, .inr ⟨rfl, ?_⟩⟩
  ·exact ((hN.upd (by omega) _).upd (by omega) _).upd (by omega) _
  ·exact ((hQ.upd (by omega) _).upd (by omega) _).upd (by omega) _
  ·rw [updH_ne _ _ (by omega), updH_same]
theorem KeptB.trans {H H1 H2 : AL.Hp} (h : KeptB H H1) (h' : KeptB H1 H2) : KeptB H H2 := fun k a b c d => (h' k a b c d).trans (h k a b c d)
theorem KeptB.upd {H H2 : AL.Hp} {k : Nat} {c : HC} (h : KeptB (updH H k c) H2) : ∀ u, u ≠ 47 → u ≠ 600001 → u ≠ 600002 → u ≠ 600003 → u ≠ k → H2 u = H u := fun u a b c d e => (h u a b c d).trans (updH_ne _ _ e)
theorem Bk0.upd {ns qs is : Lw} {H : AL.Hp} (h : Bk0 ns qs is H) {k : Nat} (hk : k < 47 ∨ (47 < k ∧ k < 600001)) (c : HC) : Bk0 ns qs is (updH H k c) := by
 obtain ⟨rn, rq, ri, sn, sq, si, h47, hN, hQ, hI⟩ := h
 exact ⟨rn, rq, ri, sn, sq, si, by rw [updH_ne _ _ (by omega)]; exact h47, hN.upd (by omega) _, hQ.upd (by omega) _, hI.upd (by omega) _⟩
theorem Bk0.c {ns qs is : Lw} {H : AL.Hp} (h : Bk0 ns qs is H) : ∃ hn hq hi, (hn ≠ 47 ∧ hq ≠ 47 ∧ hi ≠ 47 ∧ hn ≠ hq ∧ hn ≠ hi ∧ hq ≠ hi) ∧ BkC ns qs is hn hq hi H := ⟨_, _, _, by decide, h⟩
theorem bqint_ok (ns qs is : Lw) (s : Bool) (b : OB) (l : List Nat) (hl : ns.length ≤ 100000) (H : AL.Hp) (hB : Bk0 ns qs is H) : ACI Tryz.prog 49 [.hp 47 1 0 0, .agg [.bool s, fnat b l]] H (fun _ H' => Bk0 (ns ++ [[fnat b l]]) qs is H' ∧ KeptB H H') := by
 refine book_frame (by simp) (fun H0 hB0 => ?_) H hB
 refine ACI.by_walk zi0 (rs := []) ords Tryz.func49 (by rfl) (by rfl) (by rfl) (by rfl) (by rfl) (by rfl) ?_ ?_
 ·obtain ⟨H', h⟩ := bk_ex (ns ++ [[fnat b l]]) qs is H0
  exact ⟨.dead, H', h⟩
 simp (disch := omega) only [wt, seval]
 refine calli_by (bqnat_ok ns qs is b l hl _ (hB0.upd (by omega) _)) ?_
 rintro x H' ⟨h1, h2⟩
 simp only [wt, seval]
 exact reti_none h1.c
theorem bqrat_ok (ns qs is : Lw) (b c : OB) (r : RQ) (hl : ns.length ≤ 90000) (H : AL.Hp) (hB : Bk0 ns qs is H) : ACI Tryz.prog 51 [.hp 47 1 0 0, .agg (frq b c r)] H (fun _ H' => Bk0 (ns ++ [[fnat b r.1.2], [fnat c r.2]]) qs is H' ∧ KeptB H H') := by
 refine book_frame (by simp) (fun H0 hB0 => ?_) H hB
 refine ACI.by_walk zi0 (rs := []) ords Tryz.func51 (by rfl) (by rfl) (by rfl) (by rfl) (by rfl) (by rfl) ?_ ?_
 ·obtain ⟨H', h⟩ := bk_ex (ns ++ [[fnat b r.1.2], [fnat c r.2]]) qs is H0
  exact ⟨.dead, H', h⟩
 simp (disch := omega) only [wt, seval]
 refine calli_by (bqint_ok ns qs is r.1.1 b r.1.2 (by omega) _ (hB0.upd (by omega) _)) ?_
 rintro x H' ⟨h1, h2⟩
 have h3 := h2 3 (by decide) (by decide) (by decide) (by decide)
 rw [updH_same] at h3
 simp (disch := omega) only [wt, seval, h3]
 refine calli_by (bqnat_ok _ qs is c r.2 (by simp; omega) _ h1) ?_
 rintro y H2 ⟨g1, g2⟩
 simp only [wt, seval]
 refine reti_none ?_
 rw [List.append_assoc] at g1
 exact g1.c
def qns (bs : List (OB × OB)) (l : List RQ) : Lw := (List.zipWith (fun b r => [[fnat b.1 r.1.2], [fnat b.2 r.2]]) bs l).flatten
theorem qns_take {bs : List (OB × OB)} {l : List RQ} (h : bs.length = l.length) {i : Nat} (hi : i < l.length) : qns (bs.take (i + 1)) (l.take (i + 1)) = qns (bs.take i) (l.take i) ++ [[fnat (bs.getD i (none, none)).1 (l.getD i q0).1.2], [fnat (bs.getD i (none, none)).2 (l.getD i q0).2]] := by
 have h2 : i < bs.length := by omega
 rw [qns, qns, ← List.take_zipWith, ← List.take_zipWith, List.take_add_one]
 simp [List.getElem?_zipWith, List.getD, hi, h2]
theorem qns_len (bs : List (OB × OB)) (l : List RQ) : (qns bs l).length ≤ 2 * l.length := by
 induction bs generalizing l with
 | nil => simp [qns]
 | cons b bs ih =>
  cases l with
  | nil => simp [qns]
  | cons r l =>
   have := ih l
   simp only [qns, List.zipWith_cons_cons, List.flatten_cons, List.length_append, List.length_cons, List.length_nil] at this ⊢
   omega
set_option maxRecDepth 4000 in
theorem bqpoly_ok (ns qs is : Lw) (b : OB) (bs : List (OB × OB)) (l : List RQ) (hbl : bs.length = l.length) (hll : l.length ≤ 1000) (hl : ns.length ≤ 80000) (hq : qs.length ≤ 1000) (H : AL.Hp) (hB : Bk0 ns qs is H) : ACI Tryz.prog 53 [.hp 47 1 0 0, .iv (fqp b bs l)] H (fun _ H' => Bk0 (ns ++ qns bs l) (qs ++ [[fqp b bs l]]) is H' ∧ KeptB H H') := by
 refine book_frame (by simp) (fun H0 hB0 => ?_) H hB
 refine ACI.by_walk zi0 (rs := []) ords Tryz.func53 (by rfl) (by rfl) (by rfl) (by rfl) (by rfl) (by rfl) ?_ ?_
 ·obtain ⟨H', h⟩ := bk_ex (ns ++ qns bs l) (qs ++ [[fqp b bs l]]) is H0
  exact ⟨.dead, H', h⟩
 have fl := fqrows_len hbl
 simp only [wt, seval]
 refine aloop_by (fun f H' => ∃ (i : Nat), i ≤ l.length ∧ f 4 = .iv (.int .i64 i) ∧ f 0 = .hp 47 1 0 0 ∧ f 1 = .iv (fqp b bs l) ∧ Bk0 (ns ++ qns (bs.take i) (l.take i)) qs is H') (fun f H => (l.length - intAt f 4).toNat) ?_ ?_
 ·refine ⟨0, by omega, ?_⟩
  simp only [wt, seval]
  rw [List.take_zero, List.take_zero, show qns [] [] = [] from rfl, List.append_nil]; exact hB0
 rintro f H' ⟨i, hi, h4, h0, h1, hB1⟩
 rw [intAt_of h4]
 simp (disch := omega) only [wt, seval, h4, h1, fl]
 refine if_by (fun hlt => ?_) (fun hlt => ?_)
 ·have fa := fqrows_get hbl (i := i) (by omega)
  have hnl := qns_len (bs.take i) (l.take i)
  rw [List.length_take] at hnl
  simp (disch := omega) only [wt, seval, h4, h0, h1, fl, fa]
  refine calli_by (bqrat_ok _ qs is _ _ _ (by rw [List.length_append]; omega) H' hB1) ?_
  rintro y H2 ⟨g1, g2⟩
  simp (disch := omega) only [wt, seval, h4, h0, h1]
  refine ⟨⟨i + 1, by omega, rfl, ?_⟩, by omega⟩
  rw [qns_take hbl (by omega), ← List.append_assoc]; exact g1
 ·obtain rfl : i = l.length := by omega
  rw [List.take_of_length_le (by omega), List.take_of_length_le (by omega)] at hB1
  obtain ⟨rn, rq, ri, sn, sq, si, h47, hN, hQ, hI⟩ := hB1
  rcases hQ with ⟨rfl, rfl⟩ | ⟨rfl, h11⟩
  ·simp (disch := omega) only [wt, seval, List.set_cons_succ, h0, h1, h47]
   refine reti_none ⟨600002, 24, 600003, by decide, rn, _, ri, sn, _, si, updH_same _ _ _, ?_, .inr ⟨rfl, ?_⟩, ?_⟩
   ·exact ((hN.upd (by omega) _).upd (by omega) _).upd (by omega) _
   ·rw [updH_ne _ _ (by omega), updH_same]; try rfl
   ·exact ((hI.upd (by omega) _).upd (by omega) _).upd (by omega) _
  ·simp (disch := omega) only [wt, seval, List.set_cons_succ, h0, h1, h47, h11]
   refine reti_none ⟨600002, 600001, 600003, by decide, rn, _, ri, sn, _, si, updH_same _ _ _, ?_, .inr ⟨rfl, ?_⟩, ?_⟩
   ·exact ((hN.upd (by omega) _).upd (by omega) _).upd (by omega) _
   ·rw [updH_ne _ _ (by omega), updH_same]
   ·exact ((hI.upd (by omega) _).upd (by omega) _).upd (by omega) _
end Go.Proofs.YtfmpegbdeppjbaaGreat
