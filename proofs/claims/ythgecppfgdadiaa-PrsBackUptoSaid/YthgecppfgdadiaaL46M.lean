/-
  Contracts of the functions that the law reaches.
-/
import Derived.Test.YthgecppfgdadiaaL19M
namespace Go.Proofs.Ythgecppfgdadiaa
open Go Go.Proofs Go.AL
set_option linter.unusedSimpArgs false
set_option linter.unusedVariables false

theorem cpoly_nil : cpoly [] = [] := rfl

theorem cpoly_at {q : List Int} {i : Nat} (h : i < tz q) : (cpoly q).getD i [] = prow (canon (cf q i)) := by
  have h1 : i < (trimz q).length := by rw [trimz_len]; exact h
  rw [← cf_trimz]
  simp [cpoly, raws, cf, List.getD, h1]

/-- Small enough. -/
def Bd (k : Nat) (q : List Int) : Prop := tz q ≤ 40 ∧ ∀ i, zl (cf q i) ≤ k

theorem Bd.rp {k : Nat} {q : List Int} (h : Bd k q) (hk : k ≤ 2 ^ 35) : RP (2 ^ 30) (2 ^ 35) (cn q) := by
  refine (RP.canon (.of (by rw [trimz_len]; exact h.1) fun i => ?_)).mono (by decide : 40 ≤ _) hk
  rw [cf_trimz]; exact h.2 i

def KB (l : Nat) : Nat := (60 - l) * 8388608
theorem KB_step (l : Nat) (h : l + 1 ≤ 41) : KB l = KB (l + 1) + 8388608 := by unfold KB; omega
theorem KB_le (l : Nat) : KB l ≤ 1073741824 := by unfold KB; omega
theorem KB_ge (l : Nat) (h : l ≤ 41) : 8388608 ≤ KB l := by unfold KB; omega
theorem bnd_fin {K k : Nat} (h : K = k + 8388608) : max (k + 2 ^ 21) (k + 2 ^ 21 + 2 ^ 21) + 1 ≤ K := by omega
theorem bnd_fin1 {K k : Nat} (h : K = k + 8388608) : max (k + 2 ^ 21) (k + 2 ^ 21) + 1 ≤ K := by omega
theorem bnd_fin2 {K k : Nat} (h : K = k + 8388608) : k + 2 ^ 21 ≤ K := by omega

theorem bd_scale {K k : Nat} {c : Int} {q : List Int} (h : Bd K q) (hc : zl c ≤ k) : Bd (K + k) (pscale c q) := by
  refine ⟨Nat.le_trans (tz_scale_le c q) h.1, fun i => ?_⟩
  rw [cf_pscale]
  have := zl_mul (cf q i) c
  have := h.2 i
  omega

theorem bd_mono {K n : Nat} {c : Int} (hn : n < 40) (hc : zl c ≤ K) : Bd K (mono n c) := by
  refine ⟨tz_le_of fun k hk => by rw [cf_mono, if_neg (by omega)], fun i => ?_⟩
  rw [cf_mono]
  split
  · exact hc
  · rw [zl_zero]; omega

theorem bd_mmul {K k n m : Nat} {c : Int} {B : List Int} (hB : Bd k B) (hn : n + tz B ≤ 40) (hc : zl c ≤ K) : Bd (K + k) (pmul (mono n c) B) := by
  refine ⟨tz_le_of fun j hj => ?_, fun i => ?_⟩
  · rw [cf_mono_mul]
    split
    · rw [cf_ge_tz B (by omega), Int.mul_zero]
    · rfl
  · rw [cf_mono_mul]
    split
    · have := zl_mul c (cf B (i - n))
      have := hB.2 (i - n)
      omega
    · rw [zl_zero]; omega

theorem bd_add {K k : Nat} {p q : List Int} (hp : Bd K p) (hq : Bd k q) : Bd (max K k + 1) (padd p q) := by
  have h1 := hp.1
  have h2 := hq.1
  refine ⟨tz_le_of fun j hj => by rw [cf_padd, cf_ge_tz p (by omega), cf_ge_tz q (by omega)]; rfl, fun i => ?_⟩
  rw [cf_padd]
  have := zl_add (cf p i) (cf q i)
  have := hp.2 i
  have := hq.2 i
  omega

theorem bd_neg {K : Nat} {q : List Int} (h : Bd K q) : Bd K (pscale (-1) q) := by
  refine ⟨Nat.le_trans (tz_scale_le _ q) h.1, fun i => ?_⟩
  rw [cf_pscale, Int.mul_neg, Int.mul_one, zl_neg]
  exact h.2 i

theorem bd_nil (K : Nat) : Bd K [] := ⟨by simp [tz, topN], fun i => by rw [cf_nil, zl_zero]; exact Nat.zero_le _⟩
theorem Bd.mono {K k : Nat} {q : List Int} (h : Bd K q) (hk : K ≤ k) : Bd k q := ⟨h.1, fun i => Nat.le_trans (h.2 i) hk⟩

set_option maxHeartbeats 1000000 in
theorem divide_ok (p q : List RI) (fa : RI) (hp : RP 40 (2 ^ 21) p) (hq : RP 40 (2 ^ 21) q) (hf : Sz (2 ^ 21) fa) (hB : tz (pv q) ≠ 0) (hd : lc (pv q) ∣ iv fa) :
    AC Try.prog 136 [cw p, cw q, cr fa] none [cp (dres (iv fa) (lc (pv q)) (pv q) (tz (pv p) + 1 - tz (pv q)) ([], pv p)).1, cp (dres (iv fa) (lc (pv q)) (pv q) (tz (pv p) + 1 - tz (pv q)) ([], pv p)).2, ci (tz (pv p) + 1 - tz (pv q) : Nat)] := by
  refine AC.by_walk (rs := [.tmp 6, .tmp 7, .tmp 8]) ords Try.func136 (by rfl) (by rfl) (by rfl) (by rfl) (by rfl) ?_
  have qp := hp.pv
  have qq := hq.pv
  have tp : tz (pv p) ≤ 40 := Nat.le_trans (tz_le _) qp.1
  have tq : tz (pv q) ≤ 40 := Nat.le_trans (tz_le _) qq.1
  generalize hee : tz (pv p) + 1 - tz (pv q) = e at *
  have he : max ((tz (pv p) : Int) - tz (pv q) + 1) 0 = (e : Int) := by omega
  have ht1 : ((tz (pv q) : Int) - 1).toNat = tz (pv q) - 1 := by omega
  have hat := cpoly_at (q := pv q) (i := tz (pv q) - 1) (by omega)
  have hL : cf (pv q) (tz (pv q) - 1) = lc (pv q) := rfl
  rw [hL] at hat
  simp (disch := omega) only [wk, tis, Int.reduceNe, Int.reduceEq, Int.reduceLT, Int.reduceLE, Int.reduceAdd, Int.reduceSub, Int.reduceNeg, Int.reduceMul, Int.reduceToNat, Nat.reduceSub, Nat.reduceMul, Nat.reduceLeDiff, Nat.reduceAdd, Nat.reduceLT, Nat.reduceEqDiff, reduceCtorEq, ↓reduceIte, cpoly_len, cpoly_nil]
  refine call_by ((pnorm_ok p (hp.mono (by omega) (by omega)))) (by rfl) (by simp) ?_
  simp (disch := omega) only [wk, tis, Int.reduceNe, Int.reduceEq, Int.reduceLT, Int.reduceLE, Int.reduceAdd, Int.reduceSub, Int.reduceNeg, Int.reduceMul, Int.reduceToNat, Nat.reduceSub, Nat.reduceMul, Nat.reduceLeDiff, Nat.reduceAdd, Nat.reduceLT, Nat.reduceEqDiff, reduceCtorEq, ↓reduceIte, cpoly_len, cpoly_nil]
  refine call_by ((pnorm_ok q (hq.mono (by omega) (by omega)))) (by rfl) (by simp) ?_
  simp (disch := omega) only [wk, tis, Int.reduceNe, Int.reduceEq, Int.reduceLT, Int.reduceLE, Int.reduceAdd, Int.reduceSub, Int.reduceNeg, Int.reduceMul, Int.reduceToNat, Nat.reduceSub, Nat.reduceMul, Nat.reduceLeDiff, Nat.reduceAdd, Nat.reduceLT, Nat.reduceEqDiff, reduceCtorEq, ↓reduceIte, cpoly_len, cpoly_nil]
  simp (disch := omega) only [wk, tis, Int.reduceNe, Int.reduceEq, Int.reduceLT, Int.reduceLE, Int.reduceAdd, Int.reduceSub, Int.reduceNeg, Int.reduceMul, Int.reduceToNat, Nat.reduceSub, Nat.reduceMul, Nat.reduceLeDiff, Nat.reduceAdd, Nat.reduceLT, Nat.reduceEqDiff, reduceCtorEq, ↓reduceIte, cpoly_len, cpoly_nil, he, ht1, hat]
  generalize hc : iv fa = c at *
  generalize hPe : pv p = P at *
  generalize hBe : pv q = B at *
  generalize hLe : lc B = L at *
  have bd_P : Bd (KB e) P := ⟨tp, fun i => Nat.le_trans (qp.cf i) (Nat.le_trans (by decide) (KB_ge e (by omega)))⟩
  refine aloop_w (.nilv 13 (by simp (disch := omega) only [wk, tis, Int.reduceNe, Int.reduceEq, Int.reduceLT, Int.reduceLE, Int.reduceAdd, Int.reduceSub, Int.reduceNeg, Int.reduceMul, Int.reduceToNat, Nat.reduceSub, Nat.reduceMul, Nat.reduceLeDiff, Nat.reduceAdd, Nat.reduceLT, Nat.reduceEqDiff, reduceCtorEq, ↓reduceIte, cpoly_len, cpoly_nil]) (.refl _ _)) (fun f H => ∃ (left st5 st12 : Nat) (Q R : List Int), dres c L B left (Q, R) = dres c L B e ([], P) ∧ tz R < tz B + left ∧ left ≤ 41 ∧ Bd (KB left) Q ∧ Bd (KB left) R ∧ f 14 = .iv (.int .i64 left) ∧ f 9 = .iv (.sl (cpoly R)) ∧ f 10 = .iv (.sl (cpoly B)) ∧ f 13 = .iv (.sl (cpoly Q)) ∧ f 11 = .iv (.int .i64 e) ∧ f 5 = .hp 5 st5 0 0 ∧ f 12 = .hp 12 st12 0 0 ∧ H 5 = .blk false st5 40 2 [prow fa] ∧ H 12 = .blk false st12 40 2 [prow (canon L)]) (fun f H => (intAt f 14).toNat) ?_ ?_
  · refine ⟨e, 1, 1, [], P, rfl, by omega, by omega, bd_nil _, bd_P, ?_⟩
    simp (disch := omega) only [wk, tis, Int.reduceNe, Int.reduceEq, Int.reduceLT, Int.reduceLE, Int.reduceAdd, Int.reduceSub, Int.reduceNeg, Int.reduceMul, Int.reduceToNat, Nat.reduceSub, Nat.reduceMul, Nat.reduceLeDiff, Nat.reduceAdd, Nat.reduceLT, Nat.reduceEqDiff, reduceCtorEq, ↓reduceIte, cpoly_len, cpoly_nil]
  rintro f H ⟨left, st5, st12, Q, R, hD, hT, hle, hQ, hR, hF⟩
  rw [intAt_of hF.1]
  simp (disch := omega) only [wk, tis, Int.reduceNe, Int.reduceEq, Int.reduceLT, Int.reduceLE, Int.reduceAdd, Int.reduceSub, Int.reduceNeg, Int.reduceMul, Int.reduceToNat, Nat.reduceSub, Nat.reduceMul, Nat.reduceLeDiff, Nat.reduceAdd, Nat.reduceLT, Nat.reduceEqDiff, reduceCtorEq, ↓reduceIte, cpoly_len, cpoly_nil, hF]
  have hkb := KB_le left
  have hkR := hR.rp (by omega)
  have hkQ := hQ.rp (by omega)
  refine if_by (fun hge => ?_) (fun hge => ?_)
  · obtain ⟨l, rfl⟩ : ∃ l, left = l + 1 := ⟨left - 1, by omega⟩
    have hm : ((tz R : Int) - tz B) = ((tz R - tz B : Nat) : Int) := by omega
    have ht2 : ((tz R : Int) - 1).toNat = tz R - 1 := by omega
    have hat2 := cpoly_at (q := R) (i := tz R - 1) (by omega)
    have hLR : cf R (tz R - 1) = lc R := rfl
    rw [hLR] at hat2
    have hzR := hR.2 (tz R - 1)
    rw [hLR] at hzR
    have hzc : zl c ≤ 2 ^ 21 := by rw [← hc]; exact zl_iv hf
    have hzL : zl L ≤ 2 ^ 21 := by rw [← hLe]; exact qq.cf _
    have hL0 : L ≠ 0 := by rw [← hLe]; exact cf_tz_pred hB
    have hzm := zl_mul c (lc R)
    have hdv : L ∣ c * lc R := Int.dvd_trans hd (Int.dvd_mul_right _ _)
    have hzt := zl_div hdv
    have m1 := zmul_ok fa (canon (lc R)) (hf.mono (by omega)) ((sz_canon _).mono (by omega))
    rw [hc, iv_canon] at m1
    have m2 := zexact_ok (canon (c * lc R)) (canon L) ((sz_canon _).mono (by omega)) ((sz_canon _).mono (by omega)) (by rw [iv_canon]; exact hL0) (by rw [iv_canon, iv_canon]; exact hdv)
    rw [iv_canon, iv_canon] at m2
    have m3 := prsmono_ok (canon (c * lc R / L)) (tz R - tz B) (by omega) ((sz_canon _).mono (by omega))
    rw [iv_canon] at m3
    simp (disch := omega) only [wk, tis, Int.reduceNe, Int.reduceEq, Int.reduceLT, Int.reduceLE, Int.reduceAdd, Int.reduceSub, Int.reduceNeg, Int.reduceMul, Int.reduceToNat, Nat.reduceSub, Nat.reduceMul, Nat.reduceLeDiff, Nat.reduceAdd, Nat.reduceLT, Nat.reduceEqDiff, reduceCtorEq, ↓reduceIte, cpoly_len, cpoly_nil, hF, hm, ht2, hat2]
    refine ⟨tmps_by (by kernel_rfl), ?_⟩
    refine call_by (m1) (by first | rfl | (simp only [tocvs, tocv, hF, hm, ht2, hat2]; rfl)) (by simp) ?_
    simp (disch := omega) only [wk, tis, Int.reduceNe, Int.reduceEq, Int.reduceLT, Int.reduceLE, Int.reduceAdd, Int.reduceSub, Int.reduceNeg, Int.reduceMul, Int.reduceToNat, Nat.reduceSub, Nat.reduceMul, Nat.reduceLeDiff, Nat.reduceAdd, Nat.reduceLT, Nat.reduceEqDiff, reduceCtorEq, ↓reduceIte, cpoly_len, cpoly_nil, hF, hm, ht2, hat2]
    refine call_by (m2) (by first | rfl | (simp only [tocvs, tocv, hF, hm, ht2, hat2]; rfl)) (by simp) ?_
    simp (disch := omega) only [wk, tis, Int.reduceNe, Int.reduceEq, Int.reduceLT, Int.reduceLE, Int.reduceAdd, Int.reduceSub, Int.reduceNeg, Int.reduceMul, Int.reduceToNat, Nat.reduceSub, Nat.reduceMul, Nat.reduceLeDiff, Nat.reduceAdd, Nat.reduceLT, Nat.reduceEqDiff, reduceCtorEq, ↓reduceIte, cpoly_len, cpoly_nil, hF, hm, ht2, hat2]
    first | exact log_by (by kernel_rfl) | refine ⟨log_by (by kernel_rfl), ?_⟩
    refine call_by (m3) (by first | rfl | (simp only [tocvs, tocv, hF, hm, ht2, hat2]; rfl)) (by simp) ?_
    simp (disch := omega) only [wk, tis, Int.reduceNe, Int.reduceEq, Int.reduceLT, Int.reduceLE, Int.reduceAdd, Int.reduceSub, Int.reduceNeg, Int.reduceMul, Int.reduceToNat, Nat.reduceSub, Nat.reduceMul, Nat.reduceLeDiff, Nat.reduceAdd, Nat.reduceLT, Nat.reduceEqDiff, reduceCtorEq, ↓reduceIte, cpoly_len, cpoly_nil, hF, hm, ht2, hat2]
    have hBB : Bd (2 ^ 21) B := ⟨tq, fun i => qq.cf i⟩
    have hlt := hR.1
    have hK2 := KB_step l hle
    have hge' : tz B ≤ tz R := by omega
    generalize KB (l + 1) = K at *
    have b1 := bd_scale hQ hzc
    have b2 := bd_mono (n := tz R - tz B) (c := c * lc R / L) (K := K + 2 ^ 21) (by omega) (by omega)
    have b3 := bd_scale hR hzc
    have b4 := bd_mmul (m := 0) (n := tz R - tz B) (c := c * lc R / L) (K := K + 2 ^ 21) hBB (by omega) (by omega)
    have b5 := bd_add b1 b2
    have b6 := bd_add b3 (bd_neg b4)
    have hBr := hBB.rp (by omega)
    have s1 := pscale_g (q := Q) (c := fa) hkQ (hf.mono (by omega)) (ps_cn _)
    have s2 := pscale_g (q := R) (c := fa) hkR (hf.mono (by omega)) (ps_cn _)
    rw [hc] at s1 s2
    have hstep : dres c L B (l + 1) (Q, R) = dres c L B l (dstep c L B (Q, R)) := by
      rw [dres, if_pos (show tz B ≤ tz (Q, R).2 from hge')]
    have htz := dstep_tz (c := c) (s := (Q, R)) hLe.symm hB hd (show tz B ≤ tz (Q, R).2 from hge')
    refine call_by (s1) (by first | rfl | (simp only [tocvs, tocv, hF, hm, ht2, hat2]; rfl)) (by simp) ?_
    simp (disch := omega) only [wk, tis, Int.reduceNe, Int.reduceEq, Int.reduceLT, Int.reduceLE, Int.reduceAdd, Int.reduceSub, Int.reduceNeg, Int.reduceMul, Int.reduceToNat, Nat.reduceSub, Nat.reduceMul, Nat.reduceLeDiff, Nat.reduceAdd, Nat.reduceLT, Nat.reduceEqDiff, reduceCtorEq, ↓reduceIte, cpoly_len, cpoly_nil, hF, hm, ht2, hat2]
    refine call_by ((padd_g (b1.rp (by omega)) (b2.rp (by omega)) (ps_cn _) (ps_cn _))) (by first | rfl | (simp only [tocvs, tocv, hF, hm, ht2, hat2]; rfl)) (by simp) ?_
    simp (disch := omega) only [wk, tis, Int.reduceNe, Int.reduceEq, Int.reduceLT, Int.reduceLE, Int.reduceAdd, Int.reduceSub, Int.reduceNeg, Int.reduceMul, Int.reduceToNat, Nat.reduceSub, Nat.reduceMul, Nat.reduceLeDiff, Nat.reduceAdd, Nat.reduceLT, Nat.reduceEqDiff, reduceCtorEq, ↓reduceIte, cpoly_len, cpoly_nil, hF, hm, ht2, hat2]
    refine call_by (s2) (by first | rfl | (simp only [tocvs, tocv, hF, hm, ht2, hat2]; rfl)) (by simp) ?_
    simp (disch := omega) only [wk, tis, Int.reduceNe, Int.reduceEq, Int.reduceLT, Int.reduceLE, Int.reduceAdd, Int.reduceSub, Int.reduceNeg, Int.reduceMul, Int.reduceToNat, Nat.reduceSub, Nat.reduceMul, Nat.reduceLeDiff, Nat.reduceAdd, Nat.reduceLT, Nat.reduceEqDiff, reduceCtorEq, ↓reduceIte, cpoly_len, cpoly_nil, hF, hm, ht2, hat2]
    refine call_by ((pmul_g (b2.rp (by omega)) hBr (ps_cn _) (ps_cn _))) (by first | rfl | (simp only [tocvs, tocv, hF, hm, ht2, hat2]; rfl)) (by simp) ?_
    simp (disch := omega) only [wk, tis, Int.reduceNe, Int.reduceEq, Int.reduceLT, Int.reduceLE, Int.reduceAdd, Int.reduceSub, Int.reduceNeg, Int.reduceMul, Int.reduceToNat, Nat.reduceSub, Nat.reduceMul, Nat.reduceLeDiff, Nat.reduceAdd, Nat.reduceLT, Nat.reduceEqDiff, reduceCtorEq, ↓reduceIte, cpoly_len, cpoly_nil, hF, hm, ht2, hat2]
    refine call_by ((psub_g (b3.rp (by omega)) (b4.rp (by omega)) (ps_cn _) (ps_cn _))) (by first | rfl | (simp only [tocvs, tocv, hF, hm, ht2, hat2]; rfl)) (by simp) ?_
    simp (disch := omega) only [wk, tis, Int.reduceNe, Int.reduceEq, Int.reduceLT, Int.reduceLE, Int.reduceAdd, Int.reduceSub, Int.reduceNeg, Int.reduceMul, Int.reduceToNat, Nat.reduceSub, Nat.reduceMul, Nat.reduceLeDiff, Nat.reduceAdd, Nat.reduceLT, Nat.reduceEqDiff, reduceCtorEq, ↓reduceIte, cpoly_len, cpoly_nil, hF, hm, ht2, hat2]
    refine ⟨⟨l, st5, st12, _, _, by rw [← hD, hstep]; rfl, ?_, by omega, b5.mono (bnd_fin1 hK2), b6.mono (bnd_fin hK2), by omega, rfl, rfl, rfl, rfl, rfl, rfl⟩, by omega⟩
    have h1 : tz R ≠ 0 := by omega
    have h2 : tz (padd (pscale c R) (pscale (-1) (pmul (mono (tz R - tz B) (c * lc R / L)) B))) ≤ tz R - 1 := htz
    omega
  · have hout : tz R < tz B := by omega
    simp (disch := omega) only [wk, tis, Int.reduceNe, Int.reduceEq, Int.reduceLT, Int.reduceLE, Int.reduceAdd, Int.reduceSub, Int.reduceNeg, Int.reduceMul, Int.reduceToNat, Nat.reduceSub, Nat.reduceMul, Nat.reduceLeDiff, Nat.reduceAdd, Nat.reduceLT, Nat.reduceEqDiff, reduceCtorEq, ↓reduceIte, cpoly_len, cpoly_nil, hF]
    refine aloop_by (fun f H => ∃ (lft sf : Nat) (S T : List Int), dres c L B lft (S, T) = dres c L B e ([], P) ∧ tz T < tz B ∧ lft ≤ 41 ∧ Bd (KB lft) S ∧ Bd (KB lft) T ∧ f 14 = .iv (.int .i64 lft) ∧ f 9 = .iv (.sl (cpoly T)) ∧ f 13 = .iv (.sl (cpoly S)) ∧ f 11 = .iv (.int .i64 e) ∧ f 5 = .hp 5 sf 0 0 ∧ H 5 = .blk false sf 40 2 [prow fa]) (fun f H => (intAt f 14).toNat) ?_ ?_
    · refine ⟨left, st5, Q, R, hD, hout, hle, hQ, hR, ?_⟩
      simp (disch := omega) only [wk, tis, Int.reduceNe, Int.reduceEq, Int.reduceLT, Int.reduceLE, Int.reduceAdd, Int.reduceSub, Int.reduceNeg, Int.reduceMul, Int.reduceToNat, Nat.reduceSub, Nat.reduceMul, Nat.reduceLeDiff, Nat.reduceAdd, Nat.reduceLT, Nat.reduceEqDiff, reduceCtorEq, ↓reduceIte, cpoly_len, cpoly_nil, hF]
    rintro f H ⟨lft, sf, S, T, hD, hT, hle, hQ, hR, hF⟩
    rw [intAt_of hF.1]
    simp (disch := omega) only [wk, tis, Int.reduceNe, Int.reduceEq, Int.reduceLT, Int.reduceLE, Int.reduceAdd, Int.reduceSub, Int.reduceNeg, Int.reduceMul, Int.reduceToNat, Nat.reduceSub, Nat.reduceMul, Nat.reduceLeDiff, Nat.reduceAdd, Nat.reduceLT, Nat.reduceEqDiff, reduceCtorEq, ↓reduceIte, cpoly_len, cpoly_nil, hF]
    refine if_by (fun hgt => ?_) (fun hgt => ?_)
    · obtain ⟨l, rfl⟩ : ∃ l, lft = l + 1 := ⟨lft - 1, by omega⟩
      have hkb := KB_le (l + 1)
      have hzc : zl c ≤ 2 ^ 21 := by rw [← hc]; exact zl_iv hf
      have hK2 := KB_step l hle
      have s1 := pscale_g (q := S) (c := fa) (hQ.rp (by omega)) (hf.mono (by omega)) (ps_cn _)
      have s2 := pscale_g (q := T) (c := fa) (hR.rp (by omega)) (hf.mono (by omega)) (ps_cn _)
      rw [hc] at s1 s2
      have hstep : dres c L B (l + 1) (S, T) = dres c L B l (pscale c S, pscale c T) := by
        rw [dres, if_neg (show ¬ tz B ≤ tz (S, T).2 from Nat.not_le.2 hT)]
      have hts := tz_scale_le c T
      have b1 := (bd_scale hQ hzc).mono (bnd_fin2 hK2)
      have b2 := (bd_scale hR hzc).mono (bnd_fin2 hK2)
      clear hK2
      simp (disch := omega) only [wk, tis, Int.reduceNe, Int.reduceEq, Int.reduceLT, Int.reduceLE, Int.reduceAdd, Int.reduceSub, Int.reduceNeg, Int.reduceMul, Int.reduceToNat, Nat.reduceSub, Nat.reduceMul, Nat.reduceLeDiff, Nat.reduceAdd, Nat.reduceLT, Nat.reduceEqDiff, reduceCtorEq, ↓reduceIte, cpoly_len, cpoly_nil, hF]
      refine ⟨tmps_by (by kernel_rfl), ?_⟩
      refine call_by (s1) (by first | rfl | (simp only [tocvs, tocv, hF]; rfl)) (by simp) ?_
      simp (disch := omega) only [wk, tis, Int.reduceNe, Int.reduceEq, Int.reduceLT, Int.reduceLE, Int.reduceAdd, Int.reduceSub, Int.reduceNeg, Int.reduceMul, Int.reduceToNat, Nat.reduceSub, Nat.reduceMul, Nat.reduceLeDiff, Nat.reduceAdd, Nat.reduceLT, Nat.reduceEqDiff, reduceCtorEq, ↓reduceIte, cpoly_len, cpoly_nil, hF]
      refine call_by (s2) (by first | rfl | (simp only [tocvs, tocv, hF]; rfl)) (by simp) ?_
      simp (disch := omega) only [wk, tis, Int.reduceNe, Int.reduceEq, Int.reduceLT, Int.reduceLE, Int.reduceAdd, Int.reduceSub, Int.reduceNeg, Int.reduceMul, Int.reduceToNat, Nat.reduceSub, Nat.reduceMul, Nat.reduceLeDiff, Nat.reduceAdd, Nat.reduceLT, Nat.reduceEqDiff, reduceCtorEq, ↓reduceIte, cpoly_len, cpoly_nil, hF]
      first | exact log_by (by kernel_rfl) | refine ⟨log_by (by kernel_rfl), ?_⟩
      refine ⟨⟨l, sf, _, _, by rw [← hD, hstep], by omega, by omega, b1, b2, by omega, rfl, rfl, rfl, rfl⟩, by omega⟩
    · obtain rfl : lft = 0 := by omega
      simp (disch := omega) only [wk, tis, Int.reduceNe, Int.reduceEq, Int.reduceLT, Int.reduceLE, Int.reduceAdd, Int.reduceSub, Int.reduceNeg, Int.reduceMul, Int.reduceToNat, Nat.reduceSub, Nat.reduceMul, Nat.reduceLeDiff, Nat.reduceAdd, Nat.reduceLT, Nat.reduceEqDiff, reduceCtorEq, ↓reduceIte, cpoly_len, cpoly_nil, hF]
      rw [← hD]
      exact ⟨rfl, rfl⟩
end Go.Proofs.Ythgecppfgdadiaa

namespace Go.Proofs.Ythgecppfgdadiaa
open Go Go.Proofs Go.AL
set_option linter.unusedSimpArgs false
set_option linter.unusedVariables false

theorem smul_ok (a b : List RI) (ha : RP (2 ^ 30) (2 ^ 35) a) (hb : RP (2 ^ 30) (2 ^ 35) b) : AC Try.prog 30 [cw a, cw b] none [cp (pmul (pv a) (pv b))] := by
  refine AC.by_walk (rs := [.tmp 4]) ords Try.func30 (by rfl) (by rfl) (by rfl) (by rfl) (by rfl) ?_
  have pa := ha.pv.trimz
  have pb := hb.pv.trimz
  have e0 : cp (pmul (pv a) (pv b)) = cp (pmul (trimz (pv a)) (trimz (pv b))) := cp_ps (by rw [ps_pmul, ps_pmul, ps_trimz, ps_trimz])
  rw [e0]
  simp (disch := omega) only [wk, tis, Int.reduceNe, Int.reduceEq, Int.reduceLT, Int.reduceLE, Int.reduceAdd, Int.reduceSub, Int.reduceNeg, Int.reduceMul, Int.reduceToNat, Nat.reduceSub, Nat.reduceMul, Nat.reduceLeDiff, Nat.reduceAdd, Nat.reduceLT, Nat.reduceEqDiff, reduceCtorEq, ↓reduceIte]
  refine call_by ((snorm_ok a (ha.mono (by omega) (by omega)))) (by rfl) (by simp) ?_
  simp (disch := omega) only [wk, tis, Int.reduceNe, Int.reduceEq, Int.reduceLT, Int.reduceLE, Int.reduceAdd, Int.reduceSub, Int.reduceNeg, Int.reduceMul, Int.reduceToNat, Nat.reduceSub, Nat.reduceMul, Nat.reduceLeDiff, Nat.reduceAdd, Nat.reduceLT, Nat.reduceEqDiff, reduceCtorEq, ↓reduceIte]
  refine call_by ((snorm_ok b (hb.mono (by omega) (by omega)))) (by rfl) (by simp) ?_
  simp (disch := omega) only [wk, tis, Int.reduceNe, Int.reduceEq, Int.reduceLT, Int.reduceLE, Int.reduceAdd, Int.reduceSub, Int.reduceNeg, Int.reduceMul, Int.reduceToNat, Nat.reduceSub, Nat.reduceMul, Nat.reduceLeDiff, Nat.reduceAdd, Nat.reduceLT, Nat.reduceEqDiff, reduceCtorEq, ↓reduceIte]
  unfold cpoly
  generalize trimz (pv a) = A at *
  generalize trimz (pv b) = B at *
  have hA := pa.1
  have hB := pb.1
  have hAl : (A.map canon).length = A.length := by simp
  have hBl : (B.map canon).length = B.length := by simp
  simp (disch := omega) only [wk, tis, Int.reduceNe, Int.reduceEq, Int.reduceLT, Int.reduceLE, Int.reduceAdd, Int.reduceSub, Int.reduceNeg, Int.reduceMul, Int.reduceToNat, Nat.reduceSub, Nat.reduceMul, Nat.reduceLeDiff, Nat.reduceAdd, Nat.reduceLT, Nat.reduceEqDiff, reduceCtorEq, ↓reduceIte, hAl, hBl]
  by_cases hza : (A.length : Int) = 0
  · have hA0 : A = [] := by rw [← List.length_eq_zero_iff]; omega
    subst hA0
    simp (disch := omega) only [wk, tis, Int.reduceNe, Int.reduceEq, Int.reduceLT, Int.reduceLE, Int.reduceAdd, Int.reduceSub, Int.reduceNeg, Int.reduceMul, Int.reduceToNat, Nat.reduceSub, Nat.reduceMul, Nat.reduceLeDiff, Nat.reduceAdd, Nat.reduceLT, Nat.reduceEqDiff, reduceCtorEq, ↓reduceIte, hza, hBl]
    have : trimz (pmul [] B) = [] := by rw [← List.length_eq_zero_iff, trimz_len, tz_zero_iff]; intro k; rw [cf_pmul]; rfl
    unfold cpoly; rw [this]; rfl
  by_cases hzb : (B.length : Int) = 0
  · have hB0 : B = [] := by rw [← List.length_eq_zero_iff]; omega
    subst hB0
    simp (disch := omega) only [wk, tis, Int.reduceNe, Int.reduceEq, Int.reduceLT, Int.reduceLE, Int.reduceAdd, Int.reduceSub, Int.reduceNeg, Int.reduceMul, Int.reduceToNat, Nat.reduceSub, Nat.reduceMul, Nat.reduceLeDiff, Nat.reduceAdd, Nat.reduceLT, Nat.reduceEqDiff, reduceCtorEq, ↓reduceIte, hza, hzb, hAl]
    have : trimz (pmul A []) = [] := by
      rw [← List.length_eq_zero_iff, trimz_len, tz_zero_iff]; intro k; rw [cf_pmul, cv_none]
    unfold cpoly; rw [this]; rfl
  simp (disch := omega) only [wk, tis, Int.reduceNe, Int.reduceEq, Int.reduceLT, Int.reduceLE, Int.reduceAdd, Int.reduceSub, Int.reduceNeg, Int.reduceMul, Int.reduceToNat, Nat.reduceSub, Nat.reduceMul, Nat.reduceLeDiff, Nat.reduceAdd, Nat.reduceLT, Nat.reduceEqDiff, reduceCtorEq, ↓reduceIte, hza, hzb, hAl, hBl]
  have eN : (A.length : Int) + (B.length : Int) - 1 = ((A.length + B.length - 1 : Nat) : Int) := by omega
  rw [eN]
  simp (disch := omega) only [wk, tis, Int.reduceNe, Int.reduceEq, Int.reduceLT, Int.reduceLE, Int.reduceAdd, Int.reduceSub, Int.reduceNeg, Int.reduceMul, Int.reduceToNat, Nat.reduceSub, Nat.reduceMul, Nat.reduceLeDiff, Nat.reduceAdd, Nat.reduceLT, Nat.reduceEqDiff, reduceCtorEq, ↓reduceIte, hAl, hBl]
  generalize hN : A.length + B.length - 1 = N at *
  refine aloop_by (fun f H => ∃ (i st : Nat) (out : List Int), i ≤ A.length ∧ out.length = N ∧ (∀ k, cf out k = cv (A.take i) (cf B) k) ∧ f 6 = .iv (.int .i64 i) ∧ f 0 = .iv (.sl (raws (A.map canon))) ∧ f 1 = .iv (.sl (raws (B.map canon))) ∧ f 5 = .hs 26 st ∧ H 26 = .blk false st 40 2 (raws (out.map canon))) (fun f H => (A.length - intAt f 6).toNat) ?_ ?_
  · refine ⟨0, 1, List.replicate N 0, by omega, by simp, fun k => by rw [cf_rep]; rfl, ?_⟩
    simp (disch := omega) only [wk, tis, Int.reduceNe, Int.reduceEq, Int.reduceLT, Int.reduceLE, Int.reduceAdd, Int.reduceSub, Int.reduceNeg, Int.reduceMul, Int.reduceToNat, Nat.reduceSub, Nat.reduceMul, Nat.reduceLeDiff, Nat.reduceAdd, Nat.reduceLT, Nat.reduceEqDiff, reduceCtorEq, ↓reduceIte, rep_canon, hAl]
  rintro f H ⟨i, st, out, hi, hol, hv, hF⟩
  rw [intAt_of hF.1]
  simp (disch := omega) only [wk, tis, Int.reduceNe, Int.reduceEq, Int.reduceLT, Int.reduceLE, Int.reduceAdd, Int.reduceSub, Int.reduceNeg, Int.reduceMul, Int.reduceToNat, Nat.reduceSub, Nat.reduceMul, Nat.reduceLeDiff, Nat.reduceAdd, Nat.reduceLT, Nat.reduceEqDiff, reduceCtorEq, ↓reduceIte, hF]
  simp (disch := omega) only [wk, tis, Int.reduceNe, Int.reduceEq, Int.reduceLT, Int.reduceLE, Int.reduceAdd, Int.reduceSub, Int.reduceNeg, Int.reduceMul, Int.reduceToNat, Nat.reduceSub, Nat.reduceMul, Nat.reduceLeDiff, Nat.reduceAdd, Nat.reduceLT, Nat.reduceEqDiff, reduceCtorEq, ↓reduceIte, hAl]
  refine if_by (fun hlt => ?_) (fun hlt => ?_)
  · simp (disch := omega) only [wk, tis, Int.reduceNe, Int.reduceEq, Int.reduceLT, Int.reduceLE, Int.reduceAdd, Int.reduceSub, Int.reduceNeg, Int.reduceMul, Int.reduceToNat, Nat.reduceSub, Nat.reduceMul, Nat.reduceLeDiff, Nat.reduceAdd, Nat.reduceLT, Nat.reduceEqDiff, reduceCtorEq, ↓reduceIte, hF, hAl, hBl]
    refine aloop_by (fun f H => ∃ (j st : Nat) (out : List Int), j ≤ B.length ∧ out.length = N ∧ (∀ k, cf out k = cv (A.take i) (cf B) k + (if i ≤ k ∧ k < i + j then cf A i * cf B (k - i) else 0)) ∧ f 7 = .iv (.int .i64 j) ∧ f 0 = .iv (.sl (raws (A.map canon))) ∧ f 1 = .iv (.sl (raws (B.map canon))) ∧ f 5 = .hs 26 st ∧ f 6 = .iv (.int .i64 i) ∧ H 26 = .blk false st 40 2 (raws (out.map canon))) (fun f H => (B.length - intAt f 7).toNat) ?_ ?_
    · refine ⟨0, st, out, by omega, hol, fun k => by rw [hv k, if_neg (by omega), Int.add_zero], ?_⟩
      simp (disch := omega) only [wk, tis, Int.reduceNe, Int.reduceEq, Int.reduceLT, Int.reduceLE, Int.reduceAdd, Int.reduceSub, Int.reduceNeg, Int.reduceMul, Int.reduceToNat, Nat.reduceSub, Nat.reduceMul, Nat.reduceLeDiff, Nat.reduceAdd, Nat.reduceLT, Nat.reduceEqDiff, reduceCtorEq, ↓reduceIte, hF]
    rintro f H ⟨j, st, out, hj, hol, hv, hF⟩
    rw [intAt_of hF.1]
    simp (disch := omega) only [wk, tis, Int.reduceNe, Int.reduceEq, Int.reduceLT, Int.reduceLE, Int.reduceAdd, Int.reduceSub, Int.reduceNeg, Int.reduceMul, Int.reduceToNat, Nat.reduceSub, Nat.reduceMul, Nat.reduceLeDiff, Nat.reduceAdd, Nat.reduceLT, Nat.reduceEqDiff, reduceCtorEq, ↓reduceIte, hF]
    simp (disch := omega) only [wk, tis, Int.reduceNe, Int.reduceEq, Int.reduceLT, Int.reduceLE, Int.reduceAdd, Int.reduceSub, Int.reduceNeg, Int.reduceMul, Int.reduceToNat, Nat.reduceSub, Nat.reduceMul, Nat.reduceLeDiff, Nat.reduceAdd, Nat.reduceLT, Nat.reduceEqDiff, reduceCtorEq, ↓reduceIte, hBl]
    refine if_by (fun hlj => ?_) (fun hlj => ?_)
    · have hq : (out.map canon).length = N := by rw [List.length_map, hol]
      have eij : (i : Int) + (j : Int) = ((i + j : Nat) : Int) := by omega
      simp (disch := omega) only [wk, tis, Int.reduceNe, Int.reduceEq, Int.reduceLT, Int.reduceLE, Int.reduceAdd, Int.reduceSub, Int.reduceNeg, Int.reduceMul, Int.reduceToNat, Nat.reduceSub, Nat.reduceMul, Nat.reduceLeDiff, Nat.reduceAdd, Nat.reduceLT, Nat.reduceEqDiff, reduceCtorEq, ↓reduceIte, hF, hq, hAl, hBl, eij]
      refine ⟨tmps_by (by kernel_rfl), ?_⟩
      have hAi := pa.cf i
      have hBj := pb.cf j
      have hprod := zl_mul (cf A i) (cf B j)
      have hold : cf out (i + j) = cv (A.take i) (cf B) (i + j) := by rw [hv, if_neg (by omega), Int.add_zero]
      have hzo : zl (cf out (i + j)) ≤ 2 ^ 35 + 2 ^ 35 + 1 := by rw [hold]; exact zl_cv (PB_take pa i) pb (by decide) _
      have m := rMul_ok (canon (cf A i)) (canon (cf B j)) ((sz_canon _).mono (by omega)) ((sz_canon _).mono (by omega))
      rw [iv_canon, iv_canon] at m
      refine call_by (m) (by first | rfl | (simp only [tocvs, tocv, hF, hq, hAl, hBl]; rfl)) (by simp) ?_
      simp (disch := omega) only [wk, tis, Int.reduceNe, Int.reduceEq, Int.reduceLT, Int.reduceLE, Int.reduceAdd, Int.reduceSub, Int.reduceNeg, Int.reduceMul, Int.reduceToNat, Nat.reduceSub, Nat.reduceMul, Nat.reduceLeDiff, Nat.reduceAdd, Nat.reduceLT, Nat.reduceEqDiff, reduceCtorEq, ↓reduceIte, hF, hq, hAl, hBl]
      have s := rAdd_ok (canon (cf out (i + j))) (canon (cf A i * cf B j)) ((sz_canon _).mono (by omega)) ((sz_canon _).mono (by omega))
      rw [iv_canon, iv_canon] at s
      refine call_by (s) (by first | rfl | (simp only [tocvs, tocv, hF, hq, hAl, hBl]; rfl)) (by simp) ?_
      simp (disch := omega) only [wk, tis, Int.reduceNe, Int.reduceEq, Int.reduceLT, Int.reduceLE, Int.reduceAdd, Int.reduceSub, Int.reduceNeg, Int.reduceMul, Int.reduceToNat, Nat.reduceSub, Nat.reduceMul, Nat.reduceLeDiff, Nat.reduceAdd, Nat.reduceLT, Nat.reduceEqDiff, reduceCtorEq, ↓reduceIte, hF, hq, hAl, hBl]
      first | exact log_by (by kernel_rfl) | refine ⟨log_by (by kernel_rfl), ?_⟩
      refine ⟨⟨j + 1, st, out.set (i + j) (cf out (i + j) + cf A i * cf B j), by omega, by simp [hol], fun k => ?_, by omega, rfl, rfl⟩, by omega⟩
      rw [cf_set (by omega)]
      by_cases e : k = i + j
      · subst e
        rw [if_pos rfl, if_pos ⟨by omega, by omega⟩, hold, Nat.add_sub_cancel_left]
      · rw [if_neg e, hv k]
        by_cases hk : i ≤ k ∧ k < i + j
        · rw [if_pos hk, if_pos ⟨hk.1, by omega⟩]
        · rw [if_neg hk, if_neg (by omega)]
    · simp (disch := omega) only [wk, tis, Int.reduceNe, Int.reduceEq, Int.reduceLT, Int.reduceLE, Int.reduceAdd, Int.reduceSub, Int.reduceNeg, Int.reduceMul, Int.reduceToNat, Nat.reduceSub, Nat.reduceMul, Nat.reduceLeDiff, Nat.reduceAdd, Nat.reduceLT, Nat.reduceEqDiff, reduceCtorEq, ↓reduceIte, hF, hAl, hBl]
      refine ⟨⟨i + 1, st, out, by omega, hol, fun k => ?_, by omega, rfl, rfl⟩, by omega⟩
      rw [hv k, cv_take_succ]
      congr 1
      by_cases hk : i ≤ k
      · rw [if_pos hk]
        by_cases hk2 : k < i + j
        · rw [if_pos ⟨hk, hk2⟩]
        · rw [if_neg (by omega), cf_ge (q := B) (by omega), Int.mul_zero]
      · rw [if_neg hk, if_neg (by omega)]
  · simp (disch := omega) only [wk, tis, Int.reduceNe, Int.reduceEq, Int.reduceLT, Int.reduceLE, Int.reduceAdd, Int.reduceSub, Int.reduceNeg, Int.reduceMul, Int.reduceToNat, Nat.reduceSub, Nat.reduceMul, Nat.reduceLeDiff, Nat.reduceAdd, Nat.reduceLT, Nat.reduceEqDiff, reduceCtorEq, ↓reduceIte, hF, hAl, hBl]
    have hiA : i = A.length := by omega
    have e : cp (pmul A B) = cp (pv (out.map canon)) := by
      refine cp_ext fun k => ?_
      rw [pv_canon, hv, cf_pmul, hiA, List.take_length]
    unfold cpoly at e
    rw [e]
    refine call_by ((snorm_ok (out.map canon) (RP.canon (.of (by omega) fun k => by rw [hv]; exact Nat.le_trans (zl_cv (PB_take pa i) pb (by decide) k) (by omega))))) (by first | rfl | (simp only [tocvs, tocv, hF, hAl, hBl]; rfl)) (by simp) ?_
    simp (disch := omega) only [wk, tis, Int.reduceNe, Int.reduceEq, Int.reduceLT, Int.reduceLE, Int.reduceAdd, Int.reduceSub, Int.reduceNeg, Int.reduceMul, Int.reduceToNat, Nat.reduceSub, Nat.reduceMul, Nat.reduceLeDiff, Nat.reduceAdd, Nat.reduceLT, Nat.reduceEqDiff, reduceCtorEq, ↓reduceIte, hF, hAl, hBl]

theorem spow_ok (p : List RI) (n : Int) (h : RP (2 ^ 15) (2 ^ 20) p) : AC Try.prog 37 [cw p, ci n] none [cp (if 0 ≤ n ∧ n ≤ 1000 then ppow (pv p) n.toNat else []), ci (if n < 0 then 3 else if 1000 < n then 13 else 0)] := by
  refine AC.by_walk (rs := [.tmp 4, .tmp 5]) ords Try.func37 (by rfl) (by rfl) (by rfl) (by rfl) (by rfl) ?_
  simp (disch := omega) only [wk, tis, Int.reduceNe, Int.reduceEq, Int.reduceLT, Int.reduceLE, Int.reduceAdd, Int.reduceSub, Int.reduceNeg, Int.reduceMul, Int.reduceToNat, Nat.reduceSub, Nat.reduceMul, Nat.reduceLeDiff, Nat.reduceAdd, Nat.reduceLT, Nat.reduceEqDiff, reduceCtorEq, ↓reduceIte]
  refine call_by ((splain_ok n)) (by rfl) (by simp) ?_
  simp (disch := omega) only [wk, tis, Int.reduceNe, Int.reduceEq, Int.reduceLT, Int.reduceLE, Int.reduceAdd, Int.reduceSub, Int.reduceNeg, Int.reduceMul, Int.reduceToNat, Nat.reduceSub, Nat.reduceMul, Nat.reduceLeDiff, Nat.reduceAdd, Nat.reduceLT, Nat.reduceEqDiff, reduceCtorEq, ↓reduceIte]
  by_cases h1 : n < 0
  · have : ¬ (0 ≤ n ∧ n ≤ 1000) := by omega
    simp (disch := omega) only [wk, tis, Int.reduceNe, Int.reduceEq, Int.reduceLT, Int.reduceLE, Int.reduceAdd, Int.reduceSub, Int.reduceNeg, Int.reduceMul, Int.reduceToNat, Nat.reduceSub, Nat.reduceMul, Nat.reduceLeDiff, Nat.reduceAdd, Nat.reduceLT, Nat.reduceEqDiff, reduceCtorEq, ↓reduceIte, h1, this]
    rfl
  by_cases h2 : 1000 < n
  · have : ¬ (0 ≤ n ∧ n ≤ 1000) := by omega
    simp (disch := omega) only [wk, tis, Int.reduceNe, Int.reduceEq, Int.reduceLT, Int.reduceLE, Int.reduceAdd, Int.reduceSub, Int.reduceNeg, Int.reduceMul, Int.reduceToNat, Nat.reduceSub, Nat.reduceMul, Nat.reduceLeDiff, Nat.reduceAdd, Nat.reduceLT, Nat.reduceEqDiff, reduceCtorEq, ↓reduceIte, h1, h2, this]
    rfl
  have h3 : 0 ≤ n ∧ n ≤ 1000 := by omega
  obtain ⟨m, rfl⟩ := Int.eq_ofNat_of_zero_le h3.1
  have hm : m ≤ 1000 := by omega
  simp (disch := omega) only [wk, tis, Int.reduceNe, Int.reduceEq, Int.reduceLT, Int.reduceLE, Int.reduceAdd, Int.reduceSub, Int.reduceNeg, Int.reduceMul, Int.reduceToNat, Nat.reduceSub, Nat.reduceMul, Nat.reduceLeDiff, Nat.reduceAdd, Nat.reduceLT, Nat.reduceEqDiff, reduceCtorEq, ↓reduceIte, h1, h2, h3]
  have s1 := sof_ok [1] (by decide) (by decide)
  refine call_by (s1) (by first | rfl | (simp only [tocvs, tocv, h1, h2]; rfl)) (by simp) ?_
  simp (disch := omega) only [wk, tis, Int.reduceNe, Int.reduceEq, Int.reduceLT, Int.reduceLE, Int.reduceAdd, Int.reduceSub, Int.reduceNeg, Int.reduceMul, Int.reduceToNat, Nat.reduceSub, Nat.reduceMul, Nat.reduceLeDiff, Nat.reduceAdd, Nat.reduceLT, Nat.reduceEqDiff, reduceCtorEq, ↓reduceIte, h1, h2]
  have hb : ∀ x, x ≤ 1000 → PB (2 ^ 30) (2 ^ 35) (ppow (pv p) x) := fun x hx => ((h.pv.ppow (by decide)) x).mono (by omega) (by omega)
  refine aloop_by (fun f H => ∃ (i : Nat), i ≤ m ∧ f 8 = .iv (.int .i64 i) ∧ f 0 = .iv (.sl (raws p)) ∧ f 1 = .iv (.int .i64 m) ∧ f 7 = .iv (.sl (cpoly (ppow (pv p) i)))) (fun f H => (m - intAt f 8).toNat) ?_ ?_
  · refine ⟨0, by omega, ?_⟩
    simp (disch := omega) only [wk, tis, Int.reduceNe, Int.reduceEq, Int.reduceLT, Int.reduceLE, Int.reduceAdd, Int.reduceSub, Int.reduceNeg, Int.reduceMul, Int.reduceToNat, Nat.reduceSub, Nat.reduceMul, Nat.reduceLeDiff, Nat.reduceAdd, Nat.reduceLT, Nat.reduceEqDiff, reduceCtorEq, ↓reduceIte, ppow]
  rintro f H ⟨i, hi, hF⟩
  rw [intAt_of hF.1]
  simp (disch := omega) only [wk, tis, Int.reduceNe, Int.reduceEq, Int.reduceLT, Int.reduceLE, Int.reduceAdd, Int.reduceSub, Int.reduceNeg, Int.reduceMul, Int.reduceToNat, Nat.reduceSub, Nat.reduceMul, Nat.reduceLeDiff, Nat.reduceAdd, Nat.reduceLT, Nat.reduceEqDiff, reduceCtorEq, ↓reduceIte, hF]
  refine if_by (fun hlt => ?_) (fun hlt => ?_)
  · simp (disch := omega) only [wk, tis, Int.reduceNe, Int.reduceEq, Int.reduceLT, Int.reduceLE, Int.reduceAdd, Int.reduceSub, Int.reduceNeg, Int.reduceMul, Int.reduceToNat, Nat.reduceSub, Nat.reduceMul, Nat.reduceLeDiff, Nat.reduceAdd, Nat.reduceLT, Nat.reduceEqDiff, reduceCtorEq, ↓reduceIte, hF]
    have hm := smul_ok (cn (ppow (pv p) i)) p (rp_cn (hb i (by omega))) (h.mono (by omega) (by omega))
    have e : cp (pmul (pv (cn (ppow (pv p) i))) (pv p)) = cp (ppow (pv p) (i + 1)) := cp_ps (by rw [ps_pmul, ps_cn, ps_ppow, ps_ppow]; rfl)
    rw [e] at hm
    refine call_by (hm) (by first | rfl | (simp only [tocvs, tocv, hF]; rfl)) (by simp) ?_
    simp (disch := omega) only [wk, tis, Int.reduceNe, Int.reduceEq, Int.reduceLT, Int.reduceLE, Int.reduceAdd, Int.reduceSub, Int.reduceNeg, Int.reduceMul, Int.reduceToNat, Nat.reduceSub, Nat.reduceMul, Nat.reduceLeDiff, Nat.reduceAdd, Nat.reduceLT, Nat.reduceEqDiff, reduceCtorEq, ↓reduceIte, hF]
    exact ⟨⟨i + 1, by omega, by omega, rfl⟩, by omega⟩
  · simp (disch := omega) only [wk, tis, Int.reduceNe, Int.reduceEq, Int.reduceLT, Int.reduceLE, Int.reduceAdd, Int.reduceSub, Int.reduceNeg, Int.reduceMul, Int.reduceToNat, Nat.reduceSub, Nat.reduceMul, Nat.reduceLeDiff, Nat.reduceAdd, Nat.reduceLT, Nat.reduceEqDiff, reduceCtorEq, ↓reduceIte, hF]
    have : i = m := by omega
    subst this
    rfl

theorem lplain_ok (e w : Int) : AC Try.prog 35 [ci e, ci w] none [cb (decide (e = w))] := by
  refine AC.by_walk (rs := [.tmp 4]) ords Try.func35 (by rfl) (by rfl) (by rfl) (by rfl) (by rfl) ?_
  simp (disch := omega) only [wk, tis, Int.reduceNe, Int.reduceEq, Int.reduceLT, Int.reduceLE, Int.reduceAdd, Int.reduceSub, Int.reduceNeg, Int.reduceMul, Int.reduceToNat, Nat.reduceSub, Nat.reduceMul, Nat.reduceLeDiff, Nat.reduceAdd, Nat.reduceLT, Nat.reduceEqDiff, reduceCtorEq, ↓reduceIte]

end Go.Proofs.Ythgecppfgdadiaa

namespace Go.Proofs.Ythgecppfgdadiaa
open Go Go.Proofs Go.AL
set_option linter.unusedSimpArgs false
set_option linter.unusedVariables false

/-- Numbers of at most k words, at most n of them. -/
def NP (n k : Nat) (l : List (List Nat)) : Prop := l.length ≤ n ∧ ∀ a ∈ l, Lim a ∧ a.length ≤ k

theorem NP.get {n k : Nat} {l : List (List Nat)} (h : NP n k l) (i : Nat) : Lim (l.getD i []) ∧ (l.getD i []).length ≤ k := by
  by_cases hi : i < l.length
  · have e : l.getD i [] = l[i] := by simp [List.getD, hi]
    rw [e]; exact h.2 _ (List.getElem_mem hi)
  · rw [List.getD_eq_getElem?_getD, List.getElem?_eq_none (by omega)]
    exact ⟨Lim.nil, by simp⟩

def nsum (l : List (List Nat)) : Nat := l.foldl (fun s a => s + nv a) 0

theorem nsum_take {l : List (List Nat)} {i : Nat} (h : i < l.length) : nsum (l.take (i + 1)) = nsum (l.take i) + nv (l.getD i []) := by
  have e : l.take (i + 1) = l.take i ++ [l.getD i []] := by
    rw [List.take_add_one]; congr 1; simp [List.getD, h]
  rw [e, nsum, List.foldl_append]; rfl

theorem nsum_len {n k : Nat} {l : List (List Nat)} (h : NP n k l) : ∀ i, i ≤ l.length → (wd (nsum (l.take i))).length ≤ k + i
  | 0, _ => by simp [nsum, wd_zero]
  | i + 1, hi => by
    have h1 := nsum_len h i (by omega)
    have e : l.getD i [] = l[i] := by simp [List.getD, show i < l.length by omega]
    obtain ⟨h2, h3⟩ := h.2 l[i] (List.getElem_mem (by omega))
    have h4 := nv_len h2
    rw [nsum_take (by omega), e]
    have := wd_add_len (nsum (l.take i)) (nv l[i])
    omega

theorem nsum_ok (l : List (List Nat)) (h : NP (2 ^ 30) (2 ^ 30) l) : AC Try.prog 113 [.iv (.sl (natsr l))] none [cl (wd (nsum l))] := by
  refine AC.by_walk (rs := [.tmp 2]) ords Try.func113 (by rfl) (by rfl) (by rfl) (by rfl) (by rfl) ?_
  have hl := h.1
  simp (disch := omega) only [wk, tis, Int.reduceNe, Int.reduceEq, Int.reduceLT, Int.reduceLE, Int.reduceAdd, Int.reduceSub, Int.reduceNeg, Int.reduceMul, Int.reduceToNat, Nat.reduceSub, Nat.reduceMul, Nat.reduceLeDiff, Nat.reduceAdd, Nat.reduceLT, Nat.reduceEqDiff, reduceCtorEq, ↓reduceIte, cpoly_len, natsr_len, natsr_at, natsr_snoc, natsr_app, natsr_rows, natsr_nil, List.drop_succ_cons, List.take_succ_cons, List.take_zero]
  refine aloop_w (.nilv 3 (by simp (disch := omega) only [wk, tis, Int.reduceNe, Int.reduceEq, Int.reduceLT, Int.reduceLE, Int.reduceAdd, Int.reduceSub, Int.reduceNeg, Int.reduceMul, Int.reduceToNat, Nat.reduceSub, Nat.reduceMul, Nat.reduceLeDiff, Nat.reduceAdd, Nat.reduceLT, Nat.reduceEqDiff, reduceCtorEq, ↓reduceIte, cpoly_len, natsr_len, natsr_at, natsr_snoc, natsr_app, natsr_rows, natsr_nil, List.drop_succ_cons, List.take_succ_cons, List.take_zero]) (.refl _ _)) (fun f H => ∃ (i : Nat), i ≤ l.length ∧ f 8 = .iv (.int .i64 i) ∧ f 3 = .iv (.sl (lims (wd (nsum (l.take i))))) ∧ f 6 = .iv (.sl (natsr l)) ∧ f 7 = .iv (.int .i64 l.length)) (fun f H => (l.length - intAt f 8).toNat) ?_ ?_
  · refine ⟨0, by omega, ?_⟩
    simp (disch := omega) only [wk, tis, Int.reduceNe, Int.reduceEq, Int.reduceLT, Int.reduceLE, Int.reduceAdd, Int.reduceSub, Int.reduceNeg, Int.reduceMul, Int.reduceToNat, Nat.reduceSub, Nat.reduceMul, Nat.reduceLeDiff, Nat.reduceAdd, Nat.reduceLT, Nat.reduceEqDiff, reduceCtorEq, ↓reduceIte, cpoly_len, natsr_len, natsr_at, natsr_snoc, natsr_app, natsr_rows, natsr_nil, List.drop_succ_cons, List.take_succ_cons, List.take_zero, List.take_zero, nsum, List.foldl_nil, wd_zero]
  rintro f H ⟨i, hi, hF⟩
  rw [intAt_of hF.1]
  simp (disch := omega) only [wk, tis, Int.reduceNe, Int.reduceEq, Int.reduceLT, Int.reduceLE, Int.reduceAdd, Int.reduceSub, Int.reduceNeg, Int.reduceMul, Int.reduceToNat, Nat.reduceSub, Nat.reduceMul, Nat.reduceLeDiff, Nat.reduceAdd, Nat.reduceLT, Nat.reduceEqDiff, reduceCtorEq, ↓reduceIte, cpoly_len, natsr_len, natsr_at, natsr_snoc, natsr_app, natsr_rows, natsr_nil, List.drop_succ_cons, List.take_succ_cons, List.take_zero, hF]
  have hs := nsum_len h i hi
  refine if_by (fun hlt => ?_) (fun hlt => ?_)
  · have hg := h.get i
    have h3 := hg.2
    have m := nadd_ok (wd (nsum (l.take i))) (l.getD i []) (lim_wd _) hg.1 (by omega) (by omega)
    rw [nv_wd, ← nsum_take (by omega)] at m
    simp (disch := omega) only [wk, tis, Int.reduceNe, Int.reduceEq, Int.reduceLT, Int.reduceLE, Int.reduceAdd, Int.reduceSub, Int.reduceNeg, Int.reduceMul, Int.reduceToNat, Nat.reduceSub, Nat.reduceMul, Nat.reduceLeDiff, Nat.reduceAdd, Nat.reduceLT, Nat.reduceEqDiff, reduceCtorEq, ↓reduceIte, cpoly_len, natsr_len, natsr_at, natsr_snoc, natsr_app, natsr_rows, natsr_nil, List.drop_succ_cons, List.take_succ_cons, List.take_zero, hF]
    refine call_by (m) (by first | rfl | (simp only [tocvs, tocv, hF]; rfl)) (by simp) ?_
    simp (disch := omega) only [wk, tis, Int.reduceNe, Int.reduceEq, Int.reduceLT, Int.reduceLE, Int.reduceAdd, Int.reduceSub, Int.reduceNeg, Int.reduceMul, Int.reduceToNat, Nat.reduceSub, Nat.reduceMul, Nat.reduceLeDiff, Nat.reduceAdd, Nat.reduceLT, Nat.reduceEqDiff, reduceCtorEq, ↓reduceIte, cpoly_len, natsr_len, natsr_at, natsr_snoc, natsr_app, natsr_rows, natsr_nil, List.drop_succ_cons, List.take_succ_cons, List.take_zero, hF]
    exact ⟨⟨i + 1, by omega, by omega, rfl⟩, by omega⟩
  · simp (disch := omega) only [wk, tis, Int.reduceNe, Int.reduceEq, Int.reduceLT, Int.reduceLE, Int.reduceAdd, Int.reduceSub, Int.reduceNeg, Int.reduceMul, Int.reduceToNat, Nat.reduceSub, Nat.reduceMul, Nat.reduceLeDiff, Nat.reduceAdd, Nat.reduceLT, Nat.reduceEqDiff, reduceCtorEq, ↓reduceIte, cpoly_len, natsr_len, natsr_at, natsr_snoc, natsr_app, natsr_rows, natsr_nil, List.drop_succ_cons, List.take_succ_cons, List.take_zero, hF]
    rw [List.take_of_length_le (by omega)]

theorem nsum_snd (p : List RI) : nsum (p.map (·.2)) = wgt (pv p) := by
  unfold nsum wgt pv
  rw [List.foldl_map, List.foldl_map]
  congr 1
  funext s c
  rw [iv_abs]

theorem pweight_ok (p : List RI) (h : RP (2 ^ 30) (2 ^ 30) p) : AC Try.prog 52 [cw p] none [cl (wd (wgt (pv p)))] := by
  refine AC.by_walk (rs := [.tmp 2]) ords Try.func52 (by rfl) (by rfl) (by rfl) (by rfl) (by rfl) ?_
  have hl := h.1
  simp (disch := omega) only [wk, tis, Int.reduceNe, Int.reduceEq, Int.reduceLT, Int.reduceLE, Int.reduceAdd, Int.reduceSub, Int.reduceNeg, Int.reduceMul, Int.reduceToNat, Nat.reduceSub, Nat.reduceMul, Nat.reduceLeDiff, Nat.reduceAdd, Nat.reduceLT, Nat.reduceEqDiff, reduceCtorEq, ↓reduceIte, cpoly_len, natsr_len, natsr_at, natsr_snoc, natsr_app, natsr_rows, natsr_nil, List.drop_succ_cons, List.take_succ_cons, List.take_zero]
  refine aloop_nil 3 3 38 1 (by simp (disch := omega) only [wk, tis, Int.reduceNe, Int.reduceEq, Int.reduceLT, Int.reduceLE, Int.reduceAdd, Int.reduceSub, Int.reduceNeg, Int.reduceMul, Int.reduceToNat, Nat.reduceSub, Nat.reduceMul, Nat.reduceLeDiff, Nat.reduceAdd, Nat.reduceLT, Nat.reduceEqDiff, reduceCtorEq, ↓reduceIte, cpoly_len, natsr_len, natsr_at, natsr_snoc, natsr_app, natsr_rows, natsr_nil, List.drop_succ_cons, List.take_succ_cons, List.take_zero]) (fun f H => ∃ (i st : Nat), i ≤ p.length ∧ f 8 = .iv (.int .i64 i) ∧ f 3 = .hs 3 st ∧ f 6 = .iv (.sl (raws p)) ∧ f 7 = .iv (.int .i64 p.length) ∧ H 3 = .blk false st 38 1 (natsr ((p.take i).map (·.2)))) (fun f H => (p.length - intAt f 8).toNat) ?_ ?_
  · refine ⟨0, 1, by omega, ?_⟩
    simp (disch := omega) only [wk, tis, Int.reduceNe, Int.reduceEq, Int.reduceLT, Int.reduceLE, Int.reduceAdd, Int.reduceSub, Int.reduceNeg, Int.reduceMul, Int.reduceToNat, Nat.reduceSub, Nat.reduceMul, Nat.reduceLeDiff, Nat.reduceAdd, Nat.reduceLT, Nat.reduceEqDiff, reduceCtorEq, ↓reduceIte, cpoly_len, natsr_len, natsr_at, natsr_snoc, natsr_app, natsr_rows, natsr_nil, List.drop_succ_cons, List.take_succ_cons, List.take_zero, ghostF, ghostH, List.take_zero]
  rintro f H ⟨i, st, hi, hF⟩
  rw [intAt_of hF.1]
  simp (disch := omega) only [wk, tis, Int.reduceNe, Int.reduceEq, Int.reduceLT, Int.reduceLE, Int.reduceAdd, Int.reduceSub, Int.reduceNeg, Int.reduceMul, Int.reduceToNat, Nat.reduceSub, Nat.reduceMul, Nat.reduceLeDiff, Nat.reduceAdd, Nat.reduceLT, Nat.reduceEqDiff, reduceCtorEq, ↓reduceIte, cpoly_len, natsr_len, natsr_at, natsr_snoc, natsr_app, natsr_rows, natsr_nil, List.drop_succ_cons, List.take_succ_cons, List.take_zero, hF]
  refine if_by (fun hlt => ?_) (fun hlt => ?_)
  · have hq : ((p.take i).map (·.2)).length = i := by rw [List.length_map, List.length_take]; omega
    simp (disch := omega) only [wk, tis, Int.reduceNe, Int.reduceEq, Int.reduceLT, Int.reduceLE, Int.reduceAdd, Int.reduceSub, Int.reduceNeg, Int.reduceMul, Int.reduceToNat, Nat.reduceSub, Nat.reduceMul, Nat.reduceLeDiff, Nat.reduceAdd, Nat.reduceLT, Nat.reduceEqDiff, reduceCtorEq, ↓reduceIte, cpoly_len, natsr_len, natsr_at, natsr_snoc, natsr_app, natsr_rows, natsr_nil, List.drop_succ_cons, List.take_succ_cons, List.take_zero, hF, hq]
    have e : (p.take (i + 1)).map (·.2) = (p.take i).map (·.2) ++ [(p.getD i (false, [])).2] := by
      rw [List.take_add_one, List.map_append]; congr 1; simp [List.getD, show i < p.length by omega]
    exact ⟨⟨i + 1, st + 1, by omega, by omega, by rw [e]; exact ⟨rfl, rfl⟩⟩, by omega⟩
  · simp (disch := omega) only [wk, tis, Int.reduceNe, Int.reduceEq, Int.reduceLT, Int.reduceLE, Int.reduceAdd, Int.reduceSub, Int.reduceNeg, Int.reduceMul, Int.reduceToNat, Nat.reduceSub, Nat.reduceMul, Nat.reduceLeDiff, Nat.reduceAdd, Nat.reduceLT, Nat.reduceEqDiff, reduceCtorEq, ↓reduceIte, cpoly_len, natsr_len, natsr_at, natsr_snoc, natsr_app, natsr_rows, natsr_nil, List.drop_succ_cons, List.take_succ_cons, List.take_zero, hF]
    rw [List.take_of_length_le (by omega)] at hF
    have m := nsum_ok (p.map (·.2)) ⟨by simpa using hl, fun a ha => by
      obtain ⟨c, hc, rfl⟩ := List.mem_map.mp ha
      exact ⟨(h.2 c hc).2, (h.2 c hc).1⟩⟩
    rw [nsum_snd] at m
    refine call_by (m) (by first | rfl | (simp only [tocvs, tocv, hF]; rfl)) (by simp) ?_
    simp (disch := omega) only [wk, tis, Int.reduceNe, Int.reduceEq, Int.reduceLT, Int.reduceLE, Int.reduceAdd, Int.reduceSub, Int.reduceNeg, Int.reduceMul, Int.reduceToNat, Nat.reduceSub, Nat.reduceMul, Nat.reduceLeDiff, Nat.reduceAdd, Nat.reduceLT, Nat.reduceEqDiff, reduceCtorEq, ↓reduceIte, cpoly_len, natsr_len, natsr_at, natsr_snoc, natsr_app, natsr_rows, natsr_nil, List.drop_succ_cons, List.take_succ_cons, List.take_zero, hF]

theorem wgt_len {n k : Nat} {p : List RI} (h : RP n k p) (i : Nat) (hi : i ≤ p.length) : (wd (wgt ((pv p).take i))).length ≤ k + i := by
  have := nsum_len (n := n) (k := k) (l := p.map (·.2)) ⟨by simpa using h.1, fun a ha => by
      obtain ⟨c, hc, rfl⟩ := List.mem_map.mp ha
      exact ⟨(h.2 c hc).2, (h.2 c hc).1⟩⟩ i (by simpa using hi)
  rw [← List.map_take, nsum_snd] at this
  rwa [show pv (p.take i) = (pv p).take i by simp [pv, List.map_take]] at this

theorem sweight_ok (p : List RI) (h : RP (2 ^ 30) (2 ^ 30) p) : AC Try.prog 53 [cw p] none [cl (wd (wgt (pv p)))] := by
  refine AC.by_walk (rs := [.tmp 2]) ords Try.func53 (by rfl) (by rfl) (by rfl) (by rfl) (by rfl) ?_
  have hl := h.1
  simp (disch := omega) only [wk, tis, Int.reduceNe, Int.reduceEq, Int.reduceLT, Int.reduceLE, Int.reduceAdd, Int.reduceSub, Int.reduceNeg, Int.reduceMul, Int.reduceToNat, Nat.reduceSub, Nat.reduceMul, Nat.reduceLeDiff, Nat.reduceAdd, Nat.reduceLT, Nat.reduceEqDiff, reduceCtorEq, ↓reduceIte, cpoly_len, natsr_len, natsr_at, natsr_snoc, natsr_app, natsr_rows, natsr_nil, List.drop_succ_cons, List.take_succ_cons, List.take_zero]
  refine aloop_w (.nilv 3 (by simp (disch := omega) only [wk, tis, Int.reduceNe, Int.reduceEq, Int.reduceLT, Int.reduceLE, Int.reduceAdd, Int.reduceSub, Int.reduceNeg, Int.reduceMul, Int.reduceToNat, Nat.reduceSub, Nat.reduceMul, Nat.reduceLeDiff, Nat.reduceAdd, Nat.reduceLT, Nat.reduceEqDiff, reduceCtorEq, ↓reduceIte, cpoly_len, natsr_len, natsr_at, natsr_snoc, natsr_app, natsr_rows, natsr_nil, List.drop_succ_cons, List.take_succ_cons, List.take_zero]) (.refl _ _)) (fun f H => ∃ (i : Nat), i ≤ p.length ∧ f 4 = .iv (.int .i64 i) ∧ f 0 = .iv (.sl (raws p)) ∧ f 3 = .iv (.sl (lims (wd (wgt ((pv p).take i)))))) (fun f H => (p.length - intAt f 4).toNat) ?_ ?_
  · refine ⟨0, by omega, ?_⟩
    simp (disch := omega) only [wk, tis, Int.reduceNe, Int.reduceEq, Int.reduceLT, Int.reduceLE, Int.reduceAdd, Int.reduceSub, Int.reduceNeg, Int.reduceMul, Int.reduceToNat, Nat.reduceSub, Nat.reduceMul, Nat.reduceLeDiff, Nat.reduceAdd, Nat.reduceLT, Nat.reduceEqDiff, reduceCtorEq, ↓reduceIte, cpoly_len, natsr_len, natsr_at, natsr_snoc, natsr_app, natsr_rows, natsr_nil, List.drop_succ_cons, List.take_succ_cons, List.take_zero, List.take_zero, wgt, List.foldl_nil, wd_zero]
  rintro f H ⟨i, hi, hF⟩
  rw [intAt_of hF.1]
  simp (disch := omega) only [wk, tis, Int.reduceNe, Int.reduceEq, Int.reduceLT, Int.reduceLE, Int.reduceAdd, Int.reduceSub, Int.reduceNeg, Int.reduceMul, Int.reduceToNat, Nat.reduceSub, Nat.reduceMul, Nat.reduceLeDiff, Nat.reduceAdd, Nat.reduceLT, Nat.reduceEqDiff, reduceCtorEq, ↓reduceIte, cpoly_len, natsr_len, natsr_at, natsr_snoc, natsr_app, natsr_rows, natsr_nil, List.drop_succ_cons, List.take_succ_cons, List.take_zero, hF]
  have hs := wgt_len h i hi
  refine if_by (fun hlt => ?_) (fun hlt => ?_)
  · have hc := h.get i
    have hcl := hc.1
    have m := rPlus_ok (wd (wgt ((pv p).take i))) (p.getD i (false, [])).2 (lim_wd _) hc.2 (by omega) (by omega)
    rw [nv_wd, ← iv_abs, ← cf_pv, ← wgt_take (by rw [pv_len]; omega)] at m
    simp (disch := omega) only [wk, tis, Int.reduceNe, Int.reduceEq, Int.reduceLT, Int.reduceLE, Int.reduceAdd, Int.reduceSub, Int.reduceNeg, Int.reduceMul, Int.reduceToNat, Nat.reduceSub, Nat.reduceMul, Nat.reduceLeDiff, Nat.reduceAdd, Nat.reduceLT, Nat.reduceEqDiff, reduceCtorEq, ↓reduceIte, cpoly_len, natsr_len, natsr_at, natsr_snoc, natsr_app, natsr_rows, natsr_nil, List.drop_succ_cons, List.take_succ_cons, List.take_zero, hF]
    refine call_by (m) (by first | rfl | (simp only [tocvs, tocv, hF]; rfl)) (by simp) ?_
    simp (disch := omega) only [wk, tis, Int.reduceNe, Int.reduceEq, Int.reduceLT, Int.reduceLE, Int.reduceAdd, Int.reduceSub, Int.reduceNeg, Int.reduceMul, Int.reduceToNat, Nat.reduceSub, Nat.reduceMul, Nat.reduceLeDiff, Nat.reduceAdd, Nat.reduceLT, Nat.reduceEqDiff, reduceCtorEq, ↓reduceIte, cpoly_len, natsr_len, natsr_at, natsr_snoc, natsr_app, natsr_rows, natsr_nil, List.drop_succ_cons, List.take_succ_cons, List.take_zero, hF]
    exact ⟨⟨i + 1, by omega, by omega, rfl⟩, by omega⟩
  · simp (disch := omega) only [wk, tis, Int.reduceNe, Int.reduceEq, Int.reduceLT, Int.reduceLE, Int.reduceAdd, Int.reduceSub, Int.reduceNeg, Int.reduceMul, Int.reduceToNat, Nat.reduceSub, Nat.reduceMul, Nat.reduceLeDiff, Nat.reduceAdd, Nat.reduceLT, Nat.reduceEqDiff, reduceCtorEq, ↓reduceIte, cpoly_len, natsr_len, natsr_at, natsr_snoc, natsr_app, natsr_rows, natsr_nil, List.drop_succ_cons, List.take_succ_cons, List.take_zero, hF]
    rw [List.take_of_length_le (by rw [pv_len]; omega)]

theorem pv_cn (q : List Int) : pv (cn q) = trimz q := by rw [cn, pv_canon]

theorem zl_ite {z : Int} {c : Prop} [Decidable c] {k : Nat} (h : zl z ≤ k) : zl (if c then 0 else z) ≤ k := by
  split
  · rw [zl_zero]; omega
  · exact h

theorem sameint_g {a b : Int} (e : a = b) (h : zl a ≤ 2 ^ 43) : AC Try.prog 42 [cz a, cz b] none [cb true] := by
  subst e
  have := rSameInt_ok (canon a) (canon a) h h
  rwa [decide_eq_true rfl] at this

theorem samenat_g {a : Nat} (h : (wd a).length ≤ 2 ^ 43) : AC Try.prog 49 [cl (wd a), cl (wd a)] none [cb true] := by
  have := rSame_ok (wd a) (wd a) h h
  rwa [decide_eq_true rfl] at this

/-- A case of the layer 9. -/
abbrev case9' (A B C : List RI) (K : RI) (N : Int) : List IV := [.sl (raws A), .sl (raws B), .sl (raws C), .bool K.1, .sl (lims K.2), .int .i64 N]

theorem hgt_len {n k : Nat} {p : List RI} (h : RP n k p) : ∀ i, i ≤ p.length → (wd (hgt ((pv p).take i))).length ≤ k
  | 0, _ => by simp [hgt, wd_zero]
  | i + 1, hi => by
    have h1 := hgt_len h i (by omega)
    have h2 := h.get i
    have h3 := nv_len h2.2
    have h4 := h2.1
    rw [hgt_take (by rw [pv_len]; omega), cf_pv, iv_abs]
    rcases Nat.le_total (hgt ((pv p).take i)) (nv (p.getD i (false, [])).2) with h | h
    · rw [Nat.max_eq_right h]; omega
    · rw [Nat.max_eq_left h]; omega

theorem looks_ok (A B C : List RI) (K : RI) (N : Int) (ha : RP 1048576 1048576 A) (hb : RP 1048576 1048576 B) (hc : RP 1048576 1048576 C) (hK : Sz 1048576 K) (h1 : -9223372036854775808 ≤ N) (h2 : N ≤ 9223372036854775807) :
    AC Try.prog 6 [.agg (case9' A B C K N)] none [cb true] := by
  refine AC.by_walk (rs := [.tmp 2]) ords Try.func6 (by rfl) (by rfl) (by rfl) (by rfl) (by rfl) ?_
  have qa := ha.pv
  have Ra := ha.mono (n' := 2 ^ 30) (k' := 2 ^ 30) (by decide) (by decide)
  have Rb := hb.mono (n' := 2 ^ 30) (k' := 2 ^ 30) (by decide) (by decide)
  have Sa := ha.mono (n' := 2 ^ 40) (k' := 2 ^ 40) (by decide) (by decide)
  have Sb := hb.mono (n' := 2 ^ 40) (k' := 2 ^ 40) (by decide) (by decide)
  have htl := tz_le (pv A)
  have hal := ha.1
  rw [pv_len] at htl
  simp (disch := omega) only [wk, tis, Int.reduceNe, Int.reduceEq, Int.reduceLT, Int.reduceLE, Int.reduceAdd, Int.reduceSub, Int.reduceNeg, Int.reduceMul, Int.reduceToNat, Nat.reduceSub, Nat.reduceMul, Nat.reduceLeDiff, Nat.reduceAdd, Nat.reduceLT, Nat.reduceEqDiff, reduceCtorEq, ↓reduceIte, cpoly_len, natsr_len, natsr_at, natsr_snoc, natsr_app, natsr_rows, natsr_nil, List.drop_succ_cons, List.take_succ_cons, List.take_zero]
  refine call_by (awake_ok) (by rfl) (by simp) ?_
  simp (disch := omega) only [wk, tis, Int.reduceNe, Int.reduceEq, Int.reduceLT, Int.reduceLE, Int.reduceAdd, Int.reduceSub, Int.reduceNeg, Int.reduceMul, Int.reduceToNat, Nat.reduceSub, Nat.reduceMul, Nat.reduceLeDiff, Nat.reduceAdd, Nat.reduceLT, Nat.reduceEqDiff, reduceCtorEq, ↓reduceIte, cpoly_len, natsr_len, natsr_at, natsr_snoc, natsr_app, natsr_rows, natsr_nil, List.drop_succ_cons, List.take_succ_cons, List.take_zero]
  refine call_by ((snorm_ok A Sa)) (by rfl) (by simp) ?_
  simp (disch := omega) only [wk, tis, Int.reduceNe, Int.reduceEq, Int.reduceLT, Int.reduceLE, Int.reduceAdd, Int.reduceSub, Int.reduceNeg, Int.reduceMul, Int.reduceToNat, Nat.reduceSub, Nat.reduceMul, Nat.reduceLeDiff, Nat.reduceAdd, Nat.reduceLT, Nat.reduceEqDiff, reduceCtorEq, ↓reduceIte, cpoly_len, natsr_len, natsr_at, natsr_snoc, natsr_app, natsr_rows, natsr_nil, List.drop_succ_cons, List.take_succ_cons, List.take_zero]
  refine call_by ((slow_ok A Sa)) (by rfl) (by simp) ?_
  simp (disch := omega) only [wk, tis, Int.reduceNe, Int.reduceEq, Int.reduceLT, Int.reduceLE, Int.reduceAdd, Int.reduceSub, Int.reduceNeg, Int.reduceMul, Int.reduceToNat, Nat.reduceSub, Nat.reduceMul, Nat.reduceLeDiff, Nat.reduceAdd, Nat.reduceLT, Nat.reduceEqDiff, reduceCtorEq, ↓reduceIte, cpoly_len, natsr_len, natsr_at, natsr_snoc, natsr_app, natsr_rows, natsr_nil, List.drop_succ_cons, List.take_succ_cons, List.take_zero]
  refine call_by ((plow_ok A Sa)) (by rfl) (by simp) ?_
  simp (disch := omega) only [wk, tis, Int.reduceNe, Int.reduceEq, Int.reduceLT, Int.reduceLE, Int.reduceAdd, Int.reduceSub, Int.reduceNeg, Int.reduceMul, Int.reduceToNat, Nat.reduceSub, Nat.reduceMul, Nat.reduceLeDiff, Nat.reduceAdd, Nat.reduceLT, Nat.reduceEqDiff, reduceCtorEq, ↓reduceIte, cpoly_len, natsr_len, natsr_at, natsr_snoc, natsr_app, natsr_rows, natsr_nil, List.drop_succ_cons, List.take_succ_cons, List.take_zero]
  refine ⟨tmps_by (by kernel_rfl), ?_⟩
  generalize (if lw (pv A) < A.length then 0 else 1 : Int) = er
  generalize (if lw (pv A) < A.length then lw (pv A) else 0 : Int) = lo
  refine call_by ((lplain_ok er er)) (by rfl) (by simp) ?_
  simp (disch := omega) only [wk, tis, Int.reduceNe, Int.reduceEq, Int.reduceLT, Int.reduceLE, Int.reduceAdd, Int.reduceSub, Int.reduceNeg, Int.reduceMul, Int.reduceToNat, Nat.reduceSub, Nat.reduceMul, Nat.reduceLeDiff, Nat.reduceAdd, Nat.reduceLT, Nat.reduceEqDiff, reduceCtorEq, ↓reduceIte, cpoly_len, natsr_len, natsr_at, natsr_snoc, natsr_app, natsr_rows, natsr_nil, List.drop_succ_cons, List.take_succ_cons, List.take_zero]
  refine call_by ((pnorm_ok A Sa)) (by rfl) (by simp) ?_
  simp (disch := omega) only [wk, tis, Int.reduceNe, Int.reduceEq, Int.reduceLT, Int.reduceLE, Int.reduceAdd, Int.reduceSub, Int.reduceNeg, Int.reduceMul, Int.reduceToNat, Nat.reduceSub, Nat.reduceMul, Nat.reduceLeDiff, Nat.reduceAdd, Nat.reduceLT, Nat.reduceEqDiff, reduceCtorEq, ↓reduceIte, cpoly_len, natsr_len, natsr_at, natsr_snoc, natsr_app, natsr_rows, natsr_nil, List.drop_succ_cons, List.take_succ_cons, List.take_zero]
  refine call_by ((same_g (qa.mono (by decide) (by decide)) (qa.mono (by decide) (by decide)) rfl)) (by rfl) (by simp) ?_
  simp (disch := omega) only [wk, tis, Int.reduceNe, Int.reduceEq, Int.reduceLT, Int.reduceLE, Int.reduceAdd, Int.reduceSub, Int.reduceNeg, Int.reduceMul, Int.reduceToNat, Nat.reduceSub, Nat.reduceMul, Nat.reduceLeDiff, Nat.reduceAdd, Nat.reduceLT, Nat.reduceEqDiff, reduceCtorEq, ↓reduceIte, cpoly_len, natsr_len, natsr_at, natsr_snoc, natsr_app, natsr_rows, natsr_nil, List.drop_succ_cons, List.take_succ_cons, List.take_zero]
  refine call_by ((pdeg_ok A Sa)) (by rfl) (by simp) ?_
  simp (disch := omega) only [wk, tis, Int.reduceNe, Int.reduceEq, Int.reduceLT, Int.reduceLE, Int.reduceAdd, Int.reduceSub, Int.reduceNeg, Int.reduceMul, Int.reduceToNat, Nat.reduceSub, Nat.reduceMul, Nat.reduceLeDiff, Nat.reduceAdd, Nat.reduceLT, Nat.reduceEqDiff, reduceCtorEq, ↓reduceIte, cpoly_len, natsr_len, natsr_at, natsr_snoc, natsr_app, natsr_rows, natsr_nil, List.drop_succ_cons, List.take_succ_cons, List.take_zero]
  refine call_by ((sdeg_ok A Sa)) (by rfl) (by simp) ?_
  simp (disch := omega) only [wk, tis, Int.reduceNe, Int.reduceEq, Int.reduceLT, Int.reduceLE, Int.reduceAdd, Int.reduceSub, Int.reduceNeg, Int.reduceMul, Int.reduceToNat, Nat.reduceSub, Nat.reduceMul, Nat.reduceLeDiff, Nat.reduceAdd, Nat.reduceLT, Nat.reduceEqDiff, reduceCtorEq, ↓reduceIte, cpoly_len, natsr_len, natsr_at, natsr_snoc, natsr_app, natsr_rows, natsr_nil, List.drop_succ_cons, List.take_succ_cons, List.take_zero]
  first | exact log_by (by kernel_rfl) | refine ⟨log_by (by kernel_rfl), ?_⟩
  refine ⟨tmps_by (by kernel_rfl), ?_⟩
  refine frame_call (fun f H => f 1 = .hp 1 1 0 0 ∧ f 3 = .iv (.sl (cpoly (pv A))) ∧ H 1 = .blk false 1 44 6 [case9' A B C K N]) ?_ (fun f H hF => ?_)
  · simp (disch := omega) only [wk, tis, Int.reduceNe, Int.reduceEq, Int.reduceLT, Int.reduceLE, Int.reduceAdd, Int.reduceSub, Int.reduceNeg, Int.reduceMul, Int.reduceToNat, Nat.reduceSub, Nat.reduceMul, Nat.reduceLeDiff, Nat.reduceAdd, Nat.reduceLT, Nat.reduceEqDiff, reduceCtorEq, ↓reduceIte, cpoly_len, natsr_len, natsr_at, natsr_snoc, natsr_app, natsr_rows, natsr_nil, List.drop_succ_cons, List.take_succ_cons, List.take_zero]
  refine call_by ((pcoef_ok A N Sa)) (by first | rfl | (simp only [tocvs, tocv, hF]; rfl)) (by simp) ?_
  simp (disch := omega) only [wk, tis, Int.reduceNe, Int.reduceEq, Int.reduceLT, Int.reduceLE, Int.reduceAdd, Int.reduceSub, Int.reduceNeg, Int.reduceMul, Int.reduceToNat, Nat.reduceSub, Nat.reduceMul, Nat.reduceLeDiff, Nat.reduceAdd, Nat.reduceLT, Nat.reduceEqDiff, reduceCtorEq, ↓reduceIte, cpoly_len, natsr_len, natsr_at, natsr_snoc, natsr_app, natsr_rows, natsr_nil, List.drop_succ_cons, List.take_succ_cons, List.take_zero, hF]
  have zc : ∀ k, zl (cf (pv A) k) ≤ 1048576 := fun k => qa.cf k
  refine call_by ((scoef_ok A N Sa)) (by first | rfl | (simp only [tocvs, tocv, hF]; rfl)) (by simp) ?_
  simp (disch := omega) only [wk, tis, Int.reduceNe, Int.reduceEq, Int.reduceLT, Int.reduceLE, Int.reduceAdd, Int.reduceSub, Int.reduceNeg, Int.reduceMul, Int.reduceToNat, Nat.reduceSub, Nat.reduceMul, Nat.reduceLeDiff, Nat.reduceAdd, Nat.reduceLT, Nat.reduceEqDiff, reduceCtorEq, ↓reduceIte, cpoly_len, natsr_len, natsr_at, natsr_snoc, natsr_app, natsr_rows, natsr_nil, List.drop_succ_cons, List.take_succ_cons, List.take_zero, hF]
  refine call_by ((sameint_g rfl (zl_ite (Nat.le_trans (zc _) (by decide))))) (by first | rfl | (simp only [tocvs, tocv, hF]; rfl)) (by simp) ?_
  simp (disch := omega) only [wk, tis, Int.reduceNe, Int.reduceEq, Int.reduceLT, Int.reduceLE, Int.reduceAdd, Int.reduceSub, Int.reduceNeg, Int.reduceMul, Int.reduceToNat, Nat.reduceSub, Nat.reduceMul, Nat.reduceLeDiff, Nat.reduceAdd, Nat.reduceLT, Nat.reduceEqDiff, reduceCtorEq, ↓reduceIte, cpoly_len, natsr_len, natsr_at, natsr_snoc, natsr_app, natsr_rows, natsr_nil, List.drop_succ_cons, List.take_succ_cons, List.take_zero, hF]
  refine call_by ((plead_ok A Sa)) (by first | rfl | (simp only [tocvs, tocv, hF]; rfl)) (by simp) ?_
  simp (disch := omega) only [wk, tis, Int.reduceNe, Int.reduceEq, Int.reduceLT, Int.reduceLE, Int.reduceAdd, Int.reduceSub, Int.reduceNeg, Int.reduceMul, Int.reduceToNat, Nat.reduceSub, Nat.reduceMul, Nat.reduceLeDiff, Nat.reduceAdd, Nat.reduceLT, Nat.reduceEqDiff, reduceCtorEq, ↓reduceIte, cpoly_len, natsr_len, natsr_at, natsr_snoc, natsr_app, natsr_rows, natsr_nil, List.drop_succ_cons, List.take_succ_cons, List.take_zero, hF]
  refine call_by ((slead_ok A Sa)) (by first | rfl | (simp only [tocvs, tocv, hF]; rfl)) (by simp) ?_
  simp (disch := omega) only [wk, tis, Int.reduceNe, Int.reduceEq, Int.reduceLT, Int.reduceLE, Int.reduceAdd, Int.reduceSub, Int.reduceNeg, Int.reduceMul, Int.reduceToNat, Nat.reduceSub, Nat.reduceMul, Nat.reduceLeDiff, Nat.reduceAdd, Nat.reduceLT, Nat.reduceEqDiff, reduceCtorEq, ↓reduceIte, cpoly_len, natsr_len, natsr_at, natsr_snoc, natsr_app, natsr_rows, natsr_nil, List.drop_succ_cons, List.take_succ_cons, List.take_zero, hF]
  refine call_by ((sameint_g rfl (Nat.le_trans (zc _) (by decide)))) (by first | rfl | (simp only [tocvs, tocv, hF]; rfl)) (by simp) ?_
  simp (disch := omega) only [wk, tis, Int.reduceNe, Int.reduceEq, Int.reduceLT, Int.reduceLE, Int.reduceAdd, Int.reduceSub, Int.reduceNeg, Int.reduceMul, Int.reduceToNat, Nat.reduceSub, Nat.reduceMul, Nat.reduceLeDiff, Nat.reduceAdd, Nat.reduceLT, Nat.reduceEqDiff, reduceCtorEq, ↓reduceIte, cpoly_len, natsr_len, natsr_at, natsr_snoc, natsr_app, natsr_rows, natsr_nil, List.drop_succ_cons, List.take_succ_cons, List.take_zero, hF]
  first | exact log_by (by kernel_rfl) | refine ⟨log_by (by kernel_rfl), ?_⟩
  refine ⟨tmps_by (by kernel_rfl), ?_⟩
  refine frame_call (fun f H => f 1 = .hp 1 1 0 0 ∧ f 3 = .iv (.sl (cpoly (pv A))) ∧ H 1 = .blk false 1 44 6 [case9' A B C K N]) ?_ (fun f H hF => ?_)
  · simp (disch := omega) only [wk, tis, Int.reduceNe, Int.reduceEq, Int.reduceLT, Int.reduceLE, Int.reduceAdd, Int.reduceSub, Int.reduceNeg, Int.reduceMul, Int.reduceToNat, Nat.reduceSub, Nat.reduceMul, Nat.reduceLeDiff, Nat.reduceAdd, Nat.reduceLT, Nat.reduceEqDiff, reduceCtorEq, ↓reduceIte, cpoly_len, natsr_len, natsr_at, natsr_snoc, natsr_app, natsr_rows, natsr_nil, List.drop_succ_cons, List.take_succ_cons, List.take_zero, hF]
  refine call_by ((peq_ok A B Sa Sb)) (by first | rfl | (simp only [tocvs, tocv, hF]; rfl)) (by simp) ?_
  simp (disch := omega) only [wk, tis, Int.reduceNe, Int.reduceEq, Int.reduceLT, Int.reduceLE, Int.reduceAdd, Int.reduceSub, Int.reduceNeg, Int.reduceMul, Int.reduceToNat, Nat.reduceSub, Nat.reduceMul, Nat.reduceLeDiff, Nat.reduceAdd, Nat.reduceLT, Nat.reduceEqDiff, reduceCtorEq, ↓reduceIte, cpoly_len, natsr_len, natsr_at, natsr_snoc, natsr_app, natsr_rows, natsr_nil, List.drop_succ_cons, List.take_succ_cons, List.take_zero, hF]
  refine call_by ((seq_ok A B Sa Sb)) (by first | rfl | (simp only [tocvs, tocv, hF]; rfl)) (by simp) ?_
  simp (disch := omega) only [wk, tis, Int.reduceNe, Int.reduceEq, Int.reduceLT, Int.reduceLE, Int.reduceAdd, Int.reduceSub, Int.reduceNeg, Int.reduceMul, Int.reduceToNat, Nat.reduceSub, Nat.reduceMul, Nat.reduceLeDiff, Nat.reduceAdd, Nat.reduceLT, Nat.reduceEqDiff, reduceCtorEq, ↓reduceIte, cpoly_len, natsr_len, natsr_at, natsr_snoc, natsr_app, natsr_rows, natsr_nil, List.drop_succ_cons, List.take_succ_cons, List.take_zero, hF]
  have e1 := peq_ok A (cn (pv A)) Sa ((rp_cn qa).mono (by decide) (by decide))
  rw [pv_cn, trimz_trimz, decide_eq_true rfl] at e1
  have hbb : ∀ b : Bool, (!(b == b)) = false := fun b => by cases b <;> rfl
  simp (disch := omega) only [wk, tis, Int.reduceNe, Int.reduceEq, Int.reduceLT, Int.reduceLE, Int.reduceAdd, Int.reduceSub, Int.reduceNeg, Int.reduceMul, Int.reduceToNat, Nat.reduceSub, Nat.reduceMul, Nat.reduceLeDiff, Nat.reduceAdd, Nat.reduceLT, Nat.reduceEqDiff, reduceCtorEq, ↓reduceIte, cpoly_len, natsr_len, natsr_at, natsr_snoc, natsr_app, natsr_rows, natsr_nil, List.drop_succ_cons, List.take_succ_cons, List.take_zero, hF, hbb]
  refine call_by (e1) (by first | rfl | (simp only [tocvs, tocv, hF]; rfl)) (by simp) ?_
  simp (disch := omega) only [wk, tis, Int.reduceNe, Int.reduceEq, Int.reduceLT, Int.reduceLE, Int.reduceAdd, Int.reduceSub, Int.reduceNeg, Int.reduceMul, Int.reduceToNat, Nat.reduceSub, Nat.reduceMul, Nat.reduceLeDiff, Nat.reduceAdd, Nat.reduceLT, Nat.reduceEqDiff, reduceCtorEq, ↓reduceIte, cpoly_len, natsr_len, natsr_at, natsr_snoc, natsr_app, natsr_rows, natsr_nil, List.drop_succ_cons, List.take_succ_cons, List.take_zero, hF]
  first | exact log_by (by kernel_rfl) | refine ⟨log_by (by kernel_rfl), ?_⟩
  refine ⟨tmps_by (by kernel_rfl), ?_⟩
  have w1 := hgt_len ha A.length (by omega)
  have w2 := wgt_len ha A.length (by omega)
  rw [List.take_of_length_le (by rw [pv_len]; omega)] at w1 w2
  refine frame_call (fun f H => f 1 = .hp 1 1 0 0 ∧ H 1 = .blk false 1 44 6 [case9' A B C K N]) ?_ (fun f H hF => ?_)
  · simp (disch := omega) only [wk, tis, Int.reduceNe, Int.reduceEq, Int.reduceLT, Int.reduceLE, Int.reduceAdd, Int.reduceSub, Int.reduceNeg, Int.reduceMul, Int.reduceToNat, Nat.reduceSub, Nat.reduceMul, Nat.reduceLeDiff, Nat.reduceAdd, Nat.reduceLT, Nat.reduceEqDiff, reduceCtorEq, ↓reduceIte, cpoly_len, natsr_len, natsr_at, natsr_snoc, natsr_app, natsr_rows, natsr_nil, List.drop_succ_cons, List.take_succ_cons, List.take_zero, hF]
  refine call_by ((pheight_ok A Sa)) (by first | rfl | (simp only [tocvs, tocv, hF]; rfl)) (by simp) ?_
  simp (disch := omega) only [wk, tis, Int.reduceNe, Int.reduceEq, Int.reduceLT, Int.reduceLE, Int.reduceAdd, Int.reduceSub, Int.reduceNeg, Int.reduceMul, Int.reduceToNat, Nat.reduceSub, Nat.reduceMul, Nat.reduceLeDiff, Nat.reduceAdd, Nat.reduceLT, Nat.reduceEqDiff, reduceCtorEq, ↓reduceIte, cpoly_len, natsr_len, natsr_at, natsr_snoc, natsr_app, natsr_rows, natsr_nil, List.drop_succ_cons, List.take_succ_cons, List.take_zero, hF]
  refine call_by ((sheight_ok A Sa)) (by first | rfl | (simp only [tocvs, tocv, hF]; rfl)) (by simp) ?_
  simp (disch := omega) only [wk, tis, Int.reduceNe, Int.reduceEq, Int.reduceLT, Int.reduceLE, Int.reduceAdd, Int.reduceSub, Int.reduceNeg, Int.reduceMul, Int.reduceToNat, Nat.reduceSub, Nat.reduceMul, Nat.reduceLeDiff, Nat.reduceAdd, Nat.reduceLT, Nat.reduceEqDiff, reduceCtorEq, ↓reduceIte, cpoly_len, natsr_len, natsr_at, natsr_snoc, natsr_app, natsr_rows, natsr_nil, List.drop_succ_cons, List.take_succ_cons, List.take_zero, hF]
  refine call_by ((samenat_g (Nat.le_trans w1 (by decide)))) (by first | rfl | (simp only [tocvs, tocv, hF]; rfl)) (by simp) ?_
  simp (disch := omega) only [wk, tis, Int.reduceNe, Int.reduceEq, Int.reduceLT, Int.reduceLE, Int.reduceAdd, Int.reduceSub, Int.reduceNeg, Int.reduceMul, Int.reduceToNat, Nat.reduceSub, Nat.reduceMul, Nat.reduceLeDiff, Nat.reduceAdd, Nat.reduceLT, Nat.reduceEqDiff, reduceCtorEq, ↓reduceIte, cpoly_len, natsr_len, natsr_at, natsr_snoc, natsr_app, natsr_rows, natsr_nil, List.drop_succ_cons, List.take_succ_cons, List.take_zero, hF]
  refine call_by ((pweight_ok A Ra)) (by first | rfl | (simp only [tocvs, tocv, hF]; rfl)) (by simp) ?_
  simp (disch := omega) only [wk, tis, Int.reduceNe, Int.reduceEq, Int.reduceLT, Int.reduceLE, Int.reduceAdd, Int.reduceSub, Int.reduceNeg, Int.reduceMul, Int.reduceToNat, Nat.reduceSub, Nat.reduceMul, Nat.reduceLeDiff, Nat.reduceAdd, Nat.reduceLT, Nat.reduceEqDiff, reduceCtorEq, ↓reduceIte, cpoly_len, natsr_len, natsr_at, natsr_snoc, natsr_app, natsr_rows, natsr_nil, List.drop_succ_cons, List.take_succ_cons, List.take_zero, hF]
  refine call_by ((sweight_ok A Ra)) (by first | rfl | (simp only [tocvs, tocv, hF]; rfl)) (by simp) ?_
  simp (disch := omega) only [wk, tis, Int.reduceNe, Int.reduceEq, Int.reduceLT, Int.reduceLE, Int.reduceAdd, Int.reduceSub, Int.reduceNeg, Int.reduceMul, Int.reduceToNat, Nat.reduceSub, Nat.reduceMul, Nat.reduceLeDiff, Nat.reduceAdd, Nat.reduceLT, Nat.reduceEqDiff, reduceCtorEq, ↓reduceIte, cpoly_len, natsr_len, natsr_at, natsr_snoc, natsr_app, natsr_rows, natsr_nil, List.drop_succ_cons, List.take_succ_cons, List.take_zero, hF]
  refine call_by ((samenat_g (Nat.le_trans w2 (by omega)))) (by first | rfl | (simp only [tocvs, tocv, hF]; rfl)) (by simp) ?_
  simp (disch := omega) only [wk, tis, Int.reduceNe, Int.reduceEq, Int.reduceLT, Int.reduceLE, Int.reduceAdd, Int.reduceSub, Int.reduceNeg, Int.reduceMul, Int.reduceToNat, Nat.reduceSub, Nat.reduceMul, Nat.reduceLeDiff, Nat.reduceAdd, Nat.reduceLT, Nat.reduceEqDiff, reduceCtorEq, ↓reduceIte, cpoly_len, natsr_len, natsr_at, natsr_snoc, natsr_app, natsr_rows, natsr_nil, List.drop_succ_cons, List.take_succ_cons, List.take_zero, hF]
  first | exact log_by (by kernel_rfl) | refine ⟨log_by (by kernel_rfl), ?_⟩

end Go.Proofs.Ythgecppfgdadiaa

namespace Go.Proofs.Ythgecppfgdadiaa
open Go Go.Proofs Go.AL
set_option linter.unusedSimpArgs false
set_option linter.unusedVariables false

theorem cont_ps {p q : List Int} (h : ps p = ps q) : cont p = cont q := by
  unfold cont lc
  rw [gz_eq (ps_eq h), tz_eq_of_cf (ps_eq h), ps_eq h]

theorem prim_ps {p q : List Int} (h : ps p = ps q) : ps (prim p) = ps (prim q) := ps_ext fun k => by
  unfold prim
  rw [cf_pdivs, cf_pdivs, cont_ps h, ps_eq h]

theorem pcontent_g {a : List RI} {q : List Int} (ha : RP (2 ^ 30) (2 ^ 35) a) (eq : ps (pv a) = ps q) : AC Try.prog 79 [cw a] none [cz (cont q)] := by
  rw [← cont_ps eq]; exact pcontent_ok a (ha.mono (by omega) (by omega))

theorem pprim_g {a : List RI} {q : List Int} (ha : RP (2 ^ 30) (2 ^ 35) a) (eq : ps (pv a) = ps q) : AC Try.prog 80 [cw a] none [cp (prim q)] := by
  have h := pprim_ok a ha
  rwa [cp_ps (prim_ps eq)] at h

theorem plead_g {a : List RI} {q : List Int} (ha : RP (2 ^ 30) (2 ^ 35) a) (eq : ps (pv a) = ps q) : AC Try.prog 45 [cw a] none [cz (lc q)] := by
  have h := plead_ok a (ha.mono (by omega) (by omega))
  have e : cf (pv a) (tz (pv a) - 1) = lc q := by unfold lc; rw [tz_eq_of_cf (ps_eq eq), ps_eq eq]
  rwa [e] at h

theorem pover_g {a : List RI} {r : List Int} {c : RI} (ha : RP (2 ^ 30) (2 ^ 35) a) (hc : Sz (2 ^ 35) c) (h0 : iv c ≠ 0) (eq : ps (pv a) = PS.C (iv c) * ps r) : AC Try.prog 83 [cw a, cr c] none [cp r, ci 0] := by
  have hk : ∀ k, cf (pv a) k = iv c * cf r k := fun k => by
    have := congrArg (fun f => f.c k) eq
    simp only [ps_c, PS.C_mul_c] at this
    exact this
  have h := pover_ok a c ha hc h0 fun k => by rw [hk]; exact Int.dvd_mul_right _ _
  rwa [cp_ps (q := r) (ps_ext fun k => by rw [cf_pdivs, hk, Int.mul_ediv_cancel_left _ h0])] at h

theorem pb_prim {n k : Nat} {q : List Int} (h : PB n k q) : PB n k (prim q) := by
  refine .of (by unfold prim pdivs; rw [List.length_map]; exact h.1) fun i => ?_
  unfold prim
  rw [cf_pdivs]
  exact Nat.le_trans (zl_div (cont_dvd q i)) (h.cf i)

theorem zl_cont {n k : Nat} {q : List Int} (h : PB n k q) : zl (cont q) ≤ k := by
  have := gz_len (rp_cn h)
  rw [gz_eq (ps_eq (ps_cn q))] at this
  unfold zl
  rw [cont_natAbs]; exact this

theorem gauss_ok (a b : List RI) (ha : Raw a) (hb : Raw b) : AC Try.prog 9 [cw a, cw b] none [cb true] := by
  refine AC.by_walk (rs := [.tmp 4]) ords Try.func9 (by rfl) (by rfl) (by rfl) (by rfl) (by rfl) ?_
  simp (disch := omega) only [wk, tis, Int.reduceNe, Int.reduceEq, Int.reduceLT, Int.reduceLE, Int.reduceAdd, Int.reduceSub, Int.reduceNeg, Int.reduceMul, Int.reduceToNat, Nat.reduceSub, Nat.reduceMul, Nat.reduceLeDiff, Nat.reduceAdd, Nat.reduceLT, Nat.reduceEqDiff, reduceCtorEq, ↓reduceIte, cpoly_len]
  refine call_by (awake_ok) (by rfl) (by simp) ?_
  simp (disch := omega) only [wk, tis, Int.reduceNe, Int.reduceEq, Int.reduceLT, Int.reduceLE, Int.reduceAdd, Int.reduceSub, Int.reduceNeg, Int.reduceMul, Int.reduceToNat, Nat.reduceSub, Nat.reduceMul, Nat.reduceLeDiff, Nat.reduceAdd, Nat.reduceLT, Nat.reduceEqDiff, reduceCtorEq, ↓reduceIte, cpoly_len]
  refine call_by ((great2_ok a b ha hb)) (by rfl) (by simp) ?_
  simp (disch := omega) only [wk, tis, Int.reduceNe, Int.reduceEq, Int.reduceLT, Int.reduceLE, Int.reduceAdd, Int.reduceSub, Int.reduceNeg, Int.reduceMul, Int.reduceToNat, Nat.reduceSub, Nat.reduceMul, Nat.reduceLeDiff, Nat.reduceAdd, Nat.reduceLT, Nat.reduceEqDiff, reduceCtorEq, ↓reduceIte, cpoly_len]
  refine if_bool (fun hz => ?_) (fun hz => ?_)
  · simp (disch := omega) only [wk, tis, Int.reduceNe, Int.reduceEq, Int.reduceLT, Int.reduceLE, Int.reduceAdd, Int.reduceSub, Int.reduceNeg, Int.reduceMul, Int.reduceToNat, Nat.reduceSub, Nat.reduceMul, Nat.reduceLeDiff, Nat.reduceAdd, Nat.reduceLT, Nat.reduceEqDiff, reduceCtorEq, ↓reduceIte, cpoly_len]
  have ra := great_sub hz (by simp) ha
  have rb := great_sub hz (by simp) hb
  have qa := ra.pv
  have qb := rb.pv
  have ra := ra.mono (n' := 2 ^ 30) (k' := 2 ^ 35) (by decide) (by decide)
  have rb := rb.mono (n' := 2 ^ 30) (k' := 2 ^ 35) (by decide) (by decide)
  have ya := pb_prim qa
  have yb := pb_prim qb
  have rya := (rp_cn ya).mono (n' := 2 ^ 30) (k' := 2 ^ 35) (by decide) (by decide)
  have ryb := (rp_cn yb).mono (n' := 2 ^ 30) (k' := 2 ^ 35) (by decide) (by decide)
  have ca := zl_cont qa
  have cb' := zl_cont qb
  simp (disch := omega) only [wk, tis, Int.reduceNe, Int.reduceEq, Int.reduceLT, Int.reduceLE, Int.reduceAdd, Int.reduceSub, Int.reduceNeg, Int.reduceMul, Int.reduceToNat, Nat.reduceSub, Nat.reduceMul, Nat.reduceLeDiff, Nat.reduceAdd, Nat.reduceLT, Nat.reduceEqDiff, reduceCtorEq, ↓reduceIte, cpoly_len]
  refine call_by ((pcontent_g ra rfl)) (by rfl) (by simp) ?_
  simp (disch := omega) only [wk, tis, Int.reduceNe, Int.reduceEq, Int.reduceLT, Int.reduceLE, Int.reduceAdd, Int.reduceSub, Int.reduceNeg, Int.reduceMul, Int.reduceToNat, Nat.reduceSub, Nat.reduceMul, Nat.reduceLeDiff, Nat.reduceAdd, Nat.reduceLT, Nat.reduceEqDiff, reduceCtorEq, ↓reduceIte, cpoly_len]
  refine call_by ((pcontent_g rb rfl)) (by rfl) (by simp) ?_
  simp (disch := omega) only [wk, tis, Int.reduceNe, Int.reduceEq, Int.reduceLT, Int.reduceLE, Int.reduceAdd, Int.reduceSub, Int.reduceNeg, Int.reduceMul, Int.reduceToNat, Nat.reduceSub, Nat.reduceMul, Nat.reduceLeDiff, Nat.reduceAdd, Nat.reduceLT, Nat.reduceEqDiff, reduceCtorEq, ↓reduceIte, cpoly_len]
  refine call_by ((pprim_g ra rfl)) (by rfl) (by simp) ?_
  simp (disch := omega) only [wk, tis, Int.reduceNe, Int.reduceEq, Int.reduceLT, Int.reduceLE, Int.reduceAdd, Int.reduceSub, Int.reduceNeg, Int.reduceMul, Int.reduceToNat, Nat.reduceSub, Nat.reduceMul, Nat.reduceLeDiff, Nat.reduceAdd, Nat.reduceLT, Nat.reduceEqDiff, reduceCtorEq, ↓reduceIte, cpoly_len]
  refine call_by ((pprim_g rb rfl)) (by rfl) (by simp) ?_
  simp (disch := omega) only [wk, tis, Int.reduceNe, Int.reduceEq, Int.reduceLT, Int.reduceLE, Int.reduceAdd, Int.reduceSub, Int.reduceNeg, Int.reduceMul, Int.reduceToNat, Nat.reduceSub, Nat.reduceMul, Nat.reduceLeDiff, Nat.reduceAdd, Nat.reduceLT, Nat.reduceEqDiff, reduceCtorEq, ↓reduceIte, cpoly_len]
  refine call_by ((pscale_g (q := prim (pv a)) rya ((sz_canon (cont (pv a))).mono (by omega)) (ps_cn _))) (by first | rfl | (simp only [tocvs, tocv, iv_canon]; rfl)) (by simp) ?_
  simp (disch := omega) only [wk, tis, Int.reduceNe, Int.reduceEq, Int.reduceLT, Int.reduceLE, Int.reduceAdd, Int.reduceSub, Int.reduceNeg, Int.reduceMul, Int.reduceToNat, Nat.reduceSub, Nat.reduceMul, Nat.reduceLeDiff, Nat.reduceAdd, Nat.reduceLT, Nat.reduceEqDiff, reduceCtorEq, ↓reduceIte, cpoly_len, iv_canon]
  refine call_by ((pnorm_g ra rfl)) (by rfl) (by simp) ?_
  simp (disch := omega) only [wk, tis, Int.reduceNe, Int.reduceEq, Int.reduceLT, Int.reduceLE, Int.reduceAdd, Int.reduceSub, Int.reduceNeg, Int.reduceMul, Int.reduceToNat, Nat.reduceSub, Nat.reduceMul, Nat.reduceLeDiff, Nat.reduceAdd, Nat.reduceLT, Nat.reduceEqDiff, reduceCtorEq, ↓reduceIte, cpoly_len]
  refine call_by ((same_g ((ya.pscale (c := cont (pv a))).mono (by decide) (by omega)) (qa.mono (by decide) (by decide)) (by rw [ps_pscale, ← ps_prim]))) (by rfl) (by simp) ?_
  simp (disch := omega) only [wk, tis, Int.reduceNe, Int.reduceEq, Int.reduceLT, Int.reduceLE, Int.reduceAdd, Int.reduceSub, Int.reduceNeg, Int.reduceMul, Int.reduceToNat, Nat.reduceSub, Nat.reduceMul, Nat.reduceLeDiff, Nat.reduceAdd, Nat.reduceLT, Nat.reduceEqDiff, reduceCtorEq, ↓reduceIte, cpoly_len]
  refine call_by ((pdeg_g ra rfl)) (by rfl) (by simp) ?_
  simp (disch := omega) only [wk, tis, Int.reduceNe, Int.reduceEq, Int.reduceLT, Int.reduceLE, Int.reduceAdd, Int.reduceSub, Int.reduceNeg, Int.reduceMul, Int.reduceToNat, Nat.reduceSub, Nat.reduceMul, Nat.reduceLeDiff, Nat.reduceAdd, Nat.reduceLT, Nat.reduceEqDiff, reduceCtorEq, ↓reduceIte, cpoly_len]
  have pab := qa.pmul qb (by decide)
  have ypab := ya.pmul yb (by decide)
  have ypq := qa.pmul yb (by decide)
  have rab := (rp_cn pab).mono (n' := 2 ^ 30) (k' := 2 ^ 35) (by decide) (by decide)
  by_cases ht : tz (pv a) = 0
  · have hd : ¬ (0 ≤ (tz (pv a) : Int) - 1) := by omega
    simp (disch := omega) only [wk, tis, Int.reduceNe, Int.reduceEq, Int.reduceLT, Int.reduceLE, Int.reduceAdd, Int.reduceSub, Int.reduceNeg, Int.reduceMul, Int.reduceToNat, Nat.reduceSub, Nat.reduceMul, Nat.reduceLeDiff, Nat.reduceAdd, Nat.reduceLT, Nat.reduceEqDiff, reduceCtorEq, ↓reduceIte, cpoly_len, hd]
    refine call_by ((pmul_g ra rb rfl rfl)) (by rfl) (by simp) ?_
    simp (disch := omega) only [wk, tis, Int.reduceNe, Int.reduceEq, Int.reduceLT, Int.reduceLE, Int.reduceAdd, Int.reduceSub, Int.reduceNeg, Int.reduceMul, Int.reduceToNat, Nat.reduceSub, Nat.reduceMul, Nat.reduceLeDiff, Nat.reduceAdd, Nat.reduceLT, Nat.reduceEqDiff, reduceCtorEq, ↓reduceIte, cpoly_len]
    refine ⟨tmps_by (by kernel_rfl), ?_⟩
    refine call_by ((pcontent_g rab (ps_cn _))) (by first | rfl | (simp only [tocvs, tocv, hd]; rfl)) (by simp) ?_
    simp (disch := omega) only [wk, tis, Int.reduceNe, Int.reduceEq, Int.reduceLT, Int.reduceLE, Int.reduceAdd, Int.reduceSub, Int.reduceNeg, Int.reduceMul, Int.reduceToNat, Nat.reduceSub, Nat.reduceMul, Nat.reduceLeDiff, Nat.reduceAdd, Nat.reduceLT, Nat.reduceEqDiff, reduceCtorEq, ↓reduceIte, cpoly_len, hd]
    refine call_by ((zmul_ok (canon (cont (pv a))) (canon (cont (pv b))) ((sz_canon _).mono (by omega)) ((sz_canon _).mono (by omega)))) (by first | rfl | (simp only [tocvs, tocv, hd, iv_canon]; rfl)) (by simp) ?_
    simp (disch := omega) only [wk, tis, Int.reduceNe, Int.reduceEq, Int.reduceLT, Int.reduceLE, Int.reduceAdd, Int.reduceSub, Int.reduceNeg, Int.reduceMul, Int.reduceToNat, Nat.reduceSub, Nat.reduceMul, Nat.reduceLeDiff, Nat.reduceAdd, Nat.reduceLT, Nat.reduceEqDiff, reduceCtorEq, ↓reduceIte, cpoly_len, hd, iv_canon]
    refine call_by ((sameint_g (cont_mul (pv a) (pv b)) (by have := zl_cont pab; omega))) (by first | rfl | (simp only [tocvs, tocv, hd]; rfl)) (by simp) ?_
    simp (disch := omega) only [wk, tis, Int.reduceNe, Int.reduceEq, Int.reduceLT, Int.reduceLE, Int.reduceAdd, Int.reduceSub, Int.reduceNeg, Int.reduceMul, Int.reduceToNat, Nat.reduceSub, Nat.reduceMul, Nat.reduceLeDiff, Nat.reduceAdd, Nat.reduceLT, Nat.reduceEqDiff, reduceCtorEq, ↓reduceIte, cpoly_len, hd]
    refine call_by ((pprim_g rab (ps_cn _))) (by first | rfl | (simp only [tocvs, tocv, hd]; rfl)) (by simp) ?_
    simp (disch := omega) only [wk, tis, Int.reduceNe, Int.reduceEq, Int.reduceLT, Int.reduceLE, Int.reduceAdd, Int.reduceSub, Int.reduceNeg, Int.reduceMul, Int.reduceToNat, Nat.reduceSub, Nat.reduceMul, Nat.reduceLeDiff, Nat.reduceAdd, Nat.reduceLT, Nat.reduceEqDiff, reduceCtorEq, ↓reduceIte, cpoly_len, hd]
    refine call_by ((pmul_g rya ryb (ps_cn _) (ps_cn _))) (by first | rfl | (simp only [tocvs, tocv, hd]; rfl)) (by simp) ?_
    simp (disch := omega) only [wk, tis, Int.reduceNe, Int.reduceEq, Int.reduceLT, Int.reduceLE, Int.reduceAdd, Int.reduceSub, Int.reduceNeg, Int.reduceMul, Int.reduceToNat, Nat.reduceSub, Nat.reduceMul, Nat.reduceLeDiff, Nat.reduceAdd, Nat.reduceLT, Nat.reduceEqDiff, reduceCtorEq, ↓reduceIte, cpoly_len, hd]
    refine call_by ((same_g ((pb_prim pab).mono (by decide) (by decide)) (ypab.mono (by decide) (by decide)) (prim_mul (pv a) (pv b)))) (by first | rfl | (simp only [tocvs, tocv, hd]; rfl)) (by simp) ?_
    simp (disch := omega) only [wk, tis, Int.reduceNe, Int.reduceEq, Int.reduceLT, Int.reduceLE, Int.reduceAdd, Int.reduceSub, Int.reduceNeg, Int.reduceMul, Int.reduceToNat, Nat.reduceSub, Nat.reduceMul, Nat.reduceLeDiff, Nat.reduceAdd, Nat.reduceLT, Nat.reduceEqDiff, reduceCtorEq, ↓reduceIte, cpoly_len, hd]
    first | exact log_by (by kernel_rfl) | refine ⟨log_by (by kernel_rfl), ?_⟩
    by_cases hcb : cont (pv b) = 0
    · skip
      refine call_by ((pover_zero (cn (pmul (pv a) (pv b))) (canon (cont (pv b))) (rab.mono (by decide) (by decide)) ((sz_canon _).mono (by omega)) (by rw [iv_canon]; exact hcb))) (by first | rfl | (simp only [tocvs, tocv, hd]; rfl)) (by simp) ?_
      simp (disch := omega) only [wk, tis, Int.reduceNe, Int.reduceEq, Int.reduceLT, Int.reduceLE, Int.reduceAdd, Int.reduceSub, Int.reduceNeg, Int.reduceMul, Int.reduceToNat, Nat.reduceSub, Nat.reduceMul, Nat.reduceLeDiff, Nat.reduceAdd, Nat.reduceLT, Nat.reduceEqDiff, reduceCtorEq, ↓reduceIte, cpoly_len, hd]
      have hs := zsign_ok (canon (cont (pv b))) ((sz_canon _).mono (by omega))
      rw [iv_canon, show (cont (pv b)).sign = 0 by rw [hcb]; rfl] at hs
      refine call_by (hs) (by first | rfl | (simp only [tocvs, tocv, hd]; rfl)) (by simp) ?_
      simp (disch := omega) only [wk, tis, Int.reduceNe, Int.reduceEq, Int.reduceLT, Int.reduceLE, Int.reduceAdd, Int.reduceSub, Int.reduceNeg, Int.reduceMul, Int.reduceToNat, Nat.reduceSub, Nat.reduceMul, Nat.reduceLeDiff, Nat.reduceAdd, Nat.reduceLT, Nat.reduceEqDiff, reduceCtorEq, ↓reduceIte, cpoly_len, hd]
      refine call_by ((lplain_ok 1 1)) (by first | rfl | (simp only [tocvs, tocv, hd]; rfl)) (by simp) ?_
      simp (disch := omega) only [wk, tis, Int.reduceNe, Int.reduceEq, Int.reduceLT, Int.reduceLE, Int.reduceAdd, Int.reduceSub, Int.reduceNeg, Int.reduceMul, Int.reduceToNat, Nat.reduceSub, Nat.reduceMul, Nat.reduceLeDiff, Nat.reduceAdd, Nat.reduceLT, Nat.reduceEqDiff, reduceCtorEq, ↓reduceIte, cpoly_len, hd]
    · have hs := zsign_ok (canon (cont (pv b))) ((sz_canon _).mono (by omega))
      rw [iv_canon] at hs
      have hs0 : ¬ (cont (pv b)).sign = 0 := fun h => hcb (Int.sign_eq_zero_iff_zero.mp h)
      refine call_by ((pover_g (c := canon (cont (pv b))) (r := pmul (pv a) (prim (pv b))) rab ((sz_canon _).mono (by omega)) (by rw [iv_canon]; exact hcb) (by rw [iv_canon, ps_cn, ps_pmul, ps_pmul, PS.mul_comm (ps (pv a)) (ps (prim (pv b))), ← PS.mul_assoc, ← ps_prim, PS.mul_comm]))) (by first | rfl | (simp only [tocvs, tocv, hd]; rfl)) (by simp) ?_
      simp (disch := omega) only [wk, tis, Int.reduceNe, Int.reduceEq, Int.reduceLT, Int.reduceLE, Int.reduceAdd, Int.reduceSub, Int.reduceNeg, Int.reduceMul, Int.reduceToNat, Nat.reduceSub, Nat.reduceMul, Nat.reduceLeDiff, Nat.reduceAdd, Nat.reduceLT, Nat.reduceEqDiff, reduceCtorEq, ↓reduceIte, cpoly_len, hd]
      refine call_by (hs) (by first | rfl | (simp only [tocvs, tocv, hd, hs0]; rfl)) (by simp) ?_
      simp (disch := omega) only [wk, tis, Int.reduceNe, Int.reduceEq, Int.reduceLT, Int.reduceLE, Int.reduceAdd, Int.reduceSub, Int.reduceNeg, Int.reduceMul, Int.reduceToNat, Nat.reduceSub, Nat.reduceMul, Nat.reduceLeDiff, Nat.reduceAdd, Nat.reduceLT, Nat.reduceEqDiff, reduceCtorEq, ↓reduceIte, cpoly_len, hd, hs0]
      refine call_by ((pmul_g ra ryb rfl (ps_cn _))) (by first | rfl | (simp only [tocvs, tocv, hd, hs0]; rfl)) (by simp) ?_
      simp (disch := omega) only [wk, tis, Int.reduceNe, Int.reduceEq, Int.reduceLT, Int.reduceLE, Int.reduceAdd, Int.reduceSub, Int.reduceNeg, Int.reduceMul, Int.reduceToNat, Nat.reduceSub, Nat.reduceMul, Nat.reduceLeDiff, Nat.reduceAdd, Nat.reduceLT, Nat.reduceEqDiff, reduceCtorEq, ↓reduceIte, cpoly_len, hd, hs0]
      refine call_by ((same_g (ypq.mono (by decide) (by decide)) (ypq.mono (by decide) (by decide)) rfl)) (by first | rfl | (simp only [tocvs, tocv, hd, hs0]; rfl)) (by simp) ?_
      simp (disch := omega) only [wk, tis, Int.reduceNe, Int.reduceEq, Int.reduceLT, Int.reduceLE, Int.reduceAdd, Int.reduceSub, Int.reduceNeg, Int.reduceMul, Int.reduceToNat, Nat.reduceSub, Nat.reduceMul, Nat.reduceLeDiff, Nat.reduceAdd, Nat.reduceLT, Nat.reduceEqDiff, reduceCtorEq, ↓reduceIte, cpoly_len, hd, hs0]
  · have hd : 0 ≤ (tz (pv a) : Int) - 1 := by omega
    have hc0 : cont (pv a) ≠ 0 := fun h => ht (cont_zero_iff.mp h)
    have hp := prm_prim hc0
    have hself := prm_self hp
    have hzl : zl (lc (prim (pv a))) ≤ 200 := ya.cf _
    have hs := zsign_ok (canon (lc (prim (pv a)))) ((sz_canon _).mono (by omega))
    rw [iv_canon, Int.sign_eq_one_of_pos hp.2] at hs
    have hz1 : zl (1 : Int) ≤ 1 := zl_le.mpr (by decide)
    have e1 := sameint_g (a := cont (prim (pv a))) (b := 1) hself.1 (by rw [hself.1]; omega)
    simp (disch := omega) only [wk, tis, Int.reduceNe, Int.reduceEq, Int.reduceLT, Int.reduceLE, Int.reduceAdd, Int.reduceSub, Int.reduceNeg, Int.reduceMul, Int.reduceToNat, Nat.reduceSub, Nat.reduceMul, Nat.reduceLeDiff, Nat.reduceAdd, Nat.reduceLT, Nat.reduceEqDiff, reduceCtorEq, ↓reduceIte, cpoly_len, hd]
    refine call_by ((plead_g rya (ps_cn _))) (by first | rfl | (simp only [tocvs, tocv, hd]; rfl)) (by simp) ?_
    simp (disch := omega) only [wk, tis, Int.reduceNe, Int.reduceEq, Int.reduceLT, Int.reduceLE, Int.reduceAdd, Int.reduceSub, Int.reduceNeg, Int.reduceMul, Int.reduceToNat, Nat.reduceSub, Nat.reduceMul, Nat.reduceLeDiff, Nat.reduceAdd, Nat.reduceLT, Nat.reduceEqDiff, reduceCtorEq, ↓reduceIte, cpoly_len, hd]
    refine call_by (hs) (by first | rfl | (simp only [tocvs, tocv, hd]; rfl)) (by simp) ?_
    simp (disch := omega) only [wk, tis, Int.reduceNe, Int.reduceEq, Int.reduceLT, Int.reduceLE, Int.reduceAdd, Int.reduceSub, Int.reduceNeg, Int.reduceMul, Int.reduceToNat, Nat.reduceSub, Nat.reduceMul, Nat.reduceLeDiff, Nat.reduceAdd, Nat.reduceLT, Nat.reduceEqDiff, reduceCtorEq, ↓reduceIte, cpoly_len, hd]
    refine call_by ((pprim_g rya (ps_cn _))) (by first | rfl | (simp only [tocvs, tocv, hd]; rfl)) (by simp) ?_
    simp (disch := omega) only [wk, tis, Int.reduceNe, Int.reduceEq, Int.reduceLT, Int.reduceLE, Int.reduceAdd, Int.reduceSub, Int.reduceNeg, Int.reduceMul, Int.reduceToNat, Nat.reduceSub, Nat.reduceMul, Nat.reduceLeDiff, Nat.reduceAdd, Nat.reduceLT, Nat.reduceEqDiff, reduceCtorEq, ↓reduceIte, cpoly_len, hd]
    refine call_by ((same_g ((pb_prim ya).mono (by decide) (by decide)) (ya.mono (by decide) (by decide)) hself.2)) (by first | rfl | (simp only [tocvs, tocv, hd]; rfl)) (by simp) ?_
    simp (disch := omega) only [wk, tis, Int.reduceNe, Int.reduceEq, Int.reduceLT, Int.reduceLE, Int.reduceAdd, Int.reduceSub, Int.reduceNeg, Int.reduceMul, Int.reduceToNat, Nat.reduceSub, Nat.reduceMul, Nat.reduceLeDiff, Nat.reduceAdd, Nat.reduceLT, Nat.reduceEqDiff, reduceCtorEq, ↓reduceIte, cpoly_len, hd]
    refine call_by ((pcontent_g rya (ps_cn _))) (by first | rfl | (simp only [tocvs, tocv, hd]; rfl)) (by simp) ?_
    simp (disch := omega) only [wk, tis, Int.reduceNe, Int.reduceEq, Int.reduceLT, Int.reduceLE, Int.reduceAdd, Int.reduceSub, Int.reduceNeg, Int.reduceMul, Int.reduceToNat, Nat.reduceSub, Nat.reduceMul, Nat.reduceLeDiff, Nat.reduceAdd, Nat.reduceLT, Nat.reduceEqDiff, reduceCtorEq, ↓reduceIte, cpoly_len, hd]
    refine call_by ((zOf_ok 1 (by omega) (by omega))) (by first | rfl | (simp only [tocvs, tocv, hd]; rfl)) (by simp) ?_
    simp (disch := omega) only [wk, tis, Int.reduceNe, Int.reduceEq, Int.reduceLT, Int.reduceLE, Int.reduceAdd, Int.reduceSub, Int.reduceNeg, Int.reduceMul, Int.reduceToNat, Nat.reduceSub, Nat.reduceMul, Nat.reduceLeDiff, Nat.reduceAdd, Nat.reduceLT, Nat.reduceEqDiff, reduceCtorEq, ↓reduceIte, cpoly_len, hd]
    refine call_by (e1) (by first | rfl | (simp only [tocvs, tocv, hd]; rfl)) (by simp) ?_
    simp (disch := omega) only [wk, tis, Int.reduceNe, Int.reduceEq, Int.reduceLT, Int.reduceLE, Int.reduceAdd, Int.reduceSub, Int.reduceNeg, Int.reduceMul, Int.reduceToNat, Nat.reduceSub, Nat.reduceMul, Nat.reduceLeDiff, Nat.reduceAdd, Nat.reduceLT, Nat.reduceEqDiff, reduceCtorEq, ↓reduceIte, cpoly_len, hd]
    refine call_by ((pmul_g ra rb rfl rfl)) (by rfl) (by simp) ?_
    simp (disch := omega) only [wk, tis, Int.reduceNe, Int.reduceEq, Int.reduceLT, Int.reduceLE, Int.reduceAdd, Int.reduceSub, Int.reduceNeg, Int.reduceMul, Int.reduceToNat, Nat.reduceSub, Nat.reduceMul, Nat.reduceLeDiff, Nat.reduceAdd, Nat.reduceLT, Nat.reduceEqDiff, reduceCtorEq, ↓reduceIte, cpoly_len]
    refine ⟨tmps_by (by kernel_rfl), ?_⟩
    refine call_by ((pcontent_g rab (ps_cn _))) (by first | rfl | (simp only [tocvs, tocv, hd]; rfl)) (by simp) ?_
    simp (disch := omega) only [wk, tis, Int.reduceNe, Int.reduceEq, Int.reduceLT, Int.reduceLE, Int.reduceAdd, Int.reduceSub, Int.reduceNeg, Int.reduceMul, Int.reduceToNat, Nat.reduceSub, Nat.reduceMul, Nat.reduceLeDiff, Nat.reduceAdd, Nat.reduceLT, Nat.reduceEqDiff, reduceCtorEq, ↓reduceIte, cpoly_len, hd]
    refine call_by ((zmul_ok (canon (cont (pv a))) (canon (cont (pv b))) ((sz_canon _).mono (by omega)) ((sz_canon _).mono (by omega)))) (by first | rfl | (simp only [tocvs, tocv, hd, iv_canon]; rfl)) (by simp) ?_
    simp (disch := omega) only [wk, tis, Int.reduceNe, Int.reduceEq, Int.reduceLT, Int.reduceLE, Int.reduceAdd, Int.reduceSub, Int.reduceNeg, Int.reduceMul, Int.reduceToNat, Nat.reduceSub, Nat.reduceMul, Nat.reduceLeDiff, Nat.reduceAdd, Nat.reduceLT, Nat.reduceEqDiff, reduceCtorEq, ↓reduceIte, cpoly_len, hd, iv_canon]
    refine call_by ((sameint_g (cont_mul (pv a) (pv b)) (by have := zl_cont pab; omega))) (by first | rfl | (simp only [tocvs, tocv, hd]; rfl)) (by simp) ?_
    simp (disch := omega) only [wk, tis, Int.reduceNe, Int.reduceEq, Int.reduceLT, Int.reduceLE, Int.reduceAdd, Int.reduceSub, Int.reduceNeg, Int.reduceMul, Int.reduceToNat, Nat.reduceSub, Nat.reduceMul, Nat.reduceLeDiff, Nat.reduceAdd, Nat.reduceLT, Nat.reduceEqDiff, reduceCtorEq, ↓reduceIte, cpoly_len, hd]
    refine call_by ((pprim_g rab (ps_cn _))) (by first | rfl | (simp only [tocvs, tocv, hd]; rfl)) (by simp) ?_
    simp (disch := omega) only [wk, tis, Int.reduceNe, Int.reduceEq, Int.reduceLT, Int.reduceLE, Int.reduceAdd, Int.reduceSub, Int.reduceNeg, Int.reduceMul, Int.reduceToNat, Nat.reduceSub, Nat.reduceMul, Nat.reduceLeDiff, Nat.reduceAdd, Nat.reduceLT, Nat.reduceEqDiff, reduceCtorEq, ↓reduceIte, cpoly_len, hd]
    refine call_by ((pmul_g rya ryb (ps_cn _) (ps_cn _))) (by first | rfl | (simp only [tocvs, tocv, hd]; rfl)) (by simp) ?_
    simp (disch := omega) only [wk, tis, Int.reduceNe, Int.reduceEq, Int.reduceLT, Int.reduceLE, Int.reduceAdd, Int.reduceSub, Int.reduceNeg, Int.reduceMul, Int.reduceToNat, Nat.reduceSub, Nat.reduceMul, Nat.reduceLeDiff, Nat.reduceAdd, Nat.reduceLT, Nat.reduceEqDiff, reduceCtorEq, ↓reduceIte, cpoly_len, hd]
    refine call_by ((same_g ((pb_prim pab).mono (by decide) (by decide)) (ypab.mono (by decide) (by decide)) (prim_mul (pv a) (pv b)))) (by first | rfl | (simp only [tocvs, tocv, hd]; rfl)) (by simp) ?_
    simp (disch := omega) only [wk, tis, Int.reduceNe, Int.reduceEq, Int.reduceLT, Int.reduceLE, Int.reduceAdd, Int.reduceSub, Int.reduceNeg, Int.reduceMul, Int.reduceToNat, Nat.reduceSub, Nat.reduceMul, Nat.reduceLeDiff, Nat.reduceAdd, Nat.reduceLT, Nat.reduceEqDiff, reduceCtorEq, ↓reduceIte, cpoly_len, hd]
    first | exact log_by (by kernel_rfl) | refine ⟨log_by (by kernel_rfl), ?_⟩
    by_cases hcb : cont (pv b) = 0
    · skip
      refine call_by ((pover_zero (cn (pmul (pv a) (pv b))) (canon (cont (pv b))) (rab.mono (by decide) (by decide)) ((sz_canon _).mono (by omega)) (by rw [iv_canon]; exact hcb))) (by first | rfl | (simp only [tocvs, tocv, hd]; rfl)) (by simp) ?_
      simp (disch := omega) only [wk, tis, Int.reduceNe, Int.reduceEq, Int.reduceLT, Int.reduceLE, Int.reduceAdd, Int.reduceSub, Int.reduceNeg, Int.reduceMul, Int.reduceToNat, Nat.reduceSub, Nat.reduceMul, Nat.reduceLeDiff, Nat.reduceAdd, Nat.reduceLT, Nat.reduceEqDiff, reduceCtorEq, ↓reduceIte, cpoly_len, hd]
      have hs := zsign_ok (canon (cont (pv b))) ((sz_canon _).mono (by omega))
      rw [iv_canon, show (cont (pv b)).sign = 0 by rw [hcb]; rfl] at hs
      refine call_by (hs) (by first | rfl | (simp only [tocvs, tocv, hd]; rfl)) (by simp) ?_
      simp (disch := omega) only [wk, tis, Int.reduceNe, Int.reduceEq, Int.reduceLT, Int.reduceLE, Int.reduceAdd, Int.reduceSub, Int.reduceNeg, Int.reduceMul, Int.reduceToNat, Nat.reduceSub, Nat.reduceMul, Nat.reduceLeDiff, Nat.reduceAdd, Nat.reduceLT, Nat.reduceEqDiff, reduceCtorEq, ↓reduceIte, cpoly_len, hd]
      refine call_by ((lplain_ok 1 1)) (by first | rfl | (simp only [tocvs, tocv, hd]; rfl)) (by simp) ?_
      simp (disch := omega) only [wk, tis, Int.reduceNe, Int.reduceEq, Int.reduceLT, Int.reduceLE, Int.reduceAdd, Int.reduceSub, Int.reduceNeg, Int.reduceMul, Int.reduceToNat, Nat.reduceSub, Nat.reduceMul, Nat.reduceLeDiff, Nat.reduceAdd, Nat.reduceLT, Nat.reduceEqDiff, reduceCtorEq, ↓reduceIte, cpoly_len, hd]
    · have hs := zsign_ok (canon (cont (pv b))) ((sz_canon _).mono (by omega))
      rw [iv_canon] at hs
      have hs0 : ¬ (cont (pv b)).sign = 0 := fun h => hcb (Int.sign_eq_zero_iff_zero.mp h)
      refine call_by ((pover_g (c := canon (cont (pv b))) (r := pmul (pv a) (prim (pv b))) rab ((sz_canon _).mono (by omega)) (by rw [iv_canon]; exact hcb) (by rw [iv_canon, ps_cn, ps_pmul, ps_pmul, PS.mul_comm (ps (pv a)) (ps (prim (pv b))), ← PS.mul_assoc, ← ps_prim, PS.mul_comm]))) (by first | rfl | (simp only [tocvs, tocv, hd]; rfl)) (by simp) ?_
      simp (disch := omega) only [wk, tis, Int.reduceNe, Int.reduceEq, Int.reduceLT, Int.reduceLE, Int.reduceAdd, Int.reduceSub, Int.reduceNeg, Int.reduceMul, Int.reduceToNat, Nat.reduceSub, Nat.reduceMul, Nat.reduceLeDiff, Nat.reduceAdd, Nat.reduceLT, Nat.reduceEqDiff, reduceCtorEq, ↓reduceIte, cpoly_len, hd]
      refine call_by (hs) (by first | rfl | (simp only [tocvs, tocv, hd, hs0]; rfl)) (by simp) ?_
      simp (disch := omega) only [wk, tis, Int.reduceNe, Int.reduceEq, Int.reduceLT, Int.reduceLE, Int.reduceAdd, Int.reduceSub, Int.reduceNeg, Int.reduceMul, Int.reduceToNat, Nat.reduceSub, Nat.reduceMul, Nat.reduceLeDiff, Nat.reduceAdd, Nat.reduceLT, Nat.reduceEqDiff, reduceCtorEq, ↓reduceIte, cpoly_len, hd, hs0]
      refine call_by ((pmul_g ra ryb rfl (ps_cn _))) (by first | rfl | (simp only [tocvs, tocv, hd, hs0]; rfl)) (by simp) ?_
      simp (disch := omega) only [wk, tis, Int.reduceNe, Int.reduceEq, Int.reduceLT, Int.reduceLE, Int.reduceAdd, Int.reduceSub, Int.reduceNeg, Int.reduceMul, Int.reduceToNat, Nat.reduceSub, Nat.reduceMul, Nat.reduceLeDiff, Nat.reduceAdd, Nat.reduceLT, Nat.reduceEqDiff, reduceCtorEq, ↓reduceIte, cpoly_len, hd, hs0]
      refine call_by ((same_g (ypq.mono (by decide) (by decide)) (ypq.mono (by decide) (by decide)) rfl)) (by first | rfl | (simp only [tocvs, tocv, hd, hs0]; rfl)) (by simp) ?_
      simp (disch := omega) only [wk, tis, Int.reduceNe, Int.reduceEq, Int.reduceLT, Int.reduceLE, Int.reduceAdd, Int.reduceSub, Int.reduceNeg, Int.reduceMul, Int.reduceToNat, Nat.reduceSub, Nat.reduceMul, Nat.reduceLeDiff, Nat.reduceAdd, Nat.reduceLT, Nat.reduceEqDiff, reduceCtorEq, ↓reduceIte, cpoly_len, hd, hs0]
end Go.Proofs.Ythgecppfgdadiaa

namespace Go.Proofs.Ythgecppfgdadiaa
open Go Go.Proofs Go.AL
set_option linter.unusedSimpArgs false
set_option linter.unusedVariables false

/-- The pseudo-quotient, the pseudo-remainder, the exponent; the remainder by the leading coefficient's size. -/
def dxp (P B : List Int) : Nat := tz P + 1 - tz B
def dq (P B : List Int) : List Int := (dres (lc B) (lc B) B (dxp P B) ([], P)).1
def dr (P B : List Int) : List Int := (dres (lc B) (lc B) B (dxp P B) ([], P)).2
def dpos (P B : List Int) : List Int := (dres ((lc B).natAbs : Int) (lc B) B (dxp P B) ([], P)).2

theorem pdiv_zero (p q : List RI) (hq : RP 40 (2 ^ 21) q) (h0 : tz (pv q) = 0) : AC Try.prog 87 [cw p, cw q] none [cw [], cw [], ci 0, ci 1] := by
  refine AC.by_walk (rs := [.tmp 4, .tmp 5, .tmp 6, .tmp 7]) ords Try.func87 (by rfl) (by rfl) (by rfl) (by rfl) (by rfl) ?_
  simp (disch := omega) only [wk, tis, Int.reduceNe, Int.reduceEq, Int.reduceLT, Int.reduceLE, Int.reduceAdd, Int.reduceSub, Int.reduceNeg, Int.reduceMul, Int.reduceToNat, Nat.reduceSub, Nat.reduceMul, Nat.reduceLeDiff, Nat.reduceAdd, Nat.reduceLT, Nat.reduceEqDiff, reduceCtorEq, ↓reduceIte, cpoly_len, cpoly_nil]
  refine call_by ((pnone_ok q (hq.mono (by omega) (by omega)))) (by first | rfl | (simp only [tocvs, tocv, h0]; rfl)) (by simp) ?_
  simp (disch := omega) only [wk, tis, Int.reduceNe, Int.reduceEq, Int.reduceLT, Int.reduceLE, Int.reduceAdd, Int.reduceSub, Int.reduceNeg, Int.reduceMul, Int.reduceToNat, Nat.reduceSub, Nat.reduceMul, Nat.reduceLeDiff, Nat.reduceAdd, Nat.reduceLT, Nat.reduceEqDiff, reduceCtorEq, ↓reduceIte, cpoly_len, cpoly_nil, h0]

theorem pdiv_ok (p q : List RI) (hp : RP 40 (2 ^ 21) p) (hq : RP 40 (2 ^ 21) q) (h0 : ¬ tz (pv q) = 0) : AC Try.prog 87 [cw p, cw q] none [cp (dq (pv p) (pv q)), cp (dr (pv p) (pv q)), ci (dxp (pv p) (pv q)), ci 0] := by
  refine AC.by_walk (rs := [.tmp 4, .tmp 5, .tmp 6, .tmp 7]) ords Try.func87 (by rfl) (by rfl) (by rfl) (by rfl) (by rfl) ?_
  have hl : Sz (2 ^ 21) (canon (lc (pv q))) := (sz_canon _).mono (hq.pv.cf _)
  have m := divide_ok p q (canon (lc (pv q))) hp hq hl h0 (by rw [iv_canon]; exact Int.dvd_refl _)
  rw [iv_canon] at m
  simp (disch := omega) only [wk, tis, Int.reduceNe, Int.reduceEq, Int.reduceLT, Int.reduceLE, Int.reduceAdd, Int.reduceSub, Int.reduceNeg, Int.reduceMul, Int.reduceToNat, Nat.reduceSub, Nat.reduceMul, Nat.reduceLeDiff, Nat.reduceAdd, Nat.reduceLT, Nat.reduceEqDiff, reduceCtorEq, ↓reduceIte, cpoly_len, cpoly_nil]
  refine call_by ((pnone_ok q (hq.mono (by omega) (by omega)))) (by first | rfl | (simp only [tocvs, tocv, h0]; rfl)) (by simp) ?_
  simp (disch := omega) only [wk, tis, Int.reduceNe, Int.reduceEq, Int.reduceLT, Int.reduceLE, Int.reduceAdd, Int.reduceSub, Int.reduceNeg, Int.reduceMul, Int.reduceToNat, Nat.reduceSub, Nat.reduceMul, Nat.reduceLeDiff, Nat.reduceAdd, Nat.reduceLT, Nat.reduceEqDiff, reduceCtorEq, ↓reduceIte, cpoly_len, cpoly_nil, h0]
  refine call_by ((plead_g (hq.mono (by omega) (by omega)) rfl)) (by first | rfl | (simp only [tocvs, tocv, h0]; rfl)) (by simp) ?_
  simp (disch := omega) only [wk, tis, Int.reduceNe, Int.reduceEq, Int.reduceLT, Int.reduceLE, Int.reduceAdd, Int.reduceSub, Int.reduceNeg, Int.reduceMul, Int.reduceToNat, Nat.reduceSub, Nat.reduceMul, Nat.reduceLeDiff, Nat.reduceAdd, Nat.reduceLT, Nat.reduceEqDiff, reduceCtorEq, ↓reduceIte, cpoly_len, cpoly_nil, h0]
  refine call_by (m) (by first | rfl | (simp only [tocvs, tocv, h0]; rfl)) (by simp) ?_
  simp (disch := omega) only [wk, tis, Int.reduceNe, Int.reduceEq, Int.reduceLT, Int.reduceLE, Int.reduceAdd, Int.reduceSub, Int.reduceNeg, Int.reduceMul, Int.reduceToNat, Nat.reduceSub, Nat.reduceMul, Nat.reduceLeDiff, Nat.reduceAdd, Nat.reduceLT, Nat.reduceEqDiff, reduceCtorEq, ↓reduceIte, cpoly_len, cpoly_nil, h0]
  exact ⟨rfl, rfl, rfl⟩

theorem prem_zero (p q : List RI) (hq : RP 40 (2 ^ 21) q) (h0 : tz (pv q) = 0) : AC Try.prog 88 [cw p, cw q] none [cw [], ci 1] := by
  refine AC.by_walk (rs := [.tmp 4, .tmp 5]) ords Try.func88 (by rfl) (by rfl) (by rfl) (by rfl) (by rfl) ?_
  simp (disch := omega) only [wk, tis, Int.reduceNe, Int.reduceEq, Int.reduceLT, Int.reduceLE, Int.reduceAdd, Int.reduceSub, Int.reduceNeg, Int.reduceMul, Int.reduceToNat, Nat.reduceSub, Nat.reduceMul, Nat.reduceLeDiff, Nat.reduceAdd, Nat.reduceLT, Nat.reduceEqDiff, reduceCtorEq, ↓reduceIte, cpoly_len, cpoly_nil]
  refine call_by ((pdiv_zero p q hq h0)) (by rfl) (by simp) ?_
  simp (disch := omega) only [wk, tis, Int.reduceNe, Int.reduceEq, Int.reduceLT, Int.reduceLE, Int.reduceAdd, Int.reduceSub, Int.reduceNeg, Int.reduceMul, Int.reduceToNat, Nat.reduceSub, Nat.reduceMul, Nat.reduceLeDiff, Nat.reduceAdd, Nat.reduceLT, Nat.reduceEqDiff, reduceCtorEq, ↓reduceIte, cpoly_len, cpoly_nil]

theorem prem_ok (p q : List RI) (hp : RP 40 (2 ^ 21) p) (hq : RP 40 (2 ^ 21) q) (h0 : ¬ tz (pv q) = 0) : AC Try.prog 88 [cw p, cw q] none [cp (dr (pv p) (pv q)), ci 0] := by
  refine AC.by_walk (rs := [.tmp 4, .tmp 5]) ords Try.func88 (by rfl) (by rfl) (by rfl) (by rfl) (by rfl) ?_
  simp (disch := omega) only [wk, tis, Int.reduceNe, Int.reduceEq, Int.reduceLT, Int.reduceLE, Int.reduceAdd, Int.reduceSub, Int.reduceNeg, Int.reduceMul, Int.reduceToNat, Nat.reduceSub, Nat.reduceMul, Nat.reduceLeDiff, Nat.reduceAdd, Nat.reduceLT, Nat.reduceEqDiff, reduceCtorEq, ↓reduceIte, cpoly_len, cpoly_nil]
  refine call_by ((pdiv_ok p q hp hq h0)) (by rfl) (by simp) ?_
  simp (disch := omega) only [wk, tis, Int.reduceNe, Int.reduceEq, Int.reduceLT, Int.reduceLE, Int.reduceAdd, Int.reduceSub, Int.reduceNeg, Int.reduceMul, Int.reduceToNat, Nat.reduceSub, Nat.reduceMul, Nat.reduceLeDiff, Nat.reduceAdd, Nat.reduceLT, Nat.reduceEqDiff, reduceCtorEq, ↓reduceIte, cpoly_len, cpoly_nil]

theorem ppos_zero (p q : List RI) (hq : RP 40 (2 ^ 21) q) (h0 : tz (pv q) = 0) : AC Try.prog 89 [cw p, cw q] none [cw [], ci 1] := by
  refine AC.by_walk (rs := [.tmp 4, .tmp 5]) ords Try.func89 (by rfl) (by rfl) (by rfl) (by rfl) (by rfl) ?_
  simp (disch := omega) only [wk, tis, Int.reduceNe, Int.reduceEq, Int.reduceLT, Int.reduceLE, Int.reduceAdd, Int.reduceSub, Int.reduceNeg, Int.reduceMul, Int.reduceToNat, Nat.reduceSub, Nat.reduceMul, Nat.reduceLeDiff, Nat.reduceAdd, Nat.reduceLT, Nat.reduceEqDiff, reduceCtorEq, ↓reduceIte, cpoly_len, cpoly_nil]
  refine call_by ((pnone_ok q (hq.mono (by omega) (by omega)))) (by first | rfl | (simp only [tocvs, tocv, h0]; rfl)) (by simp) ?_
  simp (disch := omega) only [wk, tis, Int.reduceNe, Int.reduceEq, Int.reduceLT, Int.reduceLE, Int.reduceAdd, Int.reduceSub, Int.reduceNeg, Int.reduceMul, Int.reduceToNat, Nat.reduceSub, Nat.reduceMul, Nat.reduceLeDiff, Nat.reduceAdd, Nat.reduceLT, Nat.reduceEqDiff, reduceCtorEq, ↓reduceIte, cpoly_len, cpoly_nil, h0]

theorem ppos_ok (p q : List RI) (hp : RP 40 (2 ^ 21) p) (hq : RP 40 (2 ^ 21) q) (h0 : ¬ tz (pv q) = 0) : AC Try.prog 89 [cw p, cw q] none [cp (dpos (pv p) (pv q)), ci 0] := by
  refine AC.by_walk (rs := [.tmp 4, .tmp 5]) ords Try.func89 (by rfl) (by rfl) (by rfl) (by rfl) (by rfl) ?_
  have hz : zl (lc (pv q)) ≤ 2 ^ 21 := hq.pv.cf _
  have hl : Sz (2 ^ 21) (canon (lc (pv q))) := (sz_canon _).mono hz
  have hl2 : Sz (2 ^ 21) (canon (((lc (pv q)).natAbs : Int))) := (sz_canon _).mono (by unfold zl at hz ⊢; rw [Int.natAbs_natCast]; exact hz)
  have m := divide_ok p q (canon ((lc (pv q)).natAbs : Int)) hp hq hl2 h0 (by rw [iv_canon]; exact Int.dvd_natAbs.mpr (Int.dvd_refl _))
  rw [iv_canon] at m
  have ma := zabs_ok (canon (lc (pv q))) (hl.mono (by omega))
  rw [iv_canon] at ma
  have mn := znat_ok false (lc (pv q)).natAbs (by unfold zl at hz; omega)
  simp (disch := omega) only [wk, tis, Int.reduceNe, Int.reduceEq, Int.reduceLT, Int.reduceLE, Int.reduceAdd, Int.reduceSub, Int.reduceNeg, Int.reduceMul, Int.reduceToNat, Nat.reduceSub, Nat.reduceMul, Nat.reduceLeDiff, Nat.reduceAdd, Nat.reduceLT, Nat.reduceEqDiff, reduceCtorEq, ↓reduceIte, cpoly_len, cpoly_nil]
  refine call_by ((pnone_ok q (hq.mono (by omega) (by omega)))) (by first | rfl | (simp only [tocvs, tocv, h0]; rfl)) (by simp) ?_
  simp (disch := omega) only [wk, tis, Int.reduceNe, Int.reduceEq, Int.reduceLT, Int.reduceLE, Int.reduceAdd, Int.reduceSub, Int.reduceNeg, Int.reduceMul, Int.reduceToNat, Nat.reduceSub, Nat.reduceMul, Nat.reduceLeDiff, Nat.reduceAdd, Nat.reduceLT, Nat.reduceEqDiff, reduceCtorEq, ↓reduceIte, cpoly_len, cpoly_nil, h0]
  refine call_by ((plead_g (hq.mono (by omega) (by omega)) rfl)) (by first | rfl | (simp only [tocvs, tocv, h0]; rfl)) (by simp) ?_
  simp (disch := omega) only [wk, tis, Int.reduceNe, Int.reduceEq, Int.reduceLT, Int.reduceLE, Int.reduceAdd, Int.reduceSub, Int.reduceNeg, Int.reduceMul, Int.reduceToNat, Nat.reduceSub, Nat.reduceMul, Nat.reduceLeDiff, Nat.reduceAdd, Nat.reduceLT, Nat.reduceEqDiff, reduceCtorEq, ↓reduceIte, cpoly_len, cpoly_nil, h0]
  refine call_by (ma) (by first | rfl | (simp only [tocvs, tocv, h0]; rfl)) (by simp) ?_
  simp (disch := omega) only [wk, tis, Int.reduceNe, Int.reduceEq, Int.reduceLT, Int.reduceLE, Int.reduceAdd, Int.reduceSub, Int.reduceNeg, Int.reduceMul, Int.reduceToNat, Nat.reduceSub, Nat.reduceMul, Nat.reduceLeDiff, Nat.reduceAdd, Nat.reduceLT, Nat.reduceEqDiff, reduceCtorEq, ↓reduceIte, cpoly_len, cpoly_nil, h0]
  refine call_by (mn) (by first | rfl | (simp only [tocvs, tocv, h0]; rfl)) (by simp) ?_
  simp (disch := omega) only [wk, tis, Int.reduceNe, Int.reduceEq, Int.reduceLT, Int.reduceLE, Int.reduceAdd, Int.reduceSub, Int.reduceNeg, Int.reduceMul, Int.reduceToNat, Nat.reduceSub, Nat.reduceMul, Nat.reduceLeDiff, Nat.reduceAdd, Nat.reduceLT, Nat.reduceEqDiff, reduceCtorEq, ↓reduceIte, cpoly_len, cpoly_nil, h0]
  have e : sg false (lc (pv q)).natAbs = ((lc (pv q)).natAbs : Int) := by simp [sg]
  rw [e]
  refine call_by (m) (by first | rfl | (simp only [tocvs, tocv, h0]; rfl)) (by simp) ?_
  simp (disch := omega) only [wk, tis, Int.reduceNe, Int.reduceEq, Int.reduceLT, Int.reduceLE, Int.reduceAdd, Int.reduceSub, Int.reduceNeg, Int.reduceMul, Int.reduceToNat, Nat.reduceSub, Nat.reduceMul, Nat.reduceLeDiff, Nat.reduceAdd, Nat.reduceLT, Nat.reduceEqDiff, reduceCtorEq, ↓reduceIte, cpoly_len, cpoly_nil, h0]
  rfl

theorem power13_ok (c : RI) (n K : Nat) (hc : Sz K c) (hn : n ≤ 41) (hK : K ≤ 2 ^ 26) : AC Try.prog 91 [cr c, ci n] none [cz (iv c ^ n)] := by
  refine AC.by_walk (rs := [.cell 4 40]) ords Try.func91 (by rfl) (by rfl) (by rfl) (by rfl) (by rfl) ?_
  simp (disch := omega) only [wk, tis, Int.reduceNe, Int.reduceEq, Int.reduceLT, Int.reduceLE, Int.reduceAdd, Int.reduceSub, Int.reduceNeg, Int.reduceMul, Int.reduceToNat, Nat.reduceSub, Nat.reduceMul, Nat.reduceLeDiff, Nat.reduceAdd, Nat.reduceLT, Nat.reduceEqDiff, reduceCtorEq, ↓reduceIte, cpoly_len, cpoly_nil]
  refine call_by ((zOf_ok 1 (by omega) (by omega))) (by rfl) (by simp) ?_
  simp (disch := omega) only [wk, tis, Int.reduceNe, Int.reduceEq, Int.reduceLT, Int.reduceLE, Int.reduceAdd, Int.reduceSub, Int.reduceNeg, Int.reduceMul, Int.reduceToNat, Nat.reduceSub, Nat.reduceMul, Nat.reduceLeDiff, Nat.reduceAdd, Nat.reduceLT, Nat.reduceEqDiff, reduceCtorEq, ↓reduceIte, cpoly_len, cpoly_nil]
  refine aloop_by (fun f H => ∃ (i s2 s5 : Nat), i ≤ n ∧ f 6 = .iv (.int .i64 i) ∧ f 1 = .iv (.int .i64 n) ∧ f 2 = .hp 2 s2 0 0 ∧ f 5 = .hp 5 s5 0 0 ∧ f 4 = .hp 4 1 0 0 ∧ H 2 = .blk false s2 40 2 [prow c] ∧ H 5 = .blk false s5 40 2 [prow (canon (iv c ^ i))] ∧ H 4 = .blk false 1 40 2 [prow (false, [])]) (fun f H => (n - intAt f 6).toNat) ?_ ?_
  · refine ⟨0, 1, 1, by omega, ?_⟩
    simp (disch := omega) only [wk, tis, Int.reduceNe, Int.reduceEq, Int.reduceLT, Int.reduceLE, Int.reduceAdd, Int.reduceSub, Int.reduceNeg, Int.reduceMul, Int.reduceToNat, Nat.reduceSub, Nat.reduceMul, Nat.reduceLeDiff, Nat.reduceAdd, Nat.reduceLT, Nat.reduceEqDiff, reduceCtorEq, ↓reduceIte, cpoly_len, cpoly_nil, Int.pow_zero]
  rintro f H ⟨i, s2, s5, hi, hF⟩
  rw [intAt_of hF.1]
  simp (disch := omega) only [wk, tis, Int.reduceNe, Int.reduceEq, Int.reduceLT, Int.reduceLE, Int.reduceAdd, Int.reduceSub, Int.reduceNeg, Int.reduceMul, Int.reduceToNat, Nat.reduceSub, Nat.reduceMul, Nat.reduceLeDiff, Nat.reduceAdd, Nat.reduceLT, Nat.reduceEqDiff, reduceCtorEq, ↓reduceIte, cpoly_len, cpoly_nil, hF]
  refine if_by (fun hlt => ?_) (fun hlt => ?_)
  · have hzp : ∀ j : Nat, zl (iv c ^ j) ≤ j * K + 1 := fun j => by
      induction j with
      | zero => rw [Int.pow_zero]; exact Nat.le_trans (zl_le.mpr (by decide : (1 : Int).natAbs < W ^ 1)) (by omega)
      | succ j ih =>
        rw [Int.pow_succ, Nat.succ_mul]
        have := zl_mul (iv c ^ j) (iv c)
        have := zl_iv hc
        omega
    have h1 := hzp i
    have h2 : i * K ≤ 41 * 2 ^ 26 := Nat.mul_le_mul (by omega) hK
    have m := zmul_ok (canon (iv c ^ i)) c ((sz_canon _).mono (by omega)) (hc.mono (by omega))
    rw [iv_canon] at m
    simp (disch := omega) only [wk, tis, Int.reduceNe, Int.reduceEq, Int.reduceLT, Int.reduceLE, Int.reduceAdd, Int.reduceSub, Int.reduceNeg, Int.reduceMul, Int.reduceToNat, Nat.reduceSub, Nat.reduceMul, Nat.reduceLeDiff, Nat.reduceAdd, Nat.reduceLT, Nat.reduceEqDiff, reduceCtorEq, ↓reduceIte, cpoly_len, cpoly_nil, hF]
    refine call_by (m) (by first | rfl | (simp only [tocvs, tocv, hF]; rfl)) (by simp) ?_
    simp (disch := omega) only [wk, tis, Int.reduceNe, Int.reduceEq, Int.reduceLT, Int.reduceLE, Int.reduceAdd, Int.reduceSub, Int.reduceNeg, Int.reduceMul, Int.reduceToNat, Nat.reduceSub, Nat.reduceMul, Nat.reduceLeDiff, Nat.reduceAdd, Nat.reduceLT, Nat.reduceEqDiff, reduceCtorEq, ↓reduceIte, cpoly_len, cpoly_nil, hF]
    refine ⟨⟨i + 1, s2, s5, by omega, by omega, rfl, rfl, rfl, by rw [Int.pow_succ]⟩, by omega⟩
  · obtain rfl : i = n := by omega
    simp (disch := omega) only [wk, tis, Int.reduceNe, Int.reduceEq, Int.reduceLT, Int.reduceLE, Int.reduceAdd, Int.reduceSub, Int.reduceNeg, Int.reduceMul, Int.reduceToNat, Nat.reduceSub, Nat.reduceMul, Nat.reduceLeDiff, Nat.reduceAdd, Nat.reduceLT, Nat.reduceEqDiff, reduceCtorEq, ↓reduceIte, cpoly_len, cpoly_nil, hF]

theorem div_known1 : trimz (dq [0, 0, 1] [1, 2]) = [-1, 2] := by decide
theorem div_known2 : trimz (dr [0, 0, 1] [1, 2]) = [1] := by decide
theorem div_known3 : tz [1, 2] = 2 := by decide

theorem known13_ok : AC Try.prog 84 [] none [cb true] := by
  refine AC.by_walk (rs := [.tmp 0]) ords Try.func84 (by rfl) (by rfl) (by rfl) (by rfl) (by rfl) ?_
  have rp : ∀ l : List Int, l.length ≤ 40 → (∀ z ∈ l, zl z ≤ 1) → RP 40 (2 ^ 21) (l.map canon) := fun l h1 h2 => RP.canon ⟨h1, fun z hz => Nat.le_trans (h2 z hz) (by decide)⟩
  have hz : ∀ z : Int, z.natAbs < 10 → zl z ≤ 1 := fun z h => zl_le.mpr (Nat.lt_of_lt_of_le h (by decide))
  have ra := rp [0, 0, 1] (by decide) (fun z hz' => hz z (by simp at hz'; omega))
  have rb := rp [1, 2] (by decide) (fun z hz' => hz z (by simp at hz'; omega))
  have m := pdiv_ok _ _ ra rb (by rw [pv_canon, div_known3]; decide)
  rw [pv_canon, pv_canon] at m
  have e1 : cn (dq [0, 0, 1] [1, 2]) = [-1, 2].map canon := by unfold cn; rw [div_known1]
  have e2 : cn (dr [0, 0, 1] [1, 2]) = [1].map canon := by unfold cn; rw [div_known2]
  have e3 : ((dxp [0, 0, 1] [1, 2] : Nat) : Int) = 2 := by decide
  have r1 := rp [-1, 2] (by decide) (fun z hz' => hz z (by simp at hz'; omega))
  have r2 := rp [1] (by decide) (fun z hz' => hz z (by simp at hz'; omega))
  have c1 : cpoly (dq [0, 0, 1] [1, 2]) = raws ([-1, 2].map canon) := by rw [← e1]; rfl
  have c2 : cpoly (dr [0, 0, 1] [1, 2]) = raws ([1].map canon) := by rw [← e2]; rfl
  simp only [cp, c1, c2, e3] at m
  simp (disch := omega) only [wk, tis, Int.reduceNe, Int.reduceEq, Int.reduceLT, Int.reduceLE, Int.reduceAdd, Int.reduceSub, Int.reduceNeg, Int.reduceMul, Int.reduceToNat, Nat.reduceSub, Nat.reduceMul, Nat.reduceLeDiff, Nat.reduceAdd, Nat.reduceLT, Nat.reduceEqDiff, reduceCtorEq, ↓reduceIte, cpoly_len, cpoly_nil]
  refine call_by ((poly13_ok [0, 0, 1] (by decide) (by decide))) (by rfl) (by simp) ?_
  simp (disch := omega) only [wk, tis, Int.reduceNe, Int.reduceEq, Int.reduceLT, Int.reduceLE, Int.reduceAdd, Int.reduceSub, Int.reduceNeg, Int.reduceMul, Int.reduceToNat, Nat.reduceSub, Nat.reduceMul, Nat.reduceLeDiff, Nat.reduceAdd, Nat.reduceLT, Nat.reduceEqDiff, reduceCtorEq, ↓reduceIte, cpoly_len, cpoly_nil]
  refine call_by ((poly13_ok [1, 2] (by decide) (by decide))) (by rfl) (by simp) ?_
  simp (disch := omega) only [wk, tis, Int.reduceNe, Int.reduceEq, Int.reduceLT, Int.reduceLE, Int.reduceAdd, Int.reduceSub, Int.reduceNeg, Int.reduceMul, Int.reduceToNat, Nat.reduceSub, Nat.reduceMul, Nat.reduceLeDiff, Nat.reduceAdd, Nat.reduceLT, Nat.reduceEqDiff, reduceCtorEq, ↓reduceIte, cpoly_len, cpoly_nil]
  refine call_by (m) (by rfl) (by simp) ?_
  simp (disch := omega) only [wk, tis, Int.reduceNe, Int.reduceEq, Int.reduceLT, Int.reduceLE, Int.reduceAdd, Int.reduceSub, Int.reduceNeg, Int.reduceMul, Int.reduceToNat, Nat.reduceSub, Nat.reduceMul, Nat.reduceLeDiff, Nat.reduceAdd, Nat.reduceLT, Nat.reduceEqDiff, reduceCtorEq, ↓reduceIte, cpoly_len, cpoly_nil]
  refine call_by ((poly13_ok [-1, 2] (by decide) (by decide))) (by rfl) (by simp) ?_
  simp (disch := omega) only [wk, tis, Int.reduceNe, Int.reduceEq, Int.reduceLT, Int.reduceLE, Int.reduceAdd, Int.reduceSub, Int.reduceNeg, Int.reduceMul, Int.reduceToNat, Nat.reduceSub, Nat.reduceMul, Nat.reduceLeDiff, Nat.reduceAdd, Nat.reduceLT, Nat.reduceEqDiff, reduceCtorEq, ↓reduceIte, cpoly_len, cpoly_nil]
  have s1 := zsame_ok ([-1, 2].map canon) ([-1, 2].map canon) (r1.mono (by decide) (by decide)) (r1.mono (by decide) (by decide))
  have s2 := zsame_ok ([1].map canon) ([1].map canon) (r2.mono (by decide) (by decide)) (r2.mono (by decide) (by decide))
  rw [decide_eq_true rfl] at s1 s2
  refine call_by (s1) (by rfl) (by simp) ?_
  simp (disch := omega) only [wk, tis, Int.reduceNe, Int.reduceEq, Int.reduceLT, Int.reduceLE, Int.reduceAdd, Int.reduceSub, Int.reduceNeg, Int.reduceMul, Int.reduceToNat, Nat.reduceSub, Nat.reduceMul, Nat.reduceLeDiff, Nat.reduceAdd, Nat.reduceLT, Nat.reduceEqDiff, reduceCtorEq, ↓reduceIte, cpoly_len, cpoly_nil]
  refine call_by ((poly13_ok [1] (by decide) (by decide))) (by rfl) (by simp) ?_
  simp (disch := omega) only [wk, tis, Int.reduceNe, Int.reduceEq, Int.reduceLT, Int.reduceLE, Int.reduceAdd, Int.reduceSub, Int.reduceNeg, Int.reduceMul, Int.reduceToNat, Nat.reduceSub, Nat.reduceMul, Nat.reduceLeDiff, Nat.reduceAdd, Nat.reduceLT, Nat.reduceEqDiff, reduceCtorEq, ↓reduceIte, cpoly_len, cpoly_nil]
  refine call_by (s2) (by rfl) (by simp) ?_
  simp (disch := omega) only [wk, tis, Int.reduceNe, Int.reduceEq, Int.reduceLT, Int.reduceLE, Int.reduceAdd, Int.reduceSub, Int.reduceNeg, Int.reduceMul, Int.reduceToNat, Nat.reduceSub, Nat.reduceMul, Nat.reduceLeDiff, Nat.reduceAdd, Nat.reduceLT, Nat.reduceEqDiff, reduceCtorEq, ↓reduceIte, cpoly_len, cpoly_nil]
end Go.Proofs.Ythgecppfgdadiaa

namespace Go.Proofs.Ythgecppfgdadiaa
open Go Go.Proofs Go.AL
set_option linter.unusedSimpArgs false
set_option linter.unusedVariables false

/-! the division in plain numbers: sizes, signs -/

theorem dres_bd {c L : Int} {B : List Int} (hB : tz B ≠ 0) (hL : L = lc B) (hd : L ∣ c) (hc : zl c ≤ 2 ^ 21) (hzB : Bd (2 ^ 21) B) (n : Nat) : ∀ (s : List Int × List Int), n ≤ 41 → tz s.2 < tz B + n → Bd (KB n) s.1 → Bd (KB n) s.2 → Bd (KB 0) (dres c L B n s).1 ∧ Bd (KB 0) (dres c L B n s).2 := by
  generalize hk : (2 : Nat) ^ 21 = k at hc hzB
  have hfin1 : ∀ m, m + 1 ≤ 41 → max (KB (m + 1) + k) (KB (m + 1) + k) + 1 ≤ KB m := fun m hm => by rw [← hk]; exact bnd_fin1 (KB_step m hm)
  have hfin : ∀ m, m + 1 ≤ 41 → max (KB (m + 1) + k) (KB (m + 1) + k + k) + 1 ≤ KB m := fun m hm => by rw [← hk]; exact bnd_fin (KB_step m hm)
  have hfin2 : ∀ m, m + 1 ≤ 41 → KB (m + 1) + k ≤ KB m := fun m hm => by rw [← hk]; exact bnd_fin2 (KB_step m hm)
  clear hk
  induction n with
  | zero => exact fun s _ _ h1 h2 => ⟨h1, h2⟩
  | succ n ih =>
    intro s hn ht h1 h2
    rw [dres]
    split
    · rename_i hge
      have hzR := h2.2 (tz s.2 - 1)
      have hzm := zl_mul c (lc s.2)
      have hzR' : zl (lc s.2) ≤ KB (n + 1) := hzR
      have hdv : L ∣ c * lc s.2 := Int.dvd_trans hd (Int.dvd_mul_right _ _)
      have hzt := zl_div hdv
      have hlt := h2.1
      have htz := dstep_tz (c := c) hL hB hd hge
      have b1 := bd_scale h1 hc
      have b2 := bd_mono (n := tz s.2 - tz B) (c := c * lc s.2 / L) (K := KB (n + 1) + k) (by omega) (by omega)
      have b3 := bd_scale h2 hc
      have b4 := bd_mmul (m := 0) (n := tz s.2 - tz B) (c := c * lc s.2 / L) (K := KB (n + 1) + k) hzB (by omega) (by omega)
      have b5 := bd_add b1 b2
      have b6 := bd_add b3 (bd_neg b4)
      exact ih _ (by omega) (by omega) (b5.mono (hfin1 n hn)) (b6.mono (hfin n hn))
    · rename_i hge
      have hts := tz_scale_le c s.2
      refine ih _ (by omega) ?_ ((bd_scale h1 hc).mono (hfin2 n hn)) ((bd_scale h2 hc).mono (hfin2 n hn))
      show tz (pscale c s.2) < _
      omega

theorem lc_sgn {q r : List Int} {σ : Int} (hσ : σ = 1 ∨ σ = -1) (h : ps q = PS.C σ * ps r) : tz q = tz r ∧ lc q = σ * lc r := by
  have hk : ∀ k, cf q k = σ * cf r k := fun k => by
    have := congrArg (fun f => f.c k) h
    simp only [ps_c, PS.C_mul_c] at this
    exact this
  have h1 : tz q = tz r := by
    refine Nat.le_antisymm (tz_le_of fun k hk' => by rw [hk, cf_ge_tz r hk', Int.mul_zero]) (tz_le_of fun k hk' => ?_)
    have := cf_ge_tz q hk'
    rw [hk] at this
    rcases hσ with rfl | rfl <;> omega
  exact ⟨h1, by unfold lc; rw [h1, hk]⟩

theorem ps_mono (n : Nat) (c d : Int) : ps (mono n (c * d)) = PS.C c * ps (mono n d) := PS.ext fun k => by
  rw [PS.C_mul_c, ps_c, ps_c, cf_mono, cf_mono]
  split
  · rfl
  · rw [Int.mul_zero]

theorem c_swap (x y m b : PS) : x * (y * m * b) = y * (x * (m * b)) := by rw [PS.mul_assoc y, ← PS.mul_assoc x y, PS.mul_comm x y, PS.mul_assoc]

theorem c_c (a b : Int) (r : PS) : PS.C a * (PS.C b * r) = PS.C (a * b) * r := by rw [← PS.mul_assoc, ← PS.C_mul]

theorem dres_neg {c L : Int} {B : List Int} (hL0 : L ≠ 0) (hd : L ∣ c) : ∀ (n : Nat) (s s' : List Int × List Int) (σ : Int), (σ = 1 ∨ σ = -1) → ps s'.1 = PS.C σ * ps s.1 → ps s'.2 = PS.C σ * ps s.2 →
    ps (dres (-c) L B n s').2 = PS.C ((-1) ^ n * σ) * ps (dres c L B n s).2
  | 0, s, s', σ, _, _, h2 => by rw [dres, dres, Int.pow_zero, Int.one_mul]; exact h2
  | n + 1, s, s', σ, hσ, h1, h2 => by
    obtain ⟨ht, hl⟩ := lc_sgn hσ h2
    have hσ' : -σ = 1 ∨ -σ = -1 := by omega
    have e : (-1 : Int) ^ (n + 1) * σ = (-1) ^ n * (-σ) := by rw [Int.pow_succ, Int.mul_assoc, Int.neg_mul, Int.one_mul]
    rw [dres, dres, ht, e]
    split
    · rename_i hge
      have hdv : L ∣ c * lc s.2 := Int.dvd_trans hd (Int.dvd_mul_right _ _)
      have hq : -c * lc s'.2 / L = -σ * (c * lc s.2 / L) := by
        rw [hl, show -c * (σ * lc s.2) = -σ * (c * lc s.2) by rw [Int.neg_mul, Int.neg_mul, Int.mul_left_comm], Int.mul_ediv_assoc _ hdv]
      refine dres_neg hL0 hd n _ _ (-σ) hσ' ?_ ?_
      · show ps (padd _ _) = PS.C _ * ps (padd _ _)
        rw [hq, ps_padd, ps_padd, ps_pscale, ps_pscale, h1, ht, ps_mono, PS.mul_add, ← PS.mul_assoc, ← PS.mul_assoc, ← PS.C_mul, ← PS.C_mul]
        congr 2
        congr 1
        rw [Int.neg_mul, Int.neg_mul, Int.mul_comm]
      · show ps (padd _ _) = PS.C _ * ps (padd _ _)
        rw [hq, ps_padd, ps_padd, ps_pscale, ps_pscale, ps_pscale, ps_pscale, ps_pmul, ps_pmul, h2, ht, ps_mono, PS.mul_add, c_swap]
        simp only [c_c]
        rw [show -c * σ = -σ * c by rw [Int.neg_mul, Int.neg_mul, Int.mul_comm]]
    · refine dres_neg hL0 hd n _ _ (-σ) hσ' ?_ ?_
      · show ps (pscale _ _) = PS.C _ * ps (pscale _ _)
        rw [ps_pscale, ps_pscale, h1, ← PS.mul_assoc, ← PS.mul_assoc, ← PS.C_mul, ← PS.C_mul, Int.neg_mul, Int.neg_mul, Int.mul_comm]
      · show ps (pscale _ _) = PS.C _ * ps (pscale _ _)
        rw [ps_pscale, ps_pscale, h2, ← PS.mul_assoc, ← PS.mul_assoc, ← PS.C_mul, ← PS.C_mul, Int.neg_mul, Int.neg_mul, Int.mul_comm]
end Go.Proofs.Ythgecppfgdadiaa

namespace Go.Proofs.Ythgecppfgdadiaa
open Go Go.Proofs Go.AL
set_option linter.unusedSimpArgs false
set_option linter.unusedVariables false

theorem zsame_g {q r : List Int} (hq : Bd (2 ^ 35) q) (hr : Bd (2 ^ 35) r) : AC Try.prog 90 [cp q, cp r] none [cb (decide (cn q = cn r))] :=
  zsame_ok (cn q) (cn r) ((hq.rp (by omega)).mono (by omega) (by omega)) ((hr.rp (by omega)).mono (by omega) (by omega))

theorem cn_ps {q r : List Int} (h : ps q = ps r) : cn q = cn r := by unfold cn; rw [trimz_ext (ps_eq h)]

theorem pb_bd {k : Nat} {q : List Int} (h : PB 40 k q) : Bd k q := ⟨Nat.le_trans (tz_le q) h.1, h.cf⟩

theorem div_law {P B : List Int} (hB : tz B ≠ 0) : ps (pmul [lc B ^ dxp P B] P) = ps (padd (pmul (dq P B) B) (dr P B)) := by
  have h := dres_eq (c := lc B) (L := lc B) (B := B) (dxp P B) ([], P)
  rw [ps_nil, PS.zero_mul, PS.zero_add] at h
  rw [ps_pmul, ps_padd, ps_pmul, ps_const]
  rw [show ps (dq P B) * ps B + ps (dr P B) = PS.pw (PS.C (lc B)) (dxp P B) * ps P from h]
  congr 1
  induction dxp P B with
  | zero => rw [Int.pow_zero]; rfl
  | succ n ih => rw [Int.pow_succ, PS.C_mul, ih]; rfl

theorem neg_one_pow (n : Nat) : (-1 : Int) ^ n = if n % 2 = 0 then 1 else -1 := by
  induction n with
  | zero => rfl
  | succ n ih =>
    rw [Int.pow_succ, ih]
    split <;> split <;> omega

set_option maxHeartbeats 1000000 in
theorem back_ok (p q : List RI) (hp : RP (2 ^ 20) (2 ^ 20) p) (hq : RP (2 ^ 20) (2 ^ 20) q) : AC Try.prog 10 [cw p, cw q] none [cb true] := by
  refine AC.by_walk (rs := [.tmp 4]) ords Try.func10 (by rfl) (by rfl) (by rfl) (by rfl) (by rfl) ?_
  simp (disch := omega) only [wk, tis, Int.reduceNe, Int.reduceEq, Int.reduceLT, Int.reduceLE, Int.reduceAdd, Int.reduceSub, Int.reduceNeg, Int.reduceMul, Int.reduceToNat, Nat.reduceSub, Nat.reduceMul, Nat.reduceLeDiff, Nat.reduceAdd, Nat.reduceLT, Nat.reduceEqDiff, reduceCtorEq, ↓reduceIte, cpoly_len, cpoly_nil]
  refine call_by (known13_ok) (by rfl) (by simp) ?_
  simp (disch := omega) only [wk, tis, Int.reduceNe, Int.reduceEq, Int.reduceLT, Int.reduceLE, Int.reduceAdd, Int.reduceSub, Int.reduceNeg, Int.reduceMul, Int.reduceToNat, Nat.reduceSub, Nat.reduceMul, Nat.reduceLeDiff, Nat.reduceAdd, Nat.reduceLT, Nat.reduceEqDiff, reduceCtorEq, ↓reduceIte, cpoly_len, cpoly_nil]
  refine call_by ((few13_ok p (by have := hp.1; omega))) (by rfl) (by simp) ?_
  simp (disch := omega) only [wk, tis, Int.reduceNe, Int.reduceEq, Int.reduceLT, Int.reduceLE, Int.reduceAdd, Int.reduceSub, Int.reduceNeg, Int.reduceMul, Int.reduceToNat, Nat.reduceSub, Nat.reduceMul, Nat.reduceLeDiff, Nat.reduceAdd, Nat.reduceLT, Nat.reduceEqDiff, reduceCtorEq, ↓reduceIte, cpoly_len, cpoly_nil]
  refine call_by ((few13_ok q (by have := hq.1; omega))) (by rfl) (by simp) ?_
  simp (disch := omega) only [wk, tis, Int.reduceNe, Int.reduceEq, Int.reduceLT, Int.reduceLE, Int.reduceAdd, Int.reduceSub, Int.reduceNeg, Int.reduceMul, Int.reduceToNat, Nat.reduceSub, Nat.reduceMul, Nat.reduceLeDiff, Nat.reduceAdd, Nat.reduceLT, Nat.reduceEqDiff, reduceCtorEq, ↓reduceIte, cpoly_len, cpoly_nil]
  have ha : RP 40 (2 ^ 20) (p.take 40) := ⟨by rw [List.length_take]; omega, fun x hx => hp.2 x (List.mem_of_mem_take hx)⟩
  have hb : RP 40 (2 ^ 20) (q.take 40) := ⟨by rw [List.length_take]; omega, fun x hx => hq.2 x (List.mem_of_mem_take hx)⟩
  clear hp hq
  generalize p.take 40 = a at *
  generalize q.take 40 = b at *
  refine call_by ((zform_ok a (ha.mono (by decide) (by decide)))) (by rfl) (by simp) ?_
  simp (disch := omega) only [wk, tis, Int.reduceNe, Int.reduceEq, Int.reduceLT, Int.reduceLE, Int.reduceAdd, Int.reduceSub, Int.reduceNeg, Int.reduceMul, Int.reduceToNat, Nat.reduceSub, Nat.reduceMul, Nat.reduceLeDiff, Nat.reduceAdd, Nat.reduceLT, Nat.reduceEqDiff, reduceCtorEq, ↓reduceIte, cpoly_len, cpoly_nil]
  refine call_by ((zform_ok b (hb.mono (by decide) (by decide)))) (by rfl) (by simp) ?_
  simp (disch := omega) only [wk, tis, Int.reduceNe, Int.reduceEq, Int.reduceLT, Int.reduceLE, Int.reduceAdd, Int.reduceSub, Int.reduceNeg, Int.reduceMul, Int.reduceToNat, Nat.reduceSub, Nat.reduceMul, Nat.reduceLeDiff, Nat.reduceAdd, Nat.reduceLT, Nat.reduceEqDiff, reduceCtorEq, ↓reduceIte, cpoly_len, cpoly_nil]
  have ha' := ha.mono (n' := 40) (k' := 2 ^ 21) (by decide) (by decide)
  have hb' := hb.mono (n' := 40) (k' := 2 ^ 21) (by decide) (by decide)
  by_cases h0 : tz (pv b) = 0
  · skip
    refine call_by ((pdiv_zero a b hb' h0)) (by first | rfl | (simp only [tocvs, tocv, h0]; rfl)) (by simp) ?_
    simp (disch := omega) only [wk, tis, Int.reduceNe, Int.reduceEq, Int.reduceLT, Int.reduceLE, Int.reduceAdd, Int.reduceSub, Int.reduceNeg, Int.reduceMul, Int.reduceToNat, Nat.reduceSub, Nat.reduceMul, Nat.reduceLeDiff, Nat.reduceAdd, Nat.reduceLT, Nat.reduceEqDiff, reduceCtorEq, ↓reduceIte, cpoly_len, cpoly_nil, h0]
    refine call_by ((prem_zero a b hb' h0)) (by first | rfl | (simp only [tocvs, tocv, h0]; rfl)) (by simp) ?_
    simp (disch := omega) only [wk, tis, Int.reduceNe, Int.reduceEq, Int.reduceLT, Int.reduceLE, Int.reduceAdd, Int.reduceSub, Int.reduceNeg, Int.reduceMul, Int.reduceToNat, Nat.reduceSub, Nat.reduceMul, Nat.reduceLeDiff, Nat.reduceAdd, Nat.reduceLT, Nat.reduceEqDiff, reduceCtorEq, ↓reduceIte, cpoly_len, cpoly_nil, h0]
    refine call_by ((ppos_zero a b hb' h0)) (by first | rfl | (simp only [tocvs, tocv, h0]; rfl)) (by simp) ?_
    simp (disch := omega) only [wk, tis, Int.reduceNe, Int.reduceEq, Int.reduceLT, Int.reduceLE, Int.reduceAdd, Int.reduceSub, Int.reduceNeg, Int.reduceMul, Int.reduceToNat, Nat.reduceSub, Nat.reduceMul, Nat.reduceLeDiff, Nat.reduceAdd, Nat.reduceLT, Nat.reduceEqDiff, reduceCtorEq, ↓reduceIte, cpoly_len, cpoly_nil, h0]
  have hbn : 0 < tz (pv b) := by omega
  have ta : tz (pv a) ≤ 40 := Nat.le_trans (tz_le _) ha.pv.1
  have tb : tz (pv b) ≤ 40 := Nat.le_trans (tz_le _) hb.pv.1
  have hn : dxp (pv a) (pv b) ≤ 41 := by unfold dxp; omega
  have hmax : max ((tz (pv a) : Int) - tz (pv b) + 1) 0 = (dxp (pv a) (pv b) : Nat) := by unfold dxp; omega
  have ht1 : ((tz (pv b) : Int) - 1).toNat = tz (pv b) - 1 := by omega
  have hat := cpoly_at (q := pv b) (i := tz (pv b) - 1) (by omega)
  have hL : cf (pv b) (tz (pv b) - 1) = lc (pv b) := rfl
  rw [hL] at hat
  have hzl : zl (lc (pv b)) ≤ 2 ^ 20 := hb.pv.cf _
  have hbb := pb_bd hb'.pv
  have hba := pb_bd ha'.pv
  have hlt : tz (dr (pv a) (pv b)) < tz (pv b) := dres_tz rfl h0 (Int.dvd_refl _) _ _ (by show tz (pv a) < _; unfold dxp; omega)
  have bds := dres_bd (c := lc (pv b)) h0 rfl (Int.dvd_refl _) (by omega) hbb (dxp (pv a) (pv b)) ([], pv a) hn (by show tz (pv a) < _; unfold dxp; omega) (bd_nil _) (hba.mono (Nat.le_trans (by decide) (KB_ge _ hn)))
  have bdp := dres_bd (c := ((lc (pv b)).natAbs : Int)) h0 rfl (Int.dvd_natAbs.mpr (Int.dvd_refl _)) (by unfold zl at hzl ⊢; rw [Int.natAbs_natCast]; omega) hbb (dxp (pv a) (pv b)) ([], pv a) hn (by show tz (pv a) < _; unfold dxp; omega) (bd_nil _) (hba.mono (Nat.le_trans (by decide) (KB_ge _ hn)))
  have rq : Bd (2 ^ 30) (dq (pv a) (pv b)) := bds.1.mono (KB_le 0)
  have rr : Bd (2 ^ 30) (dr (pv a) (pv b)) := bds.2.mono (KB_le 0)
  have rpos : Bd (2 ^ 30) (dpos (pv a) (pv b)) := bdp.2.mono (KB_le 0)
  clear bds bdp
  have hne : ¬ ((tz (pv b) : Int) = 0) := by omega
  have hge : ¬ ((tz (pv b) : Int) ≤ (tz (dr (pv a) (pv b)) : Int)) := by omega
  have hsub : (0 : Int) ≤ (tz (pv b) : Int) - 1 := by omega
  have hsub2 : (tz (pv b) : Int) - 1 < (tz (pv b) : Int) := by omega
  refine call_by ((pdiv_ok a b ha' hb' h0)) (by first | rfl | (simp only [tocvs, tocv, hne, hmax, ht1, hat, hge]; rfl)) (by simp) ?_
  simp (disch := omega) only [wk, tis, Int.reduceNe, Int.reduceEq, Int.reduceLT, Int.reduceLE, Int.reduceAdd, Int.reduceSub, Int.reduceNeg, Int.reduceMul, Int.reduceToNat, Nat.reduceSub, Nat.reduceMul, Nat.reduceLeDiff, Nat.reduceAdd, Nat.reduceLT, Nat.reduceEqDiff, reduceCtorEq, ↓reduceIte, cpoly_len, cpoly_nil, hne, hmax, ht1, hat, hge]
  refine call_by ((prem_ok a b ha' hb' h0)) (by first | rfl | (simp only [tocvs, tocv, hne, hmax, ht1, hat, hge]; rfl)) (by simp) ?_
  simp (disch := omega) only [wk, tis, Int.reduceNe, Int.reduceEq, Int.reduceLT, Int.reduceLE, Int.reduceAdd, Int.reduceSub, Int.reduceNeg, Int.reduceMul, Int.reduceToNat, Nat.reduceSub, Nat.reduceMul, Nat.reduceLeDiff, Nat.reduceAdd, Nat.reduceLT, Nat.reduceEqDiff, reduceCtorEq, ↓reduceIte, cpoly_len, cpoly_nil, hne, hmax, ht1, hat, hge]
  refine call_by ((ppos_ok a b ha' hb' h0)) (by first | rfl | (simp only [tocvs, tocv, hne, hmax, ht1, hat, hge]; rfl)) (by simp) ?_
  simp (disch := omega) only [wk, tis, Int.reduceNe, Int.reduceEq, Int.reduceLT, Int.reduceLE, Int.reduceAdd, Int.reduceSub, Int.reduceNeg, Int.reduceMul, Int.reduceToNat, Nat.reduceSub, Nat.reduceMul, Nat.reduceLeDiff, Nat.reduceAdd, Nat.reduceLT, Nat.reduceEqDiff, reduceCtorEq, ↓reduceIte, cpoly_len, cpoly_nil, hne, hmax, ht1, hat, hge]
  have z1 := zsame_g (rr.mono (by decide)) (rr.mono (by decide))
  rw [decide_eq_true rfl] at z1
  have hn40 : dxp (pv a) (pv b) ≤ 41 := hn
  have mp := power13_ok (canon (lc (pv b))) (dxp (pv a) (pv b)) (2 ^ 20) ((sz_canon _).mono hzl) hn40 (by decide)
  rw [iv_canon] at mp
  have hzp : zl (lc (pv b) ^ dxp (pv a) (pv b)) ≤ 2 ^ 27 := by
    have hz : ∀ j : Nat, zl (lc (pv b) ^ j) ≤ j * 2 ^ 20 + 1 := fun j => by
      induction j with
      | zero => rw [Int.pow_zero]; exact Nat.le_trans (zl_le.mpr (by decide : (1 : Int).natAbs < W ^ 1)) (by omega)
      | succ j ih =>
        rw [Int.pow_succ, Nat.succ_mul]
        have := zl_mul (lc (pv b) ^ j) (lc (pv b))
        omega
    have h1 := hz (dxp (pv a) (pv b))
    have h2 : dxp (pv a) (pv b) * 2 ^ 20 ≤ 41 * 2 ^ 20 := Nat.mul_le_mul_right _ hn
    omega
  have rpw : RP (2 ^ 30) (2 ^ 35) [canon (lc (pv b) ^ dxp (pv a) (pv b))] := ⟨by simp, fun x hx => by
    rw [List.mem_singleton.mp hx]; exact (sz_canon _).mono (by omega)⟩
  have pvw : ps (pv [canon (lc (pv b) ^ dxp (pv a) (pv b))]) = ps [lc (pv b) ^ dxp (pv a) (pv b)] := by
    simp only [pv, List.map_cons, List.map_nil, iv_canon]
  have ra : RP (2 ^ 30) (2 ^ 35) a := ha.mono (by decide) (by decide)
  have rb : RP (2 ^ 30) (2 ^ 35) b := hb.mono (by decide) (by decide)
  have m1 := pmul_g rpw ra pvw rfl
  have m2 := pmul_g (rq.rp (by decide)) rb (ps_cn _) rfl
  have rqq : RP 40 (2 ^ 30) (cn (dq (pv a) (pv b))) := RP.canon (.of (by rw [trimz_len]; exact rq.1) fun i => by rw [cf_trimz]; exact rq.2 i)
  have bqb : PB 80 (2 ^ 30 + 2 ^ 20 + 1) (pmul (trimz (dq (pv a) (pv b))) (pv b)) := PB.pmul (n := 40) (m := 40) (.of (by rw [trimz_len]; exact rq.1) fun i => by rw [cf_trimz]; exact rq.2 i) hb.pv (by decide)
  have cqb : cp (pmul (dq (pv a) (pv b)) (pv b)) = cp (pmul (trimz (dq (pv a) (pv b))) (pv b)) := by
    show CV.iv (.sl (cpoly _)) = CV.iv (.sl (cpoly _))
    rw [cpoly_ext (ps_eq (p := pmul (dq (pv a) (pv b)) (pv b)) (q := pmul (trimz (dq (pv a) (pv b))) (pv b)) (by rw [ps_pmul, ps_pmul, ps_trimz]))]
  rw [cqb] at m2
  have m3 := padd_g ((rp_cn bqb).mono (by decide) (by decide)) (rr.rp (by decide)) (ps_cn _) (ps_cn _)
  have e1 : ps (pmul [lc (pv b) ^ dxp (pv a) (pv b)] (pv a)) = ps (padd (pmul (trimz (dq (pv a) (pv b))) (pv b)) (dr (pv a) (pv b))) := by
    rw [div_law h0, ps_padd, ps_padd, ps_pmul, ps_pmul, ps_trimz]
  have bl : PB 80 (2 ^ 27 + 2 ^ 20 + 1) (pmul [lc (pv b) ^ dxp (pv a) (pv b)] (pv a)) := (PB.pmul (n := 40) (m := 40) (.of (by simp) fun i => by
    rcases i with _ | i
    · exact hzp
    · show zl (cf [] i) ≤ _; rw [cf_nil, zl_zero]; exact Nat.zero_le _) ha.pv (by decide))
  have rl : RP (2 ^ 40) (2 ^ 43) (cn (pmul [lc (pv b) ^ dxp (pv a) (pv b)] (pv a))) := (rp_cn bl).mono (by decide) (by decide)
  have z2 := zsame_ok _ _ rl rl
  rw [decide_eq_true rfl] at z2
  have z3 : AC Try.prog 90 [cp (pmul [lc (pv b) ^ dxp (pv a) (pv b)] (pv a)), cp (padd (pmul (trimz (dq (pv a) (pv b))) (pv b)) (dr (pv a) (pv b)))] none [cb true] := by
    have e2 : cpoly (padd (pmul (trimz (dq (pv a) (pv b))) (pv b)) (dr (pv a) (pv b))) = cpoly (pmul [lc (pv b) ^ dxp (pv a) (pv b)] (pv a)) := cpoly_ext (ps_eq e1.symm)
    unfold cp; rw [e2]; exact z2
  clear z2 rl bl e1
  refine call_by (z1) (by first | rfl | (simp only [tocvs, tocv, hne, hmax, ht1, hat, hge]; rfl)) (by simp) ?_
  simp (disch := omega) only [wk, tis, Int.reduceNe, Int.reduceEq, Int.reduceLT, Int.reduceLE, Int.reduceAdd, Int.reduceSub, Int.reduceNeg, Int.reduceMul, Int.reduceToNat, Nat.reduceSub, Nat.reduceMul, Nat.reduceLeDiff, Nat.reduceAdd, Nat.reduceLT, Nat.reduceEqDiff, reduceCtorEq, ↓reduceIte, cpoly_len, cpoly_nil, hne, hmax, ht1, hat, hge]
  refine call_by (mp) (by first | rfl | (simp only [tocvs, tocv, hne, hmax, ht1, hat, hge]; rfl)) (by simp) ?_
  simp (disch := omega) only [wk, tis, Int.reduceNe, Int.reduceEq, Int.reduceLT, Int.reduceLE, Int.reduceAdd, Int.reduceSub, Int.reduceNeg, Int.reduceMul, Int.reduceToNat, Nat.reduceSub, Nat.reduceMul, Nat.reduceLeDiff, Nat.reduceAdd, Nat.reduceLT, Nat.reduceEqDiff, reduceCtorEq, ↓reduceIte, cpoly_len, cpoly_nil, hne, hmax, ht1, hat, hge]
  refine call_by (m1) (by first | rfl | (simp only [tocvs, tocv, hne, hmax, ht1, hat, hge]; rfl)) (by simp) ?_
  simp (disch := omega) only [wk, tis, Int.reduceNe, Int.reduceEq, Int.reduceLT, Int.reduceLE, Int.reduceAdd, Int.reduceSub, Int.reduceNeg, Int.reduceMul, Int.reduceToNat, Nat.reduceSub, Nat.reduceMul, Nat.reduceLeDiff, Nat.reduceAdd, Nat.reduceLT, Nat.reduceEqDiff, reduceCtorEq, ↓reduceIte, cpoly_len, cpoly_nil, hne, hmax, ht1, hat, hge]
  refine call_by (m2) (by first | rfl | (simp only [tocvs, tocv, hne, hmax, ht1, hat, hge]; rfl)) (by simp) ?_
  simp (disch := omega) only [wk, tis, Int.reduceNe, Int.reduceEq, Int.reduceLT, Int.reduceLE, Int.reduceAdd, Int.reduceSub, Int.reduceNeg, Int.reduceMul, Int.reduceToNat, Nat.reduceSub, Nat.reduceMul, Nat.reduceLeDiff, Nat.reduceAdd, Nat.reduceLT, Nat.reduceEqDiff, reduceCtorEq, ↓reduceIte, cpoly_len, cpoly_nil, hne, hmax, ht1, hat, hge]
  refine call_by (m3) (by first | rfl | (simp only [tocvs, tocv, hne, hmax, ht1, hat, hge]; rfl)) (by simp) ?_
  simp (disch := omega) only [wk, tis, Int.reduceNe, Int.reduceEq, Int.reduceLT, Int.reduceLE, Int.reduceAdd, Int.reduceSub, Int.reduceNeg, Int.reduceMul, Int.reduceToNat, Nat.reduceSub, Nat.reduceMul, Nat.reduceLeDiff, Nat.reduceAdd, Nat.reduceLT, Nat.reduceEqDiff, reduceCtorEq, ↓reduceIte, cpoly_len, cpoly_nil, hne, hmax, ht1, hat, hge]
  refine call_by (z3) (by first | rfl | (simp only [tocvs, tocv, hne, hmax, ht1, hat, hge]; rfl)) (by simp) ?_
  simp (disch := omega) only [wk, tis, Int.reduceNe, Int.reduceEq, Int.reduceLT, Int.reduceLE, Int.reduceAdd, Int.reduceSub, Int.reduceNeg, Int.reduceMul, Int.reduceToNat, Nat.reduceSub, Nat.reduceMul, Nat.reduceLeDiff, Nat.reduceAdd, Nat.reduceLT, Nat.reduceEqDiff, reduceCtorEq, ↓reduceIte, cpoly_len, cpoly_nil, hne, hmax, ht1, hat, hge]
  by_cases hneg : lc (pv b) < 0
  · have hpp := neg_one_pow (dxp (pv a) (pv b))
    have hps : ps (dpos (pv a) (pv b)) = PS.C ((-1) ^ dxp (pv a) (pv b) * 1) * ps (dr (pv a) (pv b)) := by
      have := dres_neg (c := lc (pv b)) (L := lc (pv b)) (B := pv b) (by omega) (Int.dvd_refl _) (dxp (pv a) (pv b)) ([], pv a) ([], pv a) 1 (.inl rfl) (by rw [PS.C_one, PS.one_mul]) (by rw [PS.C_one, PS.one_mul])
      rw [show -lc (pv b) = ((lc (pv b)).natAbs : Int) by omega] at this
      exact this
    rw [Int.mul_one, hpp] at hps
    by_cases hpar : ((dxp (pv a) (pv b) : Nat) : Int).tmod 2 = 1
    · have hpar2 : dxp (pv a) (pv b) % 2 = 1 := by
        have := Int.tmod_eq_emod_of_nonneg (a := ((dxp (pv a) (pv b) : Nat) : Int)) (b := 2) (by omega)
        omega
      rw [if_neg (by omega)] at hps
      have rm : RP (2 ^ 30) (2 ^ 35) [canon (-1)] := ⟨by simp, fun x hx => by
        rw [List.mem_singleton.mp hx]; exact (sz_canon _).mono (Nat.le_trans (zl_le.mpr (by decide : (-1 : Int).natAbs < W ^ 1)) (by decide))⟩
      have m5 := pmul_g (q := [-1]) rm (rr.rp (by decide)) (by simp only [pv, List.map_cons, List.map_nil, iv_canon]) (ps_cn _)
      have e5 : cp (pmul [-1] (dr (pv a) (pv b))) = cp (dpos (pv a) (pv b)) := by
        show CV.iv (.sl (cpoly _)) = CV.iv (.sl (cpoly _))
        rw [cpoly_ext (ps_eq (p := pmul [-1] (dr (pv a) (pv b))) (q := dpos (pv a) (pv b)) (by rw [hps, ps_pmul, ps_const]))]
      rw [e5] at m5
      have z5 := zsame_g (rpos.mono (by decide)) (rpos.mono (by decide))
      rw [decide_eq_true rfl] at z5
      simp (disch := omega) only [wk, tis, Int.reduceNe, Int.reduceEq, Int.reduceLT, Int.reduceLE, Int.reduceAdd, Int.reduceSub, Int.reduceNeg, Int.reduceMul, Int.reduceToNat, Nat.reduceSub, Nat.reduceMul, Nat.reduceLeDiff, Nat.reduceAdd, Nat.reduceLT, Nat.reduceEqDiff, reduceCtorEq, ↓reduceIte, cpoly_len, cpoly_nil, hneg, hpar]
      refine call_by ((poly13_ok [-1] (by decide) (by decide))) (by first | rfl | (simp only [tocvs, tocv, hneg, hpar]; rfl)) (by simp) ?_
      simp (disch := omega) only [wk, tis, Int.reduceNe, Int.reduceEq, Int.reduceLT, Int.reduceLE, Int.reduceAdd, Int.reduceSub, Int.reduceNeg, Int.reduceMul, Int.reduceToNat, Nat.reduceSub, Nat.reduceMul, Nat.reduceLeDiff, Nat.reduceAdd, Nat.reduceLT, Nat.reduceEqDiff, reduceCtorEq, ↓reduceIte, cpoly_len, cpoly_nil, hneg, hpar]
      refine call_by (m5) (by first | rfl | (simp only [tocvs, tocv, hneg, hpar]; rfl)) (by simp) ?_
      simp (disch := omega) only [wk, tis, Int.reduceNe, Int.reduceEq, Int.reduceLT, Int.reduceLE, Int.reduceAdd, Int.reduceSub, Int.reduceNeg, Int.reduceMul, Int.reduceToNat, Nat.reduceSub, Nat.reduceMul, Nat.reduceLeDiff, Nat.reduceAdd, Nat.reduceLT, Nat.reduceEqDiff, reduceCtorEq, ↓reduceIte, cpoly_len, cpoly_nil, hneg, hpar]
      refine call_by (z5) (by first | rfl | (simp only [tocvs, tocv, hneg, hpar]; rfl)) (by simp) ?_
      simp (disch := omega) only [wk, tis, Int.reduceNe, Int.reduceEq, Int.reduceLT, Int.reduceLE, Int.reduceAdd, Int.reduceSub, Int.reduceNeg, Int.reduceMul, Int.reduceToNat, Nat.reduceSub, Nat.reduceMul, Nat.reduceLeDiff, Nat.reduceAdd, Nat.reduceLT, Nat.reduceEqDiff, reduceCtorEq, ↓reduceIte, cpoly_len, cpoly_nil, hneg, hpar]
    · have hpar2 : dxp (pv a) (pv b) % 2 = 0 := by
        have := Int.tmod_eq_emod_of_nonneg (a := ((dxp (pv a) (pv b) : Nat) : Int)) (b := 2) (by omega)
        omega
      rw [if_pos hpar2, PS.C_one, PS.one_mul] at hps
      have z5 := zsame_g (rpos.mono (by decide)) (rr.mono (by decide))
      rw [decide_eq_true (cn_ps hps)] at z5
      simp (disch := omega) only [wk, tis, Int.reduceNe, Int.reduceEq, Int.reduceLT, Int.reduceLE, Int.reduceAdd, Int.reduceSub, Int.reduceNeg, Int.reduceMul, Int.reduceToNat, Nat.reduceSub, Nat.reduceMul, Nat.reduceLeDiff, Nat.reduceAdd, Nat.reduceLT, Nat.reduceEqDiff, reduceCtorEq, ↓reduceIte, cpoly_len, cpoly_nil, hneg, hpar]
      refine call_by (z5) (by first | rfl | (simp only [tocvs, tocv, hneg, hpar]; rfl)) (by simp) ?_
      simp (disch := omega) only [wk, tis, Int.reduceNe, Int.reduceEq, Int.reduceLT, Int.reduceLE, Int.reduceAdd, Int.reduceSub, Int.reduceNeg, Int.reduceMul, Int.reduceToNat, Nat.reduceSub, Nat.reduceMul, Nat.reduceLeDiff, Nat.reduceAdd, Nat.reduceLT, Nat.reduceEqDiff, reduceCtorEq, ↓reduceIte, cpoly_len, cpoly_nil, hneg, hpar]
  · have hps : dpos (pv a) (pv b) = dr (pv a) (pv b) := by
      unfold dpos dr
      rw [show ((lc (pv b)).natAbs : Int) = lc (pv b) by omega]
    have z5 := zsame_g (rpos.mono (by decide)) (rr.mono (by decide))
    rw [decide_eq_true (by rw [hps])] at z5
    simp (disch := omega) only [wk, tis, Int.reduceNe, Int.reduceEq, Int.reduceLT, Int.reduceLE, Int.reduceAdd, Int.reduceSub, Int.reduceNeg, Int.reduceMul, Int.reduceToNat, Nat.reduceSub, Nat.reduceMul, Nat.reduceLeDiff, Nat.reduceAdd, Nat.reduceLT, Nat.reduceEqDiff, reduceCtorEq, ↓reduceIte, cpoly_len, cpoly_nil, hneg]
    refine call_by (z5) (by first | rfl | (simp only [tocvs, tocv, hneg]; rfl)) (by simp) ?_
    simp (disch := omega) only [wk, tis, Int.reduceNe, Int.reduceEq, Int.reduceLT, Int.reduceLE, Int.reduceAdd, Int.reduceSub, Int.reduceNeg, Int.reduceMul, Int.reduceToNat, Nat.reduceSub, Nat.reduceMul, Nat.reduceLeDiff, Nat.reduceAdd, Nat.reduceLT, Nat.reduceEqDiff, reduceCtorEq, ↓reduceIte, cpoly_len, cpoly_nil, hneg]
end Go.Proofs.Ythgecppfgdadiaa
