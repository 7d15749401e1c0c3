/-
  Contracts of the functions that the law reaches.
-/
import Derived.Test.YtenlbifnhdmnnaaGreatL36M
import Derived.Test.YtenlbifnhdmnnaaGreatTyA
import Derived.RangeFuncBox
import Derived.OwnWalkIn
import Derived.TacticsInMore
import Derived.LoopNIn
import Derived.LoopIn
import Derived.Test.YtenlbifnhdmnnaaGreatAbsX
set_option maxHeartbeats 2000000
namespace Go.Proofs.YtenlbifnhdmnnaaGreat
open Go Go.Proofs Go.AL
set_option linter.unusedSimpArgs false
set_option linter.unusedVariables false
theorem wd_one {y : Nat} (h : (wd y).length = 1) : (wd y).getD 0 0 = y ∧ y < W := by
  have h1 := vl_take_next W (wd y) 0
  rw [Nat.zero_add, List.take_of_length_le (by omega), List.take_zero, Nat.pow_zero, Nat.one_mul] at h1
  have h2 := nv_wd y
  simp only [nv, vl, Nat.zero_add] at *
  have h3 := (lim_wd y).get 0
  omega
theorem quo_ok (a b : List Nat) (ha : Lim a) (hb : Lim b) (hla : a.length ≤ 2 ^ 38) (hlb : b.length ≤ 2 ^ 38) (h0 : nv b ≠ 0) : AC Tryz.prog 158 [cl a, cl b] none [cl (wd (nv a / nv b)), cl (wd (nv a % nv b)), ci 0] := by
  refine AC.by_walk (rs := [.tmp 4, .tmp 5, .tmp 6]) ords Tryz.func158 (by rfl) (by rfl) (by rfl) (by rfl) (by rfl) ?_
  simp (disch := omega) only [wk, tis, seval, reduceCtorEq, Nat.reduceEqDiff, natsr_len, natsr_at, Option.getD_some]
  refine call_by ((norm_ok a ha (by omega))) (by rfl) (by simp) ?_
  simp (disch := omega) only [wk, tis, seval, reduceCtorEq, Nat.reduceEqDiff, natsr_len, natsr_at, Option.getD_some]
  refine call_by ((norm_ok b hb (by omega))) (by rfl) (by simp) ?_
  simp (disch := omega) only [wk, tis, seval, reduceCtorEq, Nat.reduceEqDiff, natsr_len, natsr_at, Option.getD_some]
  have hxl := nv_len ha
  have hyl := nv_len hb
  generalize nv a = x at *
  generalize nv b = y at *
  refine if_by (fun h => ?_) (fun h => ?_)
  · have := wd_len_zero.mp (Int.ofNat.inj h)
    exact absurd this h0
  simp (disch := omega) only [wk, tis, seval, reduceCtorEq, Nat.reduceEqDiff, natsr_len, natsr_at, Option.getD_some]
  refine call_by ((ncmp_ok (wd x) (wd y) (lim_wd _) (lim_wd _) (by omega) (by omega))) (by rfl) (by simp) ?_
  simp (disch := omega) only [wk, tis, seval, reduceCtorEq, Nat.reduceEqDiff, natsr_len, natsr_at, Option.getD_some]
  rw [nv_wd, nv_wd]
  refine if_by (fun hc => ?_) (fun hc => ?_)
  · have hlt : x < y := by
      unfold cmpN at hc
      split at hc
      · assumption
      · split at hc <;> omega
    rw [Nat.div_eq_of_lt hlt, Nat.mod_eq_of_lt hlt, wd_zero]
    simp (disch := omega) only [wk, tis, seval, reduceCtorEq, Nat.reduceEqDiff, natsr_len, natsr_at, Option.getD_some]
  have hle : y ≤ x := by
    unfold cmpN at hc
    split at hc
    · omega
    · omega
  simp (disch := omega) only [wk, tis, seval, reduceCtorEq, Nat.reduceEqDiff, natsr_len, natsr_at, Option.getD_some]
  refine if_by (fun h1 => ?_) (fun h1 => ?_)
  · obtain ⟨e1, e2⟩ := wd_one (Int.ofNat.inj h1)
    have hp : 0 < (wd y).length := by omega
    simp (disch := omega) only [wk, tis, seval, reduceCtorEq, Nat.reduceEqDiff, natsr_len, natsr_at, Option.getD_some]
    have m := dword_ok (wd x) y (lim_wd _) (by omega) h0 e2
    rw [nv_wd] at m
    have n := nof_ok (x % y) (Nat.lt_trans (Nat.mod_lt _ (by omega)) e2)
    simp (disch := omega) only [wk, tis, seval, reduceCtorEq, Nat.reduceEqDiff, natsr_len, natsr_at, Option.getD_some, e1]
    refine call_by (m) (by first | rfl | (simp only [tocvs, tocv, e1]; rfl) | (simp only [tocvs, tocv, toboxes, tobox, updH_at, Nat.reduceEqDiff, ↓reduceIte, e1]; rfl)) (by simp) ?_
    simp (disch := omega) only [wk, tis, seval, reduceCtorEq, Nat.reduceEqDiff, natsr_len, natsr_at, Option.getD_some, e1]
    refine call_by (n) (by first | rfl | (simp only [tocvs, tocv, e1]; rfl) | (simp only [tocvs, tocv, toboxes, tobox, updH_at, Nat.reduceEqDiff, ↓reduceIte, e1]; rfl)) (by simp) ?_
    simp (disch := omega) only [wk, tis, seval, reduceCtorEq, Nat.reduceEqDiff, natsr_len, natsr_at, Option.getD_some, e1]
  · have hn : 2 ≤ (wd y).length := by omega
    simp (disch := omega) only [wk, tis, seval, reduceCtorEq, Nat.reduceEqDiff, natsr_len, natsr_at, Option.getD_some]
    refine call_by ((knuth_ok x y _ _ rfl rfl hn hle (by omega))) (by rfl) (by simp) ?_
    simp (disch := omega) only [wk, tis, seval, reduceCtorEq, Nat.reduceEqDiff, natsr_len, natsr_at, Option.getD_some]
theorem mod_ok (a b : List Nat) (ha : Lim a) (hb : Lim b) (hla : a.length ≤ 2 ^ 38) (hlb : b.length ≤ 2 ^ 38) (h0 : nv b ≠ 0) : AC Tryz.prog 172 [cl a, cl b] none [cl (wd (nv a % nv b)), ci 0] := by
  refine AC.by_walk (rs := [.tmp 4, .tmp 5]) ords Tryz.func172 (by rfl) (by rfl) (by rfl) (by rfl) (by rfl) ?_
  simp (disch := omega) only [wk, tis, seval, reduceCtorEq, Nat.reduceEqDiff, natsr_len, natsr_at, Option.getD_some]
  refine call_by ((quo_ok a b ha hb hla hlb h0)) (by rfl) (by simp) ?_
  simp (disch := omega) only [wk, tis, seval, reduceCtorEq, Nat.reduceEqDiff, natsr_len, natsr_at, Option.getD_some]
theorem gmod_ok (a b : List Nat) (ha : Lim a) (hb : Lim b) (hla : a.length ≤ 2 ^ 38) (hlb : b.length ≤ 2 ^ 38) (h0 : nv b ≠ 0) : AC Tryz.prog 159 [cl a, cl b] none [cl (wd (nv a % nv b))] := by
  refine AC.by_walk (rs := [.tmp 4]) ords Tryz.func159 (by rfl) (by rfl) (by rfl) (by rfl) (by rfl) ?_
  simp (disch := omega) only [wk, tis, seval, reduceCtorEq, Nat.reduceEqDiff, natsr_len, natsr_at, Option.getD_some]
  refine call_by ((mod_ok a b ha hb hla hlb h0)) (by rfl) (by simp) ?_
  simp (disch := omega) only [wk, tis, seval, reduceCtorEq, Nat.reduceEqDiff, natsr_len, natsr_at, Option.getD_some]
theorem dexact_ok (a b : List Nat) (ha : Lim a) (hb : Lim b) (hla : a.length ≤ 2 ^ 38) (hlb : b.length ≤ 2 ^ 38) (h0 : nv b ≠ 0) : AC Tryz.prog 138 [cl a, cl b] none [cl (if nv a % nv b = 0 then wd (nv a / nv b) else []), ci (if nv a % nv b = 0 then 0 else 4)] := by
  refine AC.by_walk (rs := [.tmp 4, .tmp 5]) ords Tryz.func138 (by rfl) (by rfl) (by rfl) (by rfl) (by rfl) ?_
  simp (disch := omega) only [wk, tis, seval, reduceCtorEq, Nat.reduceEqDiff, natsr_len, natsr_at, Option.getD_some]
  refine call_by ((quo_ok a b ha hb hla hlb h0)) (by rfl) (by simp) ?_
  simp (disch := omega) only [wk, tis, seval, reduceCtorEq, Nat.reduceEqDiff, natsr_len, natsr_at, Option.getD_some]
  refine if_by (fun h => ?_) (fun h => ?_)
  · have h1 : nv a % nv b ≠ 0 := fun h2 => by rw [h2, wd_zero] at h; simp at h
    rw [if_neg h1, if_neg h1]
    simp (disch := omega) only [wk, tis, seval, reduceCtorEq, Nat.reduceEqDiff, natsr_len, natsr_at, Option.getD_some]
  · have h1 : nv a % nv b = 0 := by
      rcases Nat.eq_zero_or_pos (wd (nv a % nv b)).length with h2 | h2
      · exact wd_len_zero.mp h2
      · exact absurd (by omega) h
    rw [if_pos h1, if_pos h1]
    simp (disch := omega) only [wk, tis, seval, reduceCtorEq, Nat.reduceEqDiff, natsr_len, natsr_at, Option.getD_some]
def natAt (f : Fr) (t : Nat) : Nat := match f t with
  | .iv (.sl rows) => nv (rows.map fun r => match r with | [.int _ n] => n.toNat | _ => 0)
  | _ => 0
theorem natAt_of {f : Fr} {t v : Nat} (h : f t = .iv (.sl (lims (wd v)))) : natAt f t = v := by
  unfold natAt
  rw [h]
  have e : (lims (wd v)).map (fun r => match r with | [.int _ n] => n.toNat | _ => 0) = wd v := by
    simp only [lims, List.map_map]
    conv => rhs; rw [← List.map_id (wd v)]
    rfl
  simp only [e, nv_wd]
theorem gcd_ok (a b : List Nat) (ha : Lim a) (hb : Lim b) (hla : a.length ≤ 2 ^ 38) (hlb : b.length ≤ 2 ^ 38) : AC Tryz.prog 144 [cl a, cl b] none [cl (wd (Nat.gcd (nv a) (nv b)))] := by
  refine AC.by_walk (rs := [.tmp 4]) ords Tryz.func144 (by rfl) (by rfl) (by rfl) (by rfl) (by rfl) ?_
  simp (disch := omega) only [wk, tis, seval, reduceCtorEq, Nat.reduceEqDiff, natsr_len, natsr_at, Option.getD_some]
  refine call_by ((norm_ok a ha (by omega))) (by rfl) (by simp) ?_
  simp (disch := omega) only [wk, tis, seval, reduceCtorEq, Nat.reduceEqDiff, natsr_len, natsr_at, Option.getD_some]
  refine call_by ((norm_ok b hb (by omega))) (by rfl) (by simp) ?_
  simp (disch := omega) only [wk, tis, seval, reduceCtorEq, Nat.reduceEqDiff, natsr_len, natsr_at, Option.getD_some]
  have hxl := nv_len ha
  have hyl := nv_len hb
  generalize nv a = x at *
  generalize nv b = y at *
  refine aloop_by (fun f H => ∃ u v : Nat, Nat.gcd u v = Nat.gcd x y ∧ (wd u).length ≤ 2 ^ 38 ∧ (wd v).length ≤ 2 ^ 38 ∧ f 0 = .iv (.sl (lims (wd u))) ∧ f 1 = .iv (.sl (lims (wd v)))) (fun f H => natAt f 1) ?_ ?_
  · exact ⟨x, y, rfl, by omega, by omega, by simp (disch := omega) only [wk, tis, seval, reduceCtorEq, Nat.reduceEqDiff, natsr_len, natsr_at, Option.getD_some]⟩
  rintro f H ⟨u, v, hg, hu, hv, hF⟩
  rw [natAt_of hF.2]
  simp (disch := omega) only [wk, tis, seval, reduceCtorEq, Nat.reduceEqDiff, natsr_len, natsr_at, Option.getD_some, hF]
  refine if_by (fun h => ?_) (fun h => ?_)
  · have h0 : v ≠ 0 := fun h1 => by rw [h1, wd_zero] at h; simp at h
    have hm := gmod_ok (wd u) (wd v) (lim_wd _) (lim_wd _) hu hv (by rw [nv_wd]; exact h0)
    rw [nv_wd, nv_wd] at hm
    simp (disch := omega) only [wk, tis, seval, reduceCtorEq, Nat.reduceEqDiff, natsr_len, natsr_at, Option.getD_some, hF]
    refine call_by (hm) (by first | rfl | (simp only [tocvs, tocv, hF]; rfl) | (simp only [tocvs, tocv, toboxes, tobox, updH_at, Nat.reduceEqDiff, ↓reduceIte, hF]; rfl)) (by simp) ?_
    simp (disch := omega) only [wk, tis, seval, reduceCtorEq, Nat.reduceEqDiff, natsr_len, natsr_at, Option.getD_some, hF]
    have hlt := Nat.mod_lt u (Nat.pos_of_ne_zero h0)
    have := wd_len_mono (Nat.le_of_lt hlt)
    rw [natAt_of rfl]
    exact ⟨⟨v, u % v, by rw [← hg, Nat.gcd_comm u v, Nat.gcd_rec v u, Nat.gcd_comm], hv, by omega, rfl, rfl⟩, hlt⟩
  · have h0 : v = 0 := wd_len_zero.mp (by omega)
    subst h0
    rw [Nat.gcd_zero_right] at hg
    simp (disch := omega) only [wk, tis, seval, reduceCtorEq, Nat.reduceEqDiff, natsr_len, natsr_at, Option.getD_some, hF, hg]
end Go.Proofs.YtenlbifnhdmnnaaGreat

namespace Go.Proofs.YtenlbifnhdmnnaaGreat
open Go Go.Proofs Go.AL
set_option linter.unusedSimpArgs false
set_option linter.unusedVariables false
theorem iv_sg (c : RI) : iv c = sg c.1 (nv c.2) := rfl
theorem znat_ok (s : Bool) (n : Nat) (h : (wd n).length ≤ 2 ^ 40) : AC Tryz.prog 72 [cb s, cl (wd n)] none [cz (sg s n)] := by
  refine AC.by_walk (rs := [.cell 4 44]) ords Tryz.func72 (by rfl) (by rfl) (by rfl) (by rfl) (by rfl) ?_
  simp (disch := omega) only [wk, tis, seval, reduceCtorEq, Nat.reduceEqDiff, cpoly_len]
  have m := znorm_ok (s, wd n) ⟨h, lim_wd _⟩
  rw [iv_sg, nv_wd] at m
  refine call_by (m) (by rfl) (by simp) ?_
  simp (disch := omega) only [wk, tis, seval, reduceCtorEq, Nat.reduceEqDiff, cpoly_len]
theorem sg_div {s t : Bool} {x y : Nat} (h : x % y = 0) : sg s x / sg t y = sg (s != t) (x / y) ∧ sg t y ∣ sg s x := by
  obtain ⟨k, rfl⟩ := Nat.dvd_of_mod_eq_zero h
  rcases Nat.eq_zero_or_pos y with h0 | h0
  · subst h0; cases s <;> cases t <;> simp [sg]
  · rw [Nat.mul_div_cancel_left _ h0]
    have hy : (y : Int) ≠ 0 := by omega
    cases s <;> cases t <;> simp [sg, Int.mul_ediv_cancel_left _ hy, ← Int.mul_neg]
theorem sg_dvd {s t : Bool} {x y : Nat} : sg t y ∣ sg s x ↔ x % y = 0 := by
  constructor
  · intro h
    have h1 := Int.natAbs_dvd_natAbs.mpr h
    have e : ∀ (b : Bool) (n : Nat), (sg b n).natAbs = n := fun b n => by cases b <;> simp [sg]
    rw [e, e] at h1
    exact Nat.mod_eq_zero_of_dvd h1
  · intro h; exact (sg_div h).2
theorem zexact_ok (a b : RI) (ha : Sz (2 ^ 38) a) (hb : Sz (2 ^ 38) b) (h0 : iv b ≠ 0) (hd : iv b ∣ iv a) : AC Tryz.prog 101 [cr a, cr b] none [cz (iv a / iv b), ci 0] := by
  refine AC.by_walk (rs := [.cell 4 44, .tmp 5]) ords Tryz.func101 (by rfl) (by rfl) (by rfl) (by rfl) (by rfl) ?_
  rw [iv_sg, iv_sg] at hd
  rw [iv_sg] at h0
  have hm := sg_dvd.mp hd
  have hn : nv b.2 ≠ 0 := fun h => h0 (by rw [h]; cases b.1 <;> rfl)
  have m := dexact_ok a.2 b.2 ha.2 hb.2 ha.1 hb.1 hn
  rw [if_pos hm, if_pos hm] at m
  rw [iv_sg, iv_sg, (sg_div hm).1]
  simp (disch := omega) only [wk, tis, seval, reduceCtorEq, Nat.reduceEqDiff, cpoly_len]
  refine call_by (m) (by rfl) (by simp) ?_
  simp (disch := omega) only [wk, tis, seval, reduceCtorEq, Nat.reduceEqDiff, cpoly_len]
  refine call_by ((zof_ok (a.1 != b.1) (nv a.2 / nv b.2))) (by rfl) (by simp) ?_
  simp (disch := omega) only [wk, tis, seval, reduceCtorEq, Nat.reduceEqDiff, cpoly_len]
theorem zexact_bad (a b : RI) (ha : Sz (2 ^ 38) a) (hb : Sz (2 ^ 38) b) (h0 : iv b ≠ 0) (hd : ¬ iv b ∣ iv a) : AC Tryz.prog 101 [cr a, cr b] none [cr (false, []), ci 4] := by
  refine AC.by_walk (rs := [.cell 4 44, .tmp 5]) ords Tryz.func101 (by rfl) (by rfl) (by rfl) (by rfl) (by rfl) ?_
  rw [iv_sg, iv_sg] at hd
  rw [iv_sg] at h0
  have hm : ¬ nv a.2 % nv b.2 = 0 := fun h => hd (sg_dvd.mpr h)
  have hn : nv b.2 ≠ 0 := fun h => h0 (by rw [h]; cases b.1 <;> rfl)
  have m := dexact_ok a.2 b.2 ha.2 hb.2 ha.1 hb.1 hn
  rw [if_neg hm, if_neg hm] at m
  simp (disch := omega) only [wk, tis, seval, reduceCtorEq, Nat.reduceEqDiff, cpoly_len]
  refine call_by (m) (by rfl) (by simp) ?_
  simp (disch := omega) only [wk, tis, seval, reduceCtorEq, Nat.reduceEqDiff, cpoly_len]
def gz (q : List Int) : Nat := q.foldl (fun g c => Nat.gcd g c.natAbs) 0
theorem gz_take {q : List Int} {i : Nat} (h : i < q.length) : gz (q.take (i + 1)) = Nat.gcd (gz (q.take i)) (cf q i).natAbs := by
  have e : q.take (i + 1) = q.take i ++ [cf q i] := by
    rw [List.take_add_one]; congr 1; simp [cf, List.getD, h]
  rw [e, gz, List.foldl_append]; rfl
theorem zgcd_ok (p : List RI) (h : RP (2 ^ 40) (2 ^ 38) p) : AC Tryz.prog 131 [cw p] none [cl (wd (gz (pv p)))] := by
  refine AC.by_walk (rs := [.tmp 2]) ords Tryz.func131 (by rfl) (by rfl) (by rfl) (by rfl) (by rfl) ?_
  have hl := h.1
  simp (disch := omega) only [wk, tis, seval, reduceCtorEq, Nat.reduceEqDiff, cpoly_len]
  refine aloop_w (.iv 3 6 1 false 70 1 [] (by simp (disch := omega) only [wk, tis, seval, reduceCtorEq, Nat.reduceEqDiff, cpoly_len]) (by simp (disch := omega) only [wk, tis, seval, reduceCtorEq, Nat.reduceEqDiff, cpoly_len]) (.refl _ _)) (fun f H => ∃ (i : Nat), i ≤ p.length ∧ (wd (gz ((pv p).take i))).length ≤ 2 ^ 38 ∧ f 9 = .iv (.int .i64 i) ∧ f 7 = .iv (.sl (raws p)) ∧ f 8 = .iv (.int .i64 p.length) ∧ f 3 = .iv (.sl (lims (wd (gz ((pv p).take i)))))) (fun f H => (p.length - intAt f 9).toNat) ?_ ?_
  · refine ⟨0, by omega, by rw [List.take_zero, gz, List.foldl_nil, wd_zero]; exact Nat.zero_le _, ?_⟩
    simp (disch := omega) only [wk, tis, seval, reduceCtorEq, Nat.reduceEqDiff, cpoly_len, List.take_zero, gz, List.foldl_nil, wd_zero, lims_nil]
  rintro f H ⟨i, hi, hs, hF⟩
  rw [intAt_of hF.1]
  simp (disch := omega) only [wk, tis, seval, reduceCtorEq, Nat.reduceEqDiff, cpoly_len, hF]
  refine if_by (fun hlt => ?_) (fun hlt => ?_)
  · have hc := h.get i
    have m := gcd_ok (wd (gz ((pv p).take i))) (p.getD i (false, [])).2 (lim_wd _) hc.2 hs hc.1
    rw [nv_wd, ← iv_abs, ← cf_pv, ← gz_take (by rw [pv_len]; omega)] at m
    simp (disch := omega) only [wk, tis, seval, reduceCtorEq, Nat.reduceEqDiff, cpoly_len, hF]
    refine call_by (m) (by first | rfl | (simp only [tocvs, tocv, hF]; rfl) | (simp only [tocvs, tocv, toboxes, tobox, updH_at, Nat.reduceEqDiff, ↓reduceIte, hF]; rfl)) (by simp) ?_
    simp (disch := omega) only [wk, tis, seval, reduceCtorEq, Nat.reduceEqDiff, cpoly_len, hF]
    refine ⟨⟨i + 1, by omega, ?_, by omega, rfl⟩, by omega⟩
    rw [gz_take (by rw [pv_len]; omega)]
    rcases Nat.eq_zero_or_pos (cf (pv p) i).natAbs with h0 | h0
    · rw [h0, Nat.gcd_zero_right]; exact hs
    · refine Nat.le_trans (wd_len_mono (Nat.gcd_le_right _ h0)) ?_
      rw [cf_pv, iv_abs]
      exact Nat.le_trans (nv_len hc.2) hc.1
  · simp (disch := omega) only [wk, tis, seval, reduceCtorEq, Nat.reduceEqDiff, cpoly_len, hF]
    rw [List.take_of_length_le (by rw [pv_len]; omega)]
theorem gz_len {n k : Nat} {p : List RI} (h : RP n k p) : (wd (gz (pv p))).length ≤ k := by
  have key : ∀ i, i ≤ p.length → (wd (gz ((pv p).take i))).length ≤ k := by
    intro i
    induction i with
    | zero => intro _; rw [List.take_zero, gz, List.foldl_nil, wd_zero]; exact Nat.zero_le _
    | succ i ih =>
      intro hi
      rw [gz_take (by rw [pv_len]; omega)]
      rcases Nat.eq_zero_or_pos (cf (pv p) i).natAbs with h0 | h0
      · rw [h0, Nat.gcd_zero_right]; exact ih (by omega)
      · refine Nat.le_trans (wd_len_mono (Nat.gcd_le_right _ h0)) ?_
        rw [cf_pv, iv_abs]
        exact Nat.le_trans (nv_len (h.get i).2) (h.get i).1
  have := key p.length (Nat.le_refl _)
  rwa [List.take_of_length_le (by rw [pv_len]; exact Nat.le_refl _)] at this
def lc (q : List Int) : Int := cf q (tz q - 1)
def cont (q : List Int) : Int := sg (decide (lc q < 0)) (gz q)
theorem sign_neg (z : Int) : z.sign < 0 ↔ z < 0 := by
  rcases Int.lt_trichotomy z 0 with h | h | h
  · rw [Int.sign_eq_neg_one_of_neg h]; omega
  · subst h; simp
  · rw [Int.sign_eq_one_of_pos h]; omega
theorem pcontent_ok (p : List RI) (h : RP (2 ^ 40) (2 ^ 38) p) : AC Tryz.prog 94 [cw p] none [cz (cont (pv p))] := by
  refine AC.by_walk (rs := [.cell 2 44]) ords Tryz.func94 (by rfl) (by rfl) (by rfl) (by rfl) (by rfl) ?_
  have hl := h.1
  have hg := gz_len h
  have hs := zsign_ok (canon (lc (pv p))) ((sz_canon _).mono (by
    have := (h.pv).cf (tz (pv p) - 1)
    unfold lc
    omega))
  rw [iv_canon] at hs
  simp (disch := omega) only [wk, tis, seval, reduceCtorEq, Nat.reduceEqDiff, cpoly_len]
  refine call_by ((plead_ok p (h.mono (by omega) (by omega)))) (by rfl) (by simp) ?_
  simp (disch := omega) only [wk, tis, seval, reduceCtorEq, Nat.reduceEqDiff, cpoly_len]
  refine call_by (hs) (by rfl) (by simp) ?_
  simp (disch := omega) only [wk, tis, seval, reduceCtorEq, Nat.reduceEqDiff, cpoly_len]
  refine call_by ((zgcd_ok p h)) (by rfl) (by simp) ?_
  simp (disch := omega) only [wk, tis, seval, reduceCtorEq, Nat.reduceEqDiff, cpoly_len]
  have m := znat_ok (decide (lc (pv p) < 0)) (gz (pv p)) (by omega)
  have e : (decide ((lc (pv p)).sign < 0)) = decide (lc (pv p) < 0) := by rw [decide_eq_decide]; exact sign_neg _
  rw [e]
  refine call_by (m) (by rfl) (by simp) ?_
  simp (disch := omega) only [wk, tis, seval, reduceCtorEq, Nat.reduceEqDiff, cpoly_len]
  rfl
def pdivs (c : Int) (q : List Int) : List Int := q.map (· / c)
theorem pover_zero (p : List RI) (c : RI) (hp : RP (2 ^ 40) (2 ^ 38) p) (hc : Sz (2 ^ 38) c) (h0 : iv c = 0) : AC Tryz.prog 62 [cw p, cr c] none [cw [], ci 1] := by
  refine AC.by_walk (rs := [.tmp 4, .tmp 5]) ords Tryz.func62 (by rfl) (by rfl) (by rfl) (by rfl) (by rfl) ?_
  simp (disch := omega) only [wk, tis, seval, reduceCtorEq, Nat.reduceEqDiff, cpoly_len]
  have hs := zsign_ok c (hc.mono (by omega))
  rw [h0] at hs
  rw [Int.sign_zero] at hs
  refine call_by (hs) (by rfl) (by simp) ?_
  simp (disch := omega) only [wk, tis, seval, reduceCtorEq, Nat.reduceEqDiff, cpoly_len]
theorem cf_pdivs (c : Int) (q : List Int) (k : Nat) : cf (pdivs c q) k = cf q k / c := by
  unfold pdivs cf
  rw [List.getD_eq_getElem?_getD, List.getD_eq_getElem?_getD, List.getElem?_map]
  cases q[k]? with
  | none => simp
  | some x => rfl
theorem zl_div {a b : Int} (h : b ∣ a) : zl (a / b) ≤ zl a := by
  obtain ⟨k, rfl⟩ := h
  by_cases h0 : b = 0
  · subst h0; simp
  · rw [Int.mul_ediv_cancel_left _ h0]
    unfold zl
    rw [Int.natAbs_mul]
    exact wd_len_mono (Nat.le_mul_of_pos_left _ (by omega))
theorem pover_ok (p : List RI) (c : RI) (hp : RP (2 ^ 30) (2 ^ 35) p) (hc : Sz (2 ^ 35) c) (h0 : iv c ≠ 0) (hd : ∀ k, iv c ∣ cf (pv p) k) : AC Tryz.prog 62 [cw p, cr c] none [cp (pdivs (iv c) (pv p)), ci 0] := by
  refine AC.by_walk (rs := [.tmp 4, .tmp 5]) ords Tryz.func62 (by rfl) (by rfl) (by rfl) (by rfl) (by rfl) ?_
  have hl := hp.1
  have hs0 : (iv c).sign ≠ 0 := fun h => h0 (Int.sign_eq_zero_iff_zero.mp h)
  simp (disch := omega) only [wk, tis, seval, reduceCtorEq, Nat.reduceEqDiff, cpoly_len]
  refine call_by ((zsign_ok c (hc.mono (by omega)))) (by rfl) (by simp) ?_
  simp (disch := omega) only [wk, tis, seval, reduceCtorEq, Nat.reduceEqDiff, cpoly_len]
  simp (disch := omega) only [wk, tis, seval, reduceCtorEq, Nat.reduceEqDiff, cpoly_len, hs0]
  refine aloop_by (fun f H => ∃ (i st st3 : Nat) (out : List Int), i ≤ p.length ∧ out.length = p.length ∧ (∀ k, zl (cf out k) ≤ 2 ^ 36) ∧ (∀ k, k < i → cf out k = cf (pv p) k / iv c) ∧ f 18 = .iv (.int .i64 i) ∧ f 0 = .iv (.sl (raws p)) ∧ f 3 = .hp 3 st3 0 0 ∧ f 6 = .hs 15 st ∧ f 17 = .iv (.int .i64 p.length) ∧ H 15 = .blk false st 44 2 (raws (out.map canon)) ∧ H 3 = .blk false st3 44 2 [prow c]) (fun f H => (p.length - intAt f 18).toNat) ?_ ?_
  · refine ⟨0, 1, 1, List.replicate p.length 0, by omega, by simp, fun k => by rw [cf_rep, zl_zero]; omega, fun k hk => by omega, ?_⟩
    simp (disch := omega) only [wk, tis, seval, reduceCtorEq, Nat.reduceEqDiff, cpoly_len, Int.toNat_natCast, rep_canon]
  rintro f H ⟨i, st, st3, out, hi, hol, hz, hv, hF⟩
  rw [intAt_of hF.1]
  simp (disch := omega) only [wk, tis, seval, reduceCtorEq, Nat.reduceEqDiff, cpoly_len, hF]
  refine if_by (fun hlt => ?_) (fun hlt => ?_)
  · have hq : (out.map canon).length = p.length := by rw [List.length_map, hol]
    have hdi := hd i
    rw [cf_pv] at hdi
    have m := zexact_ok (p.getD i (false, [])) c ((hp.get i).mono (by omega)) (hc.mono (by omega)) h0 hdi
    rw [← cf_pv] at m
    simp (disch := omega) only [wk, tis, seval, reduceCtorEq, Nat.reduceEqDiff, cpoly_len, hF, hq]
    refine ⟨tmps_by (by kernel_rfl), ?_⟩
    refine call_by (m) (by first | rfl | (simp only [tocvs, tocv, hF, hq]; rfl) | (simp only [tocvs, tocv, toboxes, tobox, updH_at, Nat.reduceEqDiff, ↓reduceIte, hF, hq]; rfl)) (by simp) ?_
    simp (disch := omega) only [wk, tis, seval, reduceCtorEq, Nat.reduceEqDiff, cpoly_len, hF, hq]
    first | exact log_by (by kernel_rfl) | refine ⟨log_by (by kernel_rfl), ?_⟩
    refine ⟨⟨i + 1, st, st3, out.set i (cf (pv p) i / iv c), by omega, by simp [hol], fun k => ?_, fun k hk => ?_, by omega, rfl, rfl, rfl, rfl⟩, by omega⟩
    · rw [cf_set (by omega)]
      split
      · have := zl_div (hd i)
        have := hp.pv.cf i
        omega
      · exact hz k
    · rw [cf_set (by omega)]
      split
      · rename_i e; rw [e]
      · exact hv k (by omega)
  · simp (disch := omega) only [wk, tis, seval, reduceCtorEq, Nat.reduceEqDiff, cpoly_len, hF]
    have e : cp (pdivs (iv c) (pv p)) = cp (pv (out.map canon)) := by
      refine cp_ext fun k => ?_
      rw [pv_canon, cf_pdivs]
      by_cases hk : k < p.length
      · exact (hv k (by omega)).symm
      · rw [cf_ge (q := out) (by omega), cf_ge (by rw [pv_len]; omega)]; simp
    rw [e]
    refine call_by ((pnorm_ok (out.map canon) (RP.canon (.of (by omega) fun k => Nat.le_trans (hz k) (by omega))))) (by first | rfl | (simp only [tocvs, tocv, hF]; rfl) | (simp only [tocvs, tocv, toboxes, tobox, updH_at, Nat.reduceEqDiff, ↓reduceIte, hF]; rfl)) (by simp) ?_
    simp (disch := omega) only [wk, tis, seval, reduceCtorEq, Nat.reduceEqDiff, cpoly_len, hF]
theorem gz_dvd (q : List Int) (k : Nat) : (gz q : Int) ∣ cf q k := by
  have key : ∀ i, i ≤ q.length → ∀ k, k < i → (gz (q.take i) : Int) ∣ cf q k := by
    intro i
    induction i with
    | zero => intro _ k hk; omega
    | succ i ih =>
      intro hi k hk
      rw [gz_take (by omega)]
      rcases Nat.lt_or_ge k i with h | h
      · exact Int.dvd_trans (Int.natCast_dvd_natCast.mpr (Nat.gcd_dvd_left _ _)) (ih (by omega) k h)
      · obtain rfl : k = i := by omega
        exact Int.ofNat_dvd_left.mpr (Nat.gcd_dvd_right _ _)
  rcases Nat.lt_or_ge k q.length with h | h
  · have := key q.length (Nat.le_refl _) k h
    rwa [List.take_of_length_le (Nat.le_refl _)] at this
  · rw [cf_ge h]; exact Int.dvd_zero _
theorem cont_dvd (q : List Int) (k : Nat) : cont q ∣ cf q k := by
  have := gz_dvd q k
  unfold cont sg
  split
  · exact Int.neg_dvd.mpr this
  · exact this
theorem cont_natAbs (q : List Int) : (cont q).natAbs = gz q := by
  unfold cont sg
  split <;> simp
def prim (q : List Int) : List Int := pdivs (cont q) q
theorem pprim_ok (p : List RI) (h : RP (2 ^ 30) (2 ^ 35) p) : AC Tryz.prog 55 [cw p] none [cp (prim (pv p))] := by
  refine AC.by_walk (rs := [.tmp 2]) ords Tryz.func55 (by rfl) (by rfl) (by rfl) (by rfl) (by rfl) ?_
  have hg := gz_len h
  have hsz : Sz (2 ^ 35) (canon (cont (pv p))) := (sz_canon _).mono (by unfold zl; rw [cont_natAbs]; exact hg)
  simp (disch := omega) only [wk, tis, seval, reduceCtorEq, Nat.reduceEqDiff, cpoly_len]
  refine call_by ((pcontent_ok p (h.mono (by omega) (by omega)))) (by rfl) (by simp) ?_
  simp (disch := omega) only [wk, tis, seval, reduceCtorEq, Nat.reduceEqDiff, cpoly_len]
  by_cases h0 : cont (pv p) = 0
  · have m := pover_zero p (canon (cont (pv p))) (h.mono (by omega) (by omega)) (hsz.mono (by omega)) (by rw [iv_canon]; exact h0)
    have e : cp (prim (pv p)) = cw [] := by
      have : cp (prim (pv p)) = cp [] := cp_ext fun k => by
        unfold prim
        rw [cf_pdivs, h0, Int.ediv_zero]; rfl
      rw [this]; rfl
    rw [e]
    refine call_by (m) (by rfl) (by simp) ?_
    simp (disch := omega) only [wk, tis, seval, reduceCtorEq, Nat.reduceEqDiff, cpoly_len]
  · have m := pover_ok p (canon (cont (pv p))) h hsz (by rw [iv_canon]; exact h0) (fun k => by rw [iv_canon]; exact cont_dvd _ k)
    rw [iv_canon] at m
    refine call_by (m) (by rfl) (by simp) ?_
    simp (disch := omega) only [wk, tis, seval, reduceCtorEq, Nat.reduceEqDiff, cpoly_len]
    rfl
end Go.Proofs.YtenlbifnhdmnnaaGreat

namespace Go.Proofs.YtenlbifnhdmnnaaGreat
open Go Go.Proofs Go.AL
set_option linter.unusedSimpArgs false
set_option linter.unusedVariables false
theorem gz_greatest (q : List Int) (d : Nat) (h : ∀ k, (d : Int) ∣ cf q k) : d ∣ gz q := by
  have key : ∀ i, i ≤ q.length → d ∣ gz (q.take i) := by
    intro i
    induction i with
    | zero => intro _; exact Nat.dvd_zero _
    | succ i ih =>
      intro hi
      rw [gz_take (by omega)]
      exact Nat.dvd_gcd (ih (by omega)) (Int.ofNat_dvd_left.mp (h i))
  have := key q.length (Nat.le_refl _)
  rwa [List.take_of_length_le (Nat.le_refl _)] at this
theorem gz_eq {p q : List Int} (h : ∀ k, cf p k = cf q k) : gz p = gz q :=
  Nat.dvd_antisymm (gz_greatest q _ fun k => by rw [← h]; exact gz_dvd p k) (gz_greatest p _ fun k => by rw [h]; exact gz_dvd q k)
theorem gz_scale (c : Int) (q : List Int) : gz (pscale c q) = c.natAbs * gz q := by
  have key : ∀ (q : List Int) (g : Nat), (pscale c q).foldl (fun g x => Nat.gcd g x.natAbs) (c.natAbs * g) = c.natAbs * q.foldl (fun g x => Nat.gcd g x.natAbs) g := by
    intro q
    induction q with
    | nil => intro g; rfl
    | cons x xs ih =>
      intro g
      have e : pscale c (x :: xs) = (x * c) :: pscale c xs := rfl
      rw [e, List.foldl_cons, List.foldl_cons, Int.natAbs_mul, Nat.mul_comm x.natAbs, Nat.gcd_mul_left, ih]
  exact key q 0
theorem prime_fac : ∀ n : Nat, 1 < n → ∃ r, 1 < r ∧ r ∣ n ∧ ∀ x : Nat, r ∣ x ∨ Nat.gcd r x = 1 := by
  intro n
  induction n using Nat.strongRecOn with
  | _ n ih =>
    intro hn
    by_cases h : ∀ x : Nat, n ∣ x ∨ Nat.gcd n x = 1
    · exact ⟨n, hn, Nat.dvd_refl _, h⟩
    · obtain ⟨x, hx⟩ := Classical.not_forall.mp h
      have h1 : ¬ n ∣ x := fun h => hx (.inl h)
      have h2 : ¬ Nat.gcd n x = 1 := fun h => hx (.inr h)
      have h3 : Nat.gcd n x ≤ n := Nat.gcd_le_left _ (by omega)
      have h4 : Nat.gcd n x ≠ n := fun h => h1 (by rw [← h]; exact Nat.gcd_dvd_right _ _)
      have h5 : Nat.gcd n x ≠ 0 := fun h => by have := Nat.eq_zero_of_gcd_eq_zero_left h; omega
      obtain ⟨r, hr, hrd, hp⟩ := ih (Nat.gcd n x) (by omega) (by omega)
      exact ⟨r, hr, Nat.dvd_trans hrd (Nat.gcd_dvd_left _ _), hp⟩
theorem prime_mul {r : Nat} (hp : ∀ x : Nat, r ∣ x ∨ Nat.gcd r x = 1) {x y : Int} (h : (r : Int) ∣ x * y) : (r : Int) ∣ x ∨ (r : Int) ∣ y := by
  have h1 := Int.ofNat_dvd_left.mp h
  rw [Int.natAbs_mul] at h1
  rcases hp x.natAbs with h2 | h2
  · exact .inl (Int.ofNat_dvd_left.mpr h2)
  · exact .inr (Int.ofNat_dvd_left.mpr (Nat.Coprime.dvd_of_dvd_mul_left h2 h1))
theorem sumN_dvd {r : Int} : ∀ {n : Nat} {f : Nat → Int}, (∀ k, k < n → r ∣ f k) → r ∣ sumN n f
  | 0, f, _ => Int.dvd_zero _
  | n + 1, f, h => Int.dvd_add (sumN_dvd fun k hk => h k (by omega)) (h n (by omega))
theorem sumN_dvd_one {r : Int} {n i : Nat} {f : Nat → Int} (hi : i < n) (h : ∀ k, k < n → k ≠ i → r ∣ f k) (hs : r ∣ sumN n f) : r ∣ f i := by
  have e : sumN n f = sumN n (fun k => if k = i then 0 else f k) + f i := by
    have h1 : sumN n (fun k => if k = i then f k else 0) = f i := by
      rw [sumN_one _ hi fun k _ hk => if_neg hk, if_pos rfl]
    rw [← h1, ← sumN_add]
    refine sumN_congr fun k _ => ?_
    by_cases hk : k = i
    · rw [if_pos hk, if_pos hk, Int.zero_add]
    · rw [if_neg hk, if_neg hk, Int.add_zero]
  have h2 : r ∣ sumN n (fun k => if k = i then 0 else f k) := sumN_dvd fun k hk => by
    by_cases hki : k = i
    · simp only [if_pos hki]; exact Int.dvd_zero _
    · simp only [if_neg hki]; exact h k hk hki
  rw [e] at hs
  exact (Int.dvd_add_right h2).mp hs
theorem gauss_prime {r : Nat} (hp : ∀ x : Nat, r ∣ x ∨ Nat.gcd r x = 1) {p q : List Int} (h : ∀ k, (r : Int) ∣ cf (pmul p q) k) : ∀ n i j, i + j = n → (r : Int) ∣ cf p i ∨ (r : Int) ∣ cf q j := by
  intro n
  induction n using Nat.strongRecOn with
  | _ n ih =>
    intro i j hij
    by_cases h1 : (r : Int) ∣ cf p i
    · exact .inl h1
    by_cases h2 : (r : Int) ∣ cf q j
    · exact .inr h2
    exfalso
    have h3 := h n
    rw [cf_pmul, PS.cv_conv, PS.conv] at h3
    have h4 := sumN_dvd_one (i := i) (by omega) (fun k hk hki => ?_) h3
    · rw [show n - i = j by omega] at h4
      rcases prime_mul hp h4 with h5 | h5
      · exact h1 h5
      · exact h2 h5
    · rcases Nat.lt_or_ge k i with h5 | h5
      · rcases ih (k + j) (by omega) k j rfl with h6 | h6
        · exact Int.dvd_trans h6 (Int.dvd_mul_right _ _)
        · exact absurd h6 h2
      · rcases ih (i + (n - k)) (by omega) i (n - k) rfl with h6 | h6
        · exact absurd h6 h1
        · exact Int.dvd_trans h6 (Int.dvd_mul_left _ _)
theorem gauss_gz {p q : List Int} (hp : gz p = 1) (hq : gz q = 1) : gz (pmul p q) = 1 := by
  rcases Nat.lt_trichotomy (gz (pmul p q)) 1 with h | h | h
  · exfalso
    obtain ⟨r, hr, hrd, hpr⟩ := prime_fac 2 (by decide)
    have h0 : gz (pmul p q) = 0 := by omega
    have hd : ∀ k, (r : Int) ∣ cf (pmul p q) k := fun k => by
      have := gz_dvd (pmul p q) k
      rw [h0] at this
      rw [Int.zero_dvd.mp this]
      exact Int.dvd_zero _
    have key := gauss_prime hpr hd
    by_cases ha : ∀ i, (r : Int) ∣ cf p i
    · have := gz_greatest p r ha
      rw [hp] at this
      have := Nat.le_of_dvd (by decide) this
      omega
    · obtain ⟨i, hi⟩ := Classical.not_forall.mp ha
      have := gz_greatest q r fun j => (key _ i j rfl).resolve_left hi
      rw [hq] at this
      have := Nat.le_of_dvd (by decide) this
      omega
  · exact h
  · exfalso
    obtain ⟨r, hr, hrd, hpr⟩ := prime_fac _ h
    have hd : ∀ k, (r : Int) ∣ cf (pmul p q) k := fun k => Int.dvd_trans (Int.natCast_dvd_natCast.mpr hrd) (gz_dvd _ k)
    have key := gauss_prime hpr hd
    by_cases ha : ∀ i, (r : Int) ∣ cf p i
    · have := gz_greatest p r ha
      rw [hp] at this
      have := Nat.le_of_dvd (by decide) this
      omega
    · obtain ⟨i, hi⟩ := Classical.not_forall.mp ha
      have := gz_greatest q r fun j => (key _ i j rfl).resolve_left hi
      rw [hq] at this
      have := Nat.le_of_dvd (by decide) this
      omega
theorem lc_spec {q : List Int} {n : Nat} (h : cf q n ≠ 0) (h0 : ∀ k, n < k → cf q k = 0) : lc q = cf q n := by
  unfold lc
  rw [tz_spec h h0, Nat.add_sub_cancel]
theorem lc_ne {q : List Int} (h : gz q ≠ 0) : tz q ≠ 0 ∧ lc q ≠ 0 := by
  have h1 : tz q ≠ 0 := fun h1 => by
    have h2 : (0 : Nat) ∣ gz q := gz_greatest q 0 fun k => by rw [tz_zero_iff.mp h1 k]; exact Int.dvd_zero _
    exact h (Nat.eq_zero_of_zero_dvd h2)
  exact ⟨h1, cf_tz_pred h1⟩
def Prm (q : List Int) : Prop := gz q = 1 ∧ 0 < lc q
theorem lc_scale {T R : List Int} {c : Int} (h : ∀ k, cf T k = c * cf R k) (hR : lc R ≠ 0) : lc T = c * lc R := by
  have hR' : tz R ≠ 0 := fun h0 => hR (by unfold lc; exact tz_zero_iff.mp h0 _)
  by_cases hc : c = 0
  · unfold lc; rw [h, hc, Int.zero_mul, Int.zero_mul]
  · have e : lc T = cf T (tz R - 1) := lc_spec (by rw [h]; exact Int.mul_ne_zero hc hR) fun k hk => by rw [h, cf_ge_tz R (by omega), Int.mul_zero]
    rw [e, h]; rfl
theorem gz_mul {T R : List Int} {c : Int} (h : ∀ k, cf T k = c * cf R k) : gz T = c.natAbs * gz R := by
  rw [← gz_scale]
  exact gz_eq fun k => by rw [h, cf_pscale, Int.mul_comm]
theorem sg_abs {c l : Int} (hl : 0 < l) : sg (decide (c * l < 0)) c.natAbs = c := by
  unfold sg
  by_cases hc : c < 0
  · rw [decide_eq_true (Int.mul_neg_of_neg_of_pos hc hl)]
    simp only [↓reduceIte]; omega
  · have h1 : ¬ c * l < 0 := by have := Int.mul_nonneg (show 0 ≤ c by omega) (show 0 ≤ l by omega); omega
    rw [decide_eq_false h1]
    simp only [Bool.false_eq_true, ↓reduceIte]; omega
theorem cont_of {T R : List Int} {c : Int} (hR : Prm R) (h : ∀ k, cf T k = c * cf R k) : cont T = c := by
  unfold cont
  rw [gz_mul h, hR.1, Nat.mul_one, lc_scale h (by have := hR.2; omega)]
  exact sg_abs hR.2
theorem prim_of {T R : List Int} {c : Int} (hR : Prm R) (hc : c ≠ 0) (h : ∀ k, cf T k = c * cf R k) (k : Nat) : cf (prim T) k = cf R k := by
  unfold prim
  rw [cf_pdivs, cont_of hR h, h, Int.mul_ediv_cancel_left _ hc]
theorem cf_prim (q : List Int) (k : Nat) : cf q k = cont q * cf (prim q) k := by
  unfold prim
  rw [cf_pdivs, Int.mul_ediv_cancel' (cont_dvd q k)]
theorem prm_prim {q : List Int} (h : cont q ≠ 0) : Prm (prim q) := by
  have h0 : gz q ≠ 0 := fun h0 => h (Int.natAbs_eq_zero.mp (by rw [cont_natAbs]; exact h0))
  have h1 := gz_mul (cf_prim q)
  rw [cont_natAbs] at h1
  have h2 : gz (prim q) = 1 := by
    have : gz q * gz (prim q) = gz q * 1 := by omega
    exact Nat.eq_of_mul_eq_mul_left (by omega) this
  refine ⟨h2, ?_⟩
  have h3 := (lc_ne (q := prim q) (by omega)).2
  have h4 := lc_scale (cf_prim q) h3
  have h5 := (lc_ne h0).2
  rcases Int.lt_trichotomy (lc (prim q)) 0 with h6 | h6 | h6
  · exfalso
    rcases Int.lt_or_gt_of_ne h5 with h7 | h7
    · have h8 : cont q < 0 := by
        unfold cont sg
        rw [decide_eq_true h7]
        simp only [↓reduceIte]; omega
      have := Int.mul_pos_of_neg_of_neg h8 h6
      omega
    · have h8 : 0 < cont q := by
        unfold cont sg
        rw [decide_eq_false (by omega)]
        simp only [Bool.false_eq_true, ↓reduceIte]; omega
      have := Int.mul_neg_of_pos_of_neg h8 h6
      omega
  · exact absurd h6 h3
  · exact h6
theorem lc_pmul {P Q : List Int} (hP : lc P ≠ 0) (hQ : lc Q ≠ 0) : lc (pmul P Q) = lc P * lc Q := by
  have hP' : tz P ≠ 0 := fun h0 => hP (by unfold lc; exact tz_zero_iff.mp h0 _)
  have hQ' : tz Q ≠ 0 := fun h0 => hQ (by unfold lc; exact tz_zero_iff.mp h0 _)
  have e1 : cf (pmul P Q) (tz P - 1 + (tz Q - 1)) = lc P * lc Q := by
    rw [cf_pmul, PS.cv_conv, PS.conv, sumN_one (j := tz P - 1) _ (by omega) fun i hi hne => ?_]
    · rw [show tz P - 1 + (tz Q - 1) - (tz P - 1) = tz Q - 1 by omega]; rfl
    · rcases Nat.lt_or_ge i (tz P - 1) with h | h
      · rw [cf_ge_tz Q (by omega), Int.mul_zero]
      · rw [cf_ge_tz P (by omega), Int.zero_mul]
  rw [lc_spec (n := tz P - 1 + (tz Q - 1)) (by rw [e1]; exact Int.mul_ne_zero hP hQ) fun k hk => ?_, e1]
  rw [cf_pmul, PS.cv_conv, PS.conv]
  refine sumN_zero fun i hi => ?_
  rcases Nat.lt_or_ge i (tz P) with h | h
  · rw [cf_ge_tz Q (by omega), Int.mul_zero]
  · rw [cf_ge_tz P (by omega), Int.zero_mul]
theorem prm_mul {P Q : List Int} (hP : Prm P) (hQ : Prm Q) : Prm (pmul P Q) := by
  refine ⟨gauss_gz hP.1 hQ.1, ?_⟩
  have h1 := hP.2
  have h2 := hQ.2
  rw [lc_pmul (by omega) (by omega)]
  exact Int.mul_pos h1 h2
theorem prim_zero {q : List Int} (h : cont q = 0) (k : Nat) : cf (prim q) k = 0 ∧ cf q k = 0 := by
  constructor
  · unfold prim
    rw [cf_pdivs, h, Int.ediv_zero]
  · rw [cf_prim, h, Int.zero_mul]
theorem ps_prim (q : List Int) : ps q = PS.C (cont q) * ps (prim q) := PS.ext fun k => by
  rw [PS.C_mul_c, ps_c, ps_c]; exact cf_prim q k
theorem mul_prims (p q : List Int) (k : Nat) : cf (pmul p q) k = cont p * cont q * cf (pmul (prim p) (prim q)) k := by
  have h : ps (pmul p q) = PS.C (cont p * cont q) * ps (pmul (prim p) (prim q)) := by
    rw [ps_pmul, ps_pmul, ps_prim p, ps_prim q, PS.C_mul]
    rw [← ps_prim p, ← ps_prim q]
    conv => lhs; rw [ps_prim p, ps_prim q]
    rw [PS.mul_assoc, PS.mul_assoc, ← PS.mul_assoc (ps (prim p)), PS.mul_comm (ps (prim p)) (PS.C _), PS.mul_assoc]
  have := congrArg (fun f => f.c k) h
  simp only [ps_c, PS.C_mul_c] at this
  exact this
theorem cont_mul (p q : List Int) : cont (pmul p q) = cont p * cont q := by
  by_cases hp : cont p = 0
  · have h0 : ∀ k, cf (pmul p q) k = 0 := fun k => by rw [mul_prims, hp, Int.zero_mul, Int.zero_mul]
    have h1 : gz (pmul p q) = 0 := Nat.eq_zero_of_zero_dvd (gz_greatest _ 0 fun k => by rw [h0]; exact Int.dvd_zero _)
    rw [hp, Int.zero_mul]
    exact Int.natAbs_eq_zero.mp (by rw [cont_natAbs]; exact h1)
  by_cases hq : cont q = 0
  · have h0 : ∀ k, cf (pmul p q) k = 0 := fun k => by rw [mul_prims, hq, Int.mul_zero, Int.zero_mul]
    have h1 : gz (pmul p q) = 0 := Nat.eq_zero_of_zero_dvd (gz_greatest _ 0 fun k => by rw [h0]; exact Int.dvd_zero _)
    rw [hq, Int.mul_zero]
    exact Int.natAbs_eq_zero.mp (by rw [cont_natAbs]; exact h1)
  exact cont_of (prm_mul (prm_prim hp) (prm_prim hq)) (mul_prims p q)
theorem ps_zero {q : List Int} (h : ∀ k, cf q k = 0) : ps q = 0 := PS.ext h
theorem prm_self {q : List Int} (h : Prm q) : cont q = 1 ∧ ps (prim q) = ps q :=
  ⟨cont_of h fun k => (Int.one_mul _).symm, ps_ext fun k => prim_of h (by decide) (fun k => (Int.one_mul _).symm) k⟩
end Go.Proofs.YtenlbifnhdmnnaaGreat

namespace Go.Proofs.YtenlbifnhdmnnaaGreat
open Go Go.Proofs Go.AL
set_option linter.unusedSimpArgs false
set_option linter.unusedVariables false
theorem pnone_ok (p : List RI) (h : RP (2 ^ 40) (2 ^ 40) p) : AC Tryz.prog 95 [cw p] none [cb (decide (tz (pv p) = 0))] := by
  refine AC.by_walk (rs := [.tmp 2]) ords Tryz.func95 (by rfl) (by rfl) (by rfl) (by rfl) (by rfl) ?_
  simp (disch := omega) only [wk, tis, seval, reduceCtorEq, Nat.reduceEqDiff, cpoly_len]
  refine call_by ((pdeg_ok p h)) (by rfl) (by simp) ?_
  simp (disch := omega) only [wk, tis, seval, reduceCtorEq, Nat.reduceEqDiff, cpoly_len]
  rw [decide_eq_decide]
  omega
theorem prsmono_ok (c : RI) (n : Nat) (hn : n ≤ 2 ^ 29) (hc : Sz (2 ^ 35) c) : AC Tryz.prog 132 [cr c, ci n] none [cp (List.replicate n 0 ++ [iv c])] := by
  refine AC.by_walk (rs := [.tmp 4]) ords Tryz.func132 (by rfl) (by rfl) (by rfl) (by rfl) (by rfl) ?_
  simp (disch := omega) only [wk, tis, seval, reduceCtorEq, Nat.reduceEqDiff, cpoly_len]
  refine ⟨tmps_by (by kernel_rfl), ?_⟩
  have m := pnorm_ok (List.replicate n (false, []) ++ [c]) ⟨by simp; omega, fun x hx => by
    rcases List.mem_append.mp hx with h | h
    · rw [List.eq_of_mem_replicate h]; exact ⟨by simp, Lim.nil⟩
    · rw [List.mem_singleton.mp h]; exact hc.mono (by omega)⟩
  have e : pv (List.replicate n (false, []) ++ [c]) = List.replicate n 0 ++ [iv c] := by
    simp only [pv, List.map_append, List.map_replicate, List.map_cons, List.map_nil, iv_zero]
  rw [e] at m
  refine call_by (m) (by rfl) (by simp) ?_
  simp (disch := omega) only [wk, tis, seval, reduceCtorEq, Nat.reduceEqDiff, cpoly_len]
  first | exact log_by (by kernel_rfl) | refine ⟨log_by (by kernel_rfl), ?_⟩
def rowsAt (f : Fr) (t : Nat) : Nat := match f t with
  | .iv (.sl rows) => rows.length
  | _ => 0
end Go.Proofs.YtenlbifnhdmnnaaGreat

namespace Go.Proofs.YtenlbifnhdmnnaaGreat
open Go Go.Proofs Go.AL
set_option linter.unusedSimpArgs false
set_option linter.unusedVariables false
def mono (n : Nat) (c : Int) : List Int := List.replicate n 0 ++ [c]
theorem cf_mono (n : Nat) (c : Int) (k : Nat) : cf (mono n c) k = if k = n then c else 0 := by
  unfold mono cf
  rw [List.getD_eq_getElem?_getD]
  rcases Nat.lt_trichotomy k n with h | h | h
  · rw [List.getElem?_append_left (by simpa using h), List.getElem?_replicate, if_pos h, if_neg (by omega)]; rfl
  · subst h
    rw [List.getElem?_append_right (by simp), if_pos rfl]
    simp
  · rw [List.getElem?_eq_none (by simp; omega), if_neg (by omega)]; rfl
theorem cf_mono_mul (n : Nat) (c : Int) (B : List Int) (k : Nat) : cf (pmul (mono n c) B) k = if n ≤ k then c * cf B (k - n) else 0 := by
  rw [cf_pmul, PS.cv_conv, PS.conv]
  by_cases h : n ≤ k
  · rw [if_pos h, sumN_one (j := n) _ (by omega) fun i hi hne => by rw [cf_mono, if_neg hne, Int.zero_mul], cf_mono, if_pos rfl]
  · rw [if_neg h]
    exact sumN_zero fun i hi => by rw [cf_mono, if_neg (by omega), Int.zero_mul]
def dstep (c L : Int) (B : List Int) (s : List Int × List Int) : List Int × List Int :=
  (padd (pscale c s.1) (mono (tz s.2 - tz B) (c * lc s.2 / L)), padd (pscale c s.2) (pscale (-1) (pmul (mono (tz s.2 - tz B) (c * lc s.2 / L)) B)))
def dres (c L : Int) (B : List Int) : Nat → List Int × List Int → List Int × List Int
  | 0, s => s
  | n + 1, s => if tz B ≤ tz s.2 then dres c L B n (dstep c L B s) else dres c L B n (pscale c s.1, pscale c s.2)
theorem tz_le_of {q : List Int} {n : Nat} (h : ∀ k, n ≤ k → cf q k = 0) : tz q ≤ n := by
  rcases Nat.lt_or_ge n (tz q) with h1 | h1
  · exact absurd (h (tz q - 1) (by omega)) (cf_tz_pred (by omega))
  · exact h1
theorem dstep_tz {c L : Int} {B : List Int} {s : List Int × List Int} (hL : L = lc B) (hB : tz B ≠ 0) (hd : L ∣ c) (h : tz B ≤ tz s.2) : tz (dstep c L B s).2 ≤ tz s.2 - 1 := by
  refine tz_le_of fun k hk => ?_
  show cf (padd (pscale c s.2) (pscale (-1) (pmul (mono (tz s.2 - tz B) (c * lc s.2 / L)) B))) k = 0
  rw [cf_padd, cf_pscale, cf_pscale, cf_mono_mul, if_pos (by omega)]
  have hL0 : L ≠ 0 := by rw [hL]; exact cf_tz_pred hB
  rcases Nat.lt_or_ge k (tz s.2) with h1 | h1
  · have hk1 : k = tz s.2 - 1 := by omega
    have e1 : k - (tz s.2 - tz B) = tz B - 1 := by omega
    rw [e1]
    have e2 : cf B (tz B - 1) = L := hL.symm
    have e3 : cf s.2 k = lc s.2 := by rw [hk1]; rfl
    rw [e2, e3, Int.ediv_mul_cancel (Int.dvd_trans hd (Int.dvd_mul_right _ _)), Int.mul_comm c]
    omega
  · rw [cf_ge_tz s.2 h1, cf_ge_tz B (by omega)]
    simp
theorem dstep_eq {c L : Int} {B : List Int} {s : List Int × List Int} : ps (dstep c L B s).1 * ps B + ps (dstep c L B s).2 = PS.C c * (ps s.1 * ps B + ps s.2) := by
  show ps (padd _ _) * ps B + ps (padd _ _) = _
  rw [ps_padd, ps_padd, ps_pscale, ps_pscale, ps_pscale, ps_pmul, PS.neg_one_C, PS.add_mul, PS.mul_add, PS.mul_assoc, PS.add_assoc, PS.add_comm (PS.C c * ps s.2), ← PS.add_assoc (ps (mono _ _) * ps B), PS.add_neg, PS.zero_add]
theorem dres_eq {c L : Int} {B : List Int} : ∀ (n : Nat) (s : List Int × List Int), ps (dres c L B n s).1 * ps B + ps (dres c L B n s).2 = PS.pw (PS.C c) n * (ps s.1 * ps B + ps s.2)
  | 0, s => by rw [dres, PS.pw, PS.one_mul]
  | n + 1, s => by
    have e : PS.pw (PS.C c) (n + 1) = PS.pw (PS.C c) n * PS.C c := by rw [PS.pw_add, PS.pw_one]
    rw [dres]
    split
    · rw [dres_eq n, dstep_eq, e, PS.mul_assoc]
    · rw [dres_eq n, e, PS.mul_assoc]
      congr 1
      rw [ps_pscale, ps_pscale, PS.mul_assoc, PS.mul_add]
theorem tz_scale_le (c : Int) (q : List Int) : tz (pscale c q) ≤ tz q := tz_le_of fun k hk => by rw [cf_pscale, cf_ge_tz q hk, Int.zero_mul]
theorem dres_tz {c L : Int} {B : List Int} (hL : L = lc B) (hB : tz B ≠ 0) (hd : L ∣ c) : ∀ (n : Nat) (s : List Int × List Int), tz s.2 < tz B + n → tz (dres c L B n s).2 < tz B
  | 0, s, h => by simpa [dres] using h
  | n + 1, s, h => by
    rw [dres]
    split
    · rename_i h1
      refine dres_tz hL hB hd n _ ?_
      have := dstep_tz (c := c) hL hB hd h1
      omega
    · refine dres_tz hL hB hd n _ ?_
      have := tz_scale_le c s.2
      show tz (pscale c s.2) < _
      omega
end Go.Proofs.YtenlbifnhdmnnaaGreat

namespace Go.Proofs.YtenlbifnhdmnnaaGreat
open Go Go.Proofs Go.AL
set_option linter.unusedSimpArgs false
set_option linter.unusedVariables false
theorem cpoly_nil : cpoly [] = [] := rfl
theorem cpoly_at {q : List Int} {i : Nat} (h : i < tz q) : (cpoly q).getD i [] = prow (canon (cf q i)) := by
  have h1 : i < (trimz q).length := by rw [trimz_len]; exact h
  rw [← cf_trimz]
  simp [cpoly, raws, cf, List.getD, h1]
def Bd (k : Nat) (q : List Int) : Prop := tz q ≤ 40 ∧ ∀ i, zl (cf q i) ≤ k
theorem Bd.rp {k : Nat} {q : List Int} (h : Bd k q) (hk : k ≤ 2 ^ 35) : RP (2 ^ 30) (2 ^ 35) (cn q) := by
  refine (RP.canon (.of (by rw [trimz_len]; exact h.1) fun i => ?_)).mono (by decide : 40 ≤ _) hk
  rw [cf_trimz]; exact h.2 i
def KB (l : Nat) : Nat := (60 - l) * 536870912
theorem KB_step (l : Nat) (h : l + 1 ≤ 41) : KB l = KB (l + 1) + 536870912 := by unfold KB; omega
theorem KB_le (l : Nat) : KB l ≤ 32212254720 := by unfold KB; omega
theorem KB_ge (l : Nat) (h : l ≤ 41) : 536870912 ≤ KB l := by unfold KB; omega
theorem bnd_fin {K k : Nat} (h : K = k + 536870912) : max (k + 2 ^ 27) (k + 2 ^ 27 + 2 ^ 27) + 1 ≤ K := by omega
theorem bnd_fin1 {K k : Nat} (h : K = k + 536870912) : max (k + 2 ^ 27) (k + 2 ^ 27) + 1 ≤ K := by omega
theorem bnd_fin2 {K k : Nat} (h : K = k + 536870912) : k + 2 ^ 27 ≤ K := by omega
theorem bd_scale {K k : Nat} {c : Int} {q : List Int} (h : Bd K q) (hc : zl c ≤ k) : Bd (K + k) (pscale c q) := by
  refine ⟨Nat.le_trans (tz_scale_le c q) h.1, fun i => ?_⟩
  rw [cf_pscale]
  have := zl_mul (cf q i) c
  have := h.2 i
  omega
theorem bd_mono {K n : Nat} {c : Int} (hn : n < 40) (hc : zl c ≤ K) : Bd K (mono n c) := by
  refine ⟨tz_le_of fun k hk => by rw [cf_mono, if_neg (by omega)], fun i => ?_⟩
  rw [cf_mono]
  split
  · exact hc
  · rw [zl_zero]; omega
theorem bd_mmul {K k n m : Nat} {c : Int} {B : List Int} (hB : Bd k B) (hn : n + tz B ≤ 40) (hc : zl c ≤ K) : Bd (K + k) (pmul (mono n c) B) := by
  refine ⟨tz_le_of fun j hj => ?_, fun i => ?_⟩
  · rw [cf_mono_mul]
    split
    · rw [cf_ge_tz B (by omega), Int.mul_zero]
    · rfl
  · rw [cf_mono_mul]
    split
    · have := zl_mul c (cf B (i - n))
      have := hB.2 (i - n)
      omega
    · rw [zl_zero]; omega
theorem bd_add {K k : Nat} {p q : List Int} (hp : Bd K p) (hq : Bd k q) : Bd (max K k + 1) (padd p q) := by
  have h1 := hp.1
  have h2 := hq.1
  refine ⟨tz_le_of fun j hj => by rw [cf_padd, cf_ge_tz p (by omega), cf_ge_tz q (by omega)]; rfl, fun i => ?_⟩
  rw [cf_padd]
  have := zl_add (cf p i) (cf q i)
  have := hp.2 i
  have := hq.2 i
  omega
theorem bd_neg {K : Nat} {q : List Int} (h : Bd K q) : Bd K (pscale (-1) q) := by
  refine ⟨Nat.le_trans (tz_scale_le _ q) h.1, fun i => ?_⟩
  rw [cf_pscale, Int.mul_neg, Int.mul_one, zl_neg]
  exact h.2 i
theorem bd_nil (K : Nat) : Bd K [] := ⟨by simp [tz, topN], fun i => by rw [cf_nil, zl_zero]; exact Nat.zero_le _⟩
theorem Bd.mono {K k : Nat} {q : List Int} (h : Bd K q) (hk : K ≤ k) : Bd k q := ⟨h.1, fun i => Nat.le_trans (h.2 i) hk⟩
set_option maxHeartbeats 1000000 in
theorem divide_ok (p q : List RI) (fa : RI) (hp : RP 40 (2 ^ 27) p) (hq : RP 40 (2 ^ 27) q) (hf : Sz (2 ^ 27) fa) (hB : tz (pv q) ≠ 0) (hd : lc (pv q) ∣ iv fa) :
    AC Tryz.prog 97 [cw p, cw q, cr fa] none [cp (dres (iv fa) (lc (pv q)) (pv q) (tz (pv p) + 1 - tz (pv q)) ([], pv p)).1, cp (dres (iv fa) (lc (pv q)) (pv q) (tz (pv p) + 1 - tz (pv q)) ([], pv p)).2, ci (tz (pv p) + 1 - tz (pv q) : Nat)] := by
  refine AC.by_walk (rs := [.tmp 6, .tmp 7, .tmp 8]) ords Tryz.func97 (by rfl) (by rfl) (by rfl) (by rfl) (by rfl) ?_
  have qp := hp.pv
  have qq := hq.pv
  have tp : tz (pv p) ≤ 40 := Nat.le_trans (tz_le _) qp.1
  have tq : tz (pv q) ≤ 40 := Nat.le_trans (tz_le _) qq.1
  generalize hee : tz (pv p) + 1 - tz (pv q) = e at *
  have he : max ((tz (pv p) : Int) - tz (pv q) + 1) 0 = (e : Int) := by omega
  have ht1 : ((tz (pv q) : Int) - 1).toNat = tz (pv q) - 1 := by omega
  have hat := cpoly_at (q := pv q) (i := tz (pv q) - 1) (by omega)
  have hL : cf (pv q) (tz (pv q) - 1) = lc (pv q) := rfl
  rw [hL] at hat
  simp (disch := omega) only [wk, tis, seval, reduceCtorEq, Nat.reduceEqDiff, cpoly_len, cpoly_nil]
  refine call_by ((pnorm_ok p (hp.mono (by omega) (by omega)))) (by rfl) (by simp) ?_
  simp (disch := omega) only [wk, tis, seval, reduceCtorEq, Nat.reduceEqDiff, cpoly_len, cpoly_nil]
  refine call_by ((pnorm_ok q (hq.mono (by omega) (by omega)))) (by rfl) (by simp) ?_
  simp (disch := omega) only [wk, tis, seval, reduceCtorEq, Nat.reduceEqDiff, cpoly_len, cpoly_nil]
  simp (disch := omega) only [wk, tis, seval, reduceCtorEq, Nat.reduceEqDiff, cpoly_len, cpoly_nil, he, ht1, hat]
  generalize hc : iv fa = c at *
  generalize hPe : pv p = P at *
  generalize hBe : pv q = B at *
  generalize hLe : lc B = L at *
  have bd_P : Bd (KB e) P := ⟨tp, fun i => Nat.le_trans (qp.cf i) (Nat.le_trans (by decide) (KB_ge e (by omega)))⟩
  refine aloop_w (.nilv 13 (by simp (disch := omega) only [wk, tis, seval, reduceCtorEq, Nat.reduceEqDiff, cpoly_len, cpoly_nil]) (.refl _ _)) (fun f H => ∃ (left st5 st12 : Nat) (Q R : List Int), dres c L B left (Q, R) = dres c L B e ([], P) ∧ tz R < tz B + left ∧ left ≤ 41 ∧ Bd (KB left) Q ∧ Bd (KB left) R ∧ f 14 = .iv (.int .i64 left) ∧ f 9 = .iv (.sl (cpoly R)) ∧ f 10 = .iv (.sl (cpoly B)) ∧ f 13 = .iv (.sl (cpoly Q)) ∧ f 11 = .iv (.int .i64 e) ∧ f 5 = .hp 5 st5 0 0 ∧ f 12 = .hp 12 st12 0 0 ∧ H 5 = .blk false st5 44 2 [prow fa] ∧ H 12 = .blk false st12 44 2 [prow (canon L)]) (fun f H => (intAt f 14).toNat) ?_ ?_
  · refine ⟨e, 1, 1, [], P, rfl, by omega, by omega, bd_nil _, bd_P, ?_⟩
    simp (disch := omega) only [wk, tis, seval, reduceCtorEq, Nat.reduceEqDiff, cpoly_len, cpoly_nil]
  rintro f H ⟨left, st5, st12, Q, R, hD, hT, hle, hQ, hR, hF⟩
  rw [intAt_of hF.1]
  simp (disch := omega) only [wk, tis, seval, reduceCtorEq, Nat.reduceEqDiff, cpoly_len, cpoly_nil, hF]
  have hkb := KB_le left
  have hkR := hR.rp (by omega)
  have hkQ := hQ.rp (by omega)
  refine if_by (fun hge => ?_) (fun hge => ?_)
  · obtain ⟨l, rfl⟩ : ∃ l, left = l + 1 := ⟨left - 1, by omega⟩
    have hm : ((tz R : Int) - tz B) = ((tz R - tz B : Nat) : Int) := by omega
    have ht2 : ((tz R : Int) - 1).toNat = tz R - 1 := by omega
    have hat2 := cpoly_at (q := R) (i := tz R - 1) (by omega)
    have hLR : cf R (tz R - 1) = lc R := rfl
    rw [hLR] at hat2
    have hzR := hR.2 (tz R - 1)
    rw [hLR] at hzR
    have hzc : zl c ≤ 2 ^ 27 := by rw [← hc]; exact zl_iv hf
    have hzL : zl L ≤ 2 ^ 27 := by rw [← hLe]; exact qq.cf _
    have hL0 : L ≠ 0 := by rw [← hLe]; exact cf_tz_pred hB
    have hzm := zl_mul c (lc R)
    have hdv : L ∣ c * lc R := Int.dvd_trans hd (Int.dvd_mul_right _ _)
    have hzt := zl_div hdv
    have m1 := zmul_ok fa (canon (lc R)) (hf.mono (by omega)) ((sz_canon _).mono (by omega))
    rw [hc, iv_canon] at m1
    have m2 := zexact_ok (canon (c * lc R)) (canon L) ((sz_canon _).mono (by omega)) ((sz_canon _).mono (by omega)) (by rw [iv_canon]; exact hL0) (by rw [iv_canon, iv_canon]; exact hdv)
    rw [iv_canon, iv_canon] at m2
    have m3 := prsmono_ok (canon (c * lc R / L)) (tz R - tz B) (by omega) ((sz_canon _).mono (by omega))
    rw [iv_canon] at m3
    simp (disch := omega) only [wk, tis, seval, reduceCtorEq, Nat.reduceEqDiff, cpoly_len, cpoly_nil, hF, hm, ht2, hat2]
    refine ⟨tmps_by (by kernel_rfl), ?_⟩
    refine call_by (m1) (by first | rfl | (simp only [tocvs, tocv, hF, hm, ht2, hat2]; rfl) | (simp only [tocvs, tocv, toboxes, tobox, updH_at, Nat.reduceEqDiff, ↓reduceIte, hF, hm, ht2, hat2]; rfl)) (by simp) ?_
    simp (disch := omega) only [wk, tis, seval, reduceCtorEq, Nat.reduceEqDiff, cpoly_len, cpoly_nil, hF, hm, ht2, hat2]
    refine call_by (m2) (by first | rfl | (simp only [tocvs, tocv, hF, hm, ht2, hat2]; rfl) | (simp only [tocvs, tocv, toboxes, tobox, updH_at, Nat.reduceEqDiff, ↓reduceIte, hF, hm, ht2, hat2]; rfl)) (by simp) ?_
    simp (disch := omega) only [wk, tis, seval, reduceCtorEq, Nat.reduceEqDiff, cpoly_len, cpoly_nil, hF, hm, ht2, hat2]
    first | exact log_by (by kernel_rfl) | refine ⟨log_by (by kernel_rfl), ?_⟩
    refine call_by (m3) (by first | rfl | (simp only [tocvs, tocv, hF, hm, ht2, hat2]; rfl) | (simp only [tocvs, tocv, toboxes, tobox, updH_at, Nat.reduceEqDiff, ↓reduceIte, hF, hm, ht2, hat2]; rfl)) (by simp) ?_
    simp (disch := omega) only [wk, tis, seval, reduceCtorEq, Nat.reduceEqDiff, cpoly_len, cpoly_nil, hF, hm, ht2, hat2]
    have hBB : Bd (2 ^ 27) B := ⟨tq, fun i => qq.cf i⟩
    have hlt := hR.1
    have hK2 := KB_step l hle
    have hge' : tz B ≤ tz R := by omega
    generalize KB (l + 1) = K at *
    have b1 := bd_scale hQ hzc
    have b2 := bd_mono (n := tz R - tz B) (c := c * lc R / L) (K := K + 2 ^ 27) (by omega) (by omega)
    have b3 := bd_scale hR hzc
    have b4 := bd_mmul (m := 0) (n := tz R - tz B) (c := c * lc R / L) (K := K + 2 ^ 27) hBB (by omega) (by omega)
    have b5 := bd_add b1 b2
    have b6 := bd_add b3 (bd_neg b4)
    have hBr := hBB.rp (by omega)
    have s1 := pscale_g (q := Q) (c := fa) hkQ (hf.mono (by omega)) (ps_cn _)
    have s2 := pscale_g (q := R) (c := fa) hkR (hf.mono (by omega)) (ps_cn _)
    rw [hc] at s1 s2
    have hstep : dres c L B (l + 1) (Q, R) = dres c L B l (dstep c L B (Q, R)) := by
      rw [dres, if_pos (show tz B ≤ tz (Q, R).2 from hge')]
    have htz := dstep_tz (c := c) (s := (Q, R)) hLe.symm hB hd (show tz B ≤ tz (Q, R).2 from hge')
    refine call_by (s1) (by first | rfl | (simp only [tocvs, tocv, hF, hm, ht2, hat2]; rfl) | (simp only [tocvs, tocv, toboxes, tobox, updH_at, Nat.reduceEqDiff, ↓reduceIte, hF, hm, ht2, hat2]; rfl)) (by simp) ?_
    simp (disch := omega) only [wk, tis, seval, reduceCtorEq, Nat.reduceEqDiff, cpoly_len, cpoly_nil, hF, hm, ht2, hat2]
    refine call_by ((padd_g (b1.rp (by omega)) (b2.rp (by omega)) (ps_cn _) (ps_cn _))) (by first | rfl | (simp only [tocvs, tocv, hF, hm, ht2, hat2]; rfl) | (simp only [tocvs, tocv, toboxes, tobox, updH_at, Nat.reduceEqDiff, ↓reduceIte, hF, hm, ht2, hat2]; rfl)) (by simp) ?_
    simp (disch := omega) only [wk, tis, seval, reduceCtorEq, Nat.reduceEqDiff, cpoly_len, cpoly_nil, hF, hm, ht2, hat2]
    refine call_by (s2) (by first | rfl | (simp only [tocvs, tocv, hF, hm, ht2, hat2]; rfl) | (simp only [tocvs, tocv, toboxes, tobox, updH_at, Nat.reduceEqDiff, ↓reduceIte, hF, hm, ht2, hat2]; rfl)) (by simp) ?_
    simp (disch := omega) only [wk, tis, seval, reduceCtorEq, Nat.reduceEqDiff, cpoly_len, cpoly_nil, hF, hm, ht2, hat2]
    refine call_by ((pmul_g (b2.rp (by omega)) hBr (ps_cn _) (ps_cn _))) (by first | rfl | (simp only [tocvs, tocv, hF, hm, ht2, hat2]; rfl) | (simp only [tocvs, tocv, toboxes, tobox, updH_at, Nat.reduceEqDiff, ↓reduceIte, hF, hm, ht2, hat2]; rfl)) (by simp) ?_
    simp (disch := omega) only [wk, tis, seval, reduceCtorEq, Nat.reduceEqDiff, cpoly_len, cpoly_nil, hF, hm, ht2, hat2]
    refine call_by ((psub_g (b3.rp (by omega)) (b4.rp (by omega)) (ps_cn _) (ps_cn _))) (by first | rfl | (simp only [tocvs, tocv, hF, hm, ht2, hat2]; rfl) | (simp only [tocvs, tocv, toboxes, tobox, updH_at, Nat.reduceEqDiff, ↓reduceIte, hF, hm, ht2, hat2]; rfl)) (by simp) ?_
    simp (disch := omega) only [wk, tis, seval, reduceCtorEq, Nat.reduceEqDiff, cpoly_len, cpoly_nil, hF, hm, ht2, hat2]
    refine ⟨⟨l, st5, st12, _, _, by rw [← hD, hstep]; rfl, ?_, by omega, b5.mono (bnd_fin1 hK2), b6.mono (bnd_fin hK2), by omega, rfl, rfl, rfl, rfl, rfl, rfl⟩, by omega⟩
    have h1 : tz R ≠ 0 := by omega
    have h2 : tz (padd (pscale c R) (pscale (-1) (pmul (mono (tz R - tz B) (c * lc R / L)) B))) ≤ tz R - 1 := htz
    omega
  · have hout : tz R < tz B := by omega
    simp (disch := omega) only [wk, tis, seval, reduceCtorEq, Nat.reduceEqDiff, cpoly_len, cpoly_nil, hF]
    refine aloop_by (fun f H => ∃ (lft sf : Nat) (S T : List Int), dres c L B lft (S, T) = dres c L B e ([], P) ∧ tz T < tz B ∧ lft ≤ 41 ∧ Bd (KB lft) S ∧ Bd (KB lft) T ∧ f 14 = .iv (.int .i64 lft) ∧ f 9 = .iv (.sl (cpoly T)) ∧ f 13 = .iv (.sl (cpoly S)) ∧ f 11 = .iv (.int .i64 e) ∧ f 5 = .hp 5 sf 0 0 ∧ H 5 = .blk false sf 44 2 [prow fa]) (fun f H => (intAt f 14).toNat) ?_ ?_
    · refine ⟨left, st5, Q, R, hD, hout, hle, hQ, hR, ?_⟩
      simp (disch := omega) only [wk, tis, seval, reduceCtorEq, Nat.reduceEqDiff, cpoly_len, cpoly_nil, hF]
    rintro f H ⟨lft, sf, S, T, hD, hT, hle, hQ, hR, hF⟩
    rw [intAt_of hF.1]
    simp (disch := omega) only [wk, tis, seval, reduceCtorEq, Nat.reduceEqDiff, cpoly_len, cpoly_nil, hF]
    refine if_by (fun hgt => ?_) (fun hgt => ?_)
    · obtain ⟨l, rfl⟩ : ∃ l, lft = l + 1 := ⟨lft - 1, by omega⟩
      have hkb := KB_le (l + 1)
      have hzc : zl c ≤ 2 ^ 27 := by rw [← hc]; exact zl_iv hf
      have hK2 := KB_step l hle
      have s1 := pscale_g (q := S) (c := fa) (hQ.rp (by omega)) (hf.mono (by omega)) (ps_cn _)
      have s2 := pscale_g (q := T) (c := fa) (hR.rp (by omega)) (hf.mono (by omega)) (ps_cn _)
      rw [hc] at s1 s2
      have hstep : dres c L B (l + 1) (S, T) = dres c L B l (pscale c S, pscale c T) := by
        rw [dres, if_neg (show ¬ tz B ≤ tz (S, T).2 from Nat.not_le.2 hT)]
      have hts := tz_scale_le c T
      have b1 := (bd_scale hQ hzc).mono (bnd_fin2 hK2)
      have b2 := (bd_scale hR hzc).mono (bnd_fin2 hK2)
      clear hK2
      simp (disch := omega) only [wk, tis, seval, reduceCtorEq, Nat.reduceEqDiff, cpoly_len, cpoly_nil, hF]
      refine ⟨tmps_by (by kernel_rfl), ?_⟩
      refine call_by (s1) (by first | rfl | (simp only [tocvs, tocv, hF]; rfl) | (simp only [tocvs, tocv, toboxes, tobox, updH_at, Nat.reduceEqDiff, ↓reduceIte, hF]; rfl)) (by simp) ?_
      simp (disch := omega) only [wk, tis, seval, reduceCtorEq, Nat.reduceEqDiff, cpoly_len, cpoly_nil, hF]
      refine call_by (s2) (by first | rfl | (simp only [tocvs, tocv, hF]; rfl) | (simp only [tocvs, tocv, toboxes, tobox, updH_at, Nat.reduceEqDiff, ↓reduceIte, hF]; rfl)) (by simp) ?_
      simp (disch := omega) only [wk, tis, seval, reduceCtorEq, Nat.reduceEqDiff, cpoly_len, cpoly_nil, hF]
      first | exact log_by (by kernel_rfl) | refine ⟨log_by (by kernel_rfl), ?_⟩
      refine ⟨⟨l, sf, _, _, by rw [← hD, hstep], by omega, by omega, b1, b2, by omega, rfl, rfl, rfl, rfl⟩, by omega⟩
    · obtain rfl : lft = 0 := by omega
      simp (disch := omega) only [wk, tis, seval, reduceCtorEq, Nat.reduceEqDiff, cpoly_len, cpoly_nil, hF]
      rw [← hD]
      exact ⟨rfl, rfl⟩
end Go.Proofs.YtenlbifnhdmnnaaGreat

namespace Go.Proofs.YtenlbifnhdmnnaaGreat
open Go Go.Proofs Go.AL
set_option linter.unusedSimpArgs false
set_option linter.unusedVariables false
end Go.Proofs.YtenlbifnhdmnnaaGreat

namespace Go.Proofs.YtenlbifnhdmnnaaGreat
open Go Go.Proofs Go.AL
set_option linter.unusedSimpArgs false
set_option linter.unusedVariables false
def NP (n k : Nat) (l : List (List Nat)) : Prop := l.length ≤ n ∧ ∀ a ∈ l, Lim a ∧ a.length ≤ k
theorem NP.get {n k : Nat} {l : List (List Nat)} (h : NP n k l) (i : Nat) : Lim (l.getD i []) ∧ (l.getD i []).length ≤ k := by
  by_cases hi : i < l.length
  · have e : l.getD i [] = l[i] := by simp [List.getD, hi]
    rw [e]; exact h.2 _ (List.getElem_mem hi)
  · rw [List.getD_eq_getElem?_getD, List.getElem?_eq_none (by omega)]
    exact ⟨Lim.nil, by simp⟩
end Go.Proofs.YtenlbifnhdmnnaaGreat

namespace Go.Proofs.YtenlbifnhdmnnaaGreat
open Go Go.Proofs Go.AL
set_option linter.unusedSimpArgs false
set_option linter.unusedVariables false
theorem cont_ps {p q : List Int} (h : ps p = ps q) : cont p = cont q := by
  unfold cont lc
  rw [gz_eq (ps_eq h), tz_eq_of_cf (ps_eq h), ps_eq h]
theorem prim_ps {p q : List Int} (h : ps p = ps q) : ps (prim p) = ps (prim q) := ps_ext fun k => by
  unfold prim
  rw [cf_pdivs, cf_pdivs, cont_ps h, ps_eq h]
theorem pprim_g {a : List RI} {q : List Int} (ha : RP (2 ^ 30) (2 ^ 35) a) (eq : ps (pv a) = ps q) : AC Tryz.prog 55 [cw a] none [cp (prim q)] := by
  have h := pprim_ok a ha
  rwa [cp_ps (prim_ps eq)] at h
theorem plead_g {a : List RI} {q : List Int} (ha : RP (2 ^ 30) (2 ^ 35) a) (eq : ps (pv a) = ps q) : AC Tryz.prog 61 [cw a] none [cz (lc q)] := by
  have h := plead_ok a (ha.mono (by omega) (by omega))
  have e : cf (pv a) (tz (pv a) - 1) = lc q := by unfold lc; rw [tz_eq_of_cf (ps_eq eq), ps_eq eq]
  rwa [e] at h
end Go.Proofs.YtenlbifnhdmnnaaGreat

namespace Go.Proofs.YtenlbifnhdmnnaaGreat
open Go Go.Proofs Go.AL
set_option linter.unusedSimpArgs false
set_option linter.unusedVariables false
def dxp (P B : List Int) : Nat := tz P + 1 - tz B
def dq (P B : List Int) : List Int := (dres (lc B) (lc B) B (dxp P B) ([], P)).1
def dr (P B : List Int) : List Int := (dres (lc B) (lc B) B (dxp P B) ([], P)).2
theorem pdiv_zero (p q : List RI) (hq : RP 40 (2 ^ 27) q) (h0 : tz (pv q) = 0) : AC Tryz.prog 59 [cw p, cw q] none [cw [], cw [], ci 0, ci 1] := by
  refine AC.by_walk (rs := [.tmp 4, .tmp 5, .tmp 6, .tmp 7]) ords Tryz.func59 (by rfl) (by rfl) (by rfl) (by rfl) (by rfl) ?_
  simp (disch := omega) only [wk, tis, seval, reduceCtorEq, Nat.reduceEqDiff, cpoly_len, cpoly_nil]
  refine call_by ((pnone_ok q (hq.mono (by omega) (by omega)))) (by first | rfl | (simp only [tocvs, tocv, h0]; rfl) | (simp only [tocvs, tocv, toboxes, tobox, updH_at, Nat.reduceEqDiff, ↓reduceIte, h0]; rfl)) (by simp) ?_
  simp (disch := omega) only [wk, tis, seval, reduceCtorEq, Nat.reduceEqDiff, cpoly_len, cpoly_nil, h0]
theorem pdiv_ok (p q : List RI) (hp : RP 40 (2 ^ 27) p) (hq : RP 40 (2 ^ 27) q) (h0 : ¬ tz (pv q) = 0) : AC Tryz.prog 59 [cw p, cw q] none [cp (dq (pv p) (pv q)), cp (dr (pv p) (pv q)), ci (dxp (pv p) (pv q)), ci 0] := by
  refine AC.by_walk (rs := [.tmp 4, .tmp 5, .tmp 6, .tmp 7]) ords Tryz.func59 (by rfl) (by rfl) (by rfl) (by rfl) (by rfl) ?_
  have hl : Sz (2 ^ 27) (canon (lc (pv q))) := (sz_canon _).mono (hq.pv.cf _)
  have m := divide_ok p q (canon (lc (pv q))) hp hq hl h0 (by rw [iv_canon]; exact Int.dvd_refl _)
  rw [iv_canon] at m
  simp (disch := omega) only [wk, tis, seval, reduceCtorEq, Nat.reduceEqDiff, cpoly_len, cpoly_nil]
  refine call_by ((pnone_ok q (hq.mono (by omega) (by omega)))) (by first | rfl | (simp only [tocvs, tocv, h0]; rfl) | (simp only [tocvs, tocv, toboxes, tobox, updH_at, Nat.reduceEqDiff, ↓reduceIte, h0]; rfl)) (by simp) ?_
  simp (disch := omega) only [wk, tis, seval, reduceCtorEq, Nat.reduceEqDiff, cpoly_len, cpoly_nil, h0]
  refine call_by ((plead_g (hq.mono (by omega) (by omega)) rfl)) (by first | rfl | (simp only [tocvs, tocv, h0]; rfl) | (simp only [tocvs, tocv, toboxes, tobox, updH_at, Nat.reduceEqDiff, ↓reduceIte, h0]; rfl)) (by simp) ?_
  simp (disch := omega) only [wk, tis, seval, reduceCtorEq, Nat.reduceEqDiff, cpoly_len, cpoly_nil, h0]
  refine call_by (m) (by first | rfl | (simp only [tocvs, tocv, h0]; rfl) | (simp only [tocvs, tocv, toboxes, tobox, updH_at, Nat.reduceEqDiff, ↓reduceIte, h0]; rfl)) (by simp) ?_
  simp (disch := omega) only [wk, tis, seval, reduceCtorEq, Nat.reduceEqDiff, cpoly_len, cpoly_nil, h0]
  exact ⟨rfl, rfl, rfl⟩
theorem prem_ok (p q : List RI) (hp : RP 40 (2 ^ 27) p) (hq : RP 40 (2 ^ 27) q) (h0 : ¬ tz (pv q) = 0) : AC Tryz.prog 96 [cw p, cw q] none [cp (dr (pv p) (pv q)), ci 0] := by
  refine AC.by_walk (rs := [.tmp 4, .tmp 5]) ords Tryz.func96 (by rfl) (by rfl) (by rfl) (by rfl) (by rfl) ?_
  simp (disch := omega) only [wk, tis, seval, reduceCtorEq, Nat.reduceEqDiff, cpoly_len, cpoly_nil]
  refine call_by ((pdiv_ok p q hp hq h0)) (by rfl) (by simp) ?_
  simp (disch := omega) only [wk, tis, seval, reduceCtorEq, Nat.reduceEqDiff, cpoly_len, cpoly_nil]
end Go.Proofs.YtenlbifnhdmnnaaGreat

namespace Go.Proofs.YtenlbifnhdmnnaaGreat
open Go Go.Proofs Go.AL
set_option linter.unusedSimpArgs false
set_option linter.unusedVariables false
end Go.Proofs.YtenlbifnhdmnnaaGreat

namespace Go.Proofs.YtenlbifnhdmnnaaGreat
open Go Go.Proofs Go.AL
set_option linter.unusedSimpArgs false
set_option linter.unusedVariables false
theorem ps_zero_of {q : List Int} (h : tz q = 0) : ps q = 0 := PS.ext fun k => tz_zero_iff.mp h k
theorem tz_of_ps {p q : List Int} (h : ps p = ps q) : tz p = tz q := tz_eq_of_cf (ps_eq h)
theorem tz_pscale {c : Int} (hc : c ≠ 0) (q : List Int) : tz (pscale c q) = tz q := by
  refine Nat.le_antisymm (tz_scale_le c q) (tz_le_of fun k hk => ?_)
  have := cf_ge_tz (pscale c q) hk
  rw [cf_pscale] at this
  exact (Int.mul_eq_zero.mp this).resolve_right hc
theorem ps_cancel {S T B : List Int} (h : ps S * ps B = ps T * ps B) (hB : tz B ≠ 0) : ps S = ps T := by
  have e : ps (pmul (padd S (pscale (-1) T)) B) = 0 := by
    rw [ps_pmul, ps_padd, ps_pscale, PS.neg_one_C, PS.add_mul, PS.neg_mul, h, PS.add_neg]
  have h0 : tz (pmul (padd S (pscale (-1) T)) B) = 0 := tz_zero_iff.mpr fun k => congrArg (fun f => PS.c f k) e
  have h1 : tz (padd S (pscale (-1) T)) = 0 := by
    by_cases h1 : tz (padd S (pscale (-1) T)) = 0
    · exact h1
    · rw [tz_pmul h1 hB] at h0; omega
  refine PS.ext fun k => ?_
  have := tz_zero_iff.mp h1 k
  rw [cf_padd, cf_pscale] at this
  rw [ps_c, ps_c]
  omega
theorem C_cancel {a : Int} (ha : a ≠ 0) {f g : PS} (h : PS.C a * f = PS.C a * g) : f = g := PS.ext fun k => by
  have := congrArg (fun f => PS.c f k) h
  simp only [PS.C_mul_c] at this
  exact Int.eq_of_mul_eq_mul_left ha this
def As (A B : List Int) : Prop := ∃ a b : Int, a ≠ 0 ∧ b ≠ 0 ∧ PS.C a * ps A = PS.C b * ps B
theorem As.of_ps {A B : List Int} (h : ps A = ps B) : As A B := ⟨1, 1, by decide, by decide, by rw [h]⟩
theorem As.refl (A : List Int) : As A A := .of_ps rfl
theorem As.symm {A B : List Int} (h : As A B) : As B A := by
  obtain ⟨a, b, ha, hb, e⟩ := h
  exact ⟨b, a, hb, ha, e.symm⟩
theorem As.trans {A B D : List Int} (h : As A B) (h2 : As B D) : As A D := by
  obtain ⟨a, b, ha, hb, e⟩ := h
  obtain ⟨a', b', ha', hb', e'⟩ := h2
  refine ⟨a' * a, b * b', Int.mul_ne_zero ha' ha, Int.mul_ne_zero hb hb', ?_⟩
  rw [PS.C_mul, PS.C_mul, PS.mul_assoc, e, PS.mul_assoc, ← e', ← PS.mul_assoc, ← PS.mul_assoc, PS.mul_comm (PS.C a')]
theorem as_tz {A B : List Int} (h : As A B) : tz A = tz B := by
  obtain ⟨a, b, ha, hb, e⟩ := h
  rw [← tz_pscale ha A, ← tz_pscale hb B]
  exact tz_of_ps (by rw [ps_pscale, ps_pscale, e])
theorem as_prim (A : List Int) : As A (prim A) := by
  by_cases h : cont A = 0
  · refine .of_ps ?_
    rw [ps_prim A, h, PS.C_zero, PS.zero_mul]
    exact (ps_zero fun k => (prim_zero h k).1).symm
  · exact ⟨1, cont A, by decide, h, by rw [PS.C_one, PS.one_mul]; exact ps_prim A⟩
def Nf (A : List Int) : Prop := tz A = 0 ∨ Prm A
theorem nf_prim (A : List Int) : Nf (prim A) := by
  by_cases h : cont A = 0
  · exact .inl (tz_zero_iff.mpr fun k => (prim_zero h k).1)
  · exact .inr (prm_prim h)
theorem prm_tz {A : List Int} (h : Prm A) : tz A ≠ 0 := (lc_ne (q := A) (by rw [h.1]; decide)).1
theorem As.uniq {A B : List Int} (h : As A B) (hA : Nf A) (hB : Nf B) : ps A = ps B := by
  have ht := as_tz h
  rcases hA with hA | hA
  · rw [ps_zero_of hA, ps_zero_of (by omega)]
  rcases hB with hB | hB
  · exact absurd (by omega) (prm_tz hA)
  obtain ⟨a, b, ha, hb, e⟩ := h
  have e1 : ∀ k, cf (pscale b B) k = a * cf A k := fun k => by
    have := congrArg (fun f => PS.c f k) e
    simp only [PS.C_mul_c, ps_c] at this
    rw [cf_pscale, Int.mul_comm, this]
  have e2 : ∀ k, cf (pscale b B) k = b * cf B k := fun k => by rw [cf_pscale, Int.mul_comm]
  have c1 := cont_of hA e1
  have c2 := cont_of hB e2
  have ab : a = b := c1.symm.trans c2
  subst ab
  exact C_cancel ha e
def npr (A : List Int) : List Int := trimz (prim A)
theorem npr_trim (A : List Int) : trimz (npr A) = npr A := trimz_trimz _
theorem as_npr (A : List Int) : As A (npr A) := (as_prim A).trans (.of_ps (ps_trimz _).symm)
theorem tz_npr (A : List Int) : tz (npr A) = tz A := (as_tz (as_npr A)).symm
theorem nf_of_ps {A B : List Int} (e : ps A = ps B) (h : Nf A) : Nf B := by
  have ht := tz_of_ps e
  rcases h with h | h
  · exact .inl (by omega)
  · refine .inr ⟨?_, ?_⟩
    · rw [← gz_eq (ps_eq e)]; exact h.1
    · have := h.2
      unfold lc at this ⊢
      rwa [← ht, ← ps_eq e]
theorem nf_npr (A : List Int) : Nf (npr A) := nf_of_ps (ps_trimz _).symm (nf_prim A)
theorem cp_npr (A : List Int) : cp (prim A) = cp (npr A) := cp_ext fun k => (cf_trimz _ k).symm
def Dv (B A : List Int) : Prop := ∃ (c : Int) (S : List Int), c ≠ 0 ∧ ps S * ps B = PS.C c * ps A
theorem Dv.refl (A : List Int) : Dv A A := ⟨1, [1], by decide, by rw [ps_one, PS.C_one]⟩
theorem Dv.zero {A : List Int} (B : List Int) (h : tz A = 0) : Dv B A := ⟨1, [], by decide, by rw [ps_nil, ps_zero_of h, PS.zero_mul, PS.mul_zero]⟩
theorem Dv.trans {D B A : List Int} (h : Dv D B) (h2 : Dv B A) : Dv D A := by
  obtain ⟨c, S, hc, e⟩ := h
  obtain ⟨d, T, hd, e2⟩ := h2
  refine ⟨c * d, pmul T S, Int.mul_ne_zero hc hd, ?_⟩
  rw [ps_pmul, PS.mul_assoc, e, PS.C_mul, PS.mul_assoc, ← e2]
  ac_rfl
theorem Dv.mul {B A S : List Int} (h : ps A = ps S * ps B) : Dv B A := ⟨1, S, by decide, by rw [PS.C_one, PS.one_mul, h]⟩
theorem Dv.lin {G A B R U V : List Int} {k : Int} (h1 : Dv G A) (h2 : Dv G B) (hk : k ≠ 0) (e : ps U * ps A + ps V * ps B = PS.C k * ps R) : Dv G R := by
  obtain ⟨c, S, hc, e1⟩ := h1
  obtain ⟨d, T, hd, e2⟩ := h2
  refine ⟨c * d * k, padd (pscale d (pmul U S)) (pscale c (pmul V T)), Int.mul_ne_zero (Int.mul_ne_zero hc hd) hk, ?_⟩
  rw [ps_padd, ps_pscale, ps_pscale, ps_pmul, ps_pmul, PS.C_mul, PS.mul_assoc, ← e, PS.C_mul, PS.add_mul, PS.mul_add]
  have x1 : PS.C d * (ps U * ps S) * ps G = PS.C d * (ps U * (ps S * ps G)) := by ac_rfl
  have x2 : PS.C c * (ps V * ps T) * ps G = PS.C c * (ps V * (ps T * ps G)) := by ac_rfl
  rw [x1, x2, e1, e2]
  congr 1 <;> ac_rfl
theorem As.dv {A B : List Int} (h : As A B) : Dv A B := by
  obtain ⟨a, b, ha, hb, e⟩ := h
  exact ⟨b, [a], hb, by rw [ps_const, e]⟩
theorem dv_tz {B A : List Int} (h : Dv B A) (hA : tz A ≠ 0) : tz B ≠ 0 ∧ tz B ≤ tz A := by
  obtain ⟨c, S, hc, e⟩ := h
  have ht : tz (pmul S B) = tz A := by
    rw [← tz_pscale hc A]
    exact tz_of_ps (by rw [ps_pmul, ps_pscale, e])
  have hS : tz S ≠ 0 := fun h0 => hA (by rw [← ht]; exact tz_pmul_zero (.inl h0))
  have hB : tz B ≠ 0 := fun h0 => hA (by rw [← ht]; exact tz_pmul_zero (.inr h0))
  rw [tz_pmul hS hB] at ht
  exact ⟨hB, by omega⟩
theorem Dv.anti {A B : List Int} (h : Dv A B) (h2 : Dv B A) : As A B := by
  by_cases hB : tz B = 0
  · have hA : tz A = 0 := by
      by_cases hA : tz A = 0
      · exact hA
      · exact absurd hB (dv_tz h2 hA).1
    exact .of_ps (by rw [ps_zero_of hA, ps_zero_of hB])
  have hA := (dv_tz h hB).1
  have l1 := (dv_tz h hB).2
  have l2 := (dv_tz h2 hA).2
  obtain ⟨c, S, hc, e⟩ := h
  have ht : tz (pmul S A) = tz B := by
    rw [← tz_pscale hc B]
    exact tz_of_ps (by rw [ps_pmul, ps_pscale, e])
  have hS : tz S ≠ 0 := fun h0 => hB (by rw [← ht]; exact tz_pmul_zero (.inl h0))
  rw [tz_pmul hS hA] at ht
  have hS1 : tz S = 1 := by omega
  have es : ps S = PS.C (cf S 0) := PS.ext fun k => by
    rw [ps_c, PS.c_C]
    split
    · rename_i h; rw [h]
    · exact cf_ge_tz S (by omega)
  have h0 : cf S 0 ≠ 0 := by have := cf_tz_pred (q := S) hS; rwa [hS1] at this
  exact ⟨cf S 0, c, h0, hc, by rw [← es, e]⟩
theorem Dv.as {B B' A A' : List Int} (h : Dv B A) (hB : As B' B) (hA : As A A') : Dv B' A' := (hB.dv.trans h).trans hA.dv
structure GG (G A B : List Int) : Prop where
  a : Dv G A
  b : Dv G B
  z : ∃ (c : Int) (U V : List Int), c ≠ 0 ∧ ps U * ps A + ps V * ps B = PS.C c * ps G
theorem GG.dv {G A B D : List Int} (h : GG G A B) (h1 : Dv D A) (h2 : Dv D B) : Dv D G := by
  obtain ⟨c, U, V, hc, e⟩ := h.z
  exact h1.lin h2 hc e
theorem GG.uniq {G G' A B : List Int} (h : GG G A B) (h' : GG G' A B) (n : Nf G) (n' : Nf G') : ps G = ps G' := ((h'.dv h.a h.b).anti (h.dv h'.a h'.b)).uniq n n'
theorem GG.symm {G A B : List Int} (h : GG G A B) : GG G B A := by
  obtain ⟨c, U, V, hc, e⟩ := h.z
  exact ⟨h.b, h.a, c, V, U, hc, by rw [PS.add_comm, e]⟩
theorem GG.zero {A B : List Int} (h : tz B = 0) : GG A A B := ⟨.refl A, .zero A h, 1, [1], [], by decide, by rw [ps_one, ps_nil, PS.zero_mul, PS.add_zero, PS.C_one]⟩
theorem GG.as {G G' A A' B B' : List Int} (h : GG G A B) (hG : As G G') (hA : As A A') (hB : As B B') : GG G' A' B' := by
  refine ⟨h.a.as hG.symm hA, h.b.as hG.symm hB, ?_⟩
  obtain ⟨c, U, V, hc, e⟩ := h.z
  obtain ⟨g, g', hg, hg', eg⟩ := hG
  obtain ⟨a, a', ha, ha', ea⟩ := hA
  obtain ⟨b, b', hb, hb', eb⟩ := hB
  refine ⟨c * a * b * g', pscale (b * g * a') U, pscale (a * g * b') V, Int.mul_ne_zero (Int.mul_ne_zero (Int.mul_ne_zero hc ha) hb) hg', ?_⟩
  rw [ps_pscale, ps_pscale]
  have x1 : PS.C (b * g * a') * ps U * ps A' = PS.C a * PS.C b * PS.C g * (ps U * ps A) := by
    have : PS.C (b * g * a') * ps U * ps A' = PS.C b * PS.C g * ps U * (PS.C a' * ps A') := by rw [PS.C_mul, PS.C_mul]; ac_rfl
    rw [this, ← ea]; ac_rfl
  have x2 : PS.C (a * g * b') * ps V * ps B' = PS.C a * PS.C b * PS.C g * (ps V * ps B) := by
    have : PS.C (a * g * b') * ps V * ps B' = PS.C a * PS.C g * ps V * (PS.C b' * ps B') := by rw [PS.C_mul, PS.C_mul]; ac_rfl
    rw [this, ← eb]; ac_rfl
  rw [x1, x2, ← PS.mul_add, e]
  have : PS.C (c * a * b * g') * ps G' = PS.C c * PS.C a * PS.C b * (PS.C g' * ps G') := by rw [PS.C_mul, PS.C_mul, PS.C_mul]; ac_rfl
  rw [this, ← eg]
  ac_rfl
theorem GG.step {G A B Q R : List Int} {c : Int} (h : GG G B R) (hc : c ≠ 0) (e : ps Q * ps B + ps R = PS.C c * ps A) : GG G A B := by
  refine ⟨h.a.lin (U := Q) (V := [1]) h.b hc (by rw [ps_one, PS.one_mul, e]), h.a, ?_⟩
  obtain ⟨k, U, V, hk, ek⟩ := h.z
  refine ⟨k, pscale c V, padd U (pscale (-1) (pmul V Q)), hk, ?_⟩
  rw [ps_pscale, ps_padd, ps_pscale, ps_pmul, PS.neg_one_C, PS.add_mul, PS.neg_mul, ← ek]
  have : PS.C c * ps V * ps A = ps V * ps Q * ps B + ps V * ps R := by
    rw [show PS.C c * ps V * ps A = ps V * (PS.C c * ps A) by ac_rfl, ← e, PS.mul_add]
    congr 1
    ac_rfl
  rw [this]
  generalize ps V * ps Q * ps B = x
  generalize ps V * ps R = y
  generalize ps U * ps B = w
  refine PS.ext fun k => ?_
  simp only [PS.c_add, PS.c_neg]
  omega
theorem dres_div (A B : List Int) : ps (dq A B) * ps B + ps (dr A B) = PS.C (lc B ^ dxp A B) * ps A := by
  have h := dres_eq (c := lc B) (L := lc B) (B := B) (dxp A B) ([], A)
  have e : ∀ n, PS.pw (PS.C (lc B)) n = PS.C (lc B ^ n) := fun n => by
    induction n with
    | zero => rw [PS.pw, Int.pow_zero, PS.C_one]
    | succ n ih => rw [PS.pw_add, PS.pw_one, ih, Int.pow_succ, PS.C_mul]
  rw [e] at h
  rw [dq, dr, h]
  show _ * (ps [] * ps B + ps A) = _
  rw [ps_nil, PS.zero_mul, PS.zero_add]
theorem lc_ne0 {B : List Int} (h : tz B ≠ 0) : lc B ≠ 0 := cf_tz_pred h
theorem lcp_ne {B : List Int} (h : tz B ≠ 0) (n : Nat) : lc B ^ n ≠ 0 := Int.pow_ne_zero (lc_ne0 h)
theorem drem_tz {A B : List Int} (h : tz B ≠ 0) : tz (dr A B) < tz B := dres_tz rfl h (Int.dvd_refl _) _ _ (by show tz A < tz B + dxp A B; unfold dxp; omega)
def eu : Nat → List Int → List Int → List Int
  | 0, A, _ => A
  | n + 1, A, B => if tz B = 0 then A else eu n B (npr (dr A B))
theorem eu_gg : ∀ (n : Nat) (A B : List Int), tz B ≤ n → GG (eu n A B) A B
  | 0, A, B, h => .zero (by omega)
  | n + 1, A, B, h => by
    rw [eu]
    split
    · rename_i h0; exact .zero h0
    · rename_i h0
      have ht := drem_tz (A := A) h0
      have ih := eu_gg n B (npr (dr A B)) (by rw [tz_npr]; omega)
      exact (ih.as (.refl _) (.refl _) (as_npr _).symm).step (lcp_ne h0 _) (dres_div A B)
theorem eu_nf : ∀ (n : Nat) (A B : List Int), Nf A → Nf B → Nf (eu n A B)
  | 0, A, B, h, _ => h
  | n + 1, A, B, h, h2 => by
    rw [eu]
    split
    · exact h
    · exact eu_nf n B _ h2 (nf_npr _)
def gcdp (A B : List Int) : List Int := eu (tz B) (npr A) (npr B)
theorem gcdp_gg (A B : List Int) : GG (gcdp A B) A B := (eu_gg (tz B) (npr A) (npr B) (by rw [tz_npr]; omega)).as (.refl _) (as_npr A).symm (as_npr B).symm
theorem gcdp_nf (A B : List Int) : Nf (gcdp A B) := eu_nf _ _ _ (nf_npr A) (nf_npr B)
theorem gcdp_eq {A B G : List Int} (h : GG G A B) (n : Nf G) : ps G = ps (gcdp A B) := h.uniq (gcdp_gg A B) n (gcdp_nf A B)
theorem gcdp_as {A A' B B' : List Int} (hA : As A A') (hB : As B B') : ps (gcdp A B) = ps (gcdp A' B') := gcdp_eq ((gcdp_gg A B).as (.refl _) hA hB) (gcdp_nf A B)
theorem dv_dr {A B : List Int} (h : tz B ≠ 0) : Dv B A ↔ tz (dr A B) = 0 := by
  have e := dres_div A B
  constructor
  · intro hd
    have h1 : Dv B (dr A B) := hd.lin (U := [lc B ^ dxp A B]) (V := pscale (-1) (dq A B)) (.refl B) (k := 1) (by decide) (by
      rw [ps_const, ← e, ps_pscale, PS.neg_one_C, PS.neg_mul, PS.C_one, PS.one_mul]
      generalize ps (dq A B) * ps B = x
      generalize ps (dr A B) = y
      refine PS.ext fun k => ?_
      simp only [PS.c_add, PS.c_neg]
      omega)
    by_cases h0 : tz (dr A B) = 0
    · exact h0
    · have := (dv_tz h1 h0).2
      have := drem_tz (A := A) h
      omega
  · intro h0
    exact ⟨_, dq A B, lcp_ne h _, by rw [← e, ps_zero_of h0, PS.add_zero]⟩
def quo (A B : List Int) : List Int := npr (dq A B)
theorem quo_nf (A B : List Int) : Nf (quo A B) := nf_npr _
theorem quo_as {A B S : List Int} {c : Int} (hB : tz B ≠ 0) (hc : c ≠ 0) (e : ps S * ps B = PS.C c * ps A) : As S (quo A B) := by
  have h0 := (dv_dr hB).mp ⟨c, S, hc, e⟩
  have e2 := dres_div A B
  rw [ps_zero_of h0, PS.add_zero] at e2
  refine As.trans ⟨lc B ^ dxp A B, c, lcp_ne hB _, hc, ?_⟩ (as_npr (dq A B))
  have : ps (pscale (lc B ^ dxp A B) S) = ps (pscale c (dq A B)) := ps_cancel (B := B) (by
    rw [ps_pscale, ps_pscale, PS.mul_assoc, PS.mul_assoc, e, e2]
    ac_rfl) hB
  rw [ps_pscale, ps_pscale] at this
  exact this
theorem quo_mul {A B : List Int} (hB : tz B ≠ 0) (h : Dv B A) : As A (pmul (quo A B) B) := by
  obtain ⟨c, S, hc, e⟩ := h
  obtain ⟨a, b, ha, hb, e2⟩ := quo_as hB hc e
  refine ⟨a * c, b, Int.mul_ne_zero ha hc, hb, ?_⟩
  rw [ps_pmul, ← PS.mul_assoc, ← e2, PS.mul_assoc, e, PS.C_mul, PS.mul_assoc]
theorem quo_tz {A B : List Int} (hB : tz B ≠ 0) (hA : tz A ≠ 0) (h : Dv B A) : tz (quo A B) + tz B = tz A + 1 ∧ tz (quo A B) ≠ 0 := by
  have e := as_tz (quo_mul hB h)
  have hq : tz (quo A B) ≠ 0 := fun h0 => hA (by rw [e]; exact tz_pmul_zero (.inl h0))
  rw [tz_pmul hq hB] at e
  exact ⟨by omega, hq⟩
def SBd (k : Nat) (q : List Int) : Prop := ∀ i, zl (cf q i) ≤ k
theorem SBd.mono {k m : Nat} {q : List Int} (h : SBd k q) (hk : k ≤ m) : SBd m q := fun i => Nat.le_trans (h i) hk
theorem sb_prim {k : Nat} {q : List Int} (h : SBd k q) : SBd k (prim q) := fun i => by
  by_cases hc : cont q = 0
  · rw [(prim_zero hc i).1, zl_zero]; omega
  · have := zl_div (cont_dvd q i)
    have e : cf (prim q) i = cf q i / cont q := cf_pdivs _ _ _
    rw [e]
    exact Nat.le_trans this (h i)
theorem sb_npr {k : Nat} {q : List Int} (h : SBd k q) : SBd k (npr q) := fun i => by
  rw [npr, cf_trimz]; exact sb_prim h i
theorem dres_sz {L : Int} {B : List Int} {b : Nat} (hL : L ≠ 0) (hB : SBd b B) (hl : zl L ≤ b) : ∀ (n r : Nat) (s : List Int × List Int), SBd r s.1 → SBd r s.2 → SBd (r + n * (b + 1)) (dres L L B n s).1 ∧ SBd (r + n * (b + 1)) (dres L L B n s).2
  | 0, r, s, h1, h2 => by rw [Nat.zero_mul, Nat.add_zero]; exact ⟨h1, h2⟩
  | n + 1, r, s, h1, h2 => by
    rw [dres]
    have hr : r + (n + 1) * (b + 1) = r + (b + 1) + n * (b + 1) := by rw [Nat.succ_mul]; omega
    rw [hr]
    have sc : ∀ q, SBd r q → SBd (r + b) (pscale L q) := fun q h i => by
      rw [cf_pscale]
      have := zl_mul (cf q i) L
      have := h i
      omega
    split
    · refine dres_sz hL hB hl n _ _ (fun i => ?_) (fun i => ?_)
      · show zl (cf (padd (pscale L s.1) (mono _ _)) i) ≤ _
        rw [cf_padd, cf_mono, Int.mul_ediv_cancel_left _ hL]
        have a1 := sc _ h1 i
        have a2 : zl (if i = tz s.2 - tz B then lc s.2 else 0) ≤ r := by
          split
          · exact h2 _
          · rw [zl_zero]; omega
        have := zl_add (cf (pscale L s.1) i) (if i = tz s.2 - tz B then lc s.2 else 0)
        omega
      · show zl (cf (padd (pscale L s.2) (pscale (-1) (pmul (mono _ _) B))) i) ≤ _
        rw [cf_padd, cf_pscale (-1), cf_mono_mul, Int.mul_ediv_cancel_left _ hL]
        have a1 := sc _ h2 i
        have a2 : zl ((if tz s.2 - tz B ≤ i then lc s.2 * cf B (i - (tz s.2 - tz B)) else 0) * -1) ≤ r + b := by
          rw [Int.mul_neg, Int.mul_one, zl_neg]
          split
          · have := zl_mul (lc s.2) (cf B (i - (tz s.2 - tz B)))
            have h3 : zl (lc s.2) ≤ r := h2 _
            have := hB (i - (tz s.2 - tz B))
            omega
          · rw [zl_zero]; omega
        have := zl_add (cf (pscale L s.2) i) ((if tz s.2 - tz B ≤ i then lc s.2 * cf B (i - (tz s.2 - tz B)) else 0) * -1)
        omega
    · exact dres_sz hL hB hl n _ _ ((sc _ h1).mono (by omega)) ((sc _ h2).mono (by omega))
theorem div_sz {A B : List Int} {a b : Nat} (hB0 : tz B ≠ 0) (hA : SBd a A) (hB : SBd b B) : SBd (a + dxp A B * (b + 1)) (dq A B) ∧ SBd (a + dxp A B * (b + 1)) (dr A B) :=
  dres_sz (lc_ne0 hB0) hB (hB _) _ _ _ (fun i => by rw [cf_nil, zl_zero]; omega) hA
def EZ (S : Nat) : Nat → Nat
  | 0 => S
  | 1 => 2 * S + 1
  | i + 2 => 2 * EZ S (i + 1) + EZ S i + 2
theorem EZ.succ (S : Nat) : ∀ i, EZ S i ≤ EZ S (i + 1)
  | 0 => by show S ≤ 2 * S + 1; omega
  | i + 1 => by show EZ S (i + 1) ≤ 2 * EZ S (i + 1) + EZ S i + 2; omega
theorem EZ.mono (S : Nat) {i j : Nat} (h : i ≤ j) : EZ S i ≤ EZ S j := by
  induction h with
  | refl => exact Nat.le_refl _
  | step _ ih => exact Nat.le_trans ih (EZ.succ S _)
theorem EZ.grow (S u : Nat) : ∀ d, EZ S u + (d + 2) * (EZ S (u + 1) + 1) ≤ EZ S (u + 2 + d)
  | 0 => by show _ ≤ 2 * EZ S (u + 1) + EZ S u + 2; omega
  | d + 1 => by
    have ih := EZ.grow S u d
    have h1 : EZ S (u + 1) ≤ EZ S (u + 1 + d) := EZ.mono S (by omega)
    have e : EZ S (u + 2 + (d + 1)) = 2 * EZ S (u + 1 + d + 1) + EZ S (u + 1 + d) + 2 := by
      rw [show u + 2 + (d + 1) = (u + 1 + d) + 2 by omega, EZ]
    rw [show u + 2 + d = u + 1 + d + 1 by omega] at ih
    rw [e, show d + 1 + 2 = (d + 2) + 1 by omega, Nat.succ_mul]
    omega
structure EI (D S : Nat) (X Y : List Int) : Prop where
  x : tz X ≤ D
  y : tz Y ≤ D
  s : (SBd S X ∧ SBd S Y) ∨ (tz Y < tz X ∧ SBd (EZ S (D - tz X)) X ∧ SBd (EZ S (D - tz X + 1)) Y)
theorem EI.bd {D S : Nat} {X Y : List Int} (h : EI D S X Y) : SBd (EZ S D) X ∧ SBd (EZ S D) Y := by
  rcases h.s with ⟨a, b⟩ | ⟨l, a, b⟩
  · have : S ≤ EZ S D := EZ.mono S (i := 0) (by omega)
    exact ⟨a.mono this, b.mono this⟩
  · have := h.x
    exact ⟨a.mono (EZ.mono S (by omega)), b.mono (EZ.mono S (by omega))⟩
theorem EI.step {D S : Nat} {X Y : List Int} (h : EI D S X Y) (h0 : tz Y ≠ 0) : EI D S Y (npr (dr X Y)) := by
  have ht := drem_tz (A := X) h0
  have hx := h.x
  have hy := h.y
  refine ⟨h.y, by rw [tz_npr]; omega, .inr ⟨by rw [tz_npr]; omega, ?_⟩⟩
  have norm : tz Y < tz X → SBd (EZ S (D - tz X)) X → SBd (EZ S (D - tz X + 1)) Y → SBd (EZ S (D - tz Y)) Y ∧ SBd (EZ S (D - tz Y + 1)) (npr (dr X Y)) := fun l a b => by
    refine ⟨b.mono (EZ.mono S (by omega)), sb_npr ((div_sz h0 a b).2.mono ?_)⟩
    have g := EZ.grow S (D - tz X) (tz X - tz Y - 1)
    rw [show tz X - tz Y - 1 + 2 = dxp X Y by unfold dxp; omega, show D - tz X + 2 + (tz X - tz Y - 1) = D - tz Y + 1 by omega] at g
    exact g
  rcases h.s with ⟨a, b⟩ | ⟨l, a, b⟩
  · by_cases l : tz Y < tz X
    · exact norm l (a.mono (EZ.mono S (i := 0) (by omega))) (b.mono (EZ.mono S (i := 0) (by omega)))
    · refine ⟨b.mono (EZ.mono S (i := 0) (by omega)), sb_npr ((div_sz h0 a b).2.mono ?_)⟩
      have g : EZ S 1 ≤ EZ S (D - tz Y + 1) := EZ.mono S (by omega)
      have e1 : EZ S 1 = 2 * S + 1 := rfl
      have hd : dxp X Y ≤ 1 := by unfold dxp; omega
      have := Nat.mul_le_mul_right (S + 1) hd
      omega
  · exact norm l a b
theorem EI.start {D S : Nat} {A B : List Int} (ha : tz A ≤ D) (hb : tz B ≤ D) (sa : SBd S A) (sb : SBd S B) : EI D S (npr A) (npr B) := ⟨by rw [tz_npr]; exact ha, by rw [tz_npr]; exact hb, .inl ⟨sb_npr sa, sb_npr sb⟩⟩
end Go.Proofs.YtenlbifnhdmnnaaGreat

namespace Go.Proofs.YtenlbifnhdmnnaaGreat
open Go Go.Proofs Go.AL
set_option linter.unusedSimpArgs false
set_option linter.unusedVariables false
theorem zl_pow {a : Int} {K : Nat} (h : zl a ≤ K) (i : Nat) : zl (a ^ i) ≤ i * K + 1 := by
  induction i with
  | zero => rw [Int.pow_zero]; have : zl 1 ≤ 1 := zl_le.mpr (by decide); omega
  | succ i ih =>
    rw [Int.pow_succ]
    have := zl_mul (a ^ i) a
    rw [Nat.succ_mul]
    omega
def ev : List Int → Int → Int
  | [], _ => 0
  | c :: p, t => c + t * ev p t
theorem zl_ev {K kt : Nat} {t : Int} (ht : zl t ≤ kt) : ∀ {p : List Int}, (∀ z ∈ p, zl z ≤ K) → zl (ev p t) ≤ K + p.length * (kt + 1)
  | [], _ => by rw [ev, zl_zero]; omega
  | c :: p, h => by
    have ih := zl_ev (p := p) ht fun z hz => h z (List.mem_cons_of_mem _ hz)
    have h1 := zl_add c (t * ev p t)
    have h2 := zl_mul t (ev p t)
    have h3 := h c (by simp)
    rw [ev, List.length_cons, Nat.succ_mul]
    omega
end Go.Proofs.YtenlbifnhdmnnaaGreat

namespace Go.Proofs.YtenlbifnhdmnnaaGreat
open Go Go.Proofs Go.AL
set_option linter.unusedSimpArgs false
set_option linter.unusedVariables false
def sdi (a : Int) : List Int → List Int
  | [] => []
  | c :: q => ev q a :: sdi a q
theorem evi_split (a x : Int) : ∀ p : List Int, ev p x = ev p a + (x - a) * ev (sdi a p) x
  | [] => by show (0 : Int) = 0 + (x - a) * 0; omega
  | c :: q => by
    have ih := evi_split a x q
    show c + x * ev q x = c + a * ev q a + (x - a) * (ev q a + x * ev (sdi a q) x)
    rw [ih]
    generalize ev q a = Q
    generalize ev (sdi a q) x = E
    grind
theorem cf_sdi (a : Int) : ∀ (p : List Int) (k : Nat), cf p k = (if k = 0 then ev p a else cf (sdi a p) (k - 1)) - a * cf (sdi a p) k
  | [], k => by
    show cf [] k = (if k = 0 then 0 else cf [] (k - 1)) - a * cf [] k
    rw [cf_nil, cf_nil]
    split <;> omega
  | c :: q, 0 => by
    show c = c + a * ev q a - a * ev q a
    omega
  | c :: q, k + 1 => by
    have ih := cf_sdi a q k
    rw [if_neg (by omega), Nat.add_sub_cancel]
    show cf q k = cf (ev q a :: sdi a q) k - a * cf (sdi a q) k
    rw [ih]
    congr 1
    cases k with
    | zero => rfl
    | succ k => rfl
theorem ev_zero {a : Int} : ∀ {p : List Int}, (∀ k, cf p k = 0) → ev p a = 0
  | [], _ => rfl
  | c :: q, h => by
    have h0 : c = 0 := h 0
    rw [ev, ev_zero (p := q) fun k => h (k + 1), h0]
    omega
theorem sdi_low {a : Int} : ∀ (p : List Int) {n : Nat}, (∀ k, n + 1 ≤ k → cf p k = 0) → ∀ k, n ≤ k → cf (sdi a p) k = 0
  | [], n, _, k, _ => cf_nil k
  | c :: q, 0, h, 0, _ => ev_zero fun k => h (k + 1) (by omega)
  | c :: q, n + 1, h, 0, hk => absurd hk (by omega)
  | c :: q, 0, h, k + 1, _ => sdi_low q (n := 0) (fun j hj => h (j + 1) (by omega)) k (by omega)
  | c :: q, n + 1, h, k + 1, hk => sdi_low q (n := n) (fun j hj => h (j + 1) (by omega)) k (by omega)
theorem zl_le_mul {z y : Int} (hz : z ≠ 0) : zl y ≤ zl (z * y) := by
  have h : zl (z * y) ≤ zl (z * y) := Nat.le_refl _
  have h1 := zl_le.mp h
  refine zl_le.mpr (Nat.lt_of_le_of_lt ?_ h1)
  rw [Int.natAbs_mul]
  exact Nat.le_mul_of_pos_left _ (Int.natAbs_pos.mpr hz)
theorem vals_sz : ∀ (l : List Int) (g : List Int) (m : Nat), l.Nodup → (∀ k, l.length ≤ k → cf g k = 0) → (∀ a ∈ l, zl a ≤ 1 ∧ zl (ev g a) ≤ m) → SBd (m + 4 * l.length) g
  | [], g, m, _, h, _ => fun i => by rw [h i (Nat.zero_le _), zl_zero]; omega
  | a :: l, g, m, hd, h, hv => by
    have hd' := List.nodup_cons.mp hd
    obtain ⟨va1, va2⟩ := hv a (by simp)
    have ih := vals_sz l (sdi a g) (m + 1) hd'.2 (fun k hk => sdi_low g (n := l.length) (fun j hj => h j (by rw [List.length_cons]; omega)) k hk) fun b hb => by
      obtain ⟨vb1, vb2⟩ := hv b (by simp [hb])
      refine ⟨vb1, ?_⟩
      have hne : b - a ≠ 0 := fun e => hd'.1 (by rw [show a = b by omega]; exact hb)
      have e := evi_split a b g
      have e2 : (b - a) * ev (sdi a g) b = ev g b + -(ev g a) := by omega
      have h1 := zl_le_mul (y := ev (sdi a g) b) hne
      rw [e2] at h1
      have h2 := zl_add (ev g b) (-(ev g a))
      rw [zl_neg] at h2
      omega
    intro i
    rw [cf_sdi a g i, Int.sub_eq_add_neg, List.length_cons]
    have h1 := zl_mul a (cf (sdi a g) i)
    have h2 := ih i
    have h3 : zl (if i = 0 then ev g a else cf (sdi a g) (i - 1)) ≤ m + 1 + 4 * l.length := by
      split
      · omega
      · exact ih _
    have h4 := zl_add (if i = 0 then ev g a else cf (sdi a g) (i - 1)) (-(a * cf (sdi a g) i))
    rw [zl_neg] at h4
    omega
theorem roots_all : ∀ (l : List Int) (p : List Int), l.Nodup → (∀ k, l.length ≤ k → cf p k = 0) → (∀ a ∈ l, ev p a = 0) → ∀ k, cf p k = 0
  | [], p, _, h, _, k => h k (Nat.zero_le _)
  | a :: l, p, hd, h, hv, k => by
    have hd' := List.nodup_cons.mp hd
    have va := hv a (by simp)
    have ih := roots_all l (sdi a p) hd'.2 (fun k hk => sdi_low p (n := l.length) (fun j hj => h j (by rw [List.length_cons]; omega)) k hk) fun b hb => by
      have vb := hv b (by simp [hb])
      have hne : b - a ≠ 0 := fun e => hd'.1 (by rw [show a = b by omega]; exact hb)
      have e := evi_split a b p
      rw [va, vb, Int.zero_add] at e
      exact (Int.mul_eq_zero.mp e.symm).resolve_left hne
    rw [cf_sdi a p k, ih k, va]
    split
    · omega
    · rw [ih]; omega
theorem filter_two {α : Type} (f : α → Bool) : ∀ l : List α, (l.filter f).length + (l.filter fun x => !f x).length = l.length
  | [] => rfl
  | x :: l => by
    have ih := filter_two f l
    cases hx : f x <;> simp [hx] <;> omega
def ipts (n : Nat) : List Int := (List.range n).map fun (i : Nat) => (i : Int)
theorem ipts_nodup (n : Nat) : (ipts n).Nodup := by
  unfold ipts
  refine List.Pairwise.map _ (fun a b (h : a ≠ b) => ?_) List.nodup_range
  intro e
  exact h (Int.ofNat.inj e)
theorem pts_ex {p : List Int} {n : Nat} (h0 : tz p ≠ 0) (hn : tz p ≤ n) (hn2 : n ≤ 10000) : ∃ l : List Int, l.Nodup ∧ n ≤ l.length ∧ l.length ≤ 2 * n ∧ ∀ a ∈ l, zl a ≤ 1 ∧ ev p a ≠ 0 := by
  have hl : (ipts (2 * n)).length = 2 * n := by simp [ipts]
  have h2 := filter_two (fun a => decide (ev p a = 0)) (ipts (2 * n))
  have hr : ((ipts (2 * n)).filter fun a => decide (ev p a = 0)).length < n := by
    refine Nat.lt_of_not_le fun hge => h0 (tz_zero_iff.mpr ?_)
    exact roots_all ((ipts (2 * n)).filter fun a => decide (ev p a = 0)) p ((ipts_nodup _).filter _) (fun k hk => cf_ge_tz p (by omega)) fun a ha => by
      have := (List.mem_filter.mp ha).2
      simpa using this
  refine ⟨(ipts (2 * n)).filter fun a => !decide (ev p a = 0), (ipts_nodup _).filter _, by omega, by omega, fun a ha => ?_⟩
  obtain ⟨m1, m2⟩ := List.mem_filter.mp ha
  refine ⟨?_, by simpa using m2⟩
  obtain ⟨i, hi, rfl⟩ := List.mem_map.mp m1
  have := List.mem_range.mp hi
  refine zl_le.mpr ?_
  rw [Nat.pow_one, Int.natAbs_natCast]
  simp only [W]
  omega
theorem ev_ext {p q : List Int} (a : Int) (h : ∀ k, cf p k = cf q k) : ev p a = ev q a := by
  have key : ∀ p q : List Int, (∀ k, cf p k = cf q k) → ev p a = ev q a := by
    intro p
    induction p with
    | nil => intro q hq; exact (ev_zero fun k => by rw [← hq]; exact cf_nil k).symm
    | cons c p ih =>
      intro q hq
      cases q with
      | nil => exact ev_zero fun k => hq k
      | cons d q =>
        have h0 : c = d := hq 0
        rw [ev, ev, ih q fun k => hq (k + 1), h0]
  exact key p q h
theorem ev_padd (a : Int) : ∀ p q : List Int, ev (padd p q) a = ev p a + ev q a := by
  intro p
  induction p with
  | nil =>
    intro q
    rw [ev_ext (p := padd [] q) (q := q) a fun k => by rw [cf_padd, cf_nil, Int.zero_add]]
    show _ = 0 + _
    omega
  | cons c p ih =>
    intro q
    cases q with
    | nil =>
      rw [ev_ext (p := padd (c :: p) []) (q := c :: p) a fun k => by rw [cf_padd, cf_nil, Int.add_zero]]
      show _ = _ + 0
      omega
    | cons d q =>
      rw [ev_ext (p := padd (c :: p) (d :: q)) (q := (c + d) :: padd p q) a fun k => by
        cases k with
        | zero => rw [cf_padd]; rfl
        | succ k => rw [cf_padd]; exact (cf_padd p q k).symm]
      rw [ev, ev, ev, ih, Int.mul_add]
      omega
theorem ev_pscale (a c : Int) (p : List Int) : ev (pscale c p) a = ev p a * c := by
  induction p with
  | nil => show (0 : Int) = 0 * c; omega
  | cons x p ih =>
    show x * c + a * ev (pscale c p) a = (x + a * ev p a) * c
    rw [ih, Int.add_mul, Int.mul_assoc]
theorem ev_pmul (a : Int) : ∀ p q : List Int, ev (pmul p q) a = ev p a * ev q a := by
  intro p
  induction p with
  | nil =>
    intro q
    rw [ev_zero fun k => by rw [cf_pmul]; rfl]
    show (0 : Int) = 0 * _
    omega
  | cons x p ih =>
    intro q
    rw [ev_ext (p := pmul (x :: p) q) (q := padd (pscale x q) (0 :: pmul p q)) a fun k => by
      rw [cf_pmul_cons, cf_padd, cf_pscale, Int.mul_comm]
      congr 1
      cases k with
      | zero => rfl
      | succ k => rfl]
    rw [ev_padd, ev_pscale]
    show _ + (0 + a * ev (pmul p q) a) = (x + a * ev p a) * ev q a
    rw [ih, Int.add_mul, Int.mul_comm x, Int.mul_assoc]
    omega
theorem factor_sz {p g s : List Int} {n S : Nat} (h0 : tz p ≠ 0) (hn : tz p ≤ n) (hn2 : n ≤ 10000) (hS : SBd S p) (e : ps s * ps g = ps p) : SBd (S + 10 * n) g := by
  obtain ⟨l, l1, l2, l3, l4⟩ := pts_ex h0 hn hn2
  have ht : tz (pmul s g) = tz p := tz_of_ps (by rw [ps_pmul, e])
  have hs : tz s ≠ 0 := fun h => h0 (by rw [← ht]; exact tz_pmul_zero (.inl h))
  have hg : tz g ≠ 0 := fun h => h0 (by rw [← ht]; exact tz_pmul_zero (.inr h))
  rw [tz_pmul hs hg] at ht
  refine SBd.mono (vals_sz l g (S + 2 * n) l1 (fun k hk => cf_ge_tz g (by omega)) fun a ha => ⟨(l4 a ha).1, ?_⟩) (by omega)
  have h1 : ev p a = ev s a * ev g a := by
    rw [← ev_pmul]
    exact ev_ext a (ps_eq (by rw [ps_pmul, e]))
  have h2 : ev s a ≠ 0 := fun h => (l4 a ha).2 (by rw [h1, h, Int.zero_mul])
  have h3 := zl_le_mul (y := ev g a) h2
  rw [← h1] at h3
  have h4 : zl (ev p a) ≤ S + 2 * n := by
    rw [ev_ext (p := p) (q := trimz p) a fun k => (cf_trimz p k).symm]
    have h5 := zl_ev (l4 a ha).1 (K := S) (p := trimz p) fun z hz => by
      obtain ⟨i, hi, rfl⟩ := List.getElem_of_mem hz
      have := hS i
      rw [← cf_trimz p i] at this
      simpa [cf, List.getD, hi] using this
    rw [trimz_len] at h5
    omega
  omega
theorem dv_int {g p : List Int} (hg : Prm g) (h : Dv g p) : ∃ s, ps s * ps g = ps p := by
  obtain ⟨c, S, hc, e⟩ := h
  have hc1 : cont (pscale c p) = cont S := by
    have h1 : cont (pmul S g) = cont (pscale c p) := by
      have e2 : ∀ k, cf (pmul S g) k = cf (pscale c p) k := ps_eq (by rw [ps_pmul, ps_pscale, e])
      unfold cont lc
      rw [gz_eq e2, tz_eq_of_cf e2, e2]
    rw [← h1, cont_mul, (prm_self hg).1, Int.mul_one]
  have hd : ∀ k, c ∣ cf S k := fun k => by
    have h1 : c ∣ cont S := by
      rw [← hc1]
      refine Int.dvd_natAbs.mp ?_
      rw [cont_natAbs]
      refine Int.natAbs_dvd.mp (Int.natCast_dvd_natCast.mpr ?_)
      exact gz_greatest _ _ fun k => by
        rw [cf_pscale]
        exact Int.natAbs_dvd.mpr (Int.dvd_mul_left _ _)
    exact Int.dvd_trans h1 (cont_dvd S k)
  refine ⟨pdivs c S, C_cancel hc ?_⟩
  rw [← PS.mul_assoc, ← e]
  congr 1
  refine PS.ext fun k => ?_
  rw [PS.C_mul_c, ps_c, ps_c, cf_pdivs, Int.mul_ediv_cancel' (hd k)]
theorem nf_prm {A : List Int} (h : Nf A) (h0 : tz A ≠ 0) : Prm A := h.resolve_left h0
theorem dv_sz {p g : List Int} {n S : Nat} (h0 : tz p ≠ 0) (hn : tz p ≤ n) (hn2 : n ≤ 10000) (hS : SBd S p) (hg : Nf g) (h : Dv g p) : SBd (S + 10 * n) g := by
  obtain ⟨s, e⟩ := dv_int (nf_prm hg (dv_tz h h0).1) h
  exact factor_sz h0 hn hn2 hS e
end Go.Proofs.YtenlbifnhdmnnaaGreat

namespace Go.Proofs.YtenlbifnhdmnnaaGreat
open Go Go.Proofs Go.AL
set_option linter.unusedSimpArgs false
set_option linter.unusedVariables false
theorem pv_cnt {X : List Int} (h : trimz X = X) : pv (cn X) = X := by unfold cn; rw [pv_canon, h]
theorem rp_sb {D k : Nat} {q : List Int} (ht : tz q ≤ D) (h : SBd k q) : RP D k (cn q) := RP.canon (.of (by rw [trimz_len]; exact ht) fun i => by rw [cf_trimz]; exact h i)
theorem sb_rp {n k : Nat} {p : List RI} (h : RP n k p) : SBd k (pv p) := fun i => h.pv.cf i
theorem tz_rp {n k : Nat} {p : List RI} (h : RP n k p) : tz (pv p) ≤ n := Nat.le_trans (tz_le _) h.pv.1
theorem pprim_n {a : List RI} {q : List Int} (ha : RP (2 ^ 30) (2 ^ 35) a) (e : ps (pv a) = ps q) : AC Tryz.prog 55 [cw a] none [cp (npr q)] := by
  have h := pprim_g ha e
  rwa [cp_npr] at h
theorem pdeg_n {a : List RI} {q : List Int} (ha : RP (2 ^ 40) (2 ^ 40) a) (e : ps (pv a) = ps q) : AC Tryz.prog 54 [cw a] none [ci ((tz q : Int) - 1)] := by
  have h := pdeg_ok a ha
  rwa [tz_of_ps e] at h
theorem polys_snoc (L : List (List RI)) (x : List RI) : polys L ++ [[.sl (raws x)]] = polys (L ++ [x]) := by simp [polys]
theorem dq_tz {A B : List Int} (hB : tz B ≠ 0) : tz (dq A B) ≤ dxp A B := by
  have e := dres_div A B
  by_cases h0 : tz (dq A B) = 0
  · omega
  have ht := drem_tz (A := A) hB
  have hm := tz_pmul h0 hB
  refine Nat.le_of_not_lt fun hlt => ?_
  have hA : tz (pscale (lc B ^ dxp A B) A) = tz A := tz_pscale (lcp_ne hB _) A
  have e2 : ps (padd (pmul (dq A B) B) (dr A B)) = ps (pscale (lc B ^ dxp A B) A) := by rw [ps_padd, ps_pmul, ps_pscale, e]
  have h1 : cf (padd (pmul (dq A B) B) (dr A B)) (tz (dq A B) + tz B - 2) ≠ 0 := by
    rw [cf_padd, cf_ge_tz (dr A B) (by omega), Int.add_zero]
    have := cf_tz_pred (q := pmul (dq A B) B) (by omega)
    rwa [hm, show tz (dq A B) + tz B - 1 - 1 = tz (dq A B) + tz B - 2 by omega] at this
  rw [ps_eq e2] at h1
  refine h1 (cf_ge_tz _ ?_)
  rw [hA]
  unfold dxp at hlt
  omega
def prl : Nat → List Int → List Int → List (List Int)
  | 0, X, _ => [X]
  | n + 1, X, Y => if tz Y = 0 then [X] else X :: prl n Y (npr (dr X Y))
theorem prl_last : ∀ (n : Nat) (X Y : List Int), ∃ L, prl n X Y = L ++ [eu n X Y]
  | 0, X, Y => ⟨[], rfl⟩
  | n + 1, X, Y => by
    rw [prl, eu]
    split
    · exact ⟨[], rfl⟩
    · obtain ⟨L, e⟩ := prl_last n Y (npr (dr X Y))
      exact ⟨X :: L, by rw [e]; rfl⟩
theorem prl_len : ∀ (n : Nat) (X Y : List Int), (prl n X Y).length ≤ n + 1
  | 0, X, Y => by simp [prl]
  | n + 1, X, Y => by
    rw [prl]
    split
    · simp
    · have := prl_len n Y (npr (dr X Y))
      rw [List.length_cons]; omega
set_option maxRecDepth 100000 in
theorem prims_ok (p q : List RI) (D S : Nat) (hp : RP 40 S p) (hq : RP 40 S q) (tp : tz (pv p) ≤ D) (tq : tz (pv q) ≤ D) (hD : D ≤ 40) (hE : EZ S D ≤ 2 ^ 27) (h1 : tz (pv p) ≠ 0) (h2 : tz (pv q) ≠ 0) :
    AC Tryz.prog 56 [cw p, cw q] none [.iv (.sl (polys ((prl (tz (pv q)) (npr (pv p)) (npr (pv q))).map cn))), ci 0] := by
  have hS : S ≤ 2 ^ 27 := Nat.le_trans (EZ.mono S (i := 0) (by omega)) hE
  have n1 := pnone_ok p (hp.mono (by omega) (by omega))
  have n2 := pnone_ok q (hq.mono (by omega) (by omega))
  rw [decide_eq_false h1] at n1
  rw [decide_eq_false h2] at n2
  have pp := pprim_n (a := p) (hp.mono (by omega) (by omega)) rfl
  have pq := pprim_n (a := q) (hq.mono (by omega) (by omega)) rfl
  have ei0 : EI D S (npr (pv p)) (npr (pv q)) := EI.start tp tq (sb_rp hp) (sb_rp hq)
  have t0 := npr_trim (pv p)
  have t0' := npr_trim (pv q)
  have ht := tz_npr (pv q)
  generalize npr (pv p) = X0 at *
  generalize npr (pv q) = Y0 at *
  rw [← ht]
  refine AC.by_walk (rs := [.tmp 4, .tmp 5]) ords Tryz.func56 (by rfl) (by rfl) (by rfl) (by rfl) (by rfl) ?_
  simp (disch := omega) only [wk, tis, seval, reduceCtorEq, Nat.reduceEqDiff, cpoly_len, polys_len]
  refine call_by (n1) (by rfl) (by simp) ?_
  simp (disch := omega) only [wk, tis, seval, reduceCtorEq, Nat.reduceEqDiff, cpoly_len, polys_len]
  refine call_by (n2) (by rfl) (by simp) ?_
  simp (disch := omega) only [wk, tis, seval, reduceCtorEq, Nat.reduceEqDiff, cpoly_len, polys_len]
  refine call_by (pp) (by rfl) (by simp) ?_
  simp (disch := omega) only [wk, tis, seval, reduceCtorEq, Nat.reduceEqDiff, cpoly_len, polys_len]
  refine call_by (pq) (by rfl) (by simp) ?_
  simp (disch := omega) only [wk, tis, seval, reduceCtorEq, Nat.reduceEqDiff, cpoly_len, polys_len]
  refine aloop_by (fun f H => ∃ (n st : Nat) (L : List (List Int)) (X Y : List Int), L ++ prl n X Y = prl (tz Y0) X0 Y0 ∧ tz Y ≤ n ∧ trimz X = X ∧ trimz Y = Y ∧ EI D S X Y ∧ L.length + n ≤ 40 ∧ f 7 = .iv (.sl (cpoly Y)) ∧ f 6 = .hs 18 st ∧ H 18 = .blk false st 23 1 (polys ((L ++ [X]).map cn))) (fun f H => match f 7 with | .iv (.sl l) => l.length | _ => 0) ?_ ?_
  · refine ⟨tz Y0, 1, [], X0, Y0, rfl, by omega, t0, t0', ei0, by simp only [List.length_nil]; omega, ?_⟩
    simp (disch := omega) only [wk, tis, seval, reduceCtorEq, Nat.reduceEqDiff, cpoly_len, polys_len]
    try rfl
  rintro f H ⟨n, st, L, X, Y, hL, hn, tX, tY, ei, hl, g7, g6, h6⟩
  have hmu : (match f 7 with | .iv (.sl l) => l.length | _ => 0) = tz Y := by rw [g7]; simp only []; rw [cpoly_len]
  rw [hmu]
  obtain ⟨sX, sY⟩ := ei.bd
  have rX := rp_sb ei.x sX
  have rY := rp_sb ei.y sY
  have nn := pnone_ok (cn Y) (rY.mono (by omega) (by omega))
  rw [pv_cnt tY] at nn
  by_cases h0 : tz Y = 0
  · rw [decide_eq_true h0] at nn
    have e : prl n X Y = [X] := by
      cases n with
      | zero => rfl
      | succ n => rw [prl, if_pos h0]
    rw [e] at hL
    rw [hL] at h6
    simp (disch := omega) only [wk, tis, seval, reduceCtorEq, Nat.reduceEqDiff, cpoly_len, polys_len, g7, g6, h6]
    refine call_by (nn) (by first | rfl | (simp only [tocvs, tocv, g7, g6, h6]; rfl) | (simp only [tocvs, tocv, toboxes, tobox, updH_at, Nat.reduceEqDiff, ↓reduceIte, g7, g6, h6]; rfl)) (by simp) ?_
    simp (disch := omega) only [wk, tis, seval, reduceCtorEq, Nat.reduceEqDiff, cpoly_len, polys_len, g7, g6, h6]
    try rfl
  · rw [decide_eq_false h0] at nn
    obtain ⟨m, rfl⟩ : ∃ m, n = m + 1 := ⟨n - 1, by omega⟩
    have rm := prem_ok (cn X) (cn Y) (rX.mono (by omega) hE) (rY.mono (by omega) hE) (by rw [pv_cnt tY]; exact h0)
    rw [pv_cnt tX, pv_cnt tY] at rm
    have ei' := ei.step h0
    have dsz := (div_sz h0 sX sY).2
    have hdx : dxp X Y ≤ 41 := by unfold dxp; have := ei.x; omega
    have hdm : dxp X Y * (EZ S D + 1) ≤ 41 * (EZ S D + 1) := Nat.mul_le_mul_right _ hdx
    have dtz := drem_tz (A := X) h0
    have hey := ei.y
    have pr := pprim_n (a := cn (dr X Y)) (q := dr X Y) ((rp_sb (D := 40) (k := 2 ^ 35) (by omega) (dsz.mono (by omega))).mono (by omega) (by omega)) (ps_cn _)
    have hsn : polys ((L ++ [X]).map cn) ++ [[.sl (cpoly Y)]] = polys ((L ++ [X] ++ [Y]).map cn) := by
      rw [List.map_append (l₁ := L ++ [X])]; exact polys_snoc _ _
    have hln : ((L ++ [X]).map cn).length = L.length + 1 := by simp
    have hln2 : ((L ++ [X] ++ [Y]).map cn).length = L.length + 2 := by simp
    have hgt : (polys ((L ++ [X] ++ [Y]).map cn)).getD L.length [] = [.sl (cpoly X)] := by
      rw [polys_at (by rw [hln2]; omega)]
      simp [List.getD]
      rfl
    have e2 : ((L.length + 2 : Nat) : Int) - 2 = (L.length : Int) := by omega
    have htz := tz_npr (dr X Y)
    simp (disch := omega) only [wk, tis, seval, reduceCtorEq, Nat.reduceEqDiff, cpoly_len, polys_len, g7, g6, h6, hln, hsn, hln2]
    refine call_by (nn) (by first | rfl | (simp only [tocvs, tocv, g7, g6, h6, hln, hsn, hln2, e2, hgt]; rfl) | (simp only [tocvs, tocv, toboxes, tobox, updH_at, Nat.reduceEqDiff, ↓reduceIte, g7, g6, h6, hln, hsn, hln2, e2, hgt]; rfl)) (by simp) ?_
    simp (disch := omega) only [wk, tis, seval, reduceCtorEq, Nat.reduceEqDiff, cpoly_len, polys_len, g7, g6, h6, hln, hsn, hln2, e2, hgt]
    refine call_by (rm) (by first | rfl | (simp only [tocvs, tocv, g7, g6, h6, hln, hsn, hln2, e2, hgt]; rfl) | (simp only [tocvs, tocv, toboxes, tobox, updH_at, Nat.reduceEqDiff, ↓reduceIte, g7, g6, h6, hln, hsn, hln2, e2, hgt]; rfl)) (by simp) ?_
    simp (disch := omega) only [wk, tis, seval, reduceCtorEq, Nat.reduceEqDiff, cpoly_len, polys_len, g7, g6, h6, hln, hsn, hln2, e2, hgt]
    refine call_by (pr) (by first | rfl | (simp only [tocvs, tocv, g7, g6, h6, hln, hsn, hln2, e2, hgt]; rfl) | (simp only [tocvs, tocv, toboxes, tobox, updH_at, Nat.reduceEqDiff, ↓reduceIte, g7, g6, h6, hln, hsn, hln2, e2, hgt]; rfl)) (by simp) ?_
    simp (disch := omega) only [wk, tis, seval, reduceCtorEq, Nat.reduceEqDiff, cpoly_len, polys_len, g7, g6, h6, hln, hsn, hln2, e2, hgt]
    refine ⟨⟨m, st + 1, L ++ [X], Y, npr (dr X Y), ?_, by omega, tY, npr_trim _, ei', by simp only [List.length_append, List.length_singleton]; omega, ?_⟩, ?_⟩
    · rw [← hL, prl, if_neg h0]; simp
    · try (repeat' apply And.intro) <;> first | rfl | omega
    · omega
theorem gcdp_l0 {A B : List Int} (h : tz A = 0) : ps (npr B) = ps (gcdp A B) := gcdp_eq ((GG.zero h).symm.as (as_npr B) (.refl _) (.refl _)) (nf_npr B)
theorem gcdp_r0 {A B : List Int} (h : tz B = 0) : ps (npr A) = ps (gcdp A B) := gcdp_eq ((GG.zero h).as (as_npr A) (.refl _) (.refl _)) (nf_npr A)
theorem pgcd_ok (p q : List RI) (D S : Nat) (hp : RP 40 S p) (hq : RP 40 S q) (tp : tz (pv p) ≤ D) (tq : tz (pv q) ≤ D) (hD : D ≤ 40) (hE : EZ S D ≤ 2 ^ 27) :
    AC Tryz.prog 22 [cw p, cw q] none [cp (gcdp (pv p) (pv q))] := by
  have hS : S ≤ 2 ^ 27 := Nat.le_trans (EZ.mono S (i := 0) (by omega)) hE
  have d1 := pdeg_ok p (hp.mono (by omega) (by omega))
  have d2 := pdeg_ok q (hq.mono (by omega) (by omega))
  by_cases h1 : tz (pv p) = 0
  · have pr := pprim_n (a := q) (q := pv q) (hq.mono (by omega) (by omega)) rfl
    rw [cp_ps (gcdp_l0 h1)] at pr
    rw [h1] at d1
    refine AC.by_walk (rs := [.tmp 4]) ords Tryz.func22 (by rfl) (by rfl) (by rfl) (by rfl) (by rfl) ?_
    simp (disch := omega) only [wk, tis, seval, reduceCtorEq, Nat.reduceEqDiff, cpoly_len, polys_len]
    refine call_by (d1) (by rfl) (by simp) ?_
    simp (disch := omega) only [wk, tis, seval, reduceCtorEq, Nat.reduceEqDiff, cpoly_len, polys_len]
    refine call_by (pr) (by rfl) (by simp) ?_
    simp (disch := omega) only [wk, tis, seval, reduceCtorEq, Nat.reduceEqDiff, cpoly_len, polys_len]
    try rfl
  have h1' : ¬ (tz (pv p) : Int) - 1 < 0 := by omega
  by_cases h2 : tz (pv q) = 0
  · have pr := pprim_n (a := p) (q := pv p) (hp.mono (by omega) (by omega)) rfl
    rw [cp_ps (gcdp_r0 h2)] at pr
    rw [h2] at d2
    refine AC.by_walk (rs := [.tmp 4]) ords Tryz.func22 (by rfl) (by rfl) (by rfl) (by rfl) (by rfl) ?_
    simp (disch := omega) only [wk, tis, seval, reduceCtorEq, Nat.reduceEqDiff, cpoly_len, polys_len]
    refine call_by (d1) (by first | rfl | (simp only [tocvs, tocv, h1']; rfl) | (simp only [tocvs, tocv, toboxes, tobox, updH_at, Nat.reduceEqDiff, ↓reduceIte, h1']; rfl)) (by simp) ?_
    simp (disch := omega) only [wk, tis, seval, reduceCtorEq, Nat.reduceEqDiff, cpoly_len, polys_len, h1']
    refine call_by (d2) (by first | rfl | (simp only [tocvs, tocv, h1']; rfl) | (simp only [tocvs, tocv, toboxes, tobox, updH_at, Nat.reduceEqDiff, ↓reduceIte, h1']; rfl)) (by simp) ?_
    simp (disch := omega) only [wk, tis, seval, reduceCtorEq, Nat.reduceEqDiff, cpoly_len, polys_len, h1']
    refine call_by (pr) (by rfl) (by simp) ?_
    simp (disch := omega) only [wk, tis, seval, reduceCtorEq, Nat.reduceEqDiff, cpoly_len, polys_len]
    try rfl
  have h2' : ¬ (tz (pv q) : Int) - 1 < 0 := by omega
  have pl := prims_ok p q D S hp hq tp tq hD hE h1 h2
  obtain ⟨L, hL⟩ := prl_last (tz (pv q)) (npr (pv p)) (npr (pv q))
  have hll := prl_len (tz (pv q)) (npr (pv p)) (npr (pv q))
  rw [hL] at pl hll
  rw [show eu (tz (pv q)) (npr (pv p)) (npr (pv q)) = gcdp (pv p) (pv q) from rfl] at pl
  simp only [List.length_append, List.length_singleton] at hll
  have hln : ((L ++ [gcdp (pv p) (pv q)]).map cn).length = L.length + 1 := by simp
  have hgt : (polys ((L ++ [gcdp (pv p) (pv q)]).map cn)).getD L.length [] = [.sl (cpoly (gcdp (pv p) (pv q)))] := by
    rw [polys_at (by rw [hln]; omega)]
    simp [List.getD]
    rfl
  have e2 : ((L.length + 1 : Nat) : Int) - 1 = (L.length : Int) := by omega
  refine AC.by_walk (rs := [.tmp 4]) ords Tryz.func22 (by rfl) (by rfl) (by rfl) (by rfl) (by rfl) ?_
  simp (disch := omega) only [wk, tis, seval, reduceCtorEq, Nat.reduceEqDiff, cpoly_len, polys_len]
  refine call_by (d1) (by first | rfl | (simp only [tocvs, tocv, h1']; rfl) | (simp only [tocvs, tocv, toboxes, tobox, updH_at, Nat.reduceEqDiff, ↓reduceIte, h1']; rfl)) (by simp) ?_
  simp (disch := omega) only [wk, tis, seval, reduceCtorEq, Nat.reduceEqDiff, cpoly_len, polys_len, h1']
  refine call_by (d2) (by first | rfl | (simp only [tocvs, tocv, h2']; rfl) | (simp only [tocvs, tocv, toboxes, tobox, updH_at, Nat.reduceEqDiff, ↓reduceIte, h2']; rfl)) (by simp) ?_
  simp (disch := omega) only [wk, tis, seval, reduceCtorEq, Nat.reduceEqDiff, cpoly_len, polys_len, h2']
  refine call_by (pl) (by first | rfl | (simp only [tocvs, tocv, hln, e2, hgt]; rfl) | (simp only [tocvs, tocv, toboxes, tobox, updH_at, Nat.reduceEqDiff, ↓reduceIte, hln, e2, hgt]; rfl)) (by simp) ?_
  simp (disch := omega) only [wk, tis, seval, reduceCtorEq, Nat.reduceEqDiff, cpoly_len, polys_len, hln, e2, hgt]
  try rfl
theorem pgcd_g {p q : List RI} {A B : List Int} (D S : Nat) (hp : RP 40 S p) (hq : RP 40 S q) (ea : ps (pv p) = ps A) (eb : ps (pv q) = ps B) (tp : tz A ≤ D) (tq : tz B ≤ D) (hD : D ≤ 40) (hE : EZ S D ≤ 2 ^ 27) :
    AC Tryz.prog 22 [cw p, cw q] none [cp (gcdp A B)] := by
  have h := pgcd_ok p q D S hp hq (by rw [tz_of_ps ea]; exact tp) (by rw [tz_of_ps eb]; exact tq) hD hE
  rwa [cp_ps (gcdp_as (.of_ps ea) (.of_ps eb))] at h
theorem quo_congr {A A' B B' : List Int} (hB : tz B ≠ 0) (hd : Dv B A) (ea : ps A = ps A') (eb : ps B = ps B') : ps (quo A B) = ps (quo A' B') := by
  obtain ⟨c, S, hc, e⟩ := hd
  have h1 := quo_as hB hc e
  have h2 := quo_as (A := A') (B := B') (S := S) (by rw [← tz_of_ps eb]; exact hB) hc (by rw [← eb, ← ea]; exact e)
  exact (h1.symm.trans h2).uniq (quo_nf A B) (quo_nf A' B')
theorem pquot_ok (p q : List RI) (hp : RP 40 (2 ^ 27) p) (hq : RP 40 (2 ^ 27) q) (h0 : tz (pv q) ≠ 0) : AC Tryz.prog 58 [cw p, cw q] none [cp (quo (pv p) (pv q))] := by
  have dv := pdiv_ok p q hp hq h0
  have s := (div_sz h0 (sb_rp hp) (sb_rp hq)).1
  have tp := tz_rp hp
  have t := dq_tz (A := pv p) h0
  have hdx : dxp (pv p) (pv q) ≤ 41 := by unfold dxp; omega
  have hdm : dxp (pv p) (pv q) * (2 ^ 27 + 1) ≤ 41 * (2 ^ 27 + 1) := Nat.mul_le_mul_right _ hdx
  have pr := pprim_n (a := cn (dq (pv p) (pv q))) (q := dq (pv p) (pv q)) ((rp_sb (D := 41) (k := 2 ^ 35) (by omega) (s.mono (by omega))).mono (by omega) (by omega)) (ps_cn _)
  refine AC.by_walk (rs := [.tmp 4]) ords Tryz.func58 (by rfl) (by rfl) (by rfl) (by rfl) (by rfl) ?_
  simp (disch := omega) only [wk, tis, seval, reduceCtorEq, Nat.reduceEqDiff, cpoly_len, polys_len]
  refine call_by (dv) (by rfl) (by simp) ?_
  simp (disch := omega) only [wk, tis, seval, reduceCtorEq, Nat.reduceEqDiff, cpoly_len, polys_len]
  refine call_by (pr) (by rfl) (by simp) ?_
  simp (disch := omega) only [wk, tis, seval, reduceCtorEq, Nat.reduceEqDiff, cpoly_len, polys_len]
  try rfl
theorem pquot_g {p q : List RI} {A B : List Int} (hp : RP 40 (2 ^ 27) p) (hq : RP 40 (2 ^ 27) q) (ea : ps (pv p) = ps A) (eb : ps (pv q) = ps B) (h0 : tz B ≠ 0) (hd : Dv B A) : AC Tryz.prog 58 [cw p, cw q] none [cp (quo A B)] := by
  have h := pquot_ok p q hp hq (by rw [tz_of_ps eb]; exact h0)
  rwa [cp_ps (quo_congr (A' := A) (B' := B) (by rw [tz_of_ps eb]; exact h0) (hd.as (.of_ps eb) (.of_ps ea.symm)) ea eb)] at h
def dvb (B A : List Int) : Bool := if tz B = 0 then decide (tz A = 0) else decide (tz (dr A B) = 0)
theorem dvb_iff (B A : List Int) : dvb B A = true ↔ Dv B A := by
  unfold dvb
  split
  · rename_i h0
    rw [decide_eq_true_iff]
    refine ⟨fun h => .zero B h, fun h => ?_⟩
    by_cases hA : tz A = 0
    · exact hA
    · exact absurd h0 (dv_tz h hA).1
  · rename_i h0
    rw [decide_eq_true_iff]
    exact (dv_dr h0).symm
theorem dvb_congr {A A' B B' : List Int} (ha : As A A') (hb : As B B') : dvb B A = dvb B' A' := by
  rw [Bool.eq_iff_iff, dvb_iff, dvb_iff]
  exact ⟨fun h => h.as hb.symm ha, fun h => h.as hb ha.symm⟩
theorem pdivides_ok (p q : List RI) (hp : RP 40 (2 ^ 27) p) (hq : RP 40 (2 ^ 27) q) : AC Tryz.prog 57 [cw p, cw q] none [cb (dvb (pv q) (pv p))] := by
  have d1 := pdeg_ok p (hp.mono (by omega) (by omega))
  have d2 := pdeg_ok q (hq.mono (by omega) (by omega))
  by_cases h0 : tz (pv q) = 0
  · rw [show dvb (pv q) (pv p) = decide (tz (pv p) = 0) by unfold dvb; rw [if_pos h0]]
    have e : decide ((tz (pv p) : Int) - 1 < 0) = decide (tz (pv p) = 0) := decide_eq_decide.mpr (by omega)
    rw [h0] at d2
    refine AC.by_walk (rs := [.tmp 4]) ords Tryz.func57 (by rfl) (by rfl) (by rfl) (by rfl) (by rfl) ?_
    simp (disch := omega) only [wk, tis, seval, reduceCtorEq, Nat.reduceEqDiff, cpoly_len, polys_len]
    refine call_by (d2) (by rfl) (by simp) ?_
    simp (disch := omega) only [wk, tis, seval, reduceCtorEq, Nat.reduceEqDiff, cpoly_len, polys_len]
    refine call_by (d1) (by rfl) (by simp) ?_
    simp (disch := omega) only [wk, tis, seval, reduceCtorEq, Nat.reduceEqDiff, cpoly_len, polys_len]
    try exact decide_eq_decide.mpr (by omega)
  have h0' : ¬ (tz (pv q) : Int) - 1 < 0 := by omega
  rw [show dvb (pv q) (pv p) = decide (tz (dr (pv p) (pv q)) = 0) by unfold dvb; rw [if_neg h0]]
  have rm := prem_ok p q hp hq h0
  have s := (div_sz h0 (sb_rp hp) (sb_rp hq)).2
  have tp := tz_rp hp
  have tq := tz_rp hq
  have t := drem_tz (A := pv p) h0
  have hdx : dxp (pv p) (pv q) ≤ 41 := by unfold dxp; omega
  have hdm : dxp (pv p) (pv q) * (2 ^ 27 + 1) ≤ 41 * (2 ^ 27 + 1) := Nat.mul_le_mul_right _ hdx
  have d3 := pdeg_n (a := cn (dr (pv p) (pv q))) (q := dr (pv p) (pv q)) ((rp_sb (D := 40) (k := 2 ^ 35) (by omega) (s.mono (by omega))).mono (by omega) (by omega)) (ps_cn _)
  refine AC.by_walk (rs := [.tmp 4]) ords Tryz.func57 (by rfl) (by rfl) (by rfl) (by rfl) (by rfl) ?_
  simp (disch := omega) only [wk, tis, seval, reduceCtorEq, Nat.reduceEqDiff, cpoly_len, polys_len]
  refine call_by (d2) (by first | rfl | (simp only [tocvs, tocv, h0']; rfl) | (simp only [tocvs, tocv, toboxes, tobox, updH_at, Nat.reduceEqDiff, ↓reduceIte, h0']; rfl)) (by simp) ?_
  simp (disch := omega) only [wk, tis, seval, reduceCtorEq, Nat.reduceEqDiff, cpoly_len, polys_len, h0']
  refine call_by (rm) (by rfl) (by simp) ?_
  simp (disch := omega) only [wk, tis, seval, reduceCtorEq, Nat.reduceEqDiff, cpoly_len, polys_len]
  refine call_by (d3) (by rfl) (by simp) ?_
  simp (disch := omega) only [wk, tis, seval, reduceCtorEq, Nat.reduceEqDiff, cpoly_len, polys_len]
  try exact decide_eq_decide.mpr (by omega)
theorem pdivides_g {p q : List RI} {A B : List Int} (hp : RP 40 (2 ^ 27) p) (hq : RP 40 (2 ^ 27) q) (ea : ps (pv p) = ps A) (eb : ps (pv q) = ps B) : AC Tryz.prog 57 [cw p, cw q] none [cb (dvb B A)] := by
  have h := pdivides_ok p q hp hq
  rwa [dvb_congr (A' := A) (B' := B) (.of_ps ea) (.of_ps eb)] at h
end Go.Proofs.YtenlbifnhdmnnaaGreat

namespace Go.Proofs.YtenlbifnhdmnnaaGreat
open Go Go.Proofs Go.AL
set_option linter.unusedSimpArgs false
set_option linter.unusedVariables false
end Go.Proofs.YtenlbifnhdmnnaaGreat

namespace Go.Proofs.YtenlbifnhdmnnaaGreat
open Go Go.Proofs Go.AL
set_option linter.unusedSimpArgs false
set_option linter.unusedVariables false
theorem tz_take_snoc (q : List Int) {i : Nat} (h : i < q.length) : tz (q.take (i + 1)) = if cf q i ≠ 0 then i + 1 else tz (q.take i) := by
  by_cases hz : cf q i = 0
  · rw [if_neg (by simpa using hz)]; exact tz_take_zero h hz
  · rw [if_pos hz]; exact tz_full h hz
theorem tN_ok (p : List RI) (h : RP (2 ^ 40) (2 ^ 40) p) : AC Tryz.prog 53 [cw p] none [cp (pv p)] := by
  refine AC.by_walk (rs := [.tmp 2]) ords Tryz.func53 (by rfl) (by rfl) (by rfl) (by rfl) (by rfl) ?_
  have hl := h.1
  have hpl := pv_len p
  simp (disch := omega) only [wk, tis, seval, reduceCtorEq, Nat.reduceEqDiff]
  refine aloop_by (fun f H => ∃ (i st : Nat), i ≤ p.length ∧ f 5 = .iv (.int .i64 i) ∧ f 4 = .iv (.int .i64 (tz ((pv p).take i))) ∧ f 0 = .iv (.sl (raws p)) ∧ f 3 = .hs 7 st ∧ H 7 = .blk false st 44 2 (raws (((pv p).take i).map canon))) (fun f H => (p.length - intAt f 5).toNat) ?_ ?_
  · refine ⟨0, 1, by omega, ?_⟩
    simp (disch := omega) only [wk, tis, seval, reduceCtorEq, Nat.reduceEqDiff, List.take_zero, show tz [] = 0 from rfl]
  rintro f H ⟨i, st, hi, hF⟩
  rw [intAt_of hF.1]
  simp (disch := omega) only [wk, tis, seval, reduceCtorEq, Nat.reduceEqDiff, hF]
  refine if_by (fun hlt => ?_) (fun hlt => ?_)
  · have hq : (((pv p).take i).map canon).length = i := by rw [List.length_map, List.length_take]; omega
    simp (disch := omega) only [wk, tis, seval, reduceCtorEq, Nat.reduceEqDiff, hF, hq]
    refine ⟨tmps_by (by kernel_rfl), ?_⟩
    have m := rI_ok (p.getD i (false, [])).1 (p.getD i (false, [])).2 (h.get i).2 (h.get i).1
    have ev : sg (p.getD i (false, [])).1 (nv (p.getD i (false, [])).2) = cf (pv p) i := by rw [cf_pv]; rfl
    rw [ev] at m
    have hcz := h.pv.cf i
    refine call_by (m) (by first | rfl | (simp only [tocvs, tocv, hF, hq]; rfl) | (simp only [tocvs, tocv, toboxes, tobox, updH_at, Nat.reduceEqDiff, ↓reduceIte, hF, hq]; rfl)) (by simp) ?_
    simp (disch := omega) only [wk, tis, seval, reduceCtorEq, Nat.reduceEqDiff, hF, hq]
    first | exact log_by (by kernel_rfl) | refine ⟨log_by (by kernel_rfl), ?_⟩
    have q := rSign_ok (canon (cf (pv p) i)) ((sz_canon _).mono (by omega))
    rw [iv_canon] at q
    refine call_by (q) (by first | rfl | (simp only [tocvs, tocv, hF, hq]; rfl) | (simp only [tocvs, tocv, toboxes, tobox, updH_at, Nat.reduceEqDiff, ↓reduceIte, hF, hq]; rfl)) (by simp) ?_
    simp (disch := omega) only [wk, tis, seval, reduceCtorEq, Nat.reduceEqDiff, hF, hq]
    have et := tz_take_snoc (pv p) (i := i) (by omega)
    have e : (pv p).take (i + 1) = (pv p).take i ++ [cf (pv p) i] := by
      rw [List.take_add_one]
      congr 1
      simp [cf, List.getD, show i < (pv p).length by omega]
    refine if_by (fun hs => ?_) (fun hs => ?_)
    · have hz : cf (pv p) i ≠ 0 := fun e => hs (by rw [e]; rfl)
      rw [if_pos hz] at et
      simp (disch := omega) only [wk, tis, seval, reduceCtorEq, Nat.reduceEqDiff, hF, hq]
      refine ⟨⟨i + 1, st + 1, by omega, by omega, by rw [et]; omega, ?_⟩, by omega⟩
      rw [e]
      exact ⟨rfl, rfl⟩
    · have hz : ¬ cf (pv p) i ≠ 0 := fun e => hs (fun h => e (Int.sign_eq_zero_iff_zero.mp h))
      rw [if_neg hz] at et
      simp (disch := omega) only [wk, tis, seval, reduceCtorEq, Nat.reduceEqDiff, hF, hq]
      refine ⟨⟨i + 1, st + 1, by omega, by omega, by rw [et], ?_⟩, by omega⟩
      rw [e]
      exact ⟨rfl, rfl⟩
  · simp (disch := omega) only [wk, tis, seval, reduceCtorEq, Nat.reduceEqDiff, hF]
    have hq : (((pv p).take i).map canon).length = p.length := by rw [List.length_map, List.length_take]; omega
    have htl : tz ((pv p).take i) ≤ p.length := by have := tz_le ((pv p).take i); rw [List.length_take] at this; omega
    simp (disch := omega) only [wk, tis, seval, reduceCtorEq, Nat.reduceEqDiff, hF, hq]
    refine ⟨htl, ?_⟩
    rw [List.take_of_length_le (i := i) (by omega), ← List.map_take]
    rfl
theorem tP_ok (l : List Int) (hl : l.length ≤ 2 ^ 30) (h : ∀ z ∈ l, -9223372036854775808 < z ∧ z < 9223372036854775808) : AC Tryz.prog 20 [cis l] none [cp l] := by
  refine AC.by_walk (rs := [.tmp 2]) ords Tryz.func20 (by rfl) (by rfl) (by rfl) (by rfl) (by rfl) ?_
  simp (disch := omega) only [wk, tis, seval, reduceCtorEq, Nat.reduceEqDiff]
  refine aloop_nil 3 3 44 2 (by simp (disch := omega) only [wk, tis, seval, reduceCtorEq, Nat.reduceEqDiff]) (fun f H => ∃ (k st : Nat), k ≤ l.length ∧ f 0 = .iv (.sl (ilims l)) ∧ f 3 = .hs 3 st ∧ f 4 = .iv (.int .i64 k) ∧ H 3 = .blk false st 44 2 (raws ((l.take k).map canon))) (fun f H => (l.length - intAt f 4).toNat) ?_ ?_
  · refine ⟨0, 1, by omega, ?_⟩
    simp (disch := omega) only [wk, tis, seval, reduceCtorEq, Nat.reduceEqDiff, ghostF, ghostH, List.take_zero]
  rintro f H ⟨k, st, hk, h0, h3, h4, hH⟩
  rw [intAt_of h4]
  simp (disch := omega) only [wk, tis, seval, reduceCtorEq, Nat.reduceEqDiff, h0, h3, h4, hH]
  refine if_by (fun hlt => ?_) (fun hlt => ?_)
  · have hq : ((l.take k).map canon).length = k := by rw [List.length_map, List.length_take]; omega
    have hkl : k < l.length := by omega
    have hg : l.getD k 0 = l[k] := by simp [List.getD, hkl]
    have hb := h l[k] (List.getElem_mem hkl)
    simp (disch := omega) only [wk, tis, seval, reduceCtorEq, Nat.reduceEqDiff, h0, h3, h4, hH, hq]
    rw [hg]
    refine call_by ((rZ_ok l[k] hb.1 hb.2)) (by first | rfl | (simp only [tocvs, tocv, h0, h3, h4, hH, hq]; rfl) | (simp only [tocvs, tocv, toboxes, tobox, updH_at, Nat.reduceEqDiff, ↓reduceIte, h0, h3, h4, hH, hq]; rfl)) (by simp) ?_
    simp (disch := omega) only [wk, tis, seval, reduceCtorEq, Nat.reduceEqDiff, h0, h3, h4, hH, hq]
    refine ⟨⟨k + 1, st + 1, by omega, rfl, by omega, ?_⟩, by omega⟩
    rw [List.take_add_one]
    simp [hkl]
  · simp (disch := omega) only [wk, tis, seval, reduceCtorEq, Nat.reduceEqDiff, h0, h3, h4, hH]
    have hk : k = l.length := by omega
    have hz : ∀ z : Int, -9223372036854775808 < z → z < 9223372036854775808 → zl z ≤ 1 := fun z h1 h2 => zl_le.mpr (by simp only [W]; omega)
    have := tN_ok (l.map canon) (RP.canon ⟨by omega, fun z hz' => Nat.le_trans (hz z (h z hz').1 (h z hz').2) (by omega)⟩)
    rw [pv_canon] at this
    rw [hk, List.take_length] at hH
    refine call_by (this) (by first | rfl | (simp only [tocvs, tocv, h0, h3, h4, hH]; rfl) | (simp only [tocvs, tocv, toboxes, tobox, updH_at, Nat.reduceEqDiff, ↓reduceIte, h0, h3, h4, hH]; rfl)) (by simp) ?_
    simp (disch := omega) only [wk, tis, seval, reduceCtorEq, Nat.reduceEqDiff, h0, h3, h4, hH]
theorem tSame_ok (a b : List RI) (ha : RP (2 ^ 40) (2 ^ 43) a) (hb : RP (2 ^ 40) (2 ^ 43) b) : AC Tryz.prog 21 [cw a, cw b] none [cb (decide (a = b))] := by
  refine AC.by_walk (rs := [.tmp 4]) ords Tryz.func21 (by rfl) (by rfl) (by rfl) (by rfl) (by rfl) ?_
  have hla := ha.1
  have hlb := hb.1
  simp (disch := omega) only [wk, tis, seval, reduceCtorEq, Nat.reduceEqDiff]
  refine if_by (fun hz => ?_) (fun hz => ?_)
  · simp (disch := omega) only [wk, tis, seval, reduceCtorEq, Nat.reduceEqDiff]
    exact (decide_eq_false (fun e => hz (by rw [e]))).symm
  have hl : a.length = b.length := by omega
  simp (disch := omega) only [wk, tis, seval, reduceCtorEq, Nat.reduceEqDiff]
  refine aloop_by (fun f H => ∃ i : Nat, i ≤ a.length ∧ a.take i = b.take i ∧ f 0 = .iv (.sl (raws a)) ∧ f 1 = .iv (.sl (raws b)) ∧ f 5 = .iv (.int .i64 i)) (fun f H => (a.length - intAt f 5).toNat) ?_ ?_
  · exact ⟨0, by omega, rfl, by simp (disch := omega) only [wk, tis, seval, reduceCtorEq, Nat.reduceEqDiff], by simp (disch := omega) only [wk, tis, seval, reduceCtorEq, Nat.reduceEqDiff], by simp (disch := omega) only [wk, tis, seval, reduceCtorEq, Nat.reduceEqDiff]⟩
  rintro f H ⟨i, hi, he, h0, h1, h5⟩
  rw [intAt_of h5]
  simp (disch := omega) only [wk, tis, seval, reduceCtorEq, Nat.reduceEqDiff, h0, h1, h5]
  refine if_by (fun hlt => ?_) (fun hlt => ?_)
  · simp (disch := omega) only [wk, tis, seval, reduceCtorEq, Nat.reduceEqDiff, h0, h1, h5]
    refine ⟨tmps_by (by kernel_rfl), ?_⟩
    refine call_by ((rSameInt_ok (a.getD i (false, [])) (b.getD i (false, [])) (ha.get i).1 (hb.get i).1)) (by first | rfl | (simp only [tocvs, tocv, h0, h1, h5]; rfl) | (simp only [tocvs, tocv, toboxes, tobox, updH_at, Nat.reduceEqDiff, ↓reduceIte, h0, h1, h5]; rfl)) (by simp) ?_
    simp (disch := omega) only [wk, tis, seval, reduceCtorEq, Nat.reduceEqDiff, h0, h1, h5]
    first | exact log_by (by kernel_rfl) | refine ⟨log_by (by kernel_rfl), ?_⟩
    by_cases hne : a.getD i (false, []) = b.getD i (false, [])
    · simp (disch := omega) only [wk, tis, seval, reduceCtorEq, Nat.reduceEqDiff, h0, h1, h5, hne, Bool.not_true]
      refine ⟨⟨i + 1, by omega, ?_, by omega⟩, by omega⟩
      have hia : i < a.length := by omega
      have hib : i < b.length := by omega
      rw [List.take_add_one, List.take_add_one, he, List.getElem?_eq_getElem hia, List.getElem?_eq_getElem hib]
      have e1 : a.getD i (false, []) = a[i] := by simp [List.getD, hia]
      have e2 : b.getD i (false, []) = b[i] := by simp [List.getD, hib]
      rw [← e1, ← e2, hne]
    · simp (disch := omega) only [wk, tis, seval, reduceCtorEq, Nat.reduceEqDiff, h0, h1, h5, hne, Bool.not_false]
      exact (decide_eq_false (fun e => hne (by rw [e]))).symm
  · simp (disch := omega) only [wk, tis, seval, reduceCtorEq, Nat.reduceEqDiff, h0, h1, h5]
    rw [List.take_of_length_le (by omega), List.take_of_length_le (by omega)] at he
    exact (decide_eq_true he).symm
theorem rcopy_ok (c : RI) (h : c.2.length ≤ 2 ^ 40) : AC Tryz.prog 86 [cr c] none [cr c] := by
  refine AC.by_walk (rs := [.cell 2 44]) ords Tryz.func86 (by rfl) (by rfl) (by rfl) (by rfl) (by rfl) ?_
  simp (disch := omega) only [wk, tis, seval, reduceCtorEq, Nat.reduceEqDiff]
  refine ⟨tmps_by (by kernel_rfl), ?_⟩
  first | exact log_by (by kernel_rfl) | refine ⟨log_by (by kernel_rfl), ?_⟩
  rfl
end Go.Proofs.YtenlbifnhdmnnaaGreat

namespace Go.Proofs.YtenlbifnhdmnnaaGreat
open Go Go.Proofs Go.AL
open Go.RowKit Go.Shelf
set_option linter.unusedSimpArgs false
set_option linter.unusedVariables false
attribute [local go_sem] Oper.semAt_some
end Go.Proofs.YtenlbifnhdmnnaaGreat

namespace Go.Proofs.YtenlbifnhdmnnaaGreat
open Go Go.Proofs Go.AL
set_option linter.unusedSimpArgs false
set_option linter.unusedVariables false
end Go.Proofs.YtenlbifnhdmnnaaGreat

namespace Go.Proofs.YtenlbifnhdmnnaaGreat
open Go Go.Proofs Go.AL
set_option linter.unusedSimpArgs false
set_option linter.unusedVariables false
end Go.Proofs.YtenlbifnhdmnnaaGreat

namespace Go.Proofs.YtenlbifnhdmnnaaGreat
open Go Go.Proofs Go.AL
set_option linter.unusedSimpArgs false
set_option linter.unusedVariables false
def wt (t : Int) : List Int → List Int
  | [] => []
  | c :: p => c * t ^ p.length :: wt t p
end Go.Proofs.YtenlbifnhdmnnaaGreat

namespace Go.Proofs.YtenlbifnhdmnnaaGreat
open Go Go.Proofs Go.AL
set_option linter.unusedSimpArgs false
set_option linter.unusedVariables false
end Go.Proofs.YtenlbifnhdmnnaaGreat

namespace Go.Proofs.YtenlbifnhdmnnaaGreat
open Go Go.Proofs Go.AL
set_option linter.unusedSimpArgs false
set_option linter.unusedVariables false
def sc (a : Int) : List Int → List Int
  | [] => []
  | c :: p => c :: pscale a (sc a p)
end Go.Proofs.YtenlbifnhdmnnaaGreat

namespace Go.Proofs.YtenlbifnhdmnnaaGreat
open Go Go.Proofs Go.AL
set_option linter.unusedSimpArgs false
set_option linter.unusedVariables false
end Go.Proofs.YtenlbifnhdmnnaaGreat

namespace Go.Proofs.YtenlbifnhdmnnaaGreat
open Go Go.Proofs Go.AL
set_option linter.unusedSimpArgs false
set_option linter.unusedVariables false
end Go.Proofs.YtenlbifnhdmnnaaGreat

namespace Go.Proofs.YtenlbifnhdmnnaaGreat
open Go Go.Proofs Go.AL
set_option linter.unusedSimpArgs false
set_option linter.unusedVariables false
end Go.Proofs.YtenlbifnhdmnnaaGreat

namespace Go.Proofs.YtenlbifnhdmnnaaGreat
open Go Go.Proofs Go.AL
set_option linter.unusedSimpArgs false
set_option linter.unusedVariables false
theorem drop_set_gt {l : List Nat} {i j x : Nat} (h : i < j) : (l.set i x).drop j = l.drop j := by
  rw [List.drop_set]; rw [if_pos h]
def lessD (r b : List Nat) (k i : Nat) : List Nat := dn r.length (vl D16 r - k * vl D16 b * D16 ^ i)
theorem take_end {L r b : List Nat} {k i cc : Nat} (hL : Dig L) (hl : L.length = r.length) (hb : i + b.length ≤ r.length) (hle : k * vl D16 b * D16 ^ i ≤ vl D16 r)
    (he : vl D16 L + k * vl D16 b * D16 ^ i = vl D16 r + cc * D16 ^ r.length) : L = lessD r b k i := by
  have h1 := vlD_lt hL
  rw [hl] at h1
  have hcc : cc = 0 := by
    rcases Nat.eq_zero_or_pos cc with h | h
    · exact h
    · have := Nat.mul_le_mul_right (D16 ^ r.length) h
      omega
  subst hcc
  refine eq_dn hL hl ?_
  rw [Nat.mod_eq_of_lt (by omega)]
  omega
theorem take_ok (r b : List Nat) (k i : Nat) (hr : Dig r) (hb : Dig b) (hlr : r.length ≤ 2 ^ 43) (hk : k ≤ 2 ^ 40) (hi : i + b.length ≤ r.length) (hle : k * vl D16 b * D16 ^ i ≤ vl D16 r) :
    ACW Tryz.prog 142 [.any, cd b, ci k, ci i] 0 3 1 (nums r) (nums (lessD r b k i)) [] := by
  refine ACW.by_walk (rs := []) ords Tryz.func142 (by rfl) (by rfl) (by rfl) (by rfl) (by rfl) ?_
  simp (disch := omega) only [wk, tis, seval, reduceCtorEq, Nat.reduceEqDiff]
  refine aloop_by (fun f H => ∃ (j cc : Nat) (L : List Nat), i + j ≤ r.length ∧ L.length = r.length ∧ Dig L ∧ vl D16 (L.take (i + j)) + k * vl D16 (b.take j) * D16 ^ i = vl D16 (r.take (i + j)) + cc * D16 ^ (i + j) ∧ L.drop (i + j) = r.drop (i + j) ∧ cc ≤ 2 ^ 41 ∧ f 9 = .iv (.int .i64 j) ∧ f 8 = .iv (.int .i64 (-(cc : Int))) ∧ f 0 = .hs 0 1 ∧ f 1 = .iv (.sl (nums b)) ∧ f 2 = .iv (.int .i64 k) ∧ f 3 = .iv (.int .i64 i) ∧ H 0 = .blk false 1 3 1 (nums L)) (fun f H => (r.length - intAt f 9).toNat) ?_ ?_
  · refine ⟨0, 0, r, by omega, rfl, hr, by simp [vl], by simp, by omega, ?_⟩
    simp (disch := omega) only [wk, tis, seval, reduceCtorEq, Nat.reduceEqDiff]
  rintro f H ⟨j, cc, L, hj, hl, hL, hv, hd, hcc, hF⟩
  rw [intAt_of hF.1]
  simp (disch := omega) only [wk, tis, seval, reduceCtorEq, Nat.reduceEqDiff, hF]
  refine if_by (fun hlt => ?_) (fun hlt => ?_)
  · have hij : i + j < r.length := by omega
    have hijL : i + j < L.length := by omega
    have hcast : ((i : Int) + (j : Int)).toNat = i + j := by omega
    have hx : L.getD (i + j) 0 = r.getD (i + j) 0 := by
      have h1 : (L.drop (i + j))[0]? = (r.drop (i + j))[0]? := by rw [hd]
      simp only [List.getElem?_drop, Nat.add_zero] at h1
      rw [List.getD_eq_getElem?_getD, List.getD_eq_getElem?_getD, h1]
    have hxd := hr.get (i + j)
    have hyd := hb.get j
    have hxd' : r.getD (i + j) 0 < 65536 := hxd
    have hky : k * b.getD j 0 ≤ 2 ^ 40 * 65536 := Nat.mul_le_mul hk (by simp only [D16] at hyd; omega)
    generalize hxe : r.getD (i + j) 0 = x at *
    generalize hye : b.getD j 0 = y at *
    have hky' : ((k : Int) * (y : Int)) ≤ 72057594037927936 := by
      rw [← Int.natCast_mul]; exact Int.ofNat_le.mpr (Nat.le_trans hky (by decide))
    have hky0 : 0 ≤ ((k : Int) * (y : Int)) := by rw [← Int.natCast_mul]; omega
    have step : ∀ s c2 : Nat, s + k * y + cc = x + 65536 * c2 → s < 65536 → c2 ≤ 2 ^ 41 →
        i + (j + 1) ≤ r.length ∧ (L.set (i + j) s).length = r.length ∧ Dig (L.set (i + j) s) ∧ vl D16 ((L.set (i + j) s).take (i + (j + 1))) + k * vl D16 (b.take (j + 1)) * D16 ^ i = vl D16 (r.take (i + (j + 1))) + c2 * D16 ^ (i + (j + 1)) ∧ (L.set (i + j) s).drop (i + (j + 1)) = r.drop (i + (j + 1)) ∧ c2 ≤ 2 ^ 41 := by
      intro s c2 hs hs2 hc2
      refine ⟨by omega, by simpa using hl, hL.set hs2, ?_, ?_, hc2⟩
      · rw [show i + (j + 1) = i + j + 1 by omega, vl_take_set D16 hijL, vl_take_next D16 b j, vl_take_next D16 r (i + j), hxe, hye]
        have e := borrowD (P := D16 ^ (i + j)) (O := vl D16 (L.take (i + j))) (B := k * vl D16 (b.take j) * D16 ^ i) (A := vl D16 (r.take (i + j))) (c := cc) (x := x) (y := k * y) (s := s) (c' := c2) (by rw [hv, Nat.mul_comm cc]) (by simp only [D16]; omega)
        rw [Nat.pow_succ, Nat.mul_comm c2]
        rw [← e, Nat.mul_add, Nat.add_mul]
        congr 2
        rw [Nat.pow_add]; ac_rfl
      · rw [drop_set_gt (by omega), show i + (j + 1) = (i + j) + 1 by omega, ← List.drop_drop, hd, List.drop_drop]
    by_cases hjb : (j : Int) < (b.length : Int)
    · have hjb' : j < b.length := by omega
      obtain ⟨n0, hn0⟩ : ∃ n0 : Int, (x : Int) + -(cc : Int) - (k : Int) * (y : Int) = n0 := ⟨_, rfl⟩
      simp (disch := omega) only [wk, tis, seval, reduceCtorEq, Nat.reduceEqDiff, hF, hcast, hjb, hx, hye, hn0]
      refine aloop_by (fun f H => ∃ (nn : Int) (c2 : Nat), nn + (k : Int) * (y : Int) + cc = x + 65536 * (c2 : Int) ∧ nn < 65536 ∧ (c2 = 0 ∨ 0 ≤ nn) ∧ c2 ≤ 2 ^ 41 ∧ f 10 = .iv (.int .i64 nn) ∧ f 8 = .iv (.int .i64 (-(c2 : Int))) ∧ f 9 = .iv (.int .i64 j) ∧ f 0 = .hs 0 1 ∧ f 1 = .iv (.sl (nums b)) ∧ f 2 = .iv (.int .i64 k) ∧ f 3 = .iv (.int .i64 i) ∧ f 12 = .iv (.int .i64 i) ∧ H 0 = .blk false 1 3 1 (nums L)) (fun f H => (-intAt f 10).toNat) ?_ ?_
      · refine ⟨n0, 0, by omega, by omega, by omega, by omega, ?_⟩
        simp (disch := omega) only [wk, tis, seval, reduceCtorEq, Nat.reduceEqDiff, hF]
      rintro f H ⟨nn, c2, hne, hnn, h01, hc2, hF⟩
      rw [intAt_of hF.1]
      simp (disch := omega) only [wk, tis, seval, reduceCtorEq, Nat.reduceEqDiff, hF]
      refine if_by (fun hneg => ?_) (fun hneg => ?_)
      · have hq : (65535 - nn).tdiv 65536 = (65535 - nn) / 65536 := Int.tdiv_eq_ediv_of_nonneg (by omega)
        obtain ⟨m, hm⟩ : ∃ m : Nat, (65535 - nn) / 65536 = (m : Int) := ⟨((65535 - nn) / 65536).toNat, by omega⟩
        obtain rfl : c2 = 0 := by omega
        simp (disch := omega) only [wk, tis, seval, reduceCtorEq, Nat.reduceEqDiff, hF, hq, hm]
        refine ⟨⟨nn + m * 65536, m, by omega, by omega, by omega, by omega, rfl, by omega⟩, by omega⟩
      · obtain ⟨s, rfl⟩ : ∃ s : Nat, nn = (s : Int) := ⟨nn.toNat, by omega⟩
        have hs1 : s + k * y + cc = x + 65536 * c2 := by
          have : ((s + k * y + cc : Nat) : Int) = ((x + 65536 * c2 : Nat) : Int) := by rw [Int.natCast_add, Int.natCast_add, Int.natCast_mul, hne, Int.natCast_add, Int.natCast_mul]; rfl
          exact Int.ofNat.inj this
        obtain ⟨g1, g2, g3, g4, g5, g6⟩ := step s c2 hs1 (by omega) hc2
        simp (disch := omega) only [wk, tis, seval, reduceCtorEq, Nat.reduceEqDiff, hF, hcast]
        exact ⟨⟨j + 1, c2, _, g1, g2, g3, g4, g5, g6, by omega, rfl, rfl⟩, by omega⟩
    · have hjb' : ¬ j < b.length := by omega
      have hy0 : y = 0 := by rw [← hye, List.getD_eq_getElem?_getD, List.getElem?_eq_none (by omega)]; rfl
      have hky2 : (k : Int) * (y : Int) = 0 := by rw [hy0]; simp
      obtain ⟨n0, hn0⟩ : ∃ n0 : Int, (x : Int) + -(cc : Int) = n0 := ⟨_, rfl⟩
      simp (disch := omega) only [wk, tis, seval, reduceCtorEq, Nat.reduceEqDiff, hF, hcast, hjb, hx, hn0]
      refine aloop_by (fun f H => ∃ (nn : Int) (c2 : Nat), nn + (k : Int) * (y : Int) + cc = x + 65536 * (c2 : Int) ∧ nn < 65536 ∧ (c2 = 0 ∨ 0 ≤ nn) ∧ c2 ≤ 2 ^ 41 ∧ f 10 = .iv (.int .i64 nn) ∧ f 8 = .iv (.int .i64 (-(c2 : Int))) ∧ f 9 = .iv (.int .i64 j) ∧ f 0 = .hs 0 1 ∧ f 1 = .iv (.sl (nums b)) ∧ f 2 = .iv (.int .i64 k) ∧ f 3 = .iv (.int .i64 i) ∧ f 12 = .iv (.int .i64 i) ∧ H 0 = .blk false 1 3 1 (nums L)) (fun f H => (-intAt f 10).toNat) ?_ ?_
      · refine ⟨n0, 0, by omega, by omega, by omega, by omega, ?_⟩
        simp (disch := omega) only [wk, tis, seval, reduceCtorEq, Nat.reduceEqDiff, hF]
      rintro f H ⟨nn, c2, hne, hnn, h01, hc2, hF⟩
      rw [intAt_of hF.1]
      simp (disch := omega) only [wk, tis, seval, reduceCtorEq, Nat.reduceEqDiff, hF]
      refine if_by (fun hneg => ?_) (fun hneg => ?_)
      · have hq : (65535 - nn).tdiv 65536 = (65535 - nn) / 65536 := Int.tdiv_eq_ediv_of_nonneg (by omega)
        obtain ⟨m, hm⟩ : ∃ m : Nat, (65535 - nn) / 65536 = (m : Int) := ⟨((65535 - nn) / 65536).toNat, by omega⟩
        obtain rfl : c2 = 0 := by omega
        simp (disch := omega) only [wk, tis, seval, reduceCtorEq, Nat.reduceEqDiff, hF, hq, hm]
        refine ⟨⟨nn + m * 65536, m, by omega, by omega, by omega, by omega, rfl, by omega⟩, by omega⟩
      · obtain ⟨s, rfl⟩ : ∃ s : Nat, nn = (s : Int) := ⟨nn.toNat, by omega⟩
        have hs1 : s + k * y + cc = x + 65536 * c2 := by
          have : ((s + k * y + cc : Nat) : Int) = ((x + 65536 * c2 : Nat) : Int) := by rw [Int.natCast_add, Int.natCast_add, Int.natCast_mul, hne, Int.natCast_add, Int.natCast_mul]; rfl
          exact Int.ofNat.inj this
        obtain ⟨g1, g2, g3, g4, g5, g6⟩ := step s c2 hs1 (by omega) hc2
        simp (disch := omega) only [wk, tis, seval, reduceCtorEq, Nat.reduceEqDiff, hF, hcast]
        exact ⟨⟨j + 1, c2, _, g1, g2, g3, g4, g5, g6, by omega, rfl, rfl⟩, by omega⟩
  · obtain hij : i + j = r.length := by omega
    simp (disch := omega) only [wk, tis, seval, reduceCtorEq, Nat.reduceEqDiff, hF]
    have hbt : b.take j = b := List.take_of_length_le (by omega)
    rw [hij, hbt, List.take_length, ← hl, List.take_length] at hv
    rw [hl] at hv
    rw [take_end hL hl hi hle hv]
end Go.Proofs.YtenlbifnhdmnnaaGreat

namespace Go.Proofs.YtenlbifnhdmnnaaGreat
open Go Go.Proofs Go.AL
set_option linter.unusedSimpArgs false
set_option linter.unusedVariables false
theorem vlD_drop {r : List Nat} (h : Dig r) (j : Nat) : vl D16 (r.drop j) = vl D16 r / D16 ^ j := by
  rcases Nat.lt_or_ge r.length j with hj | hj
  · rw [List.drop_eq_nil_of_le (by omega), Nat.div_eq_of_lt (Nat.lt_of_lt_of_le (vlD_lt h) (Nat.pow_le_pow_right (by decide) (by omega)))]; rfl
  · rw [vl_split D16 r hj, Nat.add_mul_div_left _ _ (D_pow_pos j), Nat.div_eq_of_lt, Nat.zero_add]
    have := vlD_lt (h.take j)
    rwa [List.length_take, Nat.min_eq_left hj] at this
theorem vlD_step {r : List Nat} (h : Dig r) (j : Nat) : vl D16 r / D16 ^ j = vl D16 r / D16 ^ (j + 1) * 65536 + r.getD j 0 := by
  rw [dig_at h, Nat.pow_succ, ← Nat.div_div_eq_div_mul]
  have := Nat.div_add_mod (vl D16 r / D16 ^ j) D16
  simp only [D16] at this ⊢
  omega
structure Dvr (b : List Nat) : Prop where
  dig : Dig b
  pos : 0 < b.length
  top : b.getD (b.length - 1) 0 ≠ 0
theorem Dvr.bounds {b : List Nat} (h : Dvr b) : D16 ^ (b.length - 1) ≤ vl D16 b ∧ vl D16 b < (b.getD (b.length - 1) 0 + 1) * D16 ^ (b.length - 1) := by
  have e := vl_take_next D16 b (b.length - 1)
  rw [show b.length - 1 + 1 = b.length by have := h.pos; omega, List.take_length] at e
  have h1 := vlD_lt (h.dig.take (b.length - 1))
  rw [List.length_take, Nat.min_eq_left (by omega)] at h1
  have h2 := Nat.mul_le_mul_left (D16 ^ (b.length - 1)) (Nat.pos_of_ne_zero h.top)
  rw [e]
  constructor
  · omega
  · rw [Nat.add_mul, Nat.one_mul, Nat.mul_comm (b.getD _ _)]; omega
theorem Dvr.vpos {b : List Nat} (h : Dvr b) : 0 < vl D16 b := Nat.lt_of_lt_of_le (D_pow_pos _) h.bounds.1
def kOf (R t s : Nat) : Nat := max 1 (R / D16 ^ s / t)
theorem kOf_le {b : List Nat} (h : Dvr b) {R i : Nat} (hh : vl D16 b * D16 ^ i ≤ R) : kOf R (b.getD (b.length - 1) 0 + 1) (i + b.length - 1) * vl D16 b * D16 ^ i ≤ R := by
  have hb := h.bounds.2
  have hp := h.pos
  generalize b.getD (b.length - 1) 0 + 1 = t at *
  unfold kOf
  rcases Nat.le_total (R / D16 ^ (i + b.length - 1) / t) 1 with h1 | h1
  · rw [Nat.max_eq_left h1, Nat.one_mul]; exact hh
  · rw [Nat.max_eq_right h1]
    have e1 : R / D16 ^ (i + b.length - 1) / t * t ≤ R / D16 ^ (i + b.length - 1) := Nat.div_mul_le_self _ _
    have e2 : R / D16 ^ (i + b.length - 1) * D16 ^ (i + b.length - 1) ≤ R := Nat.div_mul_le_self _ _
    generalize R / D16 ^ (i + b.length - 1) / t = q at *
    generalize R / D16 ^ (i + b.length - 1) = x at *
    have e3 : q * vl D16 b ≤ q * (t * D16 ^ (b.length - 1)) := Nat.mul_le_mul_left _ (Nat.le_of_lt hb)
    have e4 : q * (t * D16 ^ (b.length - 1)) ≤ x * D16 ^ (b.length - 1) := by rw [← Nat.mul_assoc]; exact Nat.mul_le_mul_right _ e1
    have e5 : x * D16 ^ (b.length - 1) * D16 ^ i = x * D16 ^ (i + b.length - 1) := by rw [Nat.mul_assoc, ← Nat.pow_add]; congr 2; omega
    exact Nat.le_trans (Nat.mul_le_mul_right _ (Nat.le_trans e3 e4)) (by rw [e5]; exact e2)
theorem have_lt {b : List Nat} (h : Dvr b) {R i : Nat} (hR : R < vl D16 b * D16 ^ (i + 1)) : R / D16 ^ (i + b.length - 1) < 4294967296 ∧ kOf R (b.getD (b.length - 1) 0 + 1) (i + b.length - 1) ≤ 65536 := by
  have hb := h.bounds.2
  have hp := h.pos
  have ht : b.getD (b.length - 1) 0 + 1 ≤ 65536 := by have := h.dig.get (b.length - 1); simp only [D16] at this; omega
  generalize hte : b.getD (b.length - 1) 0 + 1 = t at *
  have h1 : R < t * D16 * D16 ^ (i + b.length - 1) := by
    refine Nat.lt_of_lt_of_le hR ?_
    have e : t * D16 * D16 ^ (i + b.length - 1) = t * D16 ^ (b.length - 1) * D16 ^ (i + 1) := by
      rw [Nat.mul_assoc, Nat.mul_assoc, ← Nat.pow_add, ← Nat.pow_succ']
      congr 2; omega
    rw [e]
    exact Nat.mul_le_mul_right _ (Nat.le_of_lt hb)
  have h2 : R / D16 ^ (i + b.length - 1) < t * D16 := (Nat.div_lt_iff_lt_mul (D_pow_pos _)).mpr h1
  have h3 : t * D16 ≤ 65536 * 65536 := Nat.mul_le_mul_right _ ht
  refine ⟨Nat.lt_of_lt_of_le h2 h3, ?_⟩
  unfold kOf
  refine Nat.max_le.mpr ⟨by omega, ?_⟩
  exact Nat.le_of_lt (Nat.div_lt_of_lt_mul h2)
theorem higher_ok (r b : List Nat) (i : Nat) (hr : Dig r) (hb : Dig b) (hl : r.length ≤ 2 ^ 42) (hlb : b.length ≤ 2 ^ 42) (hi : i ≤ r.length) :
    AC Tryz.prog 141 [cd r, cd b, ci i] none [cb (decide (vl D16 b * D16 ^ i ≤ vl D16 r))] := by
  refine AC.by_walk (rs := [.tmp 6]) ords Tryz.func141 (by rfl) (by rfl) (by rfl) (by rfl) (by rfl) ?_
  have e : List.take ((r.length : Int) - (i : Int)).toNat (List.drop i r) = List.drop i r := List.take_of_length_le (by rw [List.length_drop]; omega)
  simp (disch := omega) only [wk, tis, seval, reduceCtorEq, Nat.reduceEqDiff, e]
  have m := rcompare_ok (r.drop i) b (fun x hx => hr x (List.mem_of_mem_drop hx)) hb (by rw [List.length_drop]; omega) hlb
  rw [vlD_drop hr] at m
  refine call_by (m) (by rfl) (by simp) ?_
  simp (disch := omega) only [wk, tis, seval, reduceCtorEq, Nat.reduceEqDiff]
  rw [decide_eq_decide, ← Nat.le_div_iff_mul_le (D_pow_pos i)]
  unfold cmpN
  split
  · omega
  · split <;> omega
def hval (H : Hp) (h : Nat) : Nat := match H h with
  | .blk _ _ _ _ rows => vl D16 (rows.map fun r => match r with | [.int _ n] => n.toNat | _ => 0)
  | .none => 0
theorem hval_of {H : Hp} {h st e sz : Nat} {fz : Bool} {l : List Nat} (hh : H h = .blk fz st e sz (nums l)) : hval H h = vl D16 l := by
  unfold hval; rw [hh]
  simp only [nums, List.map_map]
  congr 1
  conv => rhs; rw [← List.map_id l]
  exact List.map_congr_left fun x _ => by simp
def hlen (H : Hp) (h : Nat) : Nat := match H h with
  | .blk _ _ _ _ rows => rows.length
  | .none => 0
theorem hlen_of {H : Hp} {h st e sz : Nat} {fz : Bool} {rows : List (List IV)} (hh : H h = .blk fz st e sz rows) : hlen H h = rows.length := by unfold hlen; rw [hh]
theorem q_step {q : List Nat} {i k : Nat} (h : i < q.length) : vl D16 (q.set i (q.getD i 0 + k)) = vl D16 q + k * D16 ^ i := by
  have e1 := vl_split D16 (q.set i (q.getD i 0 + k)) (k := i + 1) (by simp; omega)
  have e2 := vl_split D16 q (k := i + 1) (by omega)
  rw [drop_set_gt (by omega), vl_take_set D16 h] at e1
  rw [vl_take_next] at e2
  rw [e1, e2, Nat.mul_add, Nat.mul_comm k]
  omega
theorem divide_ok5 (a b : List Nat) (ha : Dig a) (hb : Dvr b) (hla : a.length ≤ 2 ^ 41) (hlb : b.length ≤ 2 ^ 41) (hab : b.length ≤ a.length) :
    AC Tryz.prog 107 [cd a, cd b] none [cd (dn (a.length - b.length + 1) (vl D16 a / vl D16 b)), cd (dgD (vl D16 a % vl D16 b))] := by
  refine AC.by_walk (rs := [.tmp 4, .tmp 5]) ords Tryz.func107 (by rfl) (by rfl) (by rfl) (by rfl) (by rfl) ?_
  have hp := hb.pos
  have hm : ((a.length : Int) - (b.length : Int) + 1).toNat = a.length - b.length + 1 := by omega
  have ht1 : ((b.length : Int) - 1).toNat = b.length - 1 := by omega
  have hlt : ¬ ((a.length : Int) < (b.length : Int)) := by omega
  have htop := hb.dig.get (b.length - 1)
  have htop2 : b.getD (b.length - 1) 0 < 65536 := htop
  have hm2 : (((a.length - b.length + 1 : Nat) : Int)) = (a.length : Int) - (b.length : Int) + 1 := by omega
  simp (disch := omega) only [wk, tis, seval, reduceCtorEq, Nat.reduceEqDiff, hm, ht1, hlt]
  have hVlt := vlD_lt ha
  have hT := hb.bounds.1
  have hTpos := hb.vpos
  have hstart : vl D16 a < vl D16 b * D16 ^ (a.length - b.length + 1) := by
    refine Nat.lt_of_lt_of_le hVlt ?_
    have e : D16 ^ a.length = D16 ^ (b.length - 1) * D16 ^ (a.length - b.length + 1) := by rw [← Nat.pow_add]; congr 1; omega
    rw [e]; exact Nat.mul_le_mul_right _ hT
  generalize hme : a.length - b.length + 1 = m at *
  have hml : m ≤ 2 ^ 42 := by omega
  generalize hV : vl D16 a = V at *
  refine aloop_by (fun f H => ∃ (i1 s13 s28 : Nat) (r q : List Nat), i1 ≤ m ∧ Dig r ∧ Dig q ∧ q.length = m ∧ vl D16 q * vl D16 b + vl D16 r = V ∧ vl D16 r < vl D16 b * D16 ^ i1 ∧ i1 ≤ r.length + 1 ∧ r.length ≤ 2 ^ 42 ∧ (∀ j, j < i1 → q.getD j 0 = 0) ∧ (i1 = 0 → r = dgD (vl D16 r)) ∧ f 9 = .iv (.int .i64 ((i1 : Int) - 1)) ∧ f 6 = .hs 13 s13 ∧ f 7 = .hs 28 s28 ∧ f 1 = .iv (.sl (nums b)) ∧ f 8 = .iv (.int .i64 ((b.getD (b.length - 1) 0 : Nat) + 1)) ∧ H 13 = .blk false s13 3 1 (nums r) ∧ H 28 = .blk false s28 3 1 (nums q)) (fun f H => (intAt f 9 + 1).toNat) ?_ ?_
  · refine ⟨m, 2, 1, a, List.replicate m 0, Nat.le_refl _, ha, Dig.replicate _, by simp, by rw [vl_replicate, Nat.zero_mul, Nat.zero_add, hV], by rw [hV]; exact hstart, by omega, by omega, fun j _ => by simp [List.getD, List.getElem?_replicate]; split <;> rfl, by omega, ?_⟩
    simp (disch := omega) only [wk, tis, seval, reduceCtorEq, Nat.reduceEqDiff, nums_rep]
  rintro f H ⟨i1, s13, s28, r, q, hi1, hr, hq, hql, hv, hlt1, hil, hrl, hz, hfin, hF⟩
  rw [intAt_of hF.1]
  simp (disch := omega) only [wk, tis, seval, reduceCtorEq, Nat.reduceEqDiff, hF]
  refine if_by (fun hge => ?_) (fun hge => ?_)
  · obtain ⟨i, rfl⟩ : ∃ i, i1 = i + 1 := ⟨i1 - 1, by omega⟩
    have hie : ((i + 1 : Nat) : Int) - 1 = (i : Int) := by omega
    rw [hie] at hF
    simp (disch := omega) only [wk, tis, seval, reduceCtorEq, Nat.reduceEqDiff, hF, hie]
    refine aloop_by (fun f H => ∃ (s13 s28 : Nat) (r q : List Nat), (Dig r ∧ Dig q ∧ q.length = m ∧ vl D16 q * vl D16 b + vl D16 r = V ∧ vl D16 r + q.getD i 0 * vl D16 b * D16 ^ i < vl D16 b * D16 ^ (i + 1) ∧ i ≤ r.length ∧ r.length ≤ 2 ^ 42 ∧ ∀ j, j < i → q.getD j 0 = 0) ∧
      f 9 = .iv (.int .i64 i) ∧ f 6 = .hs 13 s13 ∧ f 7 = .hs 28 s28 ∧ f 1 = .iv (.sl (nums b)) ∧ f 8 = .iv (.int .i64 ((b.getD (b.length - 1) 0 : Nat) + 1)) ∧ H 13 = .blk false s13 3 1 (nums r) ∧ H 28 = .blk false s28 3 1 (nums q)) (fun f H => hval H 13) ?_ ?_
    · refine ⟨s13, s28, r, q, ⟨hr, hq, hql, hv, ?_, by omega, hrl, fun j hj => hz j (by omega)⟩, ?_⟩
      · rw [hz i (by omega), Nat.zero_mul, Nat.zero_mul, Nat.add_zero]; exact hlt1
      · simp (disch := omega) only [wk, tis, seval, reduceCtorEq, Nat.reduceEqDiff, hF]
    clear hF hfin hil hrl hz hlt1 hv hql hq hr
    clear r q
    rintro f H ⟨s13, s28, r, q, ⟨hr, hq, hql, hv, hlt1, hil, hrl, hz⟩, hF⟩
    rw [hval_of hF.2.2.2.2.2.1]
    simp (disch := omega) only [wk, tis, seval, reduceCtorEq, Nat.reduceEqDiff, hF]
    have hlt2 : vl D16 r < vl D16 b * D16 ^ (i + 1) := by omega
    obtain ⟨hhl, hkl⟩ := have_lt hb hlt2
    refine call_flat ((higher_ok r b i hr hb.dig hrl (by omega) hil)) (by first | rfl | (simp only [tocvs, tocv, hF]; rfl) | (simp only [tocvs, tocv, toboxes, tobox, updH_at, Nat.reduceEqDiff, ↓reduceIte, hF]; rfl)) (by simp) (.inr (by simp [FlatRes, FlatCV, FlatI])) ?_
    simp (disch := omega) only [wk, tis, seval, reduceCtorEq, Nat.reduceEqDiff, hF]
    by_cases hh : vl D16 b * D16 ^ i ≤ vl D16 r
    · have hlr : i + b.length ≤ r.length := by
        have h1 : D16 ^ (b.length - 1 + i) < D16 ^ r.length := by
          rw [Nat.pow_add]
          exact Nat.lt_of_le_of_lt (Nat.le_trans (Nat.mul_le_mul_right _ hT) hh) (vlD_lt hr)
        have h2 := (Nat.pow_lt_pow_iff_right (by decide : 1 < D16)).mp h1
        omega
      obtain ⟨hx, hxe⟩ : ∃ g : Nat → Nat, g = fun j => vl D16 r / D16 ^ j := ⟨_, rfl⟩
      have hz0 : hx r.length = 0 := by rw [hxe]; exact Nat.div_eq_of_lt (vlD_lt hr)
      have hxs : ∀ j, hx (j + 1) * 65536 + r.getD j 0 = hx j := fun j => by rw [hxe]; exact (vlD_step hr j).symm
      have hxm : ∀ j, i + b.length ≤ j + 1 → hx j ≤ hx (i + b.length - 1) := fun j hj => by rw [hxe]; exact Nat.div_le_div_left (Nat.pow_le_pow_right (by decide) (by omega)) (D_pow_pos _)
      have hxl : hx (i + b.length - 1) < 4294967296 := by rw [hxe]; exact hhl
      have hkle := kOf_le hb hh
      have hkd0 : kOf (vl D16 r) (b.getD (b.length - 1) 0 + 1) (i + b.length - 1) = max 1 (hx (i + b.length - 1) / (b.getD (b.length - 1) 0 + 1)) := by rw [hxe]; rfl
      clear hhl
      simp (disch := omega) only [wk, tis, seval, reduceCtorEq, Nat.reduceEqDiff, hF, hh]
      refine aloop_by (fun f H => ∃ (j1 : Nat), i + b.length ≤ j1 + 1 ∧ j1 ≤ r.length ∧ f 11 = .iv (.int .i64 ((j1 : Int) - 1)) ∧ f 10 = .iv (.int .i64 (hx j1 : Nat)) ∧ f 9 = .iv (.int .i64 i) ∧ f 6 = .hs 13 s13 ∧ f 7 = .hs 28 s28 ∧ f 1 = .iv (.sl (nums b)) ∧ f 8 = .iv (.int .i64 ((b.getD (b.length - 1) 0 : Nat) + 1)) ∧ H 13 = .blk false s13 3 1 (nums r) ∧ H 28 = .blk false s28 3 1 (nums q)) (fun f H => (intAt f 11 + 1).toNat) ?_ ?_
      · refine ⟨r.length, by omega, Nat.le_refl _, ?_⟩
        simp (disch := omega) only [wk, tis, seval, reduceCtorEq, Nat.reduceEqDiff, hF, hz0]
      rintro f H ⟨j1, hj1, hj2, hF⟩
      rw [intAt_of hF.1]
      simp (disch := omega) only [wk, tis, seval, reduceCtorEq, Nat.reduceEqDiff, hF]
      have hdl := hxm j1 hj1
      refine if_by (fun hge2 => ?_) (fun hge2 => ?_)
      · obtain ⟨j, rfl⟩ : ∃ j, j1 = j + 1 := ⟨j1 - 1, by omega⟩
        have hje : ((j + 1 : Nat) : Int) - 1 = (j : Int) := by omega
        have hrd : r.getD j 0 < 65536 := hr.get j
        have hs1 := hxs j
        have hs2 := hxm j (by omega)
        have hst : (hx (j + 1) : Int) * 65536 + ((r.getD j 0 : Nat) : Int) = (hx j : Int) := by omega
        rw [hje] at hF hge2
        simp (disch := omega) only [wk, tis, seval, reduceCtorEq, Nat.reduceEqDiff, hF, hje, hst]
        exact ⟨⟨j, by omega, by omega, rfl, rfl⟩, by omega⟩
      · obtain rfl : j1 = i + b.length - 1 := by omega
        generalize hx (i + b.length - 1) = x at *
        have hq0 : ((x : Nat) : Int).tdiv (((b.getD (b.length - 1) 0 : Nat) : Int) + 1) = ((x / (b.getD (b.length - 1) 0 + 1) : Nat) : Int) := by
          rw [Int.tdiv_eq_ediv_of_nonneg (by omega)]; rfl
        have hq1 : x / (b.getD (b.length - 1) 0 + 1) ≤ x := Nat.div_le_self _ _
        generalize x / (b.getD (b.length - 1) 0 + 1) = y at *
        generalize hkd : kOf (vl D16 r) (b.getD (b.length - 1) 0 + 1) (i + b.length - 1) = k at *
        have hq2 : max (1 : Int) ((y : Nat) : Int) = ((k : Nat) : Int) := by omega
        have hk1 : 1 ≤ k := by omega
        have hiq : i < q.length := by omega
        have hlv : vl D16 (lessD r b k i) = vl D16 r - k * vl D16 b * D16 ^ i := by
          unfold lessD
          rw [vl_dn, Nat.mod_eq_of_lt (Nat.lt_of_le_of_lt (Nat.sub_le _ _) (vlD_lt hr))]
        have hprod : D16 ^ i ≤ k * vl D16 b * D16 ^ i := by
          have := Nat.mul_le_mul_right (D16 ^ i) (Nat.mul_le_mul hk1 hTpos)
          simpa using this
        have hDi := D_pow_pos i
        have hqs := q_step (k := k) hiq
        have hkT : k * D16 ^ i * vl D16 b = k * vl D16 b * D16 ^ i := Nat.mul_right_comm _ _ _
        have hqiT : (q.getD i 0 + k) * vl D16 b * D16 ^ i = q.getD i 0 * vl D16 b * D16 ^ i + k * vl D16 b * D16 ^ i := by rw [Nat.add_mul, Nat.add_mul]
        have hqi : q.getD i 0 + k < D16 := by
          have h1 : (q.getD i 0 + k) * vl D16 b * D16 ^ i < D16 * vl D16 b * D16 ^ i := by
            rw [hqiT]
            have : D16 * vl D16 b * D16 ^ i = vl D16 b * D16 ^ (i + 1) := by rw [Nat.pow_succ]; ac_rfl
            rw [this]; omega
          exact Nat.lt_of_mul_lt_mul_right (Nat.lt_of_mul_lt_mul_right h1)
        have hqk : ((q.getD i 0 : Nat) : Int) + (k : Int) = ((q.getD i 0 + k : Nat) : Int) := by omega
        have hqi2 : q.getD i 0 + k < 65536 := hqi
        have hqset : (q.set i (q.getD i 0 + k)).getD i 0 = q.getD i 0 + k := by simp [List.getD, hiq]
        simp (disch := omega) only [wk, tis, seval, reduceCtorEq, Nat.reduceEqDiff, hF, hq0, hq2]
        refine callw_by ((take_ok r b k i hr hb.dig (by omega) (by omega) hlr hkle)) (by first | rfl | (simp (disch := omega) only [wk, tis, seval, reduceCtorEq, Nat.reduceEqDiff, hF, hqk]; done)) (by first | rfl | (simp (disch := omega) only [wk, tis, seval, reduceCtorEq, Nat.reduceEqDiff, hF, hqk]; done)) (by first | rfl | (simp only [tocvs, tocv, List.set_cons_zero, List.set_cons_succ, hF, hqk]; rfl)) (by simp) (by simp) ?_
        simp (disch := omega) only [wk, tis, seval, reduceCtorEq, Nat.reduceEqDiff, hF, hqk]
        refine ⟨⟨s13, s28, lessD r b k i, q.set i (q.getD i 0 + k), ⟨dn_dig _ _, hq.set hqi, by simpa using hql, ?_, ?_, ?_, ?_, fun j hj => ?_⟩, rfl, rfl, rfl, rfl⟩, ?_⟩
        · rw [hqs, Nat.add_mul, hkT, hlv]; omega
        · rw [hqset, hqiT, hlv]; omega
        · rw [lessD, dn_len]; exact hil
        · rw [lessD, dn_len]; exact hrl
        · have : (q.set i (q.getD i 0 + k)).getD j 0 = q.getD j 0 := by simp only [List.getD, List.getElem?_set, show ¬ i = j by omega, if_false]
          rw [this]; exact hz j hj
        · rw [hval_of (st := s13) (e := 3) (sz := 1) (fz := false) (l := lessD r b k i) (by simp only [updH_at]; rfl), hlv]
          omega
    · have mc := rcut_ok r (by omega)
      rw [dgD_of hr] at mc
      have hdl : (dgD (vl D16 r)).length ≤ r.length := by
        rw [← dgD_of hr, List.length_take]; omega
      have hRi : vl D16 r < vl D16 b * D16 ^ i := by omega
      simp (disch := omega) only [wk, tis, seval, reduceCtorEq, Nat.reduceEqDiff, hF, hh]
      refine call_by (mc) (by first | rfl | (simp only [tocvs, tocv, hF]; rfl) | (simp only [tocvs, tocv, toboxes, tobox, updH_at, Nat.reduceEqDiff, ↓reduceIte, hF]; rfl)) (by simp) ?_
      simp (disch := omega) only [wk, tis, seval, reduceCtorEq, Nat.reduceEqDiff, hF]
      refine aloop_w (.ren 6 82 13 _ _ _ _ (by rfl) (by rfl) (by decide) (.refl _ _)) (fun f H => ∃ (t13 n : Nat), (n = 0 ∨ (dgD (vl D16 r)).length + n ≤ i) ∧ f 9 = .iv (.int .i64 i) ∧ f 6 = .hs 13 t13 ∧ f 7 = .hs 28 s28 ∧ f 1 = .iv (.sl (nums b)) ∧ f 8 = .iv (.int .i64 ((b.getD (b.length - 1) 0 : Nat) + 1)) ∧
        H 13 = .blk false t13 3 1 (nums (dgD (vl D16 r) ++ List.replicate n 0)) ∧ H 28 = .blk false s28 3 1 (nums q)) (fun f H => i - hlen H 13) ?_ ?_
      · refine ⟨s13 + 1, 0, .inl rfl, ?_⟩
        simp (disch := omega) only [wk, tis, seval, reduceCtorEq, Nat.reduceEqDiff, hF, List.replicate_zero]
      rintro f H ⟨t13, n, hn, hF⟩
      rw [hlen_of hF.2.2.2.2.2.1]
      have hll : (dgD (vl D16 r) ++ List.replicate n 0).length = (dgD (vl D16 r)).length + n := by simp
      simp (disch := omega) only [wk, tis, seval, reduceCtorEq, Nat.reduceEqDiff, hF, hll]
      refine if_by (fun hge2 => ?_) (fun hge2 => ?_)
      · simp (disch := omega) only [wk, tis, seval, reduceCtorEq, Nat.reduceEqDiff, hF, hll]
        have e1 : nums (dgD (vl D16 r) ++ List.replicate n 0) ++ [[IV.int IntKind.i64 0]] = nums (dgD (vl D16 r) ++ List.replicate (n + 1) 0) := by
          rw [List.replicate_succ', ← List.append_assoc, ← nums_snoc]; rfl
        rw [e1]
        refine ⟨⟨t13 + 1, n + 1, .inr (by omega), rfl, rfl⟩, ?_⟩
        rw [hlen_of (st := t13 + 1) (e := 3) (sz := 1) (fz := false) (rows := nums (dgD (vl D16 r) ++ List.replicate (n + 1) 0)) (by simp only [updH_at]; rfl), nums_len]
        simp only [List.length_append, List.length_replicate]
        omega
      · simp (disch := omega) only [wk, tis, seval, reduceCtorEq, Nat.reduceEqDiff, hF, hll]
        have hvv : vl D16 (dgD (vl D16 r) ++ List.replicate n 0) = vl D16 r := by rw [vl_append, vl_replicate, Nat.mul_zero, Nat.add_zero, vl_dgD]
        refine ⟨⟨i, t13, s28, dgD (vl D16 r) ++ List.replicate n 0, q, by omega, (dgD_dig _).append (Dig.replicate _), hq, hql, by rw [hvv]; exact hv, by rw [hvv]; exact hRi, by omega, by omega, hz, fun h0 => ?_, rfl, rfl, rfl, rfl, rfl⟩, by omega⟩
        obtain rfl : n = 0 := by omega
        rw [hvv, List.replicate_zero, List.append_nil]
  · obtain rfl : i1 = 0 := by omega
    simp (disch := omega) only [wk, tis, seval, reduceCtorEq, Nat.reduceEqDiff, hF]
    have hr0 : vl D16 r < vl D16 b := by simpa using hlt1
    have hqv : vl D16 q = V / vl D16 b := by
      rw [← hv, Nat.add_comm, Nat.add_mul_div_right _ _ hTpos, Nat.div_eq_of_lt hr0, Nat.zero_add]
    have hrv : vl D16 r = V % vl D16 b := by
      rw [← hv, Nat.add_comm, Nat.add_mul_mod_self_right, Nat.mod_eq_of_lt hr0]
    have e1 : q = dn m (V / vl D16 b) := by
      refine eq_dn hq hql ?_
      rw [← hqv]
      have := vlD_lt hq
      rw [hql] at this
      rw [Nat.mod_eq_of_lt this]
    rw [← hrv, ← hfin rfl, ← e1]
    exact ⟨rfl, rfl⟩
end Go.Proofs.YtenlbifnhdmnnaaGreat

namespace Go.Proofs.YtenlbifnhdmnnaaGreat
open Go Go.Proofs Go.AL
set_option linter.unusedSimpArgs false
set_option linter.unusedVariables false
theorem dvr_dgD {y : Nat} (h : y ≠ 0) : Dvr (dgD y) := by
  have hp : 0 < (dgD y).length := by
    rcases Nat.eq_zero_or_pos (dgD y).length with h0 | h0
    · exact absurd (dgD_len_zero.mp h0) h
    · exact h0
  refine ⟨dgD_dig y, hp, fun h0 => ?_⟩
  have e := vl_take_next D16 (dgD y) ((dgD y).length - 1)
  rw [show (dgD y).length - 1 + 1 = (dgD y).length by omega, List.take_length, h0, Nat.mul_zero, Nat.add_zero, vl_dgD] at e
  have h1 := vlD_lt ((dgD_dig y).take ((dgD y).length - 1))
  rw [List.length_take, Nat.min_eq_left (by omega), ← e] at h1
  have := (dg_length_le two_le_D ((dgD y).length - 1) (n := y)).mpr h1
  have h2 : (dg D16 y).length = (dgD y).length := rfl
  omega
theorem divide_short (a b : List Nat) (ha : a.length ≤ 2 ^ 41) (hb : b.length ≤ 2 ^ 41) (h : a.length < b.length) : AC Tryz.prog 107 [cd a, cd b] none [cd [], cd a] := by
  refine AC.by_walk (rs := [.tmp 4, .tmp 5]) ords Tryz.func107 (by rfl) (by rfl) (by rfl) (by rfl) (by rfl) ?_
  have hlt : (a.length : Int) < (b.length : Int) := by omega
  simp (disch := omega) only [wk, tis, seval, reduceCtorEq, Nat.reduceEqDiff, hlt]
theorem divide_g (x y : Nat) (hy : y ≠ 0) (hx : (dgD x).length ≤ 2 ^ 41) (hyl : (dgD y).length ≤ 2 ^ 41) : ∃ q, Dig q ∧ vl D16 q = x / y ∧ q.length ≤ (dgD x).length + 1 ∧ AC Tryz.prog 107 [cd (dgD x), cd (dgD y)] none [cd q, cd (dgD (x % y))] := by
  have hd := dvr_dgD hy
  rcases Nat.lt_or_ge (dgD x).length (dgD y).length with h | h
  · have hlt : x < y := by
      have h1 := vlD_lt (dgD_dig x)
      rw [vl_dgD] at h1
      have h2 := hd.bounds.1
      rw [vl_dgD] at h2
      exact Nat.lt_of_lt_of_le h1 (Nat.le_trans (Nat.pow_le_pow_right (by decide) (by omega)) h2)
    refine ⟨[], Dig.nil, by rw [Nat.div_eq_of_lt hlt]; rfl, by simp, ?_⟩
    rw [Nat.mod_eq_of_lt hlt]
    exact divide_short _ _ hx hyl h
  · have m := divide_ok5 (dgD x) (dgD y) (dgD_dig x) hd hx hyl h
    rw [vl_dgD, vl_dgD] at m
    refine ⟨_, dn_dig _ _, ?_, ?_, m⟩
    · rw [vl_dn]
      refine Nat.mod_eq_of_lt ?_
      have h1 := vlD_lt (dgD_dig x)
      rw [vl_dgD] at h1
      have h2 := hd.bounds.1
      rw [vl_dgD] at h2
      refine (Nat.div_lt_iff_lt_mul (by omega)).mpr (Nat.lt_of_lt_of_le h1 ?_)
      have e : D16 ^ (dgD x).length = D16 ^ ((dgD x).length - (dgD y).length + 1) * D16 ^ ((dgD y).length - 1) := by
        rw [← Nat.pow_add]; congr 1; have := hd.pos; omega
      rw [e]; exact Nat.mul_le_mul_left _ h2
    · rw [dn_len]; have := hd.pos; omega
theorem rQuo_ok (a b : List Nat) (ha : Lim a) (hb : Lim b) (hla : a.length ≤ 2 ^ 38) (hlb : b.length ≤ 2 ^ 38) (h0 : nv b ≠ 0) : AC Tryz.prog 66 [cl a, cl b] none [cl (wd (nv a / nv b)), cl (wd (nv a % nv b))] := by
  refine AC.by_walk (rs := [.tmp 4, .tmp 5]) ords Tryz.func66 (by rfl) (by rfl) (by rfl) (by rfl) (by rfl) ?_
  obtain ⟨x, y, s, h1, h2⟩ := rones_ok a b 63 ha hb (by omega) (by omega) (by omega)
  have h3 := dgD_len ha
  have h4 := dgD_len hb
  simp (disch := omega) only [wk, tis, seval, reduceCtorEq, Nat.reduceEqDiff]
  refine call_by (h1) (by rfl) (by simp) ?_
  simp (disch := omega) only [wk, tis, seval, reduceCtorEq, Nat.reduceEqDiff]
  cases s with
  | true =>
    obtain ⟨rfl, rfl, b1, b2⟩ := h2 rfl
    have e1 : ((nv a : Nat) : Int).tdiv ((nv b : Nat) : Int) = ((nv a / nv b : Nat) : Int) := by rw [Int.tdiv_eq_ediv_of_nonneg (by omega)]; rfl
    have e2 : ((nv a : Nat) : Int).tmod ((nv b : Nat) : Int) = ((nv a % nv b : Nat) : Int) := by rw [Int.tmod_eq_emod_of_nonneg (by omega)]; rfl
    have l1 : nv a / nv b ≤ nv a := Nat.div_le_self _ _
    have l2 : nv a % nv b ≤ nv a := Nat.mod_le _ _
    generalize nv a / nv b = q at *
    generalize nv a % nv b = r at *
    have hqW : q < W := by simp only [W]; omega
    have hrW : r < W := by simp only [W]; omega
    simp (disch := omega) only [wk, tis, seval, reduceCtorEq, Nat.reduceEqDiff, e1, e2, wrap_nat hqW]
    refine ⟨tmps_by (by kernel_rfl), ?_⟩
    refine call_by ((rof_ok q hqW)) (by first | rfl | (simp only [tocvs, tocv, e2]; rfl) | (simp only [tocvs, tocv, toboxes, tobox, updH_at, Nat.reduceEqDiff, ↓reduceIte, e2]; rfl)) (by simp) ?_
    simp (disch := omega) only [wk, tis, seval, reduceCtorEq, Nat.reduceEqDiff, e2]
    refine call_by ((rof_ok r hrW)) (by first | rfl | (simp only [tocvs, tocv, e2]; rfl) | (simp only [tocvs, tocv, toboxes, tobox, updH_at, Nat.reduceEqDiff, ↓reduceIte, e2]; rfl)) (by simp) ?_
    simp (disch := omega) only [wk, tis, seval, reduceCtorEq, Nat.reduceEqDiff, e2]
    first | exact log_by (by kernel_rfl) | refine ⟨log_by (by kernel_rfl), ?_⟩
  | false =>
    simp (disch := omega) only [wk, tis, seval, reduceCtorEq, Nat.reduceEqDiff]
    refine call_by ((rdig_ok a ha (by omega))) (by rfl) (by simp) ?_
    simp (disch := omega) only [wk, tis, seval, reduceCtorEq, Nat.reduceEqDiff]
    refine call_by ((rdig_ok b hb (by omega))) (by rfl) (by simp) ?_
    simp (disch := omega) only [wk, tis, seval, reduceCtorEq, Nat.reduceEqDiff]
    obtain ⟨q, q1, q2, q3, m⟩ := divide_g (nv a) (nv b) h0 (by omega) (by omega)
    refine call_by (m) (by rfl) (by simp) ?_
    simp (disch := omega) only [wk, tis, seval, reduceCtorEq, Nat.reduceEqDiff]
    have m1 := rnumber_ok q q1 (by omega)
    rw [q2] at m1
    have h5 : (dgD (nv a % nv b)).length ≤ 2 ^ 41 := by
      have h6 : nv a % nv b < D16 ^ (dgD (nv b)).length := Nat.lt_of_lt_of_le (Nat.mod_lt _ (by omega)) (by have := vlD_lt (dgD_dig (nv b)); rw [vl_dgD] at this; omega)
      have := (dg_length_le two_le_D (dgD (nv b)).length).mpr h6
      have e : (dg D16 (nv a % nv b)).length = (dgD (nv a % nv b)).length := rfl
      omega
    have m2 := rnumber_ok (dgD (nv a % nv b)) (dgD_dig _) (by omega)
    rw [vl_dgD] at m2
    refine call_by (m1) (by rfl) (by simp) ?_
    simp (disch := omega) only [wk, tis, seval, reduceCtorEq, Nat.reduceEqDiff]
    refine call_by (m2) (by rfl) (by simp) ?_
    simp (disch := omega) only [wk, tis, seval, reduceCtorEq, Nat.reduceEqDiff]
end Go.Proofs.YtenlbifnhdmnnaaGreat
