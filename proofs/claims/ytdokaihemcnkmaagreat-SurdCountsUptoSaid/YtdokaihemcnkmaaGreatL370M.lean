/-
 Contracts of the functions that the law reaches.
-/
import Derived.Test.YtdokaihemcnkmaaGreatL369
import Derived.Test.YtdokaihemcnkmaaGreatAbsYM
import Derived.Test.YtdokaihemcnkmaaGreatL59M
import Derived.Test.YtdokaihemcnkmaaGreatL6M
set_option maxHeartbeats 2000000
namespace Go.Proofs.YtdokaihemcnkmaaGreat
open Go Go.Proofs Go.AL
set_option linter.unusedSimpArgs false
set_option linter.unusedVariables false
set_option linter.defProp false
theorem gzA (x : AV) (l : List AV) (d : AV) : (x :: l).getD 0 d = x := rfl
theorem gsA (x : AV) (l : List AV) (d : AV) (n : Nat) : (x :: l).getD (n + 1) d = l.getD n d := rfl
theorem szA (x y : AV) (l : List AV) : (x :: l).set 0 y = y :: l := rfl
theorem ssA (x y : AV) (l : List AV) (n : Nat) : (x :: l).set (n + 1) y = x :: l.set n y := rfl
theorem gzI (x : IV) (l : List IV) (d : IV) : (x :: l).getD 0 d = x := rfl
theorem gsI (x : IV) (l : List IV) (d : IV) (n : Nat) : (x :: l).getD (n + 1) d = l.getD n d := rfl
theorem szI (x y : IV) (l : List IV) : (x :: l).set 0 y = y :: l := rfl
theorem ssI (x y : IV) (l : List IV) (n : Nat) : (x :: l).set (n + 1) y = x :: l.set n y := rfl
def wz := And.intro gzA (And.intro gsA (And.intro szA (And.intro ssA (And.intro gzI (And.intro gsI (And.intro szI ssI))))))
def Kb (p : List RI) (l : List RQ) (ts : List Int) (H : AL.Hp) : Prop :=
 ∃ rn tn, H 900 = .nst 1 132 [.iv (.sl (raws p)), rn, tn, .iv (.bool true)] ∧ ((l = [] ∧ rn = .nils) ∨ ∃ st, l ≠ [] ∧ rn = .hs 68 st ∧ H 68 = .blk false st 58 3 (rats l)) ∧
  ((ts = [] ∧ tn = .nils) ∨ ∃ st, ts ≠ [] ∧ tn = .hs 78 st ∧ H 78 = .blk false st 3 1 (ilims ts))
def KeptK (H H' : AL.Hp) : Prop := ∀ k, (k = 1 ∨ k = 2 ∨ 150 < k) → k ≠ 900 → H' k = H k
theorem kb_ex (p : List RI) {l : List RQ} {ts : List Int} (hl : l ≠ []) (ht : ts ≠ []) (H : AL.Hp) : ∃ H', Kb p l ts H' ∧ KeptK H H' := by
 refine ⟨fun k => if k = 900 then .nst 1 132 [.iv (.sl (raws p)), .hs 68 1, .hs 78 1, .iv (.bool true)] else if k = 68 then .blk false 1 58 3 (rats l) else if k = 78 then .blk false 1 3 1 (ilims ts) else H k, ⟨_, _, by rfl, .inr ⟨1, hl, rfl, by rfl⟩, .inr ⟨1, ht, rfl, by rfl⟩⟩, fun k h1 h2 => ?_⟩
 show (if k = 900 then _ else if k = 68 then _ else if k = 78 then _ else H k) = H k
 rw [if_neg h2, if_neg (by omega), if_neg (by omega)]
theorem add0_ok (p : List RI) (x : RQ) (t : Int) (H : AL.Hp) (hB : Kb p [] [] H) : ACI Tryz.prog 187 [.hp 900 1 0 0, .agg (qrow x), .iv (.int .i64 t)] H (fun _ H' => Kb p [x] [t] H' ∧ KeptK H H') := by
 refine ACI.by_walk zi0 (rs := []) ords Tryz.func187 (by rfl) (by rfl) (by rfl) (by rfl) (by rfl) (by rfl) ?_ ?_
 ·obtain ⟨H', h⟩ := kb_ex p (l := [x]) (ts := [t]) (by simp) (by simp) H
  exact ⟨.dead, H', h⟩
 obtain ⟨rn, tn, h900, hR, hT⟩ := hB
 obtain rfl : rn = .nils := by
  rcases hR with ⟨_, h⟩ | ⟨st, h, h2, h3⟩
  ·exact h
  ·exact (h rfl).elim
 obtain rfl : tn = .nils := by
  rcases hT with ⟨_, h⟩ | ⟨st, h, h2, h3⟩
  ·exact h
  ·exact (h rfl).elim
 simp (disch := omega) only [wt, seval, reduceCtorEq, Nat.reduceEqDiff, rqs, wz, h900]
 refine aloop_by (fun f H' => (f 0 = .hp 900 1 0 0 ∧ f 2 = .iv (.int .i64 t) ∧ f 4 = .hp 4 ((H 4).stamp + 1) 0 0 ∧ f 6 = .iv (.int .i64 0) ∧ f 21 = .iv (.int .i64 0) ∧ f 22 = .iv (.int .i64 0)) ∧ H' 4 = .blk false ((H 4).stamp + 1) 58 3 [qrow x] ∧ H' 900 = .nst 1 132 [.iv (.sl (raws p)), .nils, .nils, .iv (.bool true)] ∧ KeptK H H') (fun f H => 0) ?_ ?_
 ·refine ⟨⟨by simp (disch := omega) only [wt, seval, reduceCtorEq, Nat.reduceEqDiff, rqs, wz], by simp (disch := omega) only [wt, seval, reduceCtorEq, Nat.reduceEqDiff, rqs, wz], by simp (disch := omega) only [wt, seval, reduceCtorEq, Nat.reduceEqDiff, rqs, wz], by simp (disch := omega) only [wt, seval, reduceCtorEq, Nat.reduceEqDiff, rqs, wz], by simp (disch := omega) only [wt, seval, reduceCtorEq, Nat.reduceEqDiff, rqs, wz], by simp (disch := omega) only [wt, seval, reduceCtorEq, Nat.reduceEqDiff, rqs, wz]⟩, by simp (disch := omega) only [wt, seval, reduceCtorEq, Nat.reduceEqDiff, rqs, wz], by simp (disch := omega) only [wt, seval, reduceCtorEq, Nat.reduceEqDiff, rqs, wz, h900], fun k h1 h2 => by rw [updH_ne _ _ (by omega)]⟩
 rintro f H' ⟨⟨f0, f2, f4, f6, f21, f22⟩, g4, g9, kp⟩
 simp (disch := omega) only [wt, seval, reduceCtorEq, Nat.reduceEqDiff, rqs, wz, f0, f2, f4, f6, f21, f22, g4, g9]
 refine .inl ⟨tmps_by (by kernel_rfl), ?_⟩
 first | exact log_by (by kernel_rfl) | refine ⟨log_by (by kernel_rfl), ?_⟩
 refine aloop_by (fun f H'' => f 6 = .iv (.int .i64 0) ∧ f 11 = .iv (.int .i64 0) ∧ Kb p [x] [t] H'' ∧ KeptK H H'') (fun f H => 0) ?_ ?_
 ·refine ⟨by simp (disch := omega) only [wt, seval, reduceCtorEq, Nat.reduceEqDiff, rqs, wz, f6], by simp (disch := omega) only [wt, seval, reduceCtorEq, Nat.reduceEqDiff, rqs, wz], ⟨_, _, by simp (disch := omega) only [wt, seval, reduceCtorEq, Nat.reduceEqDiff, rqs, wz]; rfl, .inr ⟨(H' 68).stamp + 1, by simp, by rfl, by simp (disch := omega) only [wt, seval, reduceCtorEq, Nat.reduceEqDiff, rqs, wz]; rfl⟩, .inr ⟨(H' 78).stamp + 1, by simp, by rfl, by simp (disch := omega) only [wt, seval, reduceCtorEq, Nat.reduceEqDiff, rqs, wz]; rfl⟩⟩, fun k h1 h2 => ?_⟩
  rw [updH_ne _ _ (by omega), updH_ne _ _ (by omega), updH_ne _ _ (by omega), updH_ne _ _ (by omega), updH_ne _ _ (by omega), updH_ne _ _ (by omega)]
  exact kp k h1 h2
 rintro f H'' ⟨f6, f11, kb, kq⟩
 simp (disch := omega) only [wt, seval, reduceCtorEq, Nat.reduceEqDiff, rqs, wz, f6, f11]
 exact reti_none ⟨kb, kq⟩
end Go.Proofs.YtdokaihemcnkmaaGreat

namespace Go.Proofs.YtdokaihemcnkmaaGreat
open Go Go.Proofs Go.AL
set_option linter.unusedSimpArgs false
set_option linter.unusedVariables false
set_option linter.defProp false
def atk (l : List RQ) (x : RQ) : Nat → Nat
 | 0 => l.length
 | i + 1 => if atk l x i = l.length ∧ qv x < qv (l.getD i q0) then i else atk l x i
theorem atk_le (l : List RQ) (x : RQ) : ∀ i, atk l x i = l.length ∨ atk l x i < i
 | 0 => .inl rfl
 | i + 1 => by
  have ih := atk_le l x i
  rw [atk]
  split
  ·right; omega
  ·omega
set_option maxRecDepth 100000 in
theorem addn_ok (p : List RI) (l : List RQ) (ts : List Int) (x : RQ) (t : Int) (H : AL.Hp) (hB : Kb p l ts H) (hl0 : l ≠ []) (hl : l.length ≤ 100) (ht : ts.length = l.length) (hq : ∀ r ∈ l, SzQ (2 ^ 20) r ∧ nv r.2 ≠ 0) (hx : SzQ (2 ^ 20) x) (hx0 : nv x.2 ≠ 0) (hn : ∀ r ∈ l, qv r ≠ qv x) : ACI Tryz.prog 187 [.hp 900 1 0 0, .agg (qrow x), .iv (.int .i64 t)] H (fun _ H' => Kb p (insAt l (atk l x l.length) x) (insAt ts (atk l x l.length) t) H' ∧ KeptK H H') := by
 have ht0 : ts ≠ [] := fun e => hl0 (by rw [e] at ht; exact List.length_eq_zero_iff.1 ht.symm)
 refine ACI.by_walk zi0 (rs := []) ords Tryz.func187 (by rfl) (by rfl) (by rfl) (by rfl) (by rfl) (by rfl) ?_ ?_
 ·obtain ⟨H', h⟩ := kb_ex p (l := insAt l (atk l x l.length) x) (ts := insAt ts (atk l x l.length) t) (by simp [insAt]) (by simp [insAt]) H
  exact ⟨.dead, H', h⟩
 obtain ⟨rn, tn, h900, hR, hT⟩ := hB
 obtain ⟨st, -, rfl, h68⟩ : ∃ st, l ≠ [] ∧ rn = .hs 68 st ∧ H 68 = .blk false st 58 3 (rats l) := hR.resolve_left fun h => hl0 h.1
 obtain ⟨st2, -, rfl, h78⟩ : ∃ st, ts ≠ [] ∧ tn = .hs 78 st ∧ H 78 = .blk false st 3 1 (ilims ts) := hT.resolve_left fun h => ht0 h.1
 clear hR hT
 have cx := copyrat_ok x (Nat.le_trans hx.1.1 (by omega)) (Nat.le_trans hx.2.1 (by omega))
 simp (disch := omega) only [wt, seval, reduceCtorEq, Nat.reduceEqDiff, rqs, wz, h900, h68, h78]
 refine aloop_by (fun f H' => ∃ i : Nat, i ≤ l.length ∧ (f 0 = .hp 900 1 0 0 ∧ f 2 = .iv (.int .i64 t) ∧ f 4 = .hp 4 ((H 4).stamp + 1) 0 0 ∧ f 6 = .iv (.int .i64 (atk l x i)) ∧ f 20 = .hs 68 st ∧ f 21 = .iv (.int .i64 l.length) ∧ f 22 = .iv (.int .i64 i)) ∧ H' 4 = .blk false ((H 4).stamp + 1) 58 3 [qrow x] ∧ H' 900 = .nst 1 132 [.iv (.sl (raws p)), .hs 68 st, .hs 78 st2, .iv (.bool true)] ∧ H' 68 = .blk false st 58 3 (rats l) ∧ H' 78 = .blk false st2 3 1 (ilims ts) ∧ KeptK H H') (fun f H => (l.length - intAt f 22).toNat) ?_ ?_
 ·refine ⟨0, by omega, ⟨by simp (disch := omega) only [wt, seval, reduceCtorEq, Nat.reduceEqDiff, rqs, wz], by simp (disch := omega) only [wt, seval, reduceCtorEq, Nat.reduceEqDiff, rqs, wz], by simp (disch := omega) only [wt, seval, reduceCtorEq, Nat.reduceEqDiff, rqs, wz], by simp (disch := omega) only [wt, seval, reduceCtorEq, Nat.reduceEqDiff, rqs, wz]; try rfl, by simp (disch := omega) only [wt, seval, reduceCtorEq, Nat.reduceEqDiff, rqs, wz], by simp (disch := omega) only [wt, seval, reduceCtorEq, Nat.reduceEqDiff, rqs, wz], by simp (disch := omega) only [wt, seval, reduceCtorEq, Nat.reduceEqDiff, rqs, wz]; try rfl⟩, by simp (disch := omega) only [wt, seval, reduceCtorEq, Nat.reduceEqDiff, rqs, wz], by simp (disch := omega) only [wt, seval, reduceCtorEq, Nat.reduceEqDiff, rqs, wz, h900], by simp (disch := omega) only [wt, seval, reduceCtorEq, Nat.reduceEqDiff, rqs, wz, h68], by simp (disch := omega) only [wt, seval, reduceCtorEq, Nat.reduceEqDiff, rqs, wz, h78], fun k h1 h2 => by rw [updH_ne _ _ (by omega)]⟩
 rintro f H' ⟨i, hi, ⟨f0, f2, f4, f6, f20, f21, f22⟩, g4, g9, g68, g78, kp⟩
 have ak := atk_le l x i
 rw [intAt_of f22]
 simp (disch := omega) only [wt, seval, reduceCtorEq, Nat.reduceEqDiff, rqs, wz, f0, f2, f4, f6, f20, f21, f22, g4, g9, g68, g78]
 refine if_by (fun hlt => ?_) (fun hlt => ?_)
 ·have hlt' : i < l.length := by omega
  obtain ⟨sy, ny⟩ := hq _ (getD_mem hlt' q0)
  have cy := copyrat_ok (l.getD i q0) (Nat.le_trans sy.1.1 (by omega)) (Nat.le_trans sy.2.1 (by omega))
  have c1 := qcmpr_ok x (l.getD i q0) (hx.mono (by omega)) (sy.mono (by omega)) hx0 ny
  have hne : qv (l.getD i q0) ≠ qv x := hn _ (getD_mem hlt' q0)
  have c0 : ¬ sgq (qv x - qv (l.getD i q0)) = 0 := fun e => hne (by have := sgq_eq_zero.1 e; grind)
  by_cases hc : qv x < qv (l.getD i q0)
  ·have s1 : sgq (qv x - qv (l.getD i q0)) = -1 := sgq_neg (by grind)
   rw [s1] at c1
   by_cases ha : atk l x i = l.length
   ·have ea : atk l x (i + 1) = i := by rw [atk, if_pos ⟨ha, hc⟩]
    have hia : (i : Int) < ((atk l x i : Nat) : Int) := by omega
    simp (disch := omega) only [wt, seval, reduceCtorEq, Nat.reduceEqDiff, rqs, wz, f0, f2, f4, f6, f20, f21, f22, g4, g9, g68, g78]
    refine .inl ⟨tmps_by (by kernel_rfl), ?_⟩
    refine call_by (cx) (by first | rfl | (simp only [tocvs, tocv, toboxes, tobox, updH_at, Nat.reduceEqDiff, ↓reduceIte, f0, f2, f4, f6, f20, f21, f22, g4, g9, g68, g78]; rfl)) (by simp) ?_
    simp (disch := omega) only [wt, seval, reduceCtorEq, Nat.reduceEqDiff, rqs, wz, f0, f2, f4, f6, f20, f21, f22, g4, g9, g68, g78]
    refine call_by (cy) (by first | rfl | (simp only [tocvs, tocv, toboxes, tobox, updH_at, Nat.reduceEqDiff, ↓reduceIte, f0, f2, f4, f6, f20, f21, f22, g4, g9, g68, g78]; rfl)) (by simp) ?_
    simp (disch := omega) only [wt, seval, reduceCtorEq, Nat.reduceEqDiff, rqs, wz, f0, f2, f4, f6, f20, f21, f22, g4, g9, g68, g78]
    refine call_by (c1) (by first | rfl | (simp only [tocvs, tocv, toboxes, tobox, updH_at, Nat.reduceEqDiff, ↓reduceIte, f0, f2, f4, f6, f20, f21, f22, g4, g9, g68, g78, hia]; rfl)) (by simp) ?_
    simp (disch := omega) only [wt, seval, reduceCtorEq, Nat.reduceEqDiff, rqs, wz, f0, f2, f4, f6, f20, f21, f22, g4, g9, g68, g78, hia]
    first | exact log_by (by kernel_rfl) | refine ⟨log_by (by kernel_rfl), ?_⟩
    refine ⟨⟨i + 1, by omega, ⟨by rw [ea], by omega⟩, fun k h1 h2 => by rw [updH_ne _ _ (by omega), updH_ne _ _ (by omega)]; exact kp k h1 h2⟩, by omega⟩
   ·have ea : atk l x (i + 1) = atk l x i := by rw [atk, if_neg (fun h => ha h.1)]
    have hia : ¬ (i : Int) < ((atk l x i : Nat) : Int) := by omega
    simp (disch := omega) only [wt, seval, reduceCtorEq, Nat.reduceEqDiff, rqs, wz, f0, f2, f4, f6, f20, f21, f22, g4, g9, g68, g78]
    refine .inl ⟨tmps_by (by kernel_rfl), ?_⟩
    refine call_by (cx) (by first | rfl | (simp only [tocvs, tocv, toboxes, tobox, updH_at, Nat.reduceEqDiff, ↓reduceIte, f0, f2, f4, f6, f20, f21, f22, g4, g9, g68, g78]; rfl)) (by simp) ?_
    simp (disch := omega) only [wt, seval, reduceCtorEq, Nat.reduceEqDiff, rqs, wz, f0, f2, f4, f6, f20, f21, f22, g4, g9, g68, g78]
    refine call_by (cy) (by first | rfl | (simp only [tocvs, tocv, toboxes, tobox, updH_at, Nat.reduceEqDiff, ↓reduceIte, f0, f2, f4, f6, f20, f21, f22, g4, g9, g68, g78]; rfl)) (by simp) ?_
    simp (disch := omega) only [wt, seval, reduceCtorEq, Nat.reduceEqDiff, rqs, wz, f0, f2, f4, f6, f20, f21, f22, g4, g9, g68, g78]
    refine call_by (c1) (by first | rfl | (simp only [tocvs, tocv, toboxes, tobox, updH_at, Nat.reduceEqDiff, ↓reduceIte, f0, f2, f4, f6, f20, f21, f22, g4, g9, g68, g78, hia]; rfl)) (by simp) ?_
    simp (disch := omega) only [wt, seval, reduceCtorEq, Nat.reduceEqDiff, rqs, wz, f0, f2, f4, f6, f20, f21, f22, g4, g9, g68, g78, hia]
    first | exact log_by (by kernel_rfl) | refine ⟨log_by (by kernel_rfl), ?_⟩
    refine ⟨⟨i + 1, by omega, ⟨by rw [ea], by omega⟩, fun k h1 h2 => by rw [updH_ne _ _ (by omega), updH_ne _ _ (by omega)]; exact kp k h1 h2⟩, by omega⟩
  ·have ea : atk l x (i + 1) = atk l x i := by rw [atk, if_neg (fun h => hc h.2)]
   have s1 : ¬ sgq (qv x - qv (l.getD i q0)) < 0 := by
    have := Rat.not_lt.mp hc
    rcases sgq_cases (qv x - qv (l.getD i q0)) with ⟨_, e⟩ | ⟨_, e⟩ | ⟨h, e⟩ <;> rw [e]
    ·decide
    ·decide
    ·exfalso; grind
   generalize sgq (qv x - qv (l.getD i q0)) = s at *
   simp (disch := omega) only [wt, seval, reduceCtorEq, Nat.reduceEqDiff, rqs, wz, f0, f2, f4, f6, f20, f21, f22, g4, g9, g68, g78]
   refine .inl ⟨tmps_by (by kernel_rfl), ?_⟩
   refine call_by (cx) (by first | rfl | (simp only [tocvs, tocv, toboxes, tobox, updH_at, Nat.reduceEqDiff, ↓reduceIte, f0, f2, f4, f6, f20, f21, f22, g4, g9, g68, g78]; rfl)) (by simp) ?_
   simp (disch := omega) only [wt, seval, reduceCtorEq, Nat.reduceEqDiff, rqs, wz, f0, f2, f4, f6, f20, f21, f22, g4, g9, g68, g78]
   refine call_by (cy) (by first | rfl | (simp only [tocvs, tocv, toboxes, tobox, updH_at, Nat.reduceEqDiff, ↓reduceIte, f0, f2, f4, f6, f20, f21, f22, g4, g9, g68, g78]; rfl)) (by simp) ?_
   simp (disch := omega) only [wt, seval, reduceCtorEq, Nat.reduceEqDiff, rqs, wz, f0, f2, f4, f6, f20, f21, f22, g4, g9, g68, g78]
   refine call_by (c1) (by first | rfl | (simp only [tocvs, tocv, toboxes, tobox, updH_at, Nat.reduceEqDiff, ↓reduceIte, f0, f2, f4, f6, f20, f21, f22, g4, g9, g68, g78, s1, c0]; rfl)) (by simp) ?_
   simp (disch := omega) only [wt, seval, reduceCtorEq, Nat.reduceEqDiff, rqs, wz, f0, f2, f4, f6, f20, f21, f22, g4, g9, g68, g78, s1, c0]
   first | exact log_by (by kernel_rfl) | refine ⟨log_by (by kernel_rfl), ?_⟩
   refine ⟨⟨i + 1, by omega, ⟨by rw [ea], by omega⟩, fun k h1 h2 => by rw [updH_ne _ _ (by omega), updH_ne _ _ (by omega)]; exact kp k h1 h2⟩, by omega⟩
 ·obtain rfl : i = l.length := by omega
  have hln : (rats l).length = l.length := by simp [rats]
  have htl : (ilims ts).length = l.length := by rw [ilims_len, ht]
  simp (disch := omega) only [wt, seval, reduceCtorEq, Nat.reduceEqDiff, rqs, wz, f0, f2, f4, f6, f20, f21, f22, g4, g9, g68, g78]
  refine .inl ⟨tmps_by (by kernel_rfl), ?_⟩
  first | exact log_by (by kernel_rfl) | refine ⟨log_by (by kernel_rfl), ?_⟩
  have ee : (((l.length + 1 : Nat) : Int)) - 1 = (l.length : Int) := by omega
  refine aloop_by (fun f H'' => ∃ i : Nat, atk l x l.length ≤ i ∧ i ≤ l.length ∧ (f 0 = .hp 900 1 0 0 ∧ f 6 = .iv (.int .i64 (atk l x l.length)) ∧ f 11 = .iv (.int .i64 i)) ∧ H'' 900 = .nst 1 132 [.iv (.sl (raws p)), .hs 68 (st + 1), .hs 78 (st2 + 1), .iv (.bool true)] ∧ H'' 68 = .blk false (st + 1) 58 3 (rats (insAt l i x)) ∧ H'' 78 = .blk false (st2 + 1) 3 1 (ilims (insAt ts i t)) ∧ KeptK H H'') (fun f H => (intAt f 11).toNat) ?_ ?_
  ·refine ⟨l.length, by omega, by omega, ⟨by simp (disch := omega) only [wt, seval, reduceCtorEq, Nat.reduceEqDiff, rqs, wz, f0], by simp (disch := omega) only [wt, seval, reduceCtorEq, Nat.reduceEqDiff, rqs, wz, f6]; try rfl, by simp (disch := omega) only [wt, seval, reduceCtorEq, Nat.reduceEqDiff, rqs, wz, ee]; try rfl⟩, by simp (disch := omega) only [wt, seval, reduceCtorEq, Nat.reduceEqDiff, rqs, wz]; try rfl, by rw [insAt_end]; simp (disch := omega) only [wt, seval, reduceCtorEq, Nat.reduceEqDiff, rqs, wz]; try rfl, by rw [← ht, insAt_end, ilims_snoc]; simp (disch := omega) only [wt, seval, reduceCtorEq, Nat.reduceEqDiff, rqs, wz]; try rfl, fun k h1 h2 => ?_⟩
   rw [updH_ne _ _ (by omega), updH_ne _ _ (by omega), updH_ne _ _ (by omega), updH_ne _ _ (by omega), updH_ne _ _ (by omega), updH_ne _ _ (by omega)]
   exact kp k h1 h2
  clear f0 f2 f4 f20 f21 f6 f22 g4 g9 g68 g78
  rintro f H'' ⟨i, hi1, hi2, ⟨f0, f6, f11⟩, g9, g68, g78, kp'⟩
  rw [intAt_of f11]
  simp (disch := omega) only [wt, seval, reduceCtorEq, Nat.reduceEqDiff, rqs, wz, f0, f6, f11, g9, g68, g78]
  refine if_by (fun hlt => ?_) (fun hlt => ?_)
  ·obtain ⟨j, rfl⟩ : ∃ j, i = j + 1 := ⟨i - 1, by omega⟩
   have ej : ((j + 1 : Nat) : Int) - 1 = (j : Int) := by omega
   have l1 := insAt_len (k := j + 1) x hi2
   have l2 := insAt_len (l := ts) (k := j + 1) t (by omega)
   have b1 := insAt_before (l := l) (k := j) x q0 (by omega)
   have b2 := insAt_before (l := ts) (k := j) t 0 (by omega)
   have a1 := insAt_at (l := l) (k := j + 1) x q0 hi2
   have a2 := insAt_at (l := ts) (k := j + 1) t 0 (by omega)
   have w1 := insAt_swap (l := l) (k := j) x q0 (by omega)
   have w2 := insAt_swap (l := ts) (k := j) t 0 (by omega)
   have l3 : ((insAt l (j + 1) x).set (j + 1) (l.getD j q0)).length = l.length + 1 := by rw [List.length_set]; exact l1
   have l4 : ((insAt ts (j + 1) t).set (j + 1) (ts.getD j 0)).length = ts.length + 1 := by rw [List.length_set]; exact l2
   simp (disch := omega) only [wt, seval, reduceCtorEq, Nat.reduceEqDiff, rqs, wz, f0, f6, f11, g9, g68, g78, ej, l1, l2, l3, l4, ht, b1, b2, a1, a2, w1, w2]
   refine .inl ⟨tmps_by (by kernel_rfl), ?_⟩
   first | exact log_by (by kernel_rfl) | refine ⟨log_by (by kernel_rfl), ?_⟩
   refine .inl ⟨tmps_by (by kernel_rfl), ?_⟩
   first | exact log_by (by kernel_rfl) | refine ⟨log_by (by kernel_rfl), ?_⟩
   have is : ∀ (X : List Int) (k : Nat) (v : Int), (ilims X).set k [.int .i64 v] = ilims (X.set k v) := fun X k v => by simp [ilims, List.map_set]
   have isp : ∀ (Y : List Int) (v : Int), j < Y.length → splice ((ilims Y).getD j []) 0 [.int .i64 v] = [.int .i64 v] := fun Y v hj => by rw [ilims_at hj]; rfl
   rw [is, isp _ _ (by omega), is, w2]
   refine ⟨j, by omega, by omega, rfl, rfl, rfl, fun k h1 h2 => ?_⟩
   rw [updH_ne _ _ (by omega), updH_ne _ _ (by omega), updH_ne _ _ (by omega), updH_ne _ _ (by omega)]
   exact kp' k h1 h2
  ·obtain rfl : i = atk l x l.length := by omega
   simp (disch := omega) only [wt, seval, reduceCtorEq, Nat.reduceEqDiff, rqs, wz, f0, f6, f11, g9, g68, g78]
   exact reti_none ⟨⟨_, _, g9, .inr ⟨st + 1, by simp [insAt], rfl, g68⟩, .inr ⟨st2 + 1, by simp [insAt], rfl, g78⟩⟩, kp'⟩
end Go.Proofs.YtdokaihemcnkmaaGreat

namespace Go.Proofs.YtdokaihemcnkmaaGreat
open Go Go.Proofs Go.AL
set_option linter.unusedSimpArgs false
set_option linter.unusedVariables false
set_option linter.defProp false
theorem atk_spec {l : List RQ} {x : RQ} (hn : ∀ r ∈ l, qv r ≠ qv x) : ∀ i, i ≤ l.length → (∀ j, j < i → j < atk l x i → qv (l.getD j q0) < qv x) ∧ (atk l x i ≠ l.length → atk l x i < i ∧ qv x < qv (l.getD (atk l x i) q0))
 | 0, _ => ⟨fun j h => by omega, fun h => (h rfl).elim⟩
 | i + 1, hi => by
  obtain ⟨a, b⟩ := atk_spec hn i (by omega)
  have hne := hn _ (getD_mem (show i < l.length by omega) q0)
  by_cases h : atk l x i = l.length
  ·by_cases h2 : qv x < qv (l.getD i q0)
   ·have e : atk l x (i + 1) = i := by rw [atk, if_pos ⟨h, h2⟩]
    rw [e]
    exact ⟨fun j _ hj => a j hj (by omega), fun _ => ⟨by omega, h2⟩⟩
   ·have e : atk l x (i + 1) = l.length := by rw [atk, if_neg (fun k => h2 k.2), h]
    rw [e]
    refine ⟨fun j hj _ => ?_, fun k => (k rfl).elim⟩
    by_cases hji : j = i
    ·subst hji
     exact Rat.lt_of_le_of_ne (Rat.not_lt.mp h2) hne
    ·exact a j (by omega) (by omega)
  ·have e : atk l x (i + 1) = atk l x i := by rw [atk, if_neg (fun k => h k.1)]
   rw [e]
   have := (b h).1
   exact ⟨fun j _ hj => a j (by omega) hj, fun k => ⟨by omega, (b h).2⟩⟩
theorem rise_atk {l : List RQ} {x : RQ} (hr : Rise l) (hn : ∀ r ∈ l, qv r ≠ qv x) : Rise (insAt l (atk l x l.length) x) := by
 obtain ⟨a, b⟩ := atk_spec hn l.length (Nat.le_refl _)
 have hk := atk_le l x l.length
 refine rise_ins hr (by omega) (fun j hj => a j (by omega) hj) (fun j h1 h2 => ?_)
 have h3 := (b (by omega)).2
 by_cases hjk : j = atk l x l.length
 ·subst hjk; exact h3
 ·have h4 := rise_get hr (show atk l x l.length < j by omega) h2; grind
end Go.Proofs.YtdokaihemcnkmaaGreat

namespace Go.Proofs.YtdokaihemcnkmaaGreat
open Go Go.Proofs Go.AL
set_option linter.unusedSimpArgs false
set_option linter.unusedVariables false
set_option linter.defProp false
set_option maxRecDepth 100000 in
theorem addin_ok (p : List RI) (l : List RQ) (ts : List Int) (x : RQ) (t : Int) (H : AL.Hp) (hB : Kb p l ts H) (hr : Rise l) (hl : l.length ≤ 100) (ht : ts.length = l.length) (hq : ∀ r ∈ l, SzQ (2 ^ 20) r ∧ nv r.2 ≠ 0) (hx : SzQ (2 ^ 20) x) (hx0 : nv x.2 ≠ 0) {m : Nat} (hm : m < l.length) (e : qv (l.getD m q0) = qv x) (b1 : 0 ≤ ts.getD m 0 ∧ ts.getD m 0 ≤ 1000) (b2 : 0 ≤ t ∧ t ≤ 1000) : ACI Tryz.prog 187 [.hp 900 1 0 0, .agg (qrow x), .iv (.int .i64 t)] H (fun _ H' => Kb p l (ts.set m (ts.getD m 0 + t)) H' ∧ KeptK H H') := by
 have hl0 : l ≠ [] := fun e => by rw [e] at hm; simp at hm
 have ht0 : ts ≠ [] := fun e => by rw [e] at ht; rw [← ht] at hm; simp at hm
 have hts0 : ts.set m (ts.getD m 0 + t) ≠ [] := fun e => ht0 (List.length_eq_zero_iff.1 (by rw [← List.length_set (i := m) (a := ts.getD m 0 + t), e]; rfl))
 refine ACI.by_walk zi0 (rs := []) ords Tryz.func187 (by rfl) (by rfl) (by rfl) (by rfl) (by rfl) (by rfl) ?_ ?_
 ·obtain ⟨H', h⟩ := kb_ex p (l := l) (ts := ts.set m (ts.getD m 0 + t)) hl0 hts0 H
  exact ⟨.dead, H', h⟩
 obtain ⟨rn, tn, h900, hR, hT⟩ := hB
 obtain ⟨st, -, rfl, h68⟩ : ∃ st, l ≠ [] ∧ rn = .hs 68 st ∧ H 68 = .blk false st 58 3 (rats l) := hR.resolve_left fun h => hl0 h.1
 obtain ⟨st2, -, rfl, h78⟩ : ∃ st, ts ≠ [] ∧ tn = .hs 78 st ∧ H 78 = .blk false st 3 1 (ilims ts) := hT.resolve_left fun h => ht0 h.1
 clear hR hT
 have cx := copyrat_ok x (Nat.le_trans hx.1.1 (by omega)) (Nat.le_trans hx.2.1 (by omega))
 simp (disch := omega) only [wt, seval, reduceCtorEq, Nat.reduceEqDiff, rqs, wz, h900, h68, h78]
 refine aloop_by (fun f H' => ∃ i : Nat, i ≤ m ∧ (f 0 = .hp 900 1 0 0 ∧ f 2 = .iv (.int .i64 t) ∧ f 4 = .hp 4 ((H 4).stamp + 1) 0 0 ∧ f 6 = .iv (.int .i64 l.length) ∧ f 20 = .hs 68 st ∧ f 21 = .iv (.int .i64 l.length) ∧ f 22 = .iv (.int .i64 i)) ∧ H' 4 = .blk false ((H 4).stamp + 1) 58 3 [qrow x] ∧ H' 900 = .nst 1 132 [.iv (.sl (raws p)), .hs 68 st, .hs 78 st2, .iv (.bool true)] ∧ H' 68 = .blk false st 58 3 (rats l) ∧ H' 78 = .blk false st2 3 1 (ilims ts) ∧ KeptK H H') (fun f H => (l.length - intAt f 22).toNat) ?_ ?_
 ·refine ⟨0, by omega, ⟨by simp (disch := omega) only [wt, seval, reduceCtorEq, Nat.reduceEqDiff, rqs, wz], by simp (disch := omega) only [wt, seval, reduceCtorEq, Nat.reduceEqDiff, rqs, wz], by simp (disch := omega) only [wt, seval, reduceCtorEq, Nat.reduceEqDiff, rqs, wz], by simp (disch := omega) only [wt, seval, reduceCtorEq, Nat.reduceEqDiff, rqs, wz]; try rfl, by simp (disch := omega) only [wt, seval, reduceCtorEq, Nat.reduceEqDiff, rqs, wz], by simp (disch := omega) only [wt, seval, reduceCtorEq, Nat.reduceEqDiff, rqs, wz], by simp (disch := omega) only [wt, seval, reduceCtorEq, Nat.reduceEqDiff, rqs, wz]; try rfl⟩, by simp (disch := omega) only [wt, seval, reduceCtorEq, Nat.reduceEqDiff, rqs, wz], by simp (disch := omega) only [wt, seval, reduceCtorEq, Nat.reduceEqDiff, rqs, wz, h900], by simp (disch := omega) only [wt, seval, reduceCtorEq, Nat.reduceEqDiff, rqs, wz, h68], by simp (disch := omega) only [wt, seval, reduceCtorEq, Nat.reduceEqDiff, rqs, wz, h78], fun k h1 h2 => by rw [updH_ne _ _ (by omega)]⟩
 rintro f H' ⟨i, hi, ⟨f0, f2, f4, f6, f20, f21, f22⟩, g4, g9, g68, g78, kp⟩
 rw [intAt_of f22]
 simp (disch := omega) only [wt, seval, reduceCtorEq, Nat.reduceEqDiff, rqs, wz, f0, f2, f4, f6, f20, f21, f22, g4, g9, g68, g78]
 refine if_by (fun hlt => ?_) (fun hlt => by omega)
 have hlt' : i < l.length := by omega
 obtain ⟨sy, ny⟩ := hq _ (getD_mem hlt' q0)
 have cy := copyrat_ok (l.getD i q0) (Nat.le_trans sy.1.1 (by omega)) (Nat.le_trans sy.2.1 (by omega))
 have c1 := qcmpr_ok x (l.getD i q0) (hx.mono (by omega)) (sy.mono (by omega)) hx0 ny
 by_cases him : i = m
 ·subst him
  have s1 : sgq (qv x - qv (l.getD i q0)) = 0 := sgq_eq_zero.2 (by rw [e]; grind)
  rw [s1] at c1
  have ew : IntKind.i64.wrap (ts.getD i 0 + t) = ts.getD i 0 + t := wrap_i64 _ (by omega) (by omega)
  have is : ∀ (X : List Int) (k : Nat) (v : Int), (ilims X).set k [.int .i64 v] = ilims (X.set k v) := fun X k v => by simp [ilims, List.map_set]
  have isp : ∀ (v : Int), splice ((ilims ts).getD i []) 0 [.int .i64 v] = [.int .i64 v] := fun v => by rw [ilims_at (by omega)]; rfl
  simp (disch := omega) only [wt, seval, reduceCtorEq, Nat.reduceEqDiff, rqs, wz, f0, f2, f4, f6, f20, f21, f22, g4, g9, g68, g78]
  refine .inl ⟨tmps_by (by kernel_rfl), ?_⟩
  refine call_by (cx) (by first | rfl | (simp only [tocvs, tocv, toboxes, tobox, updH_at, Nat.reduceEqDiff, ↓reduceIte, f0, f2, f4, f6, f20, f21, f22, g4, g9, g68, g78]; rfl)) (by simp) ?_
  simp (disch := omega) only [wt, seval, reduceCtorEq, Nat.reduceEqDiff, rqs, wz, f0, f2, f4, f6, f20, f21, f22, g4, g9, g68, g78]
  refine call_by (cy) (by first | rfl | (simp only [tocvs, tocv, toboxes, tobox, updH_at, Nat.reduceEqDiff, ↓reduceIte, f0, f2, f4, f6, f20, f21, f22, g4, g9, g68, g78]; rfl)) (by simp) ?_
  simp (disch := omega) only [wt, seval, reduceCtorEq, Nat.reduceEqDiff, rqs, wz, f0, f2, f4, f6, f20, f21, f22, g4, g9, g68, g78]
  refine call_by (c1) (by first | rfl | (simp only [tocvs, tocv, toboxes, tobox, updH_at, Nat.reduceEqDiff, ↓reduceIte, f0, f2, f4, f6, f20, f21, f22, g4, g9, g68, g78, ew, ht, is, isp]; rfl)) (by simp) ?_
  simp (disch := omega) only [wt, seval, reduceCtorEq, Nat.reduceEqDiff, rqs, wz, f0, f2, f4, f6, f20, f21, f22, g4, g9, g68, g78, ew, ht, is, isp]
  first | exact log_by (by kernel_rfl) | refine ⟨log_by (by kernel_rfl), ?_⟩
  refine reti_none ⟨⟨.hs 68 st, .hs 78 st2, ?_, .inr ⟨st, hl0, rfl, ?_⟩, .inr ⟨st2, hts0, rfl, ?_⟩⟩, fun k h1 h2 => ?_⟩
  ·rw [updH_ne _ _ (by decide), updH_ne _ _ (by decide), updH_ne _ _ (by decide)]; exact g9
  ·rw [updH_ne _ _ (by decide), updH_ne _ _ (by decide), updH_ne _ _ (by decide)]; exact g68
  ·rw [updH_same]
  ·rw [updH_ne _ _ (by omega), updH_ne _ _ (by omega), updH_ne _ _ (by omega)]; exact kp k h1 h2
 ·have s1 : sgq (qv x - qv (l.getD i q0)) = 1 := sgq_pos (by have := rise_get hr (show i < m by omega) hm; rw [e] at this; grind)
  rw [s1] at c1
  simp (disch := omega) only [wt, seval, reduceCtorEq, Nat.reduceEqDiff, rqs, wz, f0, f2, f4, f6, f20, f21, f22, g4, g9, g68, g78]
  refine .inl ⟨tmps_by (by kernel_rfl), ?_⟩
  refine call_by (cx) (by first | rfl | (simp only [tocvs, tocv, toboxes, tobox, updH_at, Nat.reduceEqDiff, ↓reduceIte, f0, f2, f4, f6, f20, f21, f22, g4, g9, g68, g78]; rfl)) (by simp) ?_
  simp (disch := omega) only [wt, seval, reduceCtorEq, Nat.reduceEqDiff, rqs, wz, f0, f2, f4, f6, f20, f21, f22, g4, g9, g68, g78]
  refine call_by (cy) (by first | rfl | (simp only [tocvs, tocv, toboxes, tobox, updH_at, Nat.reduceEqDiff, ↓reduceIte, f0, f2, f4, f6, f20, f21, f22, g4, g9, g68, g78]; rfl)) (by simp) ?_
  simp (disch := omega) only [wt, seval, reduceCtorEq, Nat.reduceEqDiff, rqs, wz, f0, f2, f4, f6, f20, f21, f22, g4, g9, g68, g78]
  refine call_by (c1) (by first | rfl | (simp only [tocvs, tocv, toboxes, tobox, updH_at, Nat.reduceEqDiff, ↓reduceIte, f0, f2, f4, f6, f20, f21, f22, g4, g9, g68, g78]; rfl)) (by simp) ?_
  simp (disch := omega) only [wt, seval, reduceCtorEq, Nat.reduceEqDiff, rqs, wz, f0, f2, f4, f6, f20, f21, f22, g4, g9, g68, g78]
  first | exact log_by (by kernel_rfl) | refine ⟨log_by (by kernel_rfl), ?_⟩
  refine ⟨⟨i + 1, by omega, rfl, fun k h1 h2 => by rw [updH_ne _ _ (by omega), updH_ne _ _ (by omega)]; exact kp k h1 h2⟩, by omega⟩
end Go.Proofs.YtdokaihemcnkmaaGreat

namespace Go.Proofs.YtdokaihemcnkmaaGreat
open Go Go.Proofs Go.AL
set_option linter.unusedSimpArgs false
set_option linter.unusedVariables false
set_option linter.defProp false
def hasq (l : List RQ) (x : RQ) : Bool := l.any fun r => decide (qv r = qv x)
def addl (l : List RQ) (x : RQ) : List RQ := if hasq l x then l else insAt l (atk l x l.length) x
def whq (l : List RQ) (x : RQ) : Nat := l.findIdx fun r => decide (qv r = qv x)
def addt (l : List RQ) (ts : List Int) (x : RQ) (t : Int) : List Int := if hasq l x then ts.set (whq l x) (ts.getD (whq l x) 0 + t) else insAt ts (atk l x l.length) t
structure Kl (l : List RQ) (ts : List Int) (n b : Nat) : Prop where
 rise : Rise l
 len : l.length ≤ n
 tlen : ts.length = l.length
 sz : ∀ r ∈ l, SzQ (2 ^ 20) r ∧ nv r.2 ≠ 0
 tb : ∀ t ∈ ts, 0 ≤ t ∧ t ≤ b
theorem Kl.nil : Kl [] [] 0 0 := ⟨List.Pairwise.nil, Nat.le_refl _, rfl, fun _ h => (by simp at h), fun _ h => (by simp at h)⟩
theorem whq_spec {l : List RQ} {x : RQ} (h : hasq l x = true) : whq l x < l.length ∧ qv (l.getD (whq l x) q0) = qv x := by
 have hm : whq l x < l.length := List.findIdx_lt_length.2 (by simpa [hasq] using h)
 have := List.findIdx_getElem (w := hm)
 refine ⟨hm, ?_⟩
 rw [List.getD, List.getElem?_eq_getElem hm, Option.getD_some]
 exact of_decide_eq_true this
theorem hasq_not {l : List RQ} {x : RQ} (h : ¬ hasq l x = true) : ∀ r ∈ l, qv r ≠ qv x := fun r hr e => h (List.any_eq_true.2 ⟨r, hr, decide_eq_true e⟩)
theorem addl_mem {l : List RQ} {x : RQ} (r : Rat) : r ∈ (addl l x).map qv ↔ r ∈ l.map qv ∨ r = qv x := by
 unfold addl
 split
 ·rename_i h
  obtain ⟨hm, e⟩ := whq_spec h
  refine ⟨.inl, fun h => h.elim id fun h => ?_⟩
  rw [h, ← e]
  exact List.mem_map_of_mem (getD_mem hm q0)
 ·simp only [List.mem_map, insAt_mem]
  constructor
  ·rintro ⟨y, rfl | h, rfl⟩
   ·exact .inr rfl
   ·exact .inl ⟨y, h, rfl⟩
  ·rintro (⟨y, h, rfl⟩ | rfl)
   ·exact ⟨y, .inr h, rfl⟩
   ·exact ⟨x, .inl rfl, rfl⟩
theorem Kl.add {l : List RQ} {ts : List Int} {x : RQ} {t : Int} {n b : Nat} (k : Kl l ts n b) (ht : 0 ≤ t ∧ t ≤ 3) (hx : SzQ (2 ^ 20) x) (hx0 : nv x.2 ≠ 0) : Kl (addl l x) (addt l ts x t) (n + 1) (b + 3) := by
 have k1 := k.len
 by_cases he : hasq l x = true
 ·rw [addl, addt, if_pos he, if_pos he]
  obtain ⟨hm, e⟩ := whq_spec he
  have hmt : whq l x < ts.length := by rw [k.tlen]; exact hm
  have tm := k.tb _ (getD_mem hmt 0)
  refine ⟨k.rise, by omega, by rw [List.length_set]; exact k.tlen, k.sz, fun s h => ?_⟩
  rcases List.mem_or_eq_of_mem_set h with h | h
  ·have := k.tb _ h; omega
  ·omega
 ·rw [addl, addt, if_neg he, if_neg he]
  have ha := atk_le l x l.length
  refine ⟨rise_atk k.rise (hasq_not he), by rw [insAt_len (l := l) _ (by omega)]; omega, by rw [insAt_len (l := ts) _ (by rw [k.tlen]; omega), insAt_len (l := l) _ (by omega), k.tlen], fun r h => ?_, fun s h => ?_⟩
  ·rcases insAt_mem.1 h with rfl | h
   ·exact ⟨hx, hx0⟩
   ·exact k.sz _ h
  ·rcases insAt_mem.1 h with rfl | h
   ·omega
   ·have := k.tb _ h; omega
theorem add_ok (p : List RI) (l : List RQ) (ts : List Int) (x : RQ) (t : Int) (H : AL.Hp) (hB : Kb p l ts H) {n b : Nat} (k : Kl l ts n b) (hn : n ≤ 10) (hb : b ≤ 100) (ht : 0 ≤ t ∧ t ≤ 3) (hx : SzQ (2 ^ 20) x) (hx0 : nv x.2 ≠ 0) :
  ACI Tryz.prog 187 [.hp 900 1 0 0, .agg (qrow x), .iv (.int .i64 t)] H (fun _ H' => Kb p (addl l x) (addt l ts x t) H' ∧ KeptK H H') := by
 have k1 := k.len
 by_cases hl0 : l = []
 ·subst hl0
  obtain rfl : ts = [] := List.length_eq_zero_iff.1 k.tlen
  exact add0_ok p x t H hB
 by_cases he : hasq l x = true
 ·rw [addl, addt, if_pos he, if_pos he]
  obtain ⟨hm, e⟩ := whq_spec he
  have hmt : whq l x < ts.length := by rw [k.tlen]; exact hm
  have tm := k.tb _ (getD_mem hmt 0)
  exact addin_ok p l ts x t H hB k.rise (by omega) k.tlen k.sz hx hx0 hm e (by omega) (by omega)
 ·rw [addl, addt, if_neg he, if_neg he]
  exact addn_ok p l ts x t H hB hl0 (by omega) k.tlen k.sz hx hx0 (hasq_not he)
def l3 : List RQ := [((true, [1]), [1]), ((false, []), [1]), ((false, [1]), [1])]
theorem three : ∃ D, Kw ([0, -1, 0, 1].map canon) D 3 8 (l3.map qv) := by
 have b0 := Bw.start (c := 1) (by decide) (by decide)
 have b1 := b0.lin (n := -1) (d := 1) (by decide) (by decide) (by decide) 0 (by decide)
 have b2 := b1.lin (n := 0) (d := 1) (by decide) (by decide) (by decide) 0 (by decide)
 have b3 := b2.lin (n := 1) (d := 1) (by decide) (by decide) (by decide) 0 (by decide)
 have e : trimz (lmul (lmul (lmul [1] [-(-1), 1] (0 + 1)) [-0, 1] (0 + 1)) [-1, 1] (0 + 1)) = [0, -1, 0, 1] := by rfl
 have b4 := b3.of_ps (Q := [0, -1, 0, 1]) (by rw [← e, ps_trimz])
 have q1 : qv ((true, [1]), [1]) = -1 := by rfl
 have q2 : qv ((false, []), [1]) = 0 := by rfl
 have q3 : qv ((false, [1]), [1]) = 1 := by rfl
 have b5 : Bw [0, -1, 0, 1] (· ∈ l3.map qv) 3 7 0 := b4.congr fun r => by
  simp only [l3, List.map_cons, List.map_nil, List.mem_cons, List.not_mem_nil, or_false, q1, q2, q3, false_or]
  rw [show ((-1 : Int) : Rat) / ((1 : Int) : Rat) = -1 by decide +kernel, show ((0 : Int) : Rat) / ((1 : Int) : Rat) = 0 by decide +kernel, show ((1 : Int) : Rat) / ((1 : Int) : Rat) = 1 by decide +kernel, or_assoc]
 have hr : Rise l3 := by
  unfold Rise l3
  simp only [List.pairwise_cons, List.mem_cons, List.not_mem_nil, or_false, forall_eq_or_imp, forall_eq, q1, q2, q3]
  refine ⟨⟨by decide, by decide⟩, by decide, ?_⟩
  simp
 obtain ⟨D, h⟩ := b5.kw (by omega) (by omega) (by omega) hr (by rfl)
 exact ⟨D, h⟩
def kk (rs : List (Int × Int × Int)) (i : Nat) : Int × Int × Int := (clz (rs.getD i (0, 0, 0)).1 (-1000000) 1000000, clz (rs.getD i (0, 0, 0)).2.1 1 1000, clz (rs.getD i (0, 0, 0)).2.2 1 3)
def kx (rs : List (Int × Int × Int)) (i : Nat) : RQ := crat (((kk rs i).1 : Rat) / ((kk rs i).2.1 : Rat))
def bL (rs : List (Int × Int × Int)) : Nat → List RQ
 | 0 => []
 | i + 1 => addl (bL rs i) (kx rs i)
def bT (rs : List (Int × Int × Int)) : Nat → List Int
 | 0 => []
 | i + 1 => addt (bL rs i) (bT rs i) (kx rs i) (kk rs i).2.2
def bQ (c : Int) (rs : List (Int × Int × Int)) : Nat → List Int
 | 0 => [c]
 | i + 1 => lmul (bQ c rs i) [-(kk rs i).1, (kk rs i).2.1] (kk rs i).2.2.toNat
def ab (qs : List (Int × Int)) (j : Nat) : Int × Int := (clz (qs.getD j (0, 0)).1 (-1000) 1000, clz (qs.getD j (0, 0)).2 1 1000)
def bR (Q : List Int) (qs : List (Int × Int)) : Nat → List Int
 | 0 => Q
 | j + 1 => pmul (bR Q qs j) [(ab qs j).1 * (ab qs j).1 + (ab qs j).2, -2 * (ab qs j).1, 1]
theorem kk_bd (rs : List (Int × Int × Int)) (i : Nat) : (-1000000 ≤ (kk rs i).1 ∧ (kk rs i).1 ≤ 1000000) ∧ (1 ≤ (kk rs i).2.1 ∧ (kk rs i).2.1 ≤ 1000) ∧ 1 ≤ (kk rs i).2.2 ∧ (kk rs i).2.2 ≤ 3 := ⟨clz_bd (by decide), clz_bd (by decide), clz_bd (by decide)⟩
theorem ab_bd (qs : List (Int × Int)) (j : Nat) : (-1000 ≤ (ab qs j).1 ∧ (ab qs j).1 ≤ 1000) ∧ 1 ≤ (ab qs j).2 ∧ (ab qs j).2 ≤ 1000 := ⟨clz_bd (by decide), clz_bd (by decide)⟩
theorem kx_val (rs : List (Int × Int × Int)) (i : Nat) : qv (kx rs i) = ((kk rs i).1 : Rat) / ((kk rs i).2.1 : Rat) := qv_crat _
theorem kx_sz (rs : List (Int × Int × Int)) (i : Nat) : SzQ 1 (kx rs i) ∧ nv (kx rs i).2 ≠ 0 := by
 obtain ⟨h1, h2, -⟩ := kk_bd rs i
 refine ⟨(sz_crat _).mono ?_, den_crat _⟩
 obtain ⟨d, hd⟩ : ∃ d : Nat, (kk rs i).2.1 = (d : Int) := ⟨(kk rs i).2.1.toNat, by omega⟩
 rw [hd, show (((kk rs i).1 : Rat) / (((d : Nat) : Int) : Rat)) = mkRat (kk rs i).1 d by rw [Rat.mkRat_eq_div]; rfl]
 exact qz_mk (by omega) (zl_le.mpr (by rw [Nat.pow_one]; simp only [W]; omega)) (wd_w (by simp only [W]; omega))
theorem bl_kl (rs : List (Int × Int × Int)) : ∀ i, Kl (bL rs i) (bT rs i) i (3 * i)
 | 0 => .nil
 | i + 1 => by
  obtain ⟨-, -, h⟩ := kk_bd rs i
  exact (bl_kl rs i).add (by omega) ((kx_sz rs i).1.mono (by decide)) (kx_sz rs i).2
theorem bq_bw {c : Int} (hc : c ≠ 0) (hW : c.natAbs < W) (rs : List (Int × Int × Int)) : ∀ i, i ≤ 6 → ∃ m, m ≤ 1 + 6 * i ∧ Bw (bQ c rs i) (· ∈ (bL rs i).map qv) i m 0
 | 0, _ => ⟨1, by omega, (Bw.start hc hW).congr fun r => by simp [bL]⟩
 | i + 1, hi => by
  obtain ⟨m, hm, b⟩ := bq_bw hc hW rs i (by omega)
  obtain ⟨h1, h2, h3⟩ := kk_bd rs i
  obtain ⟨k, hk⟩ : ∃ k : Nat, (kk rs i).2.2.toNat = k + 1 := ⟨(kk rs i).2.2.toNat - 1, by omega⟩
  refine ⟨m + 2 * (k + 1), by omega, ?_⟩
  have := b.lin (n := (kk rs i).1) (d := (kk rs i).2.1) (by omega) (by simp only [W]; omega) (by simp only [W]; omega) k (by simp only [W]; omega)
  rw [bQ, hk]
  exact this.congr fun r => by rw [bL, addl_mem, kx_val]
theorem br_bw {Q : List Int} {S : Rat → Prop} {i m : Nat} (h : Bw Q S i m 0) (hm : m ≤ 100) (qs : List (Int × Int)) : ∀ j, j ≤ 2 → Bw (bR Q qs j) S (i + 2 * j) (m + 2 * j) j
 | 0, _ => h
 | j + 1, hj => by
  obtain ⟨h1, h2⟩ := ab_bd qs j
  exact (br_bw h hm qs j (by omega)).quad h2.1 h1 h2.2 (by simp only [W]; omega)
end Go.Proofs.YtdokaihemcnkmaaGreat

namespace Go.Proofs.YtdokaihemcnkmaaGreat
open Go Go.Proofs Go.AL Go.RowKit
set_option linter.unusedSimpArgs false
set_option linter.unusedVariables false
set_option linter.defProp false
@[reducible] def zB : Zi := ⟨some (144, 1), (· == 4), fun _ => false, .no⟩
theorem zbxB (e : Nat) : @Zi.bx zB e = (e == 4) := rfl
theorem zbsB (e : Nat) : @Zi.bs zB e = false := rfl
theorem zstB : @Zi.st zB = .no := rfl
theorem zslB : @zsl zB = .own none 144 1 [] := rfl
def wzB := And.intro zbxB (And.intro zbsB (And.intro zstB zslB))
theorem cvreps_get {w : World} {D : Nat → Prop} : ∀ {xs : List CV} {vs : List Value}, CVReps w D xs vs → ∀ (j : Nat) (c : CV) (v : Value), xs[j]? = some c → vs[j]? = some v → CVRep w D c v
 | [], [], _, j, c, v, h, _ => by simp at h
 | x :: xs, u :: vs, h, 0, c, v, h1, h2 => by
  simp only [List.getElem?_cons_zero, Option.some.injEq] at h1 h2
  subst h1 h2
  exact h.1
 | x :: xs, u :: vs, h, j + 1, c, v, h1, h2 => cvreps_get h.2 j c v (by simpa using h1) (by simpa using h2)
 | [], _ :: _, h, _, _, _, _, _ => h.elim
 | _ :: _, [], h, _, _, _, _, _ => h.elim
theorem ACX.plain {P : Program} {g : Nat} {args res : List CV} {R : Nat → Nat → List CV → Prop} (h : ACX P g args R) (hs : ∀ B E r, R B E r → SoftsC r res) : AC P g args none res := by
 intro w D vs hD hv
 refine CallsR.mono (h.2 w D vs hD hv) ?_
 rintro v w' ⟨hb, us, r, rfl, hR, hr⟩
 have h2 := (hs _ _ _ hR).reps hr
 refine ⟨hb, us, rfl, ⟨(CVReps.length h2).symm, fun j c v _ hc hv => ?_, fun i e sz rows h => by cases h⟩⟩
 exact (cvreps_get h2 j c v hc hv).mono (Grows.of_sub fun b hb => hb.elim id fun h => h.elim)
theorem lay_kn (a b c d x y : IV) : lay (fun i => [(0, 1), (1, 1), (2, 1), (3, 1)][i]?) [a, b, c, d] ([0, 3].zip [[x], [y]]) = some ((1 = 1 ∧ 0 + 1 ≤ 4) ∧ (1 = 1 ∧ 3 + 1 ≤ 4) ∧ True, [x, b, c, y]) := rfl
def krows (rs : List (Int × Int × Int)) : List (List IV) := rs.map fun k => [.int .i64 k.1, .int .i64 k.2.1, .int .i64 k.2.2]
def qrows (qs : List (Int × Int)) : List (List IV) := qs.map fun q => [.int .i64 q.1, .int .i64 q.2]
theorem krows_len (rs : List (Int × Int × Int)) : (krows rs).length = rs.length := by simp [krows]
theorem qrows_len (qs : List (Int × Int)) : (qrows qs).length = qs.length := by simp [qrows]
theorem krows_at {rs : List (Int × Int × Int)} {i : Nat} (h : i < rs.length) : (krows rs).getD i [] = [.int .i64 (rs.getD i (0, 0, 0)).1, .int .i64 (rs.getD i (0, 0, 0)).2.1, .int .i64 (rs.getD i (0, 0, 0)).2.2] := by simp [krows, List.getD, h]
theorem qrows_at {qs : List (Int × Int)} {i : Nat} (h : i < qs.length) : (qrows qs).getD i [] = [.int .i64 (qs.getD i (0, 0)).1, .int .i64 (qs.getD i (0, 0)).2] := by simp [qrows, List.getD, h]
theorem krows_rows (rs : List (Int × Int × Int)) : (∀ r ∈ krows rs, r.length = 3) ↔ True := ⟨fun _ => trivial, fun _ r hr => by obtain ⟨k, _, rfl⟩ := List.mem_map.1 hr; rfl⟩
theorem qrows_rows (qs : List (Int × Int)) : (∀ r ∈ qrows qs, r.length = 2) ↔ True := ⟨fun _ => trivial, fun _ r hr => by obtain ⟨k, _, rfl⟩ := List.mem_map.1 hr; rfl⟩
def wrow (lead : Int) (rs : List (Int × Int × Int)) (qs : List (Int × Int)) : List IV := [.int .i64 lead, .sl (krows rs), .sl (qrows qs)]
def RBt (p : List RI) (l : List RQ) (ts : List Int) (_ _ : Nat) (res : List CV) : Prop := ∃ r t : IV, res = [.agg [.sl (raws p), r, t, .bool true]] ∧ Soft r (.sl (rats l)) ∧ Soft t (.sl (ilims ts))
theorem ne_built (p : List RI) (l : List RQ) (ts : List Int) : ∀ B, ∃ E res, B ≤ E ∧ RBt p l ts B E res := fun B => ⟨B, _, Nat.le_refl _, _, _, rfl, .refl _, .refl _⟩
def ld (lead : Int) : Int := if clz lead (-1000000) 1000000 = 0 then 1 else clz lead (-1000000) 1000000
theorem tk4a (a b c d : AV) : List.take 4 [a, b, c, d] = [a, b, c, d] := rfl
theorem tk4 (a b c d : IV) : List.take 4 [a, b, c, d] = [a, b, c, d] := rfl
theorem un4a (x y : IV) : unAVs [.iv x, .nils, .nils, .iv y] = some [x, .own none 0 0 [], .own none 0 0 [], y] := rfl
theorem un4 (x y z u : IV) : unAVs [.iv x, .iv y, .iv z, .iv u] = some [x, y, z, u] := rfl
theorem sp4 (x y z u a b c d : IV) : splice [x, y, z, u] 0 [a, b, c, d] = [a, b, c, d] := rfl
theorem ln4 (a b c d : IV) : [a, b, c, d].length = 4 := rfl
theorem soft_own {b : Option (Nat × Nat)} {e sz k : Nat} {rows : List (List IV)} (h : ∀ r ∈ rows, r.length = k) : Soft (.own b e sz rows) (.sl rows) :=
 .own _ _ _ _ _ rfl (fun i r r' h1 h2 => by rw [h1] at h2; injection h2 with h2; rw [h2]) (fun i r r' h1 h2 j x x' h3 h4 => by
  rw [h1] at h2; injection h2 with h2; subst h2; rw [h3] at h4; injection h4 with h4; subst h4; exact .refl _)
theorem tk2 (a b : IV) : List.take 2 [a, b] = [a, b] := rfl
theorem sp2 (x y a b : IV) : splice [x, y] 0 [a, b] = [a, b] := rfl
theorem ln2 (a b : IV) : [a, b].length = 2 := rfl
theorem sqr_bd {a : Int} (h1 : -1000 ≤ a) (h2 : a ≤ 1000) : 0 ≤ a * a ∧ a * a ≤ 1000000 := by
 rcases Int.le_total 0 a with h | h
 ·exact ⟨Int.mul_nonneg h h, Int.mul_le_mul (a := a) (b := a) (c := 1000) (d := 1000) h2 h2 h (by omega)⟩
 ·have x := Int.mul_nonneg (show 0 ≤ -a by omega) (show 0 ≤ -a by omega)
  have y := Int.mul_le_mul (a := -a) (b := -a) (c := 1000) (d := 1000) (by omega) (by omega) (by omega) (by omega)
  rw [Int.neg_mul_neg] at x y
  exact ⟨x, y⟩
theorem rp_three {n d e : Int} (hn : n.natAbs < W) (hd : d.natAbs < W) (he : e.natAbs < W) : RP (2 ^ 30) (2 ^ 35) ([n, d, e].map canon) := by
 refine ⟨by simp, fun c hc => ?_⟩
 simp only [List.map_cons, List.map_nil, List.mem_cons, List.not_mem_nil, or_false] at hc
 rcases hc with rfl | rfl | rfl
 ·exact (sz_canon _).mono (Nat.le_trans (zl_le.mpr (show n.natAbs < W ^ 1 by rw [Nat.pow_one]; exact hn)) (by decide))
 ·exact (sz_canon _).mono (Nat.le_trans (zl_le.mpr (show d.natAbs < W ^ 1 by rw [Nat.pow_one]; exact hd)) (by decide))
 ·exact (sz_canon _).mono (Nat.le_trans (zl_le.mpr (show e.natAbs < W ^ 1 by rw [Nat.pow_one]; exact he)) (by decide))
theorem tk3 (a b c : IV) : List.take 3 [a, b, c] = [a, b, c] := rfl
theorem sp3 (x y z a b c : IV) : splice [x, y, z] 0 [a, b, c] = [a, b, c] := rfl
theorem Kb.upd {p : List RI} {l : List RQ} {ts : List Int} {H : AL.Hp} (k : Kb p l ts H) {h : Nat} {c : HC} (h1 : h ≠ 900) (h2 : h ≠ 68) (h3 : h ≠ 78) : Kb p l ts (updH H h c) := by
 unfold Kb
 rw [updH_ne _ _ (Ne.symm h1), updH_ne _ _ (Ne.symm h2), updH_ne _ _ (Ne.symm h3)]
 exact k
def w3 := And.intro tk3 (And.intro sp3 ln3)
def w2 := And.intro tk2 (And.intro sp2 ln2)
def w4 := And.intro tk4a (And.intro tk4 (And.intro un4a (And.intro un4 (And.intro sp4 ln4))))
theorem Kb.poly {p : List RI} {l : List RQ} {ts : List Int} {H : AL.Hp} (k : Kb p l ts H) : ∃ rn tn, H 900 = .nst 1 132 [.iv (.sl (raws p)), rn, tn, .iv (.bool true)] ∧ ∀ (q : List RI) (H' : AL.Hp), H' 900 = .nst 1 132 [.iv (.sl (raws q)), rn, tn, .iv (.bool true)] → H' 68 = H 68 → H' 78 = H 78 → Kb q l ts H' := by
 obtain ⟨rn, tn, h1, h2, h3⟩ := k
 exact ⟨rn, tn, h1, fun q H' e1 e2 e3 => ⟨rn, tn, e1, by rw [e2]; exact h2, by rw [e3]; exact h3⟩⟩
theorem rp_two {n d : Int} (hn : n.natAbs < W) (hd : d.natAbs < W) : RP (2 ^ 30) (2 ^ 35) ([n, d].map canon) := by
 refine ⟨by simp, fun c hc => ?_⟩
 simp only [List.map_cons, List.map_nil, List.mem_cons, List.not_mem_nil, or_false] at hc
 rcases hc with rfl | rfl
 ·exact (sz_canon _).mono (Nat.le_trans (zl_le.mpr (show n.natAbs < W ^ 1 by rw [Nat.pow_one]; exact hn)) (by decide))
 ·exact (sz_canon _).mono (Nat.le_trans (zl_le.mpr (show d.natAbs < W ^ 1 by rw [Nat.pow_one]; exact hd)) (by decide))
theorem seq_cut {K J : Fr → AL.Hp → Prop} {Q : Post} (h : ∀ f H, J f H → K f H) : ∀ e f H, SeqQ J Q e f H → SeqQ K Q e f H
 | .normal, f, H, k => h f H k
 | .ret, _, _, k => k
 | .exit _, _, _, k => k
 | .goto _, _, _, k => k
 | .panic _, _, _, k => k
 | .outgrown, _, _, k => k
theorem aloop_cut {zi : Zi} {P : Program} {c : Code} {id : Nat} {K : Fr → AL.Hp → Prop} {Q : Post} {f : Fr} {H : AL.Hp} (J : Fr → AL.Hp → Prop) (h1 : ALoop P c (BlockQ id (SeqQ J Q)) f H) (h2 : ∀ f H, J f H → K f H) : ALoop P c (BlockQ id (SeqQ K Q)) f H := by
 have : ∀ e f H, BlockQ id (SeqQ J Q) e f H → BlockQ id (SeqQ K Q) e f H := by
  intro e f H h
  cases e with
  | exit j =>
   simp only [BlockQ] at h ⊢
   split
   ·rename_i e; rw [if_pos e] at h; exact seq_cut h2 _ _ _ h
   ·rename_i e; rw [if_neg e] at h; exact seq_cut h2 _ _ _ h
  | normal => exact h2 _ _ h
  | ret => exact h
  | goto g => exact h
  | panic p => exact h
  | outgrown => exact h
 unfold ALoop at h1 ⊢
 exact AW.mono (.loop c) this h1
theorem if_cut {zi : Zi} {P : Program} {c : Prop} [Decidable c] {x y : Code} {K : Fr → AL.Hp → Prop} {Q : Post} {f : Fr} {H : AL.Hp} (J : Fr → AL.Hp → Prop) (h1 : c → AW P x (SeqQ J Q) f H) (h2 : ¬ c → AW P y (SeqQ J Q) f H) (h3 : ∀ f H, J f H → K f H) : ACond P (.iv (.bool (decide c))) x y (SeqQ K Q) f H :=
 if_by (fun h => AW.mono x (seq_cut h3) (h1 h)) (fun h => AW.mono y (seq_cut h3) (h2 h))
theorem cn_psb {q r : List Int} (h : ps q = ps r) : cn q = cn r := by unfold cn; rw [trimz_ext (ps_eq h)]
theorem mulc_ok {Q L : List Int} (h1 : RP (2 ^ 30) (2 ^ 35) (cn Q)) (h2 : RP (2 ^ 30) (2 ^ 35) (L.map canon)) : AC Tryz.prog 88 [cw (cn Q), cw (L.map canon)] none [cw (cn (pmul Q L))] := by
 have h := pmul_ok _ _ h1 h2
 have e : cn (pmul (pv (cn Q)) (pv (L.map canon))) = cn (pmul Q L) := cn_psb (by rw [ps_pmul, ps_pmul, pv_canon, show pv (cn Q) = trimz Q by unfold cn; rw [pv_canon], ps_trimz])
 rw [← e]
 exact h
set_option maxRecDepth 4000 in
theorem builtx_ok (lead : Int) (rs : List (Int × Int × Int)) (qs : List (Int × Int)) (hrs : rs.length ≤ 2 ^ 40) (hqs : qs.length ≤ 2 ^ 40) : ACX Tryz.prog 78 [.agg (wrow lead rs qs)] (RBt (cn (bR (bQ (ld lead) rs (min rs.length 6)) qs (min qs.length 2))) (bL rs (min rs.length 6)) (bT rs (min rs.length 6))) := by
 refine ACX.by_walko zB 6 (rs := [.cell 2 132]) ords Tryz.func78 (by rfl) (by rfl) (by rfl) (by rfl) (by rfl) (ne_built _ _ _) (fun B => ?_)
 have cl := clamp_ok lead (-1000000) 1000000
 have cb := clz_bd (n := lead) (lo := -1000000) (hi := 1000000) (by decide)
 obtain ⟨c, hc⟩ : ∃ c, ld lead = c := ⟨_, rfl⟩
 have hcb : c ≠ 0 ∧ -1000000 ≤ c ∧ c ≤ 1000000 := by rw [← hc]; unfold ld; split <;> omega
 rw [hc]
 simp (disch := omega) only [wt, seval, reduceCtorEq, Nat.reduceEqDiff, rqs, wz, wzB, wrow]
 refine call_by (cl) (by rfl) (by simp) ?_
 simp (disch := omega) only [wt, seval, reduceCtorEq, Nat.reduceEqDiff, rqs, wz, wzB]
 refine if_cut (c := clz lead (-1000000) 1000000 = 0) (fun f H => (f 1 = .hp 1 1 0 0 ∧ f 2 = .hp 2 1 0 0 ∧ f 3 = .iv (.int .i64 c)) ∧ H = updH (updH (initHX B) 1 (.blk false 1 128 3 [wrow lead rs qs])) 2 (.blk false 1 132 4 [[.own none 144 1 [], .own none 144 1 [], .own none 144 1 [], .bool false]])) (fun h0 => ?_) (fun h0 => ?_) ?_
 ·have e : c = 1 := by rw [← hc, ld, if_pos h0]
  subst e
  simp (disch := omega) only [wt, seval, reduceCtorEq, Nat.reduceEqDiff, rqs, wz, wzB]
  rfl
 ·have e : c = clz lead (-1000000) 1000000 := by rw [← hc, ld, if_neg h0]
  rw [← e]
  simp (disch := omega) only [wt, seval, reduceCtorEq, Nat.reduceEqDiff, rqs, wz, wzB]
  rfl
 rintro f H ⟨⟨f1, f2, f3⟩, rfl⟩
 have tp := tpoly_ok [c] (by simp) (fun z hz => by simp at hz; subst hz; omega)
 simp (disch := omega) only [wt, seval, reduceCtorEq, Nat.reduceEqDiff, rqs, wz, wzB, f1, f2, f3, wrow]
 refine call_by (tp) (by first | rfl | (simp only [tocvs, tocv, toboxes, tobox, updH_at, Nat.reduceEqDiff, ↓reduceIte, lay_kn, f1, f2, f3]; rfl)) (by simp) ?_
 simp (disch := omega) only [wt, seval, reduceCtorEq, Nat.reduceEqDiff, rqs, wz, wzB, lay_kn, f1, f2, f3]
 obtain ⟨N, hN⟩ : ∃ N, min rs.length 6 = N := ⟨_, rfl⟩
 rw [hN]
 have kl0 := krows_len rs
 refine aloop_cut (fun f H => (f 1 = .hp 1 1 0 0 ∧ f 2 = .hp 2 1 0 0 ∧ f 4 = .hp 900 1 0 0) ∧ H 1 = .blk false 1 128 3 [[.int .i64 lead, .sl (krows rs), .sl (qrows qs)]] ∧ H 2 = .blk false 1 132 4 [[.own none 144 1 [], .own none 144 1 [], .own none 144 1 [], .bool false]] ∧ H 999 = .mrk B ∧ Kb (cn (bQ c rs N)) (bL rs N) (bT rs N) H) ?_ ?_
 ·refine aloop_w (Weak.renb 4 4 900 1 0 0 132 [.iv (.sl (raws [canon c])), .nils, .nils, .iv (.bool true)] (by simp (disch := omega) only [wt, seval, reduceCtorEq, Nat.reduceEqDiff, rqs, wz, wzB]) (by simp (disch := omega) only [wt, seval, reduceCtorEq, Nat.reduceEqDiff, rqs, wz, wzB]) (by decide) (Weak.refl _ _)) (fun f H => ∃ i : Nat, i ≤ N ∧ (f 1 = .hp 1 1 0 0 ∧ f 2 = .hp 2 1 0 0 ∧ f 4 = .hp 900 1 0 0 ∧ f 25 = .iv (.sl (krows rs)) ∧ f 26 = .iv (.int .i64 rs.length) ∧ f 27 = .iv (.int .i64 i)) ∧ H 1 = .blk false 1 128 3 [[.int .i64 lead, .sl (krows rs), .sl (qrows qs)]] ∧ H 2 = .blk false 1 132 4 [[.own none 144 1 [], .own none 144 1 [], .own none 144 1 [], .bool false]] ∧ H 999 = .mrk B ∧ Kb (cn (bQ c rs i)) (bL rs i) (bT rs i) H) (fun f H => (rs.length - intAt f 27).toNat) ?_ ?_
  ·refine ⟨0, by omega, ⟨by simp (disch := omega) only [wt, seval, reduceCtorEq, Nat.reduceEqDiff, rqs, wz, wzB, f1], by simp (disch := omega) only [wt, seval, reduceCtorEq, Nat.reduceEqDiff, rqs, wz, wzB, f2], by simp (disch := omega) only [wt, seval, reduceCtorEq, Nat.reduceEqDiff, rqs, wz, wzB]; try rfl, by simp (disch := omega) only [wt, seval, reduceCtorEq, Nat.reduceEqDiff, rqs, wz, wzB], by simp (disch := omega) only [wt, seval, reduceCtorEq, Nat.reduceEqDiff, rqs, wz, wzB, kl0], by simp (disch := omega) only [wt, seval, reduceCtorEq, Nat.reduceEqDiff, rqs, wz, wzB]; try rfl⟩, by simp (disch := omega) only [wt, seval, reduceCtorEq, Nat.reduceEqDiff, rqs, wz, wzB], by simp (disch := omega) only [wt, seval, reduceCtorEq, Nat.reduceEqDiff, rqs, wz, wzB], by simp (disch := omega) only [wt, seval, reduceCtorEq, Nat.reduceEqDiff, rqs, wz, wzB]; try rfl, ?_⟩
   have ec : cn (bQ c rs 0) = [canon c] := by
    have t1 : tz [c] = 1 := Nat.le_antisymm (tz_le _) (Nat.le_of_not_lt fun h => hcb.1 (cf_ge_tz [c] (k := 0) (by omega)))
    show (List.take (tz [c]) [c]).map canon = _
    rw [t1]; rfl
   rw [ec]
   exact ⟨.nils, .nils, by simp (disch := omega) only [wt, seval, reduceCtorEq, Nat.reduceEqDiff, rqs, wz, wzB]; try rfl, .inl ⟨rfl, rfl⟩, .inl ⟨rfl, rfl⟩⟩
  clear f1 f2 f3
  rintro f H ⟨i, hi, ⟨f1, f2, f4, f25, f26, f27⟩, g1, g2, g9, kb⟩
  rw [intAt_of f27]
  simp (disch := omega) only [wt, seval, reduceCtorEq, Nat.reduceEqDiff, rqs, wz, wzB, f1, f2, f4, f25, f26, f27, g1, g2, g9]
  refine if_by (fun hlt => ?_) (fun hlt => ?_)
  ·have hlt' : i < rs.length := by omega
   simp (disch := omega) only [wt, seval, reduceCtorEq, Nat.reduceEqDiff, rqs, wz, wzB, f1, f2, f4, f25, f26, f27, g1, g2, g9, krows_len, krows_at hlt', krows_rows]
   obtain ⟨⟨n, d, t⟩, hk⟩ : ∃ k, kk rs i = k := ⟨_, rfl⟩
   have kb1 := kk_bd rs i
   have e1 : clz (rs.getD i (0, 0, 0)).1 (-1000000) 1000000 = n := congrArg (·.1) hk
   have e2 : clz (rs.getD i (0, 0, 0)).2.1 1 1000 = d := congrArg (·.2.1) hk
   have e3 : clz (rs.getD i (0, 0, 0)).2.2 1 3 = t := congrArg (·.2.2) hk
   rw [hk] at kb1
   obtain ⟨⟨n1, n2⟩, ⟨d1, d2⟩, t1, t2⟩ : (-1000000 ≤ n ∧ n ≤ 1000000) ∧ (1 ≤ d ∧ d ≤ 1000) ∧ 1 ≤ t ∧ t ≤ 3 := kb1
   have pl : AC Tryz.prog 185 [.agg [.int .i64 (rs.getD i (0, 0, 0)).1, .int .i64 (rs.getD i (0, 0, 0)).2.1, .int .i64 (rs.getD i (0, 0, 0)).2.2]] none [.agg [.int .i64 n, .int .i64 d, .int .i64 t]] := by
    have := plain_ok (rs.getD i (0, 0, 0)).1 (rs.getD i (0, 0, 0)).2.1 (rs.getD i (0, 0, 0)).2.2
    rw [e1, e2, e3] at this
    exact this
   have li : AC Tryz.prog 186 [.agg [.int .i64 n, .int .i64 d, .int .i64 t]] none [cw ([-n, d].map canon)] := linear_ok n d t ⟨n1, n2⟩ ⟨d1, d2⟩
   have xv : kx rs i = crat ((n : Rat) / (d : Rat)) := by rw [kx, hk]
   obtain ⟨x, hx⟩ : ∃ x, kx rs i = x := ⟨_, rfl⟩
   have qo : AC Tryz.prog 161 [ci n, ci d] none [cqq (kx rs i), ci 0] := by rw [xv]; exact qof_ok n d (by omega) (by omega) (by omega) (by omega) (by omega)
   obtain ⟨sx, nx⟩ := kx_sz rs i
   rw [hx] at qo sx nx
   simp (disch := omega) only [wt, seval, reduceCtorEq, Nat.reduceEqDiff, rqs, wz, wzB, f1, f2, f4, f25, f26, f27, g1, g2, g9, krows_len, krows_at hlt', krows_rows, w3]
   refine if_by (fun h6 => ?_) (fun h6 => ?_)
   ·obtain rfl : i = N := by omega
    simp (disch := omega) only [wt, seval, reduceCtorEq, Nat.reduceEqDiff, rqs, wz, wzB, f1, f2, f4, f25, f26, f27, g1, g2, g9]
    exact (kb.upd (by decide) (by decide) (by decide)).upd (by decide) (by decide) (by decide)
   ·simp (disch := omega) only [wt, seval, reduceCtorEq, Nat.reduceEqDiff, rqs, wz, wzB, f1, f2, f4, f25, f26, f27, g1, g2, g9, krows_len, krows_at hlt', krows_rows, w3]
    refine call_by (pl) (by first | rfl | (simp only [tocvs, tocv, toboxes, tobox, updH_at, Nat.reduceEqDiff, ↓reduceIte, f1, f2, f4, f25, f26, f27, g1, g2, g9, w3]; rfl)) (by simp) ?_
    simp (disch := omega) only [wt, seval, reduceCtorEq, Nat.reduceEqDiff, rqs, wz, wzB, f1, f2, f4, f25, f26, f27, g1, g2, g9, w3]
    refine call_by (qo) (by first | rfl | (simp only [tocvs, tocv, toboxes, tobox, updH_at, Nat.reduceEqDiff, ↓reduceIte, f1, f2, f4, f25, f26, f27, g1, g2, g9, w3]; rfl)) (by simp) ?_
    simp (disch := omega) only [wt, seval, reduceCtorEq, Nat.reduceEqDiff, rqs, wz, wzB, f1, f2, f4, f25, f26, f27, g1, g2, g9, w3]
    have hi6 : i < 6 := by omega
    refine aloop_by (fun f H' => ∃ j s7 s8 : Nat, j ≤ t.toNat ∧ (f 1 = .hp 1 1 0 0 ∧ f 2 = .hp 2 1 0 0 ∧ f 4 = .hp 900 1 0 0 ∧ f 7 = .hp 7 s7 0 0 ∧ f 8 = .hp 8 s8 0 0 ∧ f 10 = .iv (.int .i64 j) ∧ f 25 = .iv (.sl (krows rs)) ∧ f 26 = .iv (.int .i64 rs.length) ∧ f 27 = .iv (.int .i64 i)) ∧ (H' 1 = .blk false 1 128 3 [[.int .i64 lead, .sl (krows rs), .sl (qrows qs)]] ∧ H' 2 = .blk false 1 132 4 [[.own none 144 1 [], .own none 144 1 [], .own none 144 1 [], .bool false]] ∧ H' 7 = .blk false s7 201 3 [[.int .i64 n, .int .i64 d, .int .i64 t]] ∧ H' 8 = .blk false s8 58 3 [qrow x] ∧ H' 999 = .mrk B) ∧ Kb (cn (lmul (bQ c rs i) [-n, d] j)) (bL rs i) (bT rs i) H') (fun f H => (t - intAt f 10).toNat) ?_ ?_
    ·refine ⟨0, _, _, Nat.zero_le _, ⟨by simp (disch := omega) only [wt, seval, reduceCtorEq, Nat.reduceEqDiff, rqs, wz, wzB, f1], by simp (disch := omega) only [wt, seval, reduceCtorEq, Nat.reduceEqDiff, rqs, wz, wzB, f2], by simp (disch := omega) only [wt, seval, reduceCtorEq, Nat.reduceEqDiff, rqs, wz, wzB, f4], by simp (disch := omega) only [wt, seval, reduceCtorEq, Nat.reduceEqDiff, rqs, wz, wzB]; try rfl, by simp (disch := omega) only [wt, seval, reduceCtorEq, Nat.reduceEqDiff, rqs, wz, wzB]; try rfl, by simp (disch := omega) only [wt, seval, reduceCtorEq, Nat.reduceEqDiff, rqs, wz, wzB], by simp (disch := omega) only [wt, seval, reduceCtorEq, Nat.reduceEqDiff, rqs, wz, wzB, f25], by simp (disch := omega) only [wt, seval, reduceCtorEq, Nat.reduceEqDiff, rqs, wz, wzB, f26], by simp (disch := omega) only [wt, seval, reduceCtorEq, Nat.reduceEqDiff, rqs, wz, wzB, f27]⟩, ⟨by simp (disch := omega) only [wt, seval, reduceCtorEq, Nat.reduceEqDiff, rqs, wz, wzB, g1], by simp (disch := omega) only [wt, seval, reduceCtorEq, Nat.reduceEqDiff, rqs, wz, wzB, g2], by simp (disch := omega) only [wt, seval, reduceCtorEq, Nat.reduceEqDiff, rqs, wz, wzB], by simp (disch := omega) only [wt, seval, reduceCtorEq, Nat.reduceEqDiff, rqs, wz, wzB], by simp (disch := omega) only [wt, seval, reduceCtorEq, Nat.reduceEqDiff, rqs, wz, wzB, g9]⟩, ?_⟩
     repeat (refine Kb.upd ?_ (by decide) (by decide) (by decide))
     exact kb
    clear f1 f2 f4 f25 f26 f27 g1 g2 g9 kb
    rintro f H ⟨j, s7, s8, hj, ⟨f1, f2, f4, f7, f8, f10, f25, f26, f27⟩, ⟨g1, g2, g7, g8, g9⟩, kb⟩
    rw [intAt_of f10]
    simp (disch := omega) only [wt, seval, reduceCtorEq, Nat.reduceEqDiff, rqs, wz, wzB, f1, f2, f4, f7, f8, f10, f25, f26, f27, g1, g2, g7, g8, g9]
    refine if_by (fun hlt2 => ?_) (fun hlt2 => ?_)
    ·obtain ⟨m, hm, bw⟩ := bq_bw hcb.1 (by simp only [W]; omega) rs i (by omega)
     have bt := bw.t
     obtain ⟨s1, s2⟩ := lmul_sz bw.sz (sb_two (x := -n) (y := d) (by simp only [W]; omega) (by simp only [W]; omega)) (tz_lin2 (by omega)) bw.ne j (by simp only [W]; omega)
     have mu := mulc_ok ((rp_sb (D := 40) (by omega) s1).mono (by decide) (by omega)) (rp_two (n := -n) (d := d) (by simp only [W]; omega) (by simp only [W]; omega))
     rw [show pmul (lmul (bQ c rs i) [-n, d] j) [-n, d] = lmul (bQ c rs i) [-n, d] (j + 1) from rfl] at mu
     obtain ⟨rn, tn, g900, up⟩ := kb.poly
     simp (disch := omega) only [wt, seval, reduceCtorEq, Nat.reduceEqDiff, rqs, wz, wzB, f1, f2, f4, f7, f8, f10, f25, f26, f27, g1, g2, g7, g8, g9, g900]
     refine .inl ⟨tmps_by (by kernel_rfl), ?_⟩
     refine call_by (li) (by first | rfl | (simp only [tocvs, tocv, toboxes, tobox, updH_at, Nat.reduceEqDiff, ↓reduceIte, f1, f2, f4, f7, f8, f10, f25, f26, f27, g1, g2, g7, g8, g9, g900]; rfl)) (by simp) ?_
     simp (disch := omega) only [wt, seval, reduceCtorEq, Nat.reduceEqDiff, rqs, wz, wzB, f1, f2, f4, f7, f8, f10, f25, f26, f27, g1, g2, g7, g8, g9, g900]
     refine call_by (mu) (by first | rfl | (simp only [tocvs, tocv, toboxes, tobox, updH_at, Nat.reduceEqDiff, ↓reduceIte, f1, f2, f4, f7, f8, f10, f25, f26, f27, g1, g2, g7, g8, g9, g900]; rfl)) (by simp) ?_
     simp (disch := omega) only [wt, seval, reduceCtorEq, Nat.reduceEqDiff, rqs, wz, wzB, f1, f2, f4, f7, f8, f10, f25, f26, f27, g1, g2, g7, g8, g9, g900]
     first | exact log_by (by kernel_rfl) | refine ⟨log_by (by kernel_rfl), ?_⟩
     refine ⟨⟨j + 1, _, _, by omega, ⟨rfl, rfl, by omega⟩, ⟨rfl, rfl⟩, up _ _ ?_ ?_ ?_⟩, by omega⟩
     ·rw [updH_same]
     ·repeat rw [updH_ne _ _ (by decide)]
     ·repeat rw [updH_ne _ _ (by decide)]
    ·have ej : (j : Int) = t := by omega
     have ejn : j = t.toNat := by omega
     subst ejn
     simp (disch := omega) only [wt, seval, reduceCtorEq, Nat.reduceEqDiff, rqs, wz, wzB, f1, f2, f4, f7, f8, f10, f25, f26, f27, g1, g2, g7, g8, g9]
     refine calli_by (add_ok _ _ _ x t _ kb (bl_kl rs i) (by omega) (by omega) (by omega) (sx.mono (by decide)) nx) ?_
     rintro z H2 ⟨kb2, kp⟩
     simp (disch := omega) only [wt, seval, reduceCtorEq, Nat.reduceEqDiff, rqs, wz, wzB, f1, f2, f4, f7, f8, f10, f25, f26, f27, g1, g2, g7, g8, g9]
     refine ⟨⟨i + 1, by omega, by omega, (kp 1 (by omega) (by decide)).trans g1, (kp 2 (by omega) (by decide)).trans g2, (kp 999 (by omega) (by decide)).trans g9, ?_⟩, by omega⟩
     rw [bL, bT, bQ, hx, hk]
     exact kb2
  ·obtain rfl : i = N := by omega
   simp (disch := omega) only [wt, seval, reduceCtorEq, Nat.reduceEqDiff, rqs, wz, wzB, f1, f2, f4, f25, f26, f27, g1, g2, g9]
   exact kb
 rintro f H ⟨⟨f1, f2, f4⟩, g1, g2, g9, kb⟩
 simp (disch := omega) only [wt, seval, reduceCtorEq, Nat.reduceEqDiff, rqs, wz, wzB, f1, f2, f4, g1, g2, g9]
 obtain ⟨M, hM⟩ : ∃ M, min qs.length 2 = M := ⟨_, rfl⟩
 rw [hM]
 have kl1 := qrows_len qs
 obtain ⟨m0, hm0, bw0⟩ := bq_bw hcb.1 (by simp only [W]; omega) rs N (by omega)
 refine aloop_cut (fun f H => (f 2 = .hp 2 1 0 0 ∧ f 4 = .hp 900 1 0 0) ∧ H 2 = .blk false 1 132 4 [[.own none 144 1 [], .own none 144 1 [], .own none 144 1 [], .bool false]] ∧ H 999 = .mrk B ∧ Kb (cn (bR (bQ c rs N) qs M)) (bL rs N) (bT rs N) H) ?_ ?_
 ·refine aloop_by (fun f H => ∃ i : Nat, i ≤ M ∧ (f 2 = .hp 2 1 0 0 ∧ f 4 = .hp 900 1 0 0 ∧ f 66 = .iv (.sl (qrows qs)) ∧ f 67 = .iv (.int .i64 qs.length) ∧ f 68 = .iv (.int .i64 i)) ∧ H 2 = .blk false 1 132 4 [[.own none 144 1 [], .own none 144 1 [], .own none 144 1 [], .bool false]] ∧ H 999 = .mrk B ∧ Kb (cn (bR (bQ c rs N) qs i)) (bL rs N) (bT rs N) H) (fun f H => (qs.length - intAt f 68).toNat) ?_ ?_
  ·refine ⟨0, by omega, ⟨by simp (disch := omega) only [wt, seval, reduceCtorEq, Nat.reduceEqDiff, rqs, wz, wzB, f2], by simp (disch := omega) only [wt, seval, reduceCtorEq, Nat.reduceEqDiff, rqs, wz, wzB, f4], by simp (disch := omega) only [wt, seval, reduceCtorEq, Nat.reduceEqDiff, rqs, wz, wzB], by simp (disch := omega) only [wt, seval, reduceCtorEq, Nat.reduceEqDiff, rqs, wz, wzB, kl1], by simp (disch := omega) only [wt, seval, reduceCtorEq, Nat.reduceEqDiff, rqs, wz, wzB]; try rfl⟩, by simp (disch := omega) only [wt, seval, reduceCtorEq, Nat.reduceEqDiff, rqs, wz, wzB, g2], by simp (disch := omega) only [wt, seval, reduceCtorEq, Nat.reduceEqDiff, rqs, wz, wzB, g9], kb⟩
  clear f1 f2 f4 g1 g2 g9 kb
  rintro f H ⟨i, hi, ⟨f2, f4, f66, f67, f68⟩, g2, g9, kb⟩
  rw [intAt_of f68]
  simp (disch := omega) only [wt, seval, reduceCtorEq, Nat.reduceEqDiff, rqs, wz, wzB, f2, f4, f66, f67, f68, g2, g9]
  refine if_by (fun hlt => ?_) (fun hlt => ?_)
  ·have hlt' : i < qs.length := by omega
   obtain ⟨⟨a, b⟩, hk⟩ : ∃ k, ab qs i = k := ⟨_, rfl⟩
   have kb1 := ab_bd qs i
   have e1 : clz (qs.getD i (0, 0)).1 (-1000) 1000 = a := congrArg (·.1) hk
   have e2 : clz (qs.getD i (0, 0)).2 1 1000 = b := congrArg (·.2) hk
   rw [hk] at kb1
   obtain ⟨⟨a1, a2⟩, b1, b2⟩ : (-1000 ≤ a ∧ a ≤ 1000) ∧ 1 ≤ b ∧ b ≤ 1000 := kb1
   have c1 := clamp_ok (qs.getD i (0, 0)).1 (-1000) 1000
   have c2 := clamp_ok (qs.getD i (0, 0)).2 1 1000
   rw [e1] at c1
   rw [e2] at c2
   simp (disch := omega) only [wt, seval, reduceCtorEq, Nat.reduceEqDiff, rqs, wz, wzB, f2, f4, f66, f67, f68, g2, g9, qrows_len, qrows_at hlt', qrows_rows, w2]
   refine if_by (fun h6 => ?_) (fun h6 => ?_)
   ·obtain rfl : i = M := by omega
    simp (disch := omega) only [wt, seval, reduceCtorEq, Nat.reduceEqDiff, rqs, wz, wzB, f2, f4, f66, f67, f68, g2, g9]
    exact (kb.upd (by decide) (by decide) (by decide)).upd (by decide) (by decide) (by decide)
   ·obtain ⟨q1, q2⟩ := sqr_bd a1 a2
    have w1 : IntKind.i64.wrap (a * a) = a * a := wrap_i64 _ (by omega) (by omega)
    have w2 : IntKind.i64.wrap (a * a + b) = a * a + b := wrap_i64 _ (by omega) (by omega)
    have w3 : IntKind.i64.wrap (-2 * a) = -2 * a := wrap_i64 _ (by omega) (by omega)
    have tp := tpoly_ok [a * a + b, -2 * a, 1] (by simp) (fun z hz => by
     simp only [List.mem_cons, List.not_mem_nil, or_false] at hz
     rcases hz with rfl | rfl | rfl <;> omega)
    have bw := br_bw bw0 (by omega) qs i (by omega)
    have bt := bw.t
    have mu := mulc_ok (L := [a * a + b, -2 * a, 1]) ((rp_sb (D := 40) (by omega) bw.sz).mono (by decide) (by omega)) (rp_three (by simp only [W]; omega) (by simp only [W]; omega) (by decide))
    have eb : pmul (bR (bQ c rs N) qs i) [a * a + b, -2 * a, 1] = bR (bQ c rs N) qs (i + 1) := by rw [bR, hk]
    rw [eb] at mu
    obtain ⟨rn, tn, g900, up⟩ := kb.poly
    simp (disch := omega) only [wt, seval, reduceCtorEq, Nat.reduceEqDiff, rqs, wz, wzB, f2, f4, f66, f67, f68, g2, g9, qrows_len, qrows_at hlt', qrows_rows, w2]
    refine call_by (c1) (by first | rfl | (simp only [tocvs, tocv, toboxes, tobox, updH_at, Nat.reduceEqDiff, ↓reduceIte, f2, f4, f66, f67, f68, g2, g9, w2]; rfl)) (by simp) ?_
    simp (disch := omega) only [wt, seval, reduceCtorEq, Nat.reduceEqDiff, rqs, wz, wzB, f2, f4, f66, f67, f68, g2, g9, w2]
    refine call_by (c2) (by first | rfl | (simp only [tocvs, tocv, toboxes, tobox, updH_at, Nat.reduceEqDiff, ↓reduceIte, f2, f4, f66, f67, f68, g2, g9, w2, g900, w1, w2, w3]; rfl)) (by simp) ?_
    simp (disch := omega) only [wt, seval, reduceCtorEq, Nat.reduceEqDiff, rqs, wz, wzB, f2, f4, f66, f67, f68, g2, g9, w2, g900, w1, w2, w3]
    refine .inl ⟨tmps_by (by kernel_rfl), ?_⟩
    refine call_by (tp) (by first | rfl | (simp only [tocvs, tocv, toboxes, tobox, updH_at, Nat.reduceEqDiff, ↓reduceIte, f2, f4, f66, f67, f68, g2, g9, w2, g900]; rfl)) (by simp) ?_
    simp (disch := omega) only [wt, seval, reduceCtorEq, Nat.reduceEqDiff, rqs, wz, wzB, f2, f4, f66, f67, f68, g2, g9, w2, g900]
    refine call_by (mu) (by first | rfl | (simp only [tocvs, tocv, toboxes, tobox, updH_at, Nat.reduceEqDiff, ↓reduceIte, f2, f4, f66, f67, f68, g2, g9, w2, g900]; rfl)) (by simp) ?_
    simp (disch := omega) only [wt, seval, reduceCtorEq, Nat.reduceEqDiff, rqs, wz, wzB, f2, f4, f66, f67, f68, g2, g9, w2, g900]
    first | exact log_by (by kernel_rfl) | refine ⟨log_by (by kernel_rfl), ?_⟩
    refine ⟨⟨i + 1, by omega, by omega, up _ _ ?_ ?_ ?_⟩, by omega⟩
    ·rw [updH_same]
    ·repeat rw [updH_ne _ _ (by decide)]
    ·repeat rw [updH_ne _ _ (by decide)]
  ·obtain rfl : i = M := by omega
   simp (disch := omega) only [wt, seval, reduceCtorEq, Nat.reduceEqDiff, rqs, wz, wzB, f2, f4, f66, f67, f68, g2, g9]
   exact kb
 clear f1 f2 f4 g1 g2 g9 kb
 rintro f H ⟨⟨f2, f4⟩, g2, g9, kb⟩
 have kl := bl_kl rs N
 obtain ⟨rn, tn, g900, hR, hT⟩ := kb
 rcases hR with ⟨l0, rfl⟩ | ⟨st, l0, rfl, g68⟩
 ·have t0 : bT rs N = [] := List.length_eq_zero_iff.1 (by rw [kl.tlen, l0]; rfl)
  obtain rfl : tn = .nils := by
   rcases hT with ⟨_, h⟩ | ⟨st, h, h2, h3⟩
   ·exact h
   ·exact (h t0).elim
  refine Opn.done ?_
  simp (disch := omega) only [wt, seval, reduceCtorEq, Nat.reduceEqDiff, rqs, wz, wzB, f2, f4, g2, g9, g900, w4]
  refine opn_done (B := B) [.agg [.sl (raws (cn (bR (bQ c rs N) qs M))), .own none 0 0 [], .own none 0 0 [], .bool true]] (by simp (disch := omega) only [wt, seval, reduceCtorEq, Nat.reduceEqDiff, rqs, wz, wzB]; try exact g9) (by simp (disch := omega) only [wt, seval, reduceCtorEq, Nat.reduceEqDiff, rqs, wz, wzB, f2, f4, g2, g9, g900]; try rfl) ?_
  intro E hE
  refine ⟨.own none 0 0 [], .own none 0 0 [], rfl, ?_, ?_⟩
  ·rw [l0]; exact soft_own (k := 0) (fun r hr => by simp at hr)
  ·rw [t0]; exact soft_own (k := 0) (fun r hr => by simp at hr)
 ·have t0 : bT rs N ≠ [] := fun e => l0 (List.length_eq_zero_iff.1 (by rw [← kl.tlen, e]; rfl))
  obtain ⟨st2, -, rfl, g78⟩ := hT.resolve_left fun h => t0 h.1
  refine Opn.row 900 1 132 1 68 st 58 3 _ _ B g900 (by rfl) g68 g9 ?_
  intro bo E3 hE3 hbo hbr
  refine Opn.row 900 1 132 2 78 st2 3 1 _ (ilims (bT rs N)) E3 (by rfl) (by rfl) (by simp (disch := omega) only [wt, seval, reduceCtorEq, Nat.reduceEqDiff, rqs, wz, wzB, g78]) (by rfl) ?_
  intro bi E4 hE4 hbi hbr2
  refine Opn.done ?_
  simp (disch := omega) only [wt, seval, reduceCtorEq, Nat.reduceEqDiff, rqs, wz, wzB, f2, f4, g2, g9, g900, g68, g78, w4]
  refine opn_done (B := E4) [.agg [.sl (raws (cn (bR (bQ c rs N) qs M))), .own bo 58 3 (rats (bL rs N)), .own bi 3 1 (ilims (bT rs N)), .bool true]] (by rfl) (by simp (disch := omega) only [wt, seval, reduceCtorEq, Nat.reduceEqDiff, rqs, wz, wzB, f2, f4, g2, g9, g900, g68, g78]; try rfl) ?_
  intro E hE
  exact ⟨_, _, rfl, soft_own ((rats_rows _).mpr trivial), soft_own (k := 1) (fun r hr => by obtain ⟨k, _, rfl⟩ := List.mem_map.1 hr; rfl)⟩
theorem built_ok (lead : Int) (rs : List (Int × Int × Int)) (qs : List (Int × Int)) (hrs : rs.length ≤ 2 ^ 40) (hqs : qs.length ≤ 2 ^ 40) : AC Tryz.prog 78 [.agg (wrow lead rs qs)] none [.agg (knr (cn (bR (bQ (ld lead) rs (min rs.length 6)) qs (min qs.length 2))) (bL rs (min rs.length 6)) (bT rs (min rs.length 6)) true)] :=
 ACX.plain (builtx_ok lead rs qs hrs hqs) fun B E r hr => by
  obtain ⟨x, y, rfl, hx, hy⟩ := hr
  refine .cons (.agg rfl fun j a b ha hb => ?_) .nil
  match j with
  | 0 => simp only [knr, List.getElem?_cons_zero, Option.some.injEq] at ha hb; subst ha hb; exact .refl _
  | 1 => simp only [knr, List.getElem?_cons_succ, List.getElem?_cons_zero, Option.some.injEq] at ha hb; subst ha hb; exact hx
  | 2 => simp only [knr, List.getElem?_cons_succ, List.getElem?_cons_zero, Option.some.injEq] at ha hb; subst ha hb; exact hy
  | 3 => simp only [knr, List.getElem?_cons_succ, List.getElem?_cons_zero, Option.some.injEq] at ha hb; subst ha hb; exact .refl _
  | j + 4 => simp [knr] at hb
theorem built_kw (lead : Int) (rs : List (Int × Int × Int)) (qs : List (Int × Int)) : ∃ p l ts D n S, (p, l, ts) = (cn (bR (bQ (ld lead) rs (min rs.length 6)) qs (min qs.length 2)), bL rs (min rs.length 6), bT rs (min rs.length 6)) ∧ Kw p D n S (l.map qv) ∧ Kl l ts 6 18 := by
 have hcb : ld lead ≠ 0 ∧ (ld lead).natAbs < W := by
  have cb := clz_bd (n := lead) (lo := -1000000) (hi := 1000000) (by decide)
  unfold ld; simp only [W]; split <;> omega
 obtain ⟨m, hm, bw⟩ := bq_bw hcb.1 hcb.2 rs (min rs.length 6) (by omega)
 have b2 := br_bw bw (by omega) qs (min qs.length 2) (by omega)
 have kl := bl_kl rs (min rs.length 6)
 generalize hQ : bR (bQ (ld lead) rs (min rs.length 6)) qs (min qs.length 2) = Q at *
 have b3 := b2.of_ps (Q := trimz Q) (ps_trimz Q).symm
 have k := b3.kw (by omega) (by omega) (by omega) kl.rise (trimz_trimz Q)
 rw [show cn (trimz Q) = cn Q by exact cn_psb (ps_trimz Q)] at k
 obtain ⟨D, k⟩ := k
 refine ⟨_, _, _, D, _, _, rfl, k, kl.rise, ?_, kl.tlen, kl.sz, fun t ht => ?_⟩
 ·have := kl.len; omega
 ·have := kl.tb t ht; omega
end Go.Proofs.YtdokaihemcnkmaaGreat

namespace Go.Proofs.YtdokaihemcnkmaaGreat
open Go Go.Proofs Go.AL
set_option linter.unusedSimpArgs false
set_option linter.unusedVariables false
set_option linter.defProp false
theorem spk (a b c d : IV) (p : List RI) (l : List RQ) (ts : List Int) (ok : Bool) : splice [a, b, c, d] 0 (knr p l ts ok) = knr p l ts ok := rfl
theorem kn3k (p : List RI) (l : List RQ) (ts : List Int) (ok : Bool) : (knr p l ts ok).getD 3 default = .bool ok := rfl
def kn := And.intro knl (And.intro kn0 (And.intro kn1 (And.intro kn2 (And.intro kn3k spk))))
set_option maxRecDepth 4000 in
theorem counts_law (lead : Int) (rs : List (Int × Int × Int)) (qs : List (Int × Int)) (a b : RQ) (hrs : rs.length ≤ 1048576) (hqs : qs.length ≤ 1048576) (ha : SzQ 1048576 a) (hb : SzQ 1048576 b) : AC Tryz.prog 6 [.agg (wrow lead rs qs), cqq a, cqq b] none [cb true] := by
 obtain ⟨p, l, ts, D, n, S, hp, kw, kl⟩ := built_kw lead rs qs
 have bu := built_ok lead rs qs (by omega) (by omega)
 injection hp with hp hl
 injection hl with hl ht
 rw [← hp, ← hl, ← ht] at bu
 clear hp hl ht
 obtain ⟨D3, k3⟩ := three
 have t1 := tpoly_ok [0, -1, 0, 1] (by simp) (fun z hz => by
  simp only [List.mem_cons, List.not_mem_nil, or_false] at hz
  rcases hz with rfl | rfl | rfl | rfl <;> omega)
 have l1 := kline_ok _ k3
 rw [show (l3.map qv).length = 3 from rfl] at l1
 have cz := copyz_ok p (Nat.le_trans kw.rp.1 (by decide)) (fun c hc => Nat.le_trans (kw.rp.2 c hc).1 (by have := kw.s40; omega))
 have l2 := kline_ok p kw
 rw [List.length_map] at l2
 have ll := kl.len
 have bo := bounded_ok p l ts true kw (by omega) kl.sz (fun i hi => rise_get kl.rise (by omega) hi)
 have ma := means_ok a (Nat.le_trans ha.2.1 (by decide))
 have mb := means_ok b (Nat.le_trans hb.2.1 (by decide))
 have ca := copyrat_ok a (Nat.le_trans ha.1.1 (by decide)) (Nat.le_trans ha.2.1 (by decide))
 have cb := copyrat_ok b (Nat.le_trans hb.1.1 (by decide)) (Nat.le_trans hb.2.1 (by decide))
 simp only [wrow] at bu ⊢
 simp only [List.map_cons, List.map_nil] at t1 l1
 refine AC.by_walk (rs := [.tmp 6]) ords Tryz.func6 (by rfl) (by rfl) (by rfl) (by rfl) (by rfl) ?_
 simp (disch := omega) only [wt, seval, reduceCtorEq, Nat.reduceEqDiff, rqs, wz]
 refine call_by (t1) (by rfl) (by simp) ?_
 simp (disch := omega) only [wt, seval, reduceCtorEq, Nat.reduceEqDiff, rqs, wz]
 refine call_by (l1) (by rfl) (by simp) ?_
 simp (disch := omega) only [wt, seval, reduceCtorEq, Nat.reduceEqDiff, rqs, wz]
 refine call_by (bu) (by first | rfl | (simp only [tocvs, tocv, toboxes, tobox, updH_at, Nat.reduceEqDiff, ↓reduceIte, kn]; rfl)) (by simp) ?_
 simp (disch := omega) only [wt, seval, reduceCtorEq, Nat.reduceEqDiff, rqs, wz, kn]
 refine call_by (cz) (by first | rfl | (simp only [tocvs, tocv, toboxes, tobox, updH_at, Nat.reduceEqDiff, ↓reduceIte, kn]; rfl)) (by simp) ?_
 simp (disch := omega) only [wt, seval, reduceCtorEq, Nat.reduceEqDiff, rqs, wz, kn]
 refine call_by (l2) (by first | rfl | (simp only [tocvs, tocv, toboxes, tobox, updH_at, Nat.reduceEqDiff, ↓reduceIte, kn]; rfl)) (by simp) ?_
 simp (disch := omega) only [wt, seval, reduceCtorEq, Nat.reduceEqDiff, rqs, wz, kn]
 refine call_by (bo) (by first | rfl | (simp only [tocvs, tocv, toboxes, tobox, updH_at, Nat.reduceEqDiff, ↓reduceIte, kn]; rfl)) (by simp) ?_
 simp (disch := omega) only [wt, seval, reduceCtorEq, Nat.reduceEqDiff, rqs, wz, kn]
 have bad : ¬ (nv a.2 ≠ 0 ∧ nv b.2 ≠ 0) → AC Tryz.prog 82 [cw p, cqq a, cqq b] none [ci 0, ci 1] := fun h => count_err p kw a b (ha.mono (by decide)) (hb.mono (by decide)) 1 (by decide) (fun _ => rfl) (fun g => (h g).elim)
 by_cases h0 : nv a.2 ≠ 0
 ·rw [decide_eq_true h0] at ma
  by_cases h1 : nv b.2 ≠ 0
  ·rw [decide_eq_true h1] at mb
   refine call_by (ma) (by first | rfl | (simp only [tocvs, tocv, toboxes, tobox, updH_at, Nat.reduceEqDiff, ↓reduceIte, kn]; rfl)) (by simp) ?_
   simp (disch := omega) only [wt, seval, reduceCtorEq, Nat.reduceEqDiff, rqs, wz, kn]
   refine call_by (mb) (by first | rfl | (simp only [tocvs, tocv, toboxes, tobox, updH_at, Nat.reduceEqDiff, ↓reduceIte, kn]; rfl)) (by simp) ?_
   simp (disch := omega) only [wt, seval, reduceCtorEq, Nat.reduceEqDiff, rqs, wz, kn]
   have cm := qcmpr_ok a b (ha.mono (by decide)) (hb.mono (by decide)) h0 h1
   have up := upto_ok p kw a (ha.mono (by decide)) h0
   have be := kbeyond_ok p kw a (ha.mono (by decide)) h0 (by rw [List.length_map]; omega)
   rw [List.length_map] at be
   have hu : ((l.map qv).countP fun r => decide (r ≤ qv a)) ≤ l.length := Nat.le_trans List.countP_le_length (by rw [List.length_map]; exact Nat.le_refl _)
   generalize ((l.map qv).countP fun r => decide (r ≤ qv a)) = u at *
   have ew : IntKind.i64.wrap ((u : Int) + ((l.length : Int) - (u : Int))) = l.length := by rw [wrap_i64 _ (by omega) (by omega)]; omega
   by_cases hlt : qv b < qv a
   ·have co := count_err p kw a b (ha.mono (by decide)) (hb.mono (by decide)) 7 (by decide) (fun h => (h ⟨h0, h1⟩).elim) (fun _ => ⟨hlt, rfl⟩)
    rw [sgq_gt hlt] at cm
    refine .inl ⟨tmps_by (by kernel_rfl), ?_⟩
    refine call_by (ca) (by first | rfl | (simp only [tocvs, tocv, toboxes, tobox, updH_at, Nat.reduceEqDiff, ↓reduceIte, kn]; rfl)) (by simp) ?_
    simp (disch := omega) only [wt, seval, reduceCtorEq, Nat.reduceEqDiff, rqs, wz, kn]
    refine call_by (cb) (by first | rfl | (simp only [tocvs, tocv, toboxes, tobox, updH_at, Nat.reduceEqDiff, ↓reduceIte, kn]; rfl)) (by simp) ?_
    simp (disch := omega) only [wt, seval, reduceCtorEq, Nat.reduceEqDiff, rqs, wz, kn]
    refine call_by (cm) (by first | rfl | (simp only [tocvs, tocv, toboxes, tobox, updH_at, Nat.reduceEqDiff, ↓reduceIte, kn]; rfl)) (by simp) ?_
    simp (disch := omega) only [wt, seval, reduceCtorEq, Nat.reduceEqDiff, rqs, wz, kn]
    first | exact log_by (by kernel_rfl) | refine ⟨log_by (by kernel_rfl), ?_⟩
    refine .inl ⟨tmps_by (by kernel_rfl), ?_⟩
    refine call_by (cz) (by first | rfl | (simp only [tocvs, tocv, toboxes, tobox, updH_at, Nat.reduceEqDiff, ↓reduceIte, kn]; rfl)) (by simp) ?_
    simp (disch := omega) only [wt, seval, reduceCtorEq, Nat.reduceEqDiff, rqs, wz, kn]
    refine call_by (ca) (by first | rfl | (simp only [tocvs, tocv, toboxes, tobox, updH_at, Nat.reduceEqDiff, ↓reduceIte, kn]; rfl)) (by simp) ?_
    simp (disch := omega) only [wt, seval, reduceCtorEq, Nat.reduceEqDiff, rqs, wz, kn]
    refine call_by (cb) (by first | rfl | (simp only [tocvs, tocv, toboxes, tobox, updH_at, Nat.reduceEqDiff, ↓reduceIte, kn]; rfl)) (by simp) ?_
    simp (disch := omega) only [wt, seval, reduceCtorEq, Nat.reduceEqDiff, rqs, wz, kn]
    refine call_by (co) (by first | rfl | (simp only [tocvs, tocv, toboxes, tobox, updH_at, Nat.reduceEqDiff, ↓reduceIte, kn]; rfl)) (by simp) ?_
    simp (disch := omega) only [wt, seval, reduceCtorEq, Nat.reduceEqDiff, rqs, wz, kn]
    first | exact log_by (by kernel_rfl) | refine ⟨log_by (by kernel_rfl), ?_⟩
    refine .inl ⟨tmps_by (by kernel_rfl), ?_⟩
    refine call_by (cz) (by first | rfl | (simp only [tocvs, tocv, toboxes, tobox, updH_at, Nat.reduceEqDiff, ↓reduceIte, kn]; rfl)) (by simp) ?_
    simp (disch := omega) only [wt, seval, reduceCtorEq, Nat.reduceEqDiff, rqs, wz, kn]
    refine call_by (ca) (by first | rfl | (simp only [tocvs, tocv, toboxes, tobox, updH_at, Nat.reduceEqDiff, ↓reduceIte, kn]; rfl)) (by simp) ?_
    simp (disch := omega) only [wt, seval, reduceCtorEq, Nat.reduceEqDiff, rqs, wz, kn]
    refine call_by (up) (by first | rfl | (simp only [tocvs, tocv, toboxes, tobox, updH_at, Nat.reduceEqDiff, ↓reduceIte, kn]; rfl)) (by simp) ?_
    simp (disch := omega) only [wt, seval, reduceCtorEq, Nat.reduceEqDiff, rqs, wz, kn]
    first | exact log_by (by kernel_rfl) | refine ⟨log_by (by kernel_rfl), ?_⟩
    refine .inl ⟨tmps_by (by kernel_rfl), ?_⟩
    refine call_by (cz) (by first | rfl | (simp only [tocvs, tocv, toboxes, tobox, updH_at, Nat.reduceEqDiff, ↓reduceIte, kn]; rfl)) (by simp) ?_
    simp (disch := omega) only [wt, seval, reduceCtorEq, Nat.reduceEqDiff, rqs, wz, kn]
    refine call_by (ca) (by first | rfl | (simp only [tocvs, tocv, toboxes, tobox, updH_at, Nat.reduceEqDiff, ↓reduceIte, kn]; rfl)) (by simp) ?_
    simp (disch := omega) only [wt, seval, reduceCtorEq, Nat.reduceEqDiff, rqs, wz, kn]
    refine call_by (be) (by first | rfl | (simp only [tocvs, tocv, toboxes, tobox, updH_at, Nat.reduceEqDiff, ↓reduceIte, kn, ew]; rfl)) (by simp) ?_
    simp (disch := omega) only [wt, seval, reduceCtorEq, Nat.reduceEqDiff, rqs, wz, kn, ew]
    first | exact log_by (by kernel_rfl) | refine ⟨log_by (by kernel_rfl), ?_⟩
    try rfl
   ·have hle := Rat.not_lt.mp hlt
    have co := count_ok p kw a b (ha.mono (by decide)) (hb.mono (by decide)) h0 h1 hle
    have sl := sgq_le hle
    obtain ⟨m, wi⟩ := within_ok p l ts true a b (by omega) kl.tlen (fun t ht => by have := kl.tb t ht; omega) (fun r hr => ⟨(kl.sz r hr).1.mono (by decide), (kl.sz r hr).2⟩) (ha.mono (by decide)) h0 (hb.mono (by decide)) h1
    generalize sgq (qv a - qv b) = s at *
    generalize cnt (l.map qv) (qv a) (qv b) = k at *
    refine .inl ⟨tmps_by (by kernel_rfl), ?_⟩
    refine call_by (ca) (by first | rfl | (simp only [tocvs, tocv, toboxes, tobox, updH_at, Nat.reduceEqDiff, ↓reduceIte, kn]; rfl)) (by simp) ?_
    simp (disch := omega) only [wt, seval, reduceCtorEq, Nat.reduceEqDiff, rqs, wz, kn]
    refine call_by (cb) (by first | rfl | (simp only [tocvs, tocv, toboxes, tobox, updH_at, Nat.reduceEqDiff, ↓reduceIte, kn]; rfl)) (by simp) ?_
    simp (disch := omega) only [wt, seval, reduceCtorEq, Nat.reduceEqDiff, rqs, wz, kn]
    refine call_by (cm) (by first | rfl | (simp only [tocvs, tocv, toboxes, tobox, updH_at, Nat.reduceEqDiff, ↓reduceIte, kn]; rfl)) (by simp) ?_
    simp (disch := omega) only [wt, seval, reduceCtorEq, Nat.reduceEqDiff, rqs, wz, kn]
    first | exact log_by (by kernel_rfl) | refine ⟨log_by (by kernel_rfl), ?_⟩
    refine .inl ⟨tmps_by (by kernel_rfl), ?_⟩
    refine call_by (cz) (by first | rfl | (simp only [tocvs, tocv, toboxes, tobox, updH_at, Nat.reduceEqDiff, ↓reduceIte, kn]; rfl)) (by simp) ?_
    simp (disch := omega) only [wt, seval, reduceCtorEq, Nat.reduceEqDiff, rqs, wz, kn]
    refine call_by (ca) (by first | rfl | (simp only [tocvs, tocv, toboxes, tobox, updH_at, Nat.reduceEqDiff, ↓reduceIte, kn]; rfl)) (by simp) ?_
    simp (disch := omega) only [wt, seval, reduceCtorEq, Nat.reduceEqDiff, rqs, wz, kn]
    refine call_by (cb) (by first | rfl | (simp only [tocvs, tocv, toboxes, tobox, updH_at, Nat.reduceEqDiff, ↓reduceIte, kn]; rfl)) (by simp) ?_
    simp (disch := omega) only [wt, seval, reduceCtorEq, Nat.reduceEqDiff, rqs, wz, kn]
    refine call_by (co) (by first | rfl | (simp only [tocvs, tocv, toboxes, tobox, updH_at, Nat.reduceEqDiff, ↓reduceIte, kn]; rfl)) (by simp) ?_
    simp (disch := omega) only [wt, seval, reduceCtorEq, Nat.reduceEqDiff, rqs, wz, kn]
    first | exact log_by (by kernel_rfl) | refine ⟨log_by (by kernel_rfl), ?_⟩
    refine .inl ⟨tmps_by (by kernel_rfl), ?_⟩
    refine call_by (cz) (by first | rfl | (simp only [tocvs, tocv, toboxes, tobox, updH_at, Nat.reduceEqDiff, ↓reduceIte, kn]; rfl)) (by simp) ?_
    simp (disch := omega) only [wt, seval, reduceCtorEq, Nat.reduceEqDiff, rqs, wz, kn]
    refine call_by (ca) (by first | rfl | (simp only [tocvs, tocv, toboxes, tobox, updH_at, Nat.reduceEqDiff, ↓reduceIte, kn]; rfl)) (by simp) ?_
    simp (disch := omega) only [wt, seval, reduceCtorEq, Nat.reduceEqDiff, rqs, wz, kn]
    refine call_by (up) (by first | rfl | (simp only [tocvs, tocv, toboxes, tobox, updH_at, Nat.reduceEqDiff, ↓reduceIte, kn]; rfl)) (by simp) ?_
    simp (disch := omega) only [wt, seval, reduceCtorEq, Nat.reduceEqDiff, rqs, wz, kn]
    first | exact log_by (by kernel_rfl) | refine ⟨log_by (by kernel_rfl), ?_⟩
    refine .inl ⟨tmps_by (by kernel_rfl), ?_⟩
    refine call_by (cz) (by first | rfl | (simp only [tocvs, tocv, toboxes, tobox, updH_at, Nat.reduceEqDiff, ↓reduceIte, kn]; rfl)) (by simp) ?_
    simp (disch := omega) only [wt, seval, reduceCtorEq, Nat.reduceEqDiff, rqs, wz, kn]
    refine call_by (ca) (by first | rfl | (simp only [tocvs, tocv, toboxes, tobox, updH_at, Nat.reduceEqDiff, ↓reduceIte, kn]; rfl)) (by simp) ?_
    simp (disch := omega) only [wt, seval, reduceCtorEq, Nat.reduceEqDiff, rqs, wz, kn]
    refine call_by (be) (by first | rfl | (simp only [tocvs, tocv, toboxes, tobox, updH_at, Nat.reduceEqDiff, ↓reduceIte, kn, ew, sl]; rfl)) (by simp) ?_
    simp (disch := omega) only [wt, seval, reduceCtorEq, Nat.reduceEqDiff, rqs, wz, kn, ew, sl]
    first | exact log_by (by kernel_rfl) | refine ⟨log_by (by kernel_rfl), ?_⟩
    refine call_by (wi) (by first | rfl | (simp only [tocvs, tocv, toboxes, tobox, updH_at, Nat.reduceEqDiff, ↓reduceIte, kn]; rfl)) (by simp) ?_
    simp (disch := omega) only [wt, seval, reduceCtorEq, Nat.reduceEqDiff, rqs, wz, kn]
    try rfl
  ·rw [decide_eq_false h1] at mb
   have co := bad (fun h => h1 h.2)
   refine call_by (ma) (by first | rfl | (simp only [tocvs, tocv, toboxes, tobox, updH_at, Nat.reduceEqDiff, ↓reduceIte, kn]; rfl)) (by simp) ?_
   simp (disch := omega) only [wt, seval, reduceCtorEq, Nat.reduceEqDiff, rqs, wz, kn]
   refine call_by (mb) (by first | rfl | (simp only [tocvs, tocv, toboxes, tobox, updH_at, Nat.reduceEqDiff, ↓reduceIte, kn]; rfl)) (by simp) ?_
   simp (disch := omega) only [wt, seval, reduceCtorEq, Nat.reduceEqDiff, rqs, wz, kn]
   refine .inl ⟨tmps_by (by kernel_rfl), ?_⟩
   refine call_by (cz) (by first | rfl | (simp only [tocvs, tocv, toboxes, tobox, updH_at, Nat.reduceEqDiff, ↓reduceIte, kn]; rfl)) (by simp) ?_
   simp (disch := omega) only [wt, seval, reduceCtorEq, Nat.reduceEqDiff, rqs, wz, kn]
   refine call_by (ca) (by first | rfl | (simp only [tocvs, tocv, toboxes, tobox, updH_at, Nat.reduceEqDiff, ↓reduceIte, kn]; rfl)) (by simp) ?_
   simp (disch := omega) only [wt, seval, reduceCtorEq, Nat.reduceEqDiff, rqs, wz, kn]
   refine call_by (cb) (by first | rfl | (simp only [tocvs, tocv, toboxes, tobox, updH_at, Nat.reduceEqDiff, ↓reduceIte, kn]; rfl)) (by simp) ?_
   simp (disch := omega) only [wt, seval, reduceCtorEq, Nat.reduceEqDiff, rqs, wz, kn]
   refine call_by (co) (by first | rfl | (simp only [tocvs, tocv, toboxes, tobox, updH_at, Nat.reduceEqDiff, ↓reduceIte, kn]; rfl)) (by simp) ?_
   simp (disch := omega) only [wt, seval, reduceCtorEq, Nat.reduceEqDiff, rqs, wz, kn]
   first | exact log_by (by kernel_rfl) | refine ⟨log_by (by kernel_rfl), ?_⟩
   try rfl
 ·rw [decide_eq_false h0] at ma
  have co := bad (fun h => h0 h.1)
  refine call_by (ma) (by first | rfl | (simp only [tocvs, tocv, toboxes, tobox, updH_at, Nat.reduceEqDiff, ↓reduceIte, kn]; rfl)) (by simp) ?_
  simp (disch := omega) only [wt, seval, reduceCtorEq, Nat.reduceEqDiff, rqs, wz, kn]
  refine .inl ⟨tmps_by (by kernel_rfl), ?_⟩
  refine call_by (cz) (by first | rfl | (simp only [tocvs, tocv, toboxes, tobox, updH_at, Nat.reduceEqDiff, ↓reduceIte, kn]; rfl)) (by simp) ?_
  simp (disch := omega) only [wt, seval, reduceCtorEq, Nat.reduceEqDiff, rqs, wz, kn]
  refine call_by (ca) (by first | rfl | (simp only [tocvs, tocv, toboxes, tobox, updH_at, Nat.reduceEqDiff, ↓reduceIte, kn]; rfl)) (by simp) ?_
  simp (disch := omega) only [wt, seval, reduceCtorEq, Nat.reduceEqDiff, rqs, wz, kn]
  refine call_by (cb) (by first | rfl | (simp only [tocvs, tocv, toboxes, tobox, updH_at, Nat.reduceEqDiff, ↓reduceIte, kn]; rfl)) (by simp) ?_
  simp (disch := omega) only [wt, seval, reduceCtorEq, Nat.reduceEqDiff, rqs, wz, kn]
  refine call_by (co) (by first | rfl | (simp only [tocvs, tocv, toboxes, tobox, updH_at, Nat.reduceEqDiff, ↓reduceIte, kn]; rfl)) (by simp) ?_
  simp (disch := omega) only [wt, seval, reduceCtorEq, Nat.reduceEqDiff, rqs, wz, kn]
  first | exact log_by (by kernel_rfl) | refine ⟨log_by (by kernel_rfl), ?_⟩
  try rfl
theorem counts_law2 (lead : Int) (rs : List (Int × Int × Int)) (qs : List (Int × Int)) (a b : RQ) (_ : -9223372036854775808 ≤ lead) (_ : lead ≤ 9223372036854775807) (hrs : rs.length ≤ 1048576 ∧ ∀ x ∈ rs, True) (hqs : qs.length ≤ 1048576 ∧ ∀ x ∈ qs, True) (ha : SzQ 1048576 a) (hb : SzQ 1048576 b) : AC Tryz.prog 6 [.agg (wrow lead rs qs), cqq a, cqq b] none [cb true] := counts_law lead rs qs a b hrs.1 hqs.1 ha hb
end Go.Proofs.YtdokaihemcnkmaaGreat
