/-
  The abstract logic: regions in any order.
-/
import Derived.Test.YthgecppfgdadiaaAbsD
namespace Go.AL
open Go.RowKit
set_option linter.unusedSimpArgs false
set_option linter.unusedVariables false

section
variable {P : Program} {M : Nat → Prop} {w0 : World} {D0 : Nat → Prop} {N : Nat} {f : Fr} {H : Hp} {β : Nat → Value} {a : Act} {w : World}

/-- The region's list of slots. -/
def dsts (ops : Array Oper) : List (Option Nat) := ops.toList.map (·.dst)

theorem yielded_of (R : Rel M w0 D0 N f H β a w) {ops : Array Oper} {j : Nat} : (∀ b, ((dsts ops).getD j none).map f = some (.iv (.bool b)) → yielded ops a.tmps j = some b) ∧ (((dsts ops).getD j none).map f = some .undef → yielded ops a.tmps j = none) := by
  have e : (dsts ops).getD j none = (ops[j]?).bind (·.dst) := by
    simp only [dsts, List.getD, List.getElem?_map, Array.getElem?_toList]
    cases ops[j]? <;> rfl
  rw [e]
  unfold yielded
  cases hd : (ops[j]?).bind (·.dst) with
  | none => simp
  | some d =>
    simp only [Option.map_some, Option.some.injEq, Option.bind_some]
    have h1 := R.tmps d
    refine ⟨fun b hb => ?_, fun hu => ?_⟩
    · rw [hb] at h1
      simp only [AVRep] at h1
      cases ht : a.tmps[d]? with
      | none => rw [Array.getD_eq_getD_getElem?, ht] at h1; cases h1
      | some v =>
        rw [Array.getD_eq_getD_getElem?, ht] at h1
        simp only [Option.getD_some] at h1
        cases h1; rfl
    · rw [hu] at h1
      simp only [AVRep] at h1
      cases ht : a.tmps[d]? with
      | none => rfl
      | some v =>
        rw [Array.getD_eq_getD_getElem?, ht] at h1
        simp only [Option.getD_some] at h1
        subst h1; rfl

theorem Rel.skip (R : Rel M w0 D0 N f H β a w) {d : Option Nat} (hd : ∀ k, d = some k → k < N) : Rel M w0 D0 N (updo f d .undef) H β (a.put d Go.undef) w :=
  R.value (by simp [AVRep]) hd

/-- A region in the order of its text. -/
theorem aops_list {ops : Array Oper} {K : Fr → Hp → Log → Prop} {Q : Exit → Act → World → Prop} (hQ : ∀ f H lg β a w, K f H lg → Rel M w0 D0 N f H β a w → Q .normal a w) :
    ∀ (rest : List Oper) (f : Fr) (H : Hp) (lg : Log) (β : Nat → Value) (a : Act) (w : World), (∀ o ∈ rest, ∀ d, o.dst = some d → d < N) → AOps P (dsts ops) rest K f H lg → Rel M w0 D0 N f H β a w → wpList P ops Q rest a w
  | [], f, H, lg, β, a, w, _, h, R => hQ f H lg β a w h R
  | o :: rest, f, H, lg, β, a, w, hd, h, R => by
    have hdo := hd o (by simp)
    have hdr : ∀ o ∈ rest, ∀ d, o.dst = some d → d < N := fun o ho => hd o (by simp [ho])
    have run : ARun P o (AOps P (dsts ops) rest K) f H lg → o.wp P a w (wpList P ops Q rest) Q := by
      intro h
      obtain ⟨u, rd, hs, hk, _⟩ := arun_sim h
      exact hs f H (fun _ _ => rfl) (fun _ _ => rfl) M w0 D0 N β a w hdo R _ _ fun a' w' β' R' => aops_list hQ rest _ _ _ β' a' w' hdr hk R'
    simp only [AOps] at h
    simp only [wpList]
    cases hg : o.guard with
    | none =>
      rw [hg] at h
      simp only [Region.wanted, hg, if_true]
      exact .inl (run h)
    | some p =>
      obtain ⟨j, want⟩ := p
      rw [hg] at h
      have hy := yielded_of R (ops := ops) (j := j)
      simp only [Region.wanted, hg]
      simp only at h
      split at h
      · rename_i b hb
        rw [hy.1 b hb]
        by_cases hbw : b = want
        · subst hbw
          simp only [if_true] at h
          simp only [beq_self_eq_true, if_true]
          exact .inl (run h)
        · simp only [hbw, if_false] at h
          rw [if_neg (by simp [hbw])]
          exact aops_list hQ rest _ _ _ β _ w hdr h (R.skip hdo)
      · rename_i hb
        rw [hy.2 hb]
        rw [if_neg (by simp)]
        exact aops_list hQ rest _ _ _ β _ w hdr h (R.skip hdo)
      · exact h.elim

/-! ### A region that draws its order -/

def bindsTo (o : Oper) (i : Nat) : Bool := o.after.toList.any fun e => Region.binds .any e && e.on == i

/-- Must operation i come before operation j? (Some chain of edges says so.) -/
def reach (ops : Array Oper) : Nat → Nat → Nat → Bool
  | 0, _, _ => false
  | n + 1, j, i => bindsTo (ops.getD j default) i || (ops.getD j default).after.toList.any fun e => Region.binds .any e && reach ops n e.on i

def ordered (ops : Array Oper) (i j : Nat) : Bool := if i < j then reach ops 9 j i else reach ops 9 i j

def clash (x y : List Nat × List Nat) : Bool := x.2.any (fun k => y.1.contains k || y.2.contains k) || y.2.any (fun k => x.1.contains k || x.2.contains k)

def pairsOk (n : Nat) (p : Nat → Nat → Bool) : Bool := (List.range n).all fun j => (List.range j).all fun i => p i j

theorem pairsOk_spec {n : Nat} {p : Nat → Nat → Bool} (h : pairsOk n p = true) {i j : Nat} (hij : i < j) (hj : j < n) : p i j = true := by
  simp only [pairsOk, List.all_eq_true, List.mem_range] at h
  exact h j hj i hij

/-- Whoever is not ordered touches other handles. -/
def logOk (ops : Array Oper) (log : Log) : Bool := pairsOk ops.size fun i j => !clash (log.getD i ([], [])) (log.getD j ([], [])) || reach ops 9 j i

def nameClash (ops : Array Oper) (i j : Nat) : Bool :=
  (match (ops.getD i default).dst with | none => false | some d => (ops.getD j default).dst == some d || (Oper.looksAt ops (ops.getD j default)).contains d) ||
  (match (ops.getD j default).dst with | none => false | some d => (Oper.looksAt ops (ops.getD i default)).contains d)

def tmpsOk (ops : Array Oper) : Bool :=
  (pairsOk ops.size fun i j => !nameClash ops i j || reach ops 9 j i) &&
  (List.range ops.size).all fun i => (ops.getD i default).after.toList.all fun e => !Region.binds .any e || decide (e.on < i)

def ClosedS (ops : Array Oper) (S : Nat → Bool) : Prop := ∀ i, S i = true → ∀ e ∈ (ops.getD i default).after.toList, Region.binds .any e = true → S e.on = true

theorem reach_closed {ops : Array Oper} {S : Nat → Bool} (hS : ClosedS ops S) : ∀ (n j i : Nat), reach ops n j i = true → (∀ e ∈ (ops.getD j default).after.toList, Region.binds .any e = true → S e.on = true) → S i = true
  | 0, _, _, h, _ => by simp [reach] at h
  | n + 1, j, i, h, hj => by
    simp only [reach, Bool.or_eq_true] at h
    rcases h with h | h
    · simp only [bindsTo, List.any_eq_true, Bool.and_eq_true, beq_iff_eq] at h
      obtain ⟨e, he, h1, h2⟩ := h
      rw [← h2]; exact hj e he h1
    · simp only [List.any_eq_true, Bool.and_eq_true] at h
      obtain ⟨e, he, h1, h2⟩ := h
      exact reach_closed hS n e.on i h2 fun e' he' hb' => hS e.on (hj e he h1) e' he' hb'

def gd (ds : List (Option Nat)) (o : Oper) (f : Fr) : Option Bool :=
  match o.guard with
  | none => some true
  | some (j, want) => match (ds.getD j none).map f with
    | some (.iv (.bool b)) => some (b == want)
    | some .undef => some false
    | _ => none

def skipUp : Up := ⟨.undef, [], []⟩

/-- The run in the text's order, from operation i on. -/
structure Tr (P : Program) (ops : Array Oper) (st : Nat → Fr × Hp) (us : Nat → Up) (rd : Nat → List Nat) : Prop where
  next : ∀ i, i < ops.size → st (i + 1) = ((us i).f (ops.getD i default).dst (st i).1, (us i).h (st i).2)
  step : ∀ i, i < ops.size → (gd (dsts ops) (ops.getD i default) (st i).1 = some true ∧ Sim P (ops.getD i default) (st i).1 (st i).2 (rd i) (us i)) ∨ (gd (dsts ops) (ops.getD i default) (st i).1 = some false ∧ us i = skipUp)
  wr : ∀ i, i < ops.size → ∀ k ∈ (us i).fz ++ (us i).hs.map (·.1), k ∈ rd i

theorem aops_one {ds : List (Option Nat)} {o : Oper} {rest : List Oper} {K : Fr → Hp → Log → Prop} {lg : Log} (h : AOps P ds (o :: rest) K f H lg) :
    ∃ (u : Up) (r : List Nat), ((gd ds o f = some true ∧ Sim P o f H r u) ∨ (gd ds o f = some false ∧ u = skipUp)) ∧ (∀ k ∈ u.fz ++ u.hs.map (·.1), k ∈ r) ∧ AOps P ds rest K (u.f o.dst f) (u.h H) ((r, u.fz ++ u.hs.map (·.1)) :: lg) := by
  simp only [AOps] at h
  cases hg : o.guard with
  | none =>
    rw [hg] at h
    obtain ⟨u, r, h1, h2, h3⟩ := arun_sim h
    exact ⟨u, r, .inl ⟨by simp [gd, hg], h1⟩, h3, h2⟩
  | some p =>
    obtain ⟨j, want⟩ := p
    rw [hg] at h
    simp only at h
    split at h
    · rename_i b hb
      by_cases hbw : b = want
      · subst hbw
        simp only [if_true] at h
        obtain ⟨u, r, h1, h2, h3⟩ := arun_sim h
        exact ⟨u, r, .inl ⟨by simp only [gd, hg, hb, beq_self_eq_true], h1⟩, h3, h2⟩
      · simp only [hbw, if_false] at h
        exact ⟨skipUp, [], .inr ⟨by simp only [gd, hg, hb]; rw [beq_eq_false_iff_ne.2 hbw], rfl⟩, by simp [skipUp], h⟩
    · rename_i hb
      exact ⟨skipUp, [], .inr ⟨by simp only [gd, hg, hb], rfl⟩, by simp [skipUp], h⟩
    · exact h.elim

theorem aops_tr {ops : Array Oper} {K : Fr → Hp → Log → Prop} : ∀ (rest : List Oper) (b : Nat) (f : Fr) (H : Hp) (lg : Log), (∀ i, rest[i]? = ops[b + i]?) → b + rest.length = ops.size → AOps P (dsts ops) rest K f H lg →
    ∃ (st : Nat → Fr × Hp) (us : Nat → Up) (rd : Nat → List Nat), st b = (f, H) ∧
      (∀ i, b ≤ i → i < ops.size → st (i + 1) = ((us i).f (ops.getD i default).dst (st i).1, (us i).h (st i).2)) ∧
      (∀ i, b ≤ i → i < ops.size → (gd (dsts ops) (ops.getD i default) (st i).1 = some true ∧ Sim P (ops.getD i default) (st i).1 (st i).2 (rd i) (us i)) ∨ (gd (dsts ops) (ops.getD i default) (st i).1 = some false ∧ us i = skipUp)) ∧
      (∀ i, b ≤ i → i < ops.size → ∀ k ∈ (us i).fz ++ (us i).hs.map (·.1), k ∈ rd i) ∧
      K (st ops.size).1 (st ops.size).2 (((List.range' b rest.length).map fun i => (rd i, (us i).fz ++ (us i).hs.map (·.1))).reverse ++ lg)
  | [], b, f, H, lg, _, hb, h => by
    simp only [List.length_nil, Nat.add_zero] at hb
    refine ⟨fun _ => (f, H), fun _ => skipUp, fun _ => [], rfl, fun i h1 h2 => by omega, fun i h1 h2 => by omega, fun i h1 h2 => by omega, by simpa [AOps] using h⟩
  | o :: rest, b, f, H, lg, hi, hb, h => by
    obtain ⟨u, r, h1, h2, h3⟩ := aops_one h
    have ho : ops.getD b default = o := by
      have := hi 0
      simp only [List.getElem?_cons_zero, Nat.add_zero] at this
      simp [Array.getD_eq_getD_getElem?, ← this]
    simp only [List.length_cons] at hb
    obtain ⟨st, us, rd, a1, a2, a3, a4, a5⟩ := aops_tr rest (b + 1) _ _ _ (fun i => by have := hi (i + 1); simpa [Nat.add_assoc, Nat.add_comm 1 i] using this) (by omega) h3
    refine ⟨fun i => if i = b then (f, H) else st i, fun i => if i = b then u else us i, fun i => if i = b then r else rd i, by simp, fun i h4 h5 => ?_, fun i h4 h5 => ?_, fun i h4 h5 => ?_, ?_⟩
    · by_cases hib : i = b
      · subst hib; simp [ho, a1]
      · have := a2 i (by omega) h5
        simp only [hib, if_false, show i + 1 ≠ b from by omega]; exact this
    · by_cases hib : i = b
      · subst hib; simpa [ho] using h1
      · simp only [hib, if_false]; exact a3 i (by omega) h5
    · by_cases hib : i = b
      · subst hib; simpa using h2
      · simp only [hib, if_false]; exact a4 i (by omega) h5
    · simp only [show ops.size ≠ b from by omega, if_false]
      have : (((List.range' b (o :: rest).length).map fun i => (if i = b then r else rd i, (if i = b then u else us i).fz ++ (if i = b then u else us i).hs.map (·.1))).reverse ++ lg) = (((List.range' (b + 1) rest.length).map fun i => (rd i, (us i).fz ++ (us i).hs.map (·.1))).reverse ++ ((r, u.fz ++ u.hs.map (·.1)) :: lg)) := by
        simp only [List.length_cons, List.range'_succ, List.map_cons, List.reverse_cons, List.append_assoc, if_true, List.singleton_append]
        congr 2
        apply List.map_congr_left
        intro i him
        have := List.mem_range'_1.1 him
        simp [show i ≠ b from by omega]
      rw [this]; exact a5

/-- The state when those of S are done. -/
def fS (st : Nat → Fr × Hp) (us : Nat → Up) (ds : Nat → Option Nat) (S : Nat → Bool) : Nat → Fr × Hp
  | 0 => st 0
  | k + 1 => if S k then ((us k).f (ds k) (fS st us ds S k).1, (us k).h (fS st us ds S k).2) else fS st us ds S k

theorem updo_ne {d : Option Nat} {v : AV} {t : Nat} (h : d ≠ some t) (f : Fr) : updo f d v t = f t := by
  cases d with
  | none => rfl
  | some d => simp only [updo, upd]; rw [if_neg (fun e => h (by rw [e]))]

theorem updo_same {d : Option Nat} {v : AV} {t : Nat} (h : d = some t) (f : Fr) : updo f d v t = v := by
  subst h; simp [updo, upd]

theorem applyH_other : ∀ (l : List (Nat × HC)) (H : Hp) (k : Nat), k ∉ l.map (·.1) → applyH l H k = H k
  | [], _, _, _ => rfl
  | (h, c) :: r, H, k, hk => by
    simp only [List.map_cons, List.mem_cons, not_or] at hk
    simp only [applyH]
    rw [applyH_other r _ k hk.2, updH_ne _ _ hk.1]

theorem applyH_agree : ∀ (l : List (Nat × HC)) (H H2 : Hp) (k : Nat), H2 k = H k → applyH l H2 k = applyH l H k
  | [], _, _, _, h => h
  | (h, c) :: r, H, H2, k, e => by
    simp only [applyH]
    refine applyH_agree r _ _ k ?_
    by_cases hk : k = h
    · subst hk; simp [updH_same]
    · simp [updH_ne _ _ hk, e]

theorem Up.h_other {u : Up} {k : Nat} (hk : k ∉ u.fz ++ u.hs.map (·.1)) (H : Hp) : u.h H k = H k := by
  simp only [List.mem_append, not_or] at hk
  simp only [Up.h]
  rw [applyH_other _ _ _ hk.2, frzAll_other _ _ _ hk.1]

theorem Up.h_agree {u : Up} {k : Nat} {H H2 : Hp} (e : H2 k = H k) : u.h H2 k = u.h H k := applyH_agree _ _ _ _ (frzAll_agree _ _ _ _ e)

theorem fS_prefix {st : Nat → Fr × Hp} {us : Nat → Up} {ds : Nat → Option Nat} {n : Nat} (hst : ∀ i, i < n → st (i + 1) = ((us i).f (ds i) (st i).1, (us i).h (st i).2)) {S : Nat → Bool} {t : Nat} {j : Nat} (hj : j ≤ n)
    (h : ∀ i, i < n → ds i = some t → (i < j → S i = true) ∧ (j ≤ i → S i = false)) : (fS st us ds S n).1 t = (st j).1 t := by
  have h1 : ∀ k, k ≤ j → (fS st us ds S k).1 t = (st k).1 t := by
    intro k
    induction k with
    | zero => intro _; rfl
    | succ k ih =>
      intro hk
      have ih := ih (by omega)
      rw [hst k (by omega)]
      simp only [fS]
      by_cases hd : ds k = some t
      · have := (h k (by omega) hd).1 (by omega)
        rw [this]
        simp only [if_true, Up.f, updo_same hd]
      · simp only [Up.f, updo_ne hd]
        split
        · simp only [updo_ne hd]; exact ih
        · exact ih
  have h2 : ∀ m, j + m ≤ n → (fS st us ds S (j + m)).1 t = (fS st us ds S j).1 t := by
    intro m
    induction m with
    | zero => intro _; rfl
    | succ m ih =>
      intro hm
      have ih := ih (by omega)
      rw [← Nat.add_assoc]
      simp only [fS]
      by_cases hd : ds (j + m) = some t
      · have := (h (j + m) (by omega) hd).2 (by omega)
        rw [this]; simpa using ih
      · split
        · simp only [Up.f, updo_ne hd]; exact ih
        · exact ih
  have := h2 (n - j) (by omega)
  rw [show j + (n - j) = n from by omega] at this
  rw [this, h1 j (Nat.le_refl _)]

theorem hS_prefix {st : Nat → Fr × Hp} {us : Nat → Up} {ds : Nat → Option Nat} {n : Nat} (hst : ∀ i, i < n → st (i + 1) = ((us i).f (ds i) (st i).1, (us i).h (st i).2)) {S : Nat → Bool} {t : Nat} {j : Nat} (hj : j ≤ n)
    (h : ∀ i, i < n → t ∈ (us i).fz ++ (us i).hs.map (·.1) → (i < j → S i = true) ∧ (j ≤ i → S i = false)) : (fS st us ds S n).2 t = (st j).2 t := by
  have h1 : ∀ k, k ≤ j → (fS st us ds S k).2 t = (st k).2 t := by
    intro k
    induction k with
    | zero => intro _; rfl
    | succ k ih =>
      intro hk
      have ih := ih (by omega)
      rw [hst k (by omega)]
      simp only [fS]
      by_cases hd : t ∈ (us k).fz ++ (us k).hs.map (·.1)
      · have := (h k (by omega) hd).1 (by omega)
        rw [this]
        simp only [if_true]
        exact Up.h_agree ih
      · simp only [Up.h_other hd]
        split
        · simp only [Up.h_other hd]; exact ih
        · exact ih
  have h2 : ∀ m, j + m ≤ n → (fS st us ds S (j + m)).2 t = (fS st us ds S j).2 t := by
    intro m
    induction m with
    | zero => intro _; rfl
    | succ m ih =>
      intro hm
      have ih := ih (by omega)
      rw [← Nat.add_assoc]
      simp only [fS]
      by_cases hd : t ∈ (us (j + m)).fz ++ (us (j + m)).hs.map (·.1)
      · have := (h (j + m) (by omega) hd).2 (by omega)
        rw [this]; simpa using ih
      · split
        · simp only [Up.h_other hd]; exact ih
        · exact ih
  have := h2 (n - j) (by omega)
  rw [show j + (n - j) = n from by omega] at this
  rw [this, h1 j (Nat.le_refl _)]

/-- One operation more is done, and none behind it in the text that names the slot. -/
theorem fS_add {st : Nat → Fr × Hp} {us : Nat → Up} {ds : Nat → Option Nat} {n : Nat} {S S' : Nat → Bool} {j : Nat} (hj : j < n) (hS : S j = false) (hS' : S' j = true) (ho : ∀ i, i ≠ j → S' i = S i)
    (hd : ∀ t, ds j = some t → ∀ i, i < n → j < i → ds i = some t → S i = false) (hh : ∀ t, t ∈ (us j).fz ++ (us j).hs.map (·.1) → ∀ i, i < n → j < i → t ∈ (us i).fz ++ (us i).hs.map (·.1) → S i = false)  :
    (fS st us ds S' n).1 = (us j).f (ds j) (fS st us ds S n).1 ∧ (fS st us ds S' n).2 = (us j).h (fS st us ds S n).2 := by
  have h0 : ∀ k, k ≤ j → fS st us ds S' k = fS st us ds S k := by
    intro k
    induction k with
    | zero => intro _; rfl
    | succ k ih =>
      intro hk
      simp only [fS, ho k (by omega), ih (by omega)]
  have h1 : ∀ m, j + 1 + m ≤ n → (fS st us ds S' (j + 1 + m)).1 = (us j).f (ds j) (fS st us ds S (j + 1 + m)).1 ∧ (fS st us ds S' (j + 1 + m)).2 = (us j).h (fS st us ds S (j + 1 + m)).2 := by
    intro m
    induction m with
    | zero =>
      intro _
      simp only [Nat.add_zero, fS, hS, hS', if_true, Bool.false_eq_true, if_false, h0 j (Nat.le_refl _), and_self]
    | succ m ih =>
      intro hm
      obtain ⟨ih1, ih2⟩ := ih (by omega)
      rw [← Nat.add_assoc]
      simp only [fS, ho (j + 1 + m) (by omega)]
      split
      · rename_i hSi
        refine ⟨?_, ?_⟩
        · simp only [ih1]
          funext t
          simp only [Up.f]
          by_cases e1 : ds (j + 1 + m) = some t
          · by_cases e2 : ds j = some t
            · have := hd t e2 _ (by omega) (by omega) e1
              rw [this] at hSi; cases hSi
            · rw [updo_same e1, updo_ne e2, updo_same e1]
          · rw [updo_ne e1]
            by_cases e2 : ds j = some t
            · rw [updo_same e2, updo_same e2]
            · rw [updo_ne e2, updo_ne e2, updo_ne e1]
        · simp only [ih2]
          funext t
          by_cases e1 : t ∈ (us (j + 1 + m)).fz ++ (us (j + 1 + m)).hs.map (·.1)
          · by_cases e2 : t ∈ (us j).fz ++ (us j).hs.map (·.1)
            · have := hh t e2 _ (by omega) (by omega) e1
              rw [this] at hSi; cases hSi
            · rw [Up.h_other e2]
              exact Up.h_agree (Up.h_other e2 _)
          · rw [Up.h_other e1]
            exact (Up.h_agree (Up.h_other e1 _)).symm
      · exact ⟨ih1, ih2⟩
  have := h1 (n - (j + 1)) (by omega)
  rwa [show j + 1 + (n - (j + 1)) = n from by omega] at this

theorem gd_agree {ds : List (Option Nat)} {o : Oper} {f f2 : Fr} (h : ∀ j want t, o.guard = some (j, want) → ds.getD j none = some t → f2 t = f t) : gd ds o f2 = gd ds o f := by
  unfold gd
  cases hg : o.guard with
  | none => rfl
  | some p =>
    obtain ⟨j, want⟩ := p
    simp only
    cases hd : ds.getD j none with
    | none => rfl
    | some t => simp only [Option.map_some, h j want t hg hd]

theorem gd_wanted (R : Rel M w0 D0 N f H β a w) {ops : Array Oper} {o : Oper} {b : Bool} (h : gd (dsts ops) o f = some b) : Region.wanted o (yielded ops a.tmps) = b := by
  unfold gd at h
  unfold Region.wanted
  cases hg : o.guard with
  | none => rw [hg] at h; simp only [Option.some.injEq] at h; exact h
  | some p =>
    obtain ⟨j, want⟩ := p
    rw [hg] at h
    simp only at h ⊢
    have hy := yielded_of R (ops := ops) (j := j)
    split at h
    · rename_i b' hb
      rw [hy.1 b' hb]
      simp only [Option.some.injEq] at h
      rw [← h]; rfl
    · rename_i hb
      rw [hy.2 hb]
      simp only [Option.some.injEq] at h
      rw [← h]; rfl
    · cases h

theorem looksAt_guard {ops : Array Oper} {o : Oper} {j : Nat} {want : Bool} {t : Nat} (hg : o.guard = some (j, want)) (hd : (dsts ops).getD j none = some t) : t ∈ Oper.looksAt ops o := by
  have e : (dsts ops).getD j none = (ops[j]?).bind (·.dst) := by
    simp only [dsts, List.getD, List.getElem?_map, Array.getElem?_toList]
    cases ops[j]? <;> rfl
  rw [e] at hd
  simp [Oper.looksAt, hg, hd]

theorem looksAt_tmp {ops : Array Oper} {o : Oper} {t : Nat} (h : Operand.tmp t ∈ o.op.operands) : t ∈ Oper.looksAt ops o := by
  simp only [Oper.looksAt, List.mem_append]
  left
  exact List.mem_filterMap.2 ⟨.tmp t, Array.mem_toList_iff.2 h, rfl⟩

theorem nameClash_of {ops : Array Oper} {i j t : Nat} (h : ((ops.getD i default).dst = some t ∧ ((ops.getD j default).dst = some t ∨ t ∈ Oper.looksAt ops (ops.getD j default))) ∨ ((ops.getD j default).dst = some t ∧ t ∈ Oper.looksAt ops (ops.getD i default))) : nameClash ops i j = true := by
  unfold nameClash
  rcases h with ⟨h1, h2⟩ | ⟨h1, h2⟩
  · rw [h1]; simp only [Bool.or_eq_true]
    left
    rcases h2 with h2 | h2
    · left; rw [h2]; exact beq_self_eq_true _
    · right; simpa using h2
  · simp only [Bool.or_eq_true]
    right
    rw [h1]; simpa using h2

theorem clash_of {x y : List Nat × List Nat} {k : Nat} (h : (k ∈ x.2 ∧ (k ∈ y.1 ∨ k ∈ y.2)) ∨ (k ∈ y.2 ∧ (k ∈ x.1 ∨ k ∈ x.2))) : clash x y = true := by
  unfold clash
  simp only [Bool.or_eq_true, List.any_eq_true, List.contains_eq_mem, decide_eq_true_eq]
  rcases h with ⟨h1, h2⟩ | ⟨h1, h2⟩
  · left; exact ⟨k, h1, h2⟩
  · right; exact ⟨k, h1, h2⟩

/-- Whatever order the edges allow. -/
theorem aops_any {ops : Array Oper} {K : Fr → Hp → Log → Prop} {Q : Exit → Act → World → Prop} (hdN : ∀ i, i < ops.size → ∀ d, (ops.getD i default).dst = some d → d < N)
    (hK : ∀ f H lg, K f H lg → logOk ops lg.reverse = true ∧ ∀ β a w, Rel M w0 D0 N f H β a w → Q .normal a w) (ht : tmpsOk ops = true) (h : AOps P (dsts ops) ops.toList K f H []) (R : Rel M w0 D0 N f H β a w) :
    wpAny P .any ops Q ops.size (Array.replicate ops.size false) a w := by
  obtain ⟨st, us, rd, a1, a2, a3, a4, a5⟩ := aops_tr ops.toList 0 f H [] (by simp) (by simp) h
  simp only [Array.length_toList, List.append_nil] at a5
  obtain ⟨hlog, hQ⟩ := hK _ _ _ a5
  rw [List.reverse_reverse] at hlog
  simp only [tmpsOk, Bool.and_eq_true] at ht
  obtain ⟨ht1, ht2⟩ := ht
  have hedge : ∀ i, i < ops.size → ∀ e ∈ (ops.getD i default).after.toList, Region.binds .any e = true → e.on < i := by
    intro i hi e he hb
    have := (List.all_eq_true.1 ht2) i (List.mem_range.2 hi)
    have := (List.all_eq_true.1 this) e he
    simpa [hb] using this
  have hget : ∀ i, i < ops.size → ((List.range' 0 ops.size).map fun i => (rd i, (us i).fz ++ (us i).hs.map (·.1))).getD i ([], []) = (rd i, (us i).fz ++ (us i).hs.map (·.1)) := by
    intro i hi
    simp [List.getD, hi]
  have nm : ∀ i j, i < j → j < ops.size → nameClash ops i j = true → reach ops 9 j i = true := by
    intro i j hij hj hc
    have := pairsOk_spec ht1 hij hj
    simpa [hc] using this
  have lk : ∀ i j, i < j → j < ops.size → clash (rd i, (us i).fz ++ (us i).hs.map (·.1)) (rd j, (us j).fz ++ (us j).hs.map (·.1)) = true → reach ops 9 j i = true := by
    intro i j hij hj hc
    have := pairsOk_spec hlog hij hj
    rw [hget i (by omega), hget j hj] at this
    simpa [hc] using this
  let ds : Nat → Option Nat := fun i => (ops.getD i default).dst
  have key : ∀ (fuel : Nat) (listed : Array Bool) (a : Act) (w : World) (β : Nat → Value), listed.size = ops.size → ((List.range ops.size).filter fun i => !listed.getD i false).length = fuel →
      ClosedS ops (fun i => listed.getD i false) → Rel M w0 D0 N (fS st us ds (fun i => listed.getD i false) ops.size).1 (fS st us ds (fun i => listed.getD i false) ops.size).2 β a w →
      wpAny P .any ops Q fuel listed a w := by
    intro fuel
    induction fuel with
    | zero =>
      intro listed a w β hsz hcount hcl R
      have hall : ∀ i, i < ops.size → listed.getD i false = true := by
        intro i hi
        have h0 := List.eq_nil_of_length_eq_zero hcount
        have := List.filter_eq_nil_iff.1 h0 i (List.mem_range.2 hi)
        simpa using this
      have hready : Region.ready .any ops listed = [] := by
        unfold Region.ready
        rw [List.filter_eq_nil_iff]
        intro i hi
        have hi := List.mem_range.1 hi
        have : listed.getD i true = true := by
          have := hall i hi
          simp only [Array.getD_eq_getD_getElem?] at this ⊢
          rw [Array.getElem?_eq_getElem (by omega)] at this ⊢
          simpa using this
        simp only [this, Bool.not_true, Bool.false_and]; simp
      have e1 : (fS st us ds (fun i => listed.getD i false) ops.size).1 = (st ops.size).1 := by
        funext t
        exact fS_prefix (fun i hi => a2 i (by omega) hi) (Nat.le_refl _) fun i hi _ => ⟨fun _ => hall i hi, fun h => by omega⟩
      have e2 : (fS st us ds (fun i => listed.getD i false) ops.size).2 = (st ops.size).2 := by
        funext t
        exact hS_prefix (fun i hi => a2 i (by omega) hi) (Nat.le_refl _) fun i hi _ => ⟨fun _ => hall i hi, fun h => by omega⟩
      rw [e1, e2] at R
      exact ⟨hready, hQ β a w R⟩
    | succ fuel ih =>
      intro listed a w β hsz hcount hcl R
      refine ⟨fun hready => ?_, fun j hj => ?_⟩
      · exfalso
        have hex : ∃ i, i < ops.size ∧ listed.getD i false = false := by
          have : ((List.range ops.size).filter fun i => !listed.getD i false) ≠ [] := by intro e; rw [e] at hcount; simp at hcount
          obtain ⟨i, hi⟩ := List.exists_mem_of_ne_nil _ this
          have := List.mem_filter.1 hi
          exact ⟨i, List.mem_range.1 this.1, by simpa using this.2⟩
        have hleast : ∀ n, ∀ i, i < n → i < ops.size → listed.getD i false = false → False := by
          intro n
          induction n with
          | zero => intro i hi; omega
          | succ n ihn =>
            intro i hi hio hl
            by_cases hex2 : ∃ k, k < i ∧ listed.getD k false = false
            · obtain ⟨k, hk, hkl⟩ := hex2
              exact ihn k (by omega) (by omega) hkl
            · have hall : ∀ k, k < i → listed.getD k false = true := by
                intro k hk
                by_cases hkl : listed.getD k false = true
                · exact hkl
                · exact (hex2 ⟨k, hk, by simpa using hkl⟩).elim
              have hmem : i ∈ Region.ready .any ops listed := by
                unfold Region.ready
                rw [List.mem_filter]
                refine ⟨List.mem_range.2 hio, ?_⟩
                have h1 : listed.getD i true = false := by
                  simp only [Array.getD_eq_getD_getElem?] at hl ⊢
                  rw [Array.getElem?_eq_getElem (by omega)] at hl ⊢
                  simpa using hl
                have h2 : ops[i]? = some (ops.getD i default) := by simp [Array.getD_eq_getD_getElem?, hio]
                simp only [h1, h2, Option.map_some, Option.getD_some, Bool.not_false, Bool.true_and]
                rw [Array.all_eq_true_iff_forall_mem]
                intro e he
                by_cases hb : Region.binds .any e = true
                · have := hall e.on (hedge i hio e (Array.mem_toList_iff.2 he) hb)
                  simp [this]
                · simp [hb]
              rw [hready] at hmem; cases hmem
        obtain ⟨i, hi, hl⟩ := hex
        exact hleast (i + 1) i (by omega) hi hl
      · -- operation j may come up now
        unfold Region.ready at hj
        rw [List.mem_filter] at hj
        obtain ⟨hjr, hj2⟩ := hj
        have hjn := List.mem_range.1 hjr
        have hoj : ops[j]? = some (ops.getD j default) := by simp [Array.getD_eq_getD_getElem?, hjn]
        simp only [hoj, Option.map_some, Option.getD_some, Bool.and_eq_true, Bool.not_eq_true'] at hj2
        obtain ⟨hjl', hpre⟩ := hj2
        have hjl : listed.getD j false = false := by
          simp only [Array.getD_eq_getD_getElem?] at hjl' ⊢
          rw [Array.getElem?_eq_getElem (by omega)] at hjl' ⊢
          simpa using hjl'
        have hpre' : ∀ e ∈ (ops.getD j default).after.toList, Region.binds .any e = true → listed.getD e.on false = true := by
          intro e he hb
          rw [Array.all_eq_true_iff_forall_mem] at hpre
          have := hpre e (Array.mem_toList_iff.1 he)
          simpa [hb] using this
        have before : ∀ i, reach ops 9 j i = true → listed.getD i false = true := fun i hr => reach_closed hcl 9 j i hr hpre'
        have behind : ∀ i, reach ops 9 i j = true → listed.getD i false = false := by
          intro i hr
          by_cases hl : listed.getD i false = true
          · have := reach_closed hcl 9 i j hr (hcl i hl)
            rw [hjl] at this; cases this
          · simpa using hl
        have agreeT : ∀ t, ((ops.getD j default).dst = some t ∨ t ∈ Oper.looksAt ops (ops.getD j default)) → (∀ i, i < ops.size → i ≠ j → ds i = some t → (i < j → listed.getD i false = true) ∧ (j < i → listed.getD i false = false)) := by
          intro t ht i hi hij hdi
          refine ⟨fun h => before i (nm i j h hjn (nameClash_of (.inl ⟨hdi, ht⟩))), fun h => behind i (nm j i h hi (nameClash_of (t := t) ?_))⟩
          rcases ht with ht | ht
          · exact .inl ⟨ht, .inl hdi⟩
          · exact .inr ⟨hdi, ht⟩
        have agreeH : ∀ k, k ∈ rd j → (∀ i, i < ops.size → i ≠ j → k ∈ (us i).fz ++ (us i).hs.map (·.1) → (i < j → listed.getD i false = true) ∧ (j < i → listed.getD i false = false)) := by
          intro k hk i hi hij hki
          exact ⟨fun h => before i (lk i j h hjn (clash_of (.inl ⟨hki, .inl hk⟩))), fun h => behind i (lk j i h hi (clash_of (.inr ⟨hki, .inl hk⟩)))⟩
        have fagree : ∀ t, t ∈ Oper.looksAt ops (ops.getD j default) → (fS st us ds (fun i => listed.getD i false) ops.size).1 t = (st j).1 t := by
          intro t ht
          refine fS_prefix (fun i hi => a2 i (by omega) hi) (by omega) fun i hi hdi => ?_
          by_cases hij : i = j
          · subst hij; exact ⟨fun h => by omega, fun _ => hjl⟩
          · have := agreeT t (.inr ht) i hi hij hdi
            exact ⟨this.1, fun h => this.2 (by omega)⟩
        have hagree : ∀ k, k ∈ rd j → (fS st us ds (fun i => listed.getD i false) ops.size).2 k = (st j).2 k := by
          intro k hk
          refine hS_prefix (fun i hi => a2 i (by omega) hi) (by omega) fun i hi hdi => ?_
          by_cases hij : i = j
          · subst hij; exact ⟨fun h => by omega, fun _ => hjl⟩
          · have := agreeH k hk i hi hij hdi
            exact ⟨this.1, fun h => this.2 (by omega)⟩
        have hgd := gd_agree (ds := dsts ops) (o := ops.getD j default) (f := (st j).1) (f2 := (fS st us ds (fun i => listed.getD i false) ops.size).1) (fun k want t hg hd => fagree t (looksAt_guard hg hd))
        have hlist : ∀ i, (listed.setIfInBounds j true).getD i false = if i = j then true else listed.getD i false := by
          intro i
          simp only [Array.getD_eq_getD_getElem?, Array.getElem?_setIfInBounds]
          by_cases hij : j = i
          · subst hij; simp [show j < listed.size from by omega]
          · simp [hij, Ne.symm hij]
        have fin : ∀ a' w' β', Rel M w0 D0 N ((us j).f (ops.getD j default).dst (fS st us ds (fun i => listed.getD i false) ops.size).1) ((us j).h (fS st us ds (fun i => listed.getD i false) ops.size).2) β' a' w' → wpAny P .any ops Q fuel (listed.setIfInBounds j true) a' w' := by
          intro a' w' β' R'
          have hadd := fS_add (st := st) (us := us) (ds := ds) (n := ops.size) (S := fun i => listed.getD i false) (S' := fun i => (listed.setIfInBounds j true).getD i false) (j := j) hjn hjl (by simp only [hlist, if_true]) (fun i hi => by simp only [hlist, hi, if_false])
            (fun t ht i hi hij hdi => (agreeT t (.inl ht) i hi (by omega) hdi).2 hij)
            (fun k hk i hi hij hki => (agreeH k (a4 j (by omega) hjn k hk) i hi (by omega) hki).2 hij)
          refine ih _ a' w' β' (by simp [hsz]) ?_ ?_ ?_
          · have hc : ((List.range ops.size).filter fun i => !(listed.setIfInBounds j true).getD i false) = (((List.range ops.size).filter fun i => !listed.getD i false).filter fun i => decide (i ≠ j)) := by
              rw [List.filter_filter]
              apply List.filter_congr
              intro i hi
              rw [hlist]
              by_cases hij : i = j <;> simp [hij]
            rw [hc]
            have hnd : ((List.range ops.size).filter fun i => !listed.getD i false).Nodup := List.nodup_range.filter _
            have hjm : j ∈ ((List.range ops.size).filter fun i => !listed.getD i false) := List.mem_filter.2 ⟨hjr, by simp [hjl]⟩
            have e : (((List.range ops.size).filter fun i => !listed.getD i false).filter fun i => decide (i ≠ j)) = ((List.range ops.size).filter fun i => !listed.getD i false).erase j := by
              rw [hnd.erase_eq_filter]
              apply List.filter_congr
              intro i _
              by_cases hij : i = j <;> simp [hij]
            rw [e, List.length_erase_of_mem hjm, hcount]; rfl
          · intro i hi e he hb
            simp only [hlist] at hi ⊢
            by_cases hej : e.on = j
            · simp [hej]
            · simp only [hej, if_false]
              by_cases hij : i = j
              · subst hij; exact hpre' e he hb
              · simp only [hij, if_false] at hi; exact hcl i hi e he hb
          · rw [hadd.1, hadd.2]; exact R'
        unfold wpOp
        simp only [hoj]
        rcases a3 j (by omega) hjn with ⟨hg, hsim⟩ | ⟨hg, hskip⟩
        · rw [← hgd] at hg
          rw [gd_wanted R hg]
          simp only [if_true]
          refine .inl (hsim _ _ ?_ hagree M w0 D0 N β a w (hdN j hjn) R _ _ fun a' w' β' R' => fin a' w' β' R')
          intro x hx
          cases x with
          | tmp t => exact fagree t (looksAt_tmp hx)
          | _ => rfl
        · rw [← hgd] at hg
          rw [gd_wanted R hg]
          simp only [Bool.false_eq_true, if_false]
          refine fin _ _ β ?_
          rw [hskip]
          exact R.skip (hdN j hjn)
  refine key ops.size _ a w β (by simp) (by
    rw [List.filter_eq_self.2]
    · simp
    · intro i hi; simp [Array.getD_eq_getD_getElem?, List.mem_range.1 hi]) ?_ ?_
  · intro i hi
    by_cases hio : i < ops.size
    · simp [Array.getD_eq_getD_getElem?, hio] at hi
    · simp [Array.getD_eq_getD_getElem?, hio] at hi
  · have e1 : (fS st us ds (fun i => (Array.replicate ops.size false).getD i false) ops.size).1 = f := by
      funext t
      rw [fS_prefix (j := 0) (fun i hi => a2 i (by omega) hi) (by omega) fun i hi _ => ⟨fun h => by omega, fun _ => by simp [Array.getD_eq_getD_getElem?, hi]⟩, a1]
    have e2 : (fS st us ds (fun i => (Array.replicate ops.size false).getD i false) ops.size).2 = H := by
      funext t
      rw [hS_prefix (j := 0) (fun i hi => a2 i (by omega) hi) (by omega) fun i hi _ => ⟨fun h => by omega, fun _ => by simp [Array.getD_eq_getD_getElem?, hi]⟩, a1]
    rw [e1, e2]; exact R
end
end Go.AL
