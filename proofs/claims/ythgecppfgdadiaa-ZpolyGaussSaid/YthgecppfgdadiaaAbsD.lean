/-
  The abstract logic: a list of operations.
-/
import Derived.Test.YthgecppfgdadiaaAbsC
namespace Go.AL
open Go.RowKit
set_option linter.unusedSimpArgs false
set_option linter.unusedVariables false

abbrev Log := List (List Nat × List Nat)

def ACallK (P : Program) (g : Nat) (avs : List AV) (d : Nat) (K : Fr → Hp → Log → Prop) (f : Fr) (H : Hp) (lg : Log) : Prop :=
  ∃ (c : Prop) (args : List CV) (ms : List Nat) (own : OwnRes) (res : List CV) (fz : Bool), (tocvs H avs = some (c, args, ms) ∨ tocvsN H avs = some (c, args, ms)) ∧ c ∧ AC P g args own res ∧ (fz = false → ms = [] ∨ FlatRes own res) ∧
    (let H' := if fz then frzAll ms H else H
     K (upd f d (packA (rAV H' d own 0 res))) (applyH (ownH H' d own) H') ((ms ++ (ownH H' d own).map (·.1), (if fz then ms else []) ++ (ownH H' d own).map (·.1)) :: lg))

def ARun (P : Program) (o : Oper) (K : Fr → Hp → Log → Prop) (f : Fr) (H : Hp) (lg : Log) : Prop :=
  match o.op, o.dst with
  | .call ⟨.value (.func g), args, _⟩, some d => ACallK P g (args.toList.map (ev f)) d K f H lg
  | op, d => match astep P op d f H with
    | some r => r.c ∧ K (updo f d r.v) (applyH r.hs (frzAll r.fz H)) ((r.rd ++ r.fz ++ r.hs.map (·.1), r.fz ++ r.hs.map (·.1)) :: lg)
    | none => False

def AOps (P : Program) (ds : List (Option Nat)) : List Oper → (Fr → Hp → Log → Prop) → Fr → Hp → Log → Prop
  | [], K, f, H, lg => K f H lg
  | o :: rest, K, f, H, lg =>
    match o.guard with
    | none => ARun P o (AOps P ds rest K) f H lg
    | some (j, want) => match (ds.getD j none).map f with
      | some (.iv (.bool b)) => if b = want then ARun P o (AOps P ds rest K) f H lg else AOps P ds rest K (updo f o.dst .undef) H (([], []) :: lg)
      | some .undef => AOps P ds rest K (updo f o.dst .undef) H (([], []) :: lg)
      | _ => False

/-- The result of one operation, as an update. -/
structure Up where
  v : AV
  fz : List Nat
  hs : List (Nat × HC)

def Up.f (u : Up) (d : Option Nat) (f : Fr) : Fr := updo f d u.v
def Up.h (u : Up) (H : Hp) : Hp := applyH u.hs (frzAll u.fz H)

/-- What an operation does from a state that looks so to it: whatever the rest. -/
def Sim (P : Program) (o : Oper) (f : Fr) (H : Hp) (rd : List Nat) (u : Up) : Prop :=
  ∀ (f2 : Fr) (H2 : Hp), (∀ x ∈ o.op.operands, ev f2 x = ev f x) → (∀ h ∈ rd, H2 h = H h) →
    ∀ (M : Nat → Prop) (w0 : World) (D0 : Nat → Prop) (N : Nat) (β : Nat → Value) (a : Act) (w : World), (∀ d, o.dst = some d → d < N) → Rel M w0 D0 N f2 H2 β a w →
      ∀ (K : Act → World → Prop) (Q : Exit → Act → World → Prop), (∀ a' w' β', Rel M w0 D0 N (u.f o.dst f2) (u.h H2) β' a' w' → K a' w') → o.wp P a w K Q

theorem mem_operands {o : Op} {x : Operand} {xs : List Operand} (h : o.operands.toList = xs) (hx : x ∈ xs) : x ∈ o.operands := by
  rw [← Array.mem_toList_iff, h]; exact hx


/-! ### What a step looks at -/

section
variable {P : Program} {f f2 : Fr} {H H2 : Hp}

theorem tcells_local {x : AV} {r : Prop × List IV × List Nat} (h : tcells H x = some r) (hH : ∀ k ∈ r.2.2, H2 k = H k) : tcells H2 x = some r := by
  unfold tcells at h ⊢
  split at h
  · exact h
  · exact h
  · exact h
  · rename_i k st
    cases hk : H k <;> rw [hk] at h <;> simp only [Option.some.injEq, reduceCtorEq] at h
    subst h
    simp only [hH k (by simp), hk]
  · rename_i k st off len
    cases hk : H k <;> rw [hk] at h <;> simp only [Option.some.injEq, reduceCtorEq] at h
    subst h
    simp only [hH k (by simp), hk]
  · cases h

theorem tparts_local : ∀ {xs : List AV} {r : Prop × List (List IV) × List Nat}, tparts H xs = some r → (∀ k ∈ r.2.2, H2 k = H k) → tparts H2 xs = some r
  | [], r, h, _ => h
  | x :: xs, r, h, hH => by
    simp only [tparts] at h ⊢
    split at h
    · rename_i c cs fz c' css fz' h1 h2
      injection h with h; subst h
      rw [tcells_local h1 fun k hk => hH k (by simp [hk]), tparts_local h2 fun k hk => hH k (by simp [hk])]
    · cases h

theorem srcRows_local {x : AV} {r : Prop × List (List IV) × List Nat} (h : srcRows H x = some r) (hH : ∀ k ∈ r.2.2, H2 k = H k) : srcRows H2 x = some r := by
  unfold srcRows at h ⊢
  split at h
  · exact h
  · exact h
  · rename_i k st
    cases hk : H k <;> rw [hk] at h <;> simp only [Option.some.injEq, reduceCtorEq] at h
    subst h
    simp only [hH k (by simp), hk]
  · rename_i k st off len
    cases hk : H k <;> rw [hk] at h <;> simp only [Option.some.injEq, reduceCtorEq] at h
    subst h
    simp only [hH k (by simp), hk]
  · cases h

theorem tocv_local {x : AV} {r : Prop × CV × List Nat} (h : tocv H x = some r) (hH : ∀ k ∈ r.2.2, H2 k = H k) : tocv H2 x = some r := by
  unfold tocv at h ⊢
  split at h
  · exact h
  · exact h
  · exact h
  · rename_i k st
    cases hk : H k <;> rw [hk] at h <;> simp only [Option.some.injEq, reduceCtorEq] at h
    subst h
    simp only [hH k (by simp), hk]
  · rename_i k st off len
    cases hk : H k <;> rw [hk] at h <;> simp only [Option.some.injEq, reduceCtorEq] at h
    subst h
    simp only [hH k (by simp), hk]
  · cases h

theorem tocvs_local : ∀ {xs : List AV} {r : Prop × List CV × List Nat}, tocvs H xs = some r → (∀ k ∈ r.2.2, H2 k = H k) → tocvs H2 xs = some r
  | [], r, h, _ => h
  | x :: xs, r, h, hH => by
    simp only [tocvs] at h ⊢
    split at h
    · rename_i c cs fz c' css fz' h1 h2
      injection h with h; subst h
      rw [tocv_local h1 fun k hk => hH k (by simp [hk]), tocvs_local h2 fun k hk => hH k (by simp [hk])]
    · cases h

theorem tocvN_local {x : AV} {r : Prop × CV × List Nat} (h : tocvN H x = some r) (hH : ∀ k ∈ r.2.2, H2 k = H k) : tocvN H2 x = some r := by
  unfold tocvN at h ⊢
  split at h
  · exact h
  · exact tocv_local h hH

theorem tocvsN_local : ∀ {xs : List AV} {r : Prop × List CV × List Nat}, tocvsN H xs = some r → (∀ k ∈ r.2.2, H2 k = H k) → tocvsN H2 xs = some r
  | [], r, h, _ => h
  | x :: xs, r, h, hH => by
    simp only [tocvsN] at h ⊢
    split at h
    · rename_i c cs fz c' css fz' h1 h2
      injection h with h; subst h
      rw [tocvN_local h1 fun k hk => hH k (by simp [hk]), tocvsN_local h2 fun k hk => hH k (by simp [hk])]
    · cases h

def Agree (r : AR) (H H2 : Hp) : Prop := ∀ k, k ∈ r.rd ∨ k ∈ r.fz ∨ k ∈ r.hs.map (·.1) → H2 k = H k

theorem aLoad_local {T : TI} {x : AV} {r : AR} (h : aLoad T H x = some r) (hH : Agree r H H2) : aLoad T H2 x = some r := by
  unfold aLoad at h ⊢
  split at h
  · exact h
  · rename_i k st i off
    cases hk : H k <;> rw [hk] at h <;> simp only [reduceCtorEq] at h
    have hr : r.rd = [k] := by
      split at h <;> (injection h with h; subst h; rfl)
    simp only [hH k (.inl (by simp [hr])), hk]
    exact h
  · cases h

theorem aStore_local {T : TI} {x y : AV} {r : AR} (h : aStore T H x y = some r) (hH : Agree r H H2) : aStore T H2 x y = some r := by
  unfold aStore at h ⊢
  split at h
  · rename_i k st i off c cells fz ht
    cases hk : H k with
    | none => rw [hk] at h; cases h
    | blk fz' st' e sz rows =>
      rw [hk] at h
      cases fz' with
      | true => cases h
      | false =>
        simp only [Option.some.injEq] at h
        subst h
        rw [tcells_local ht fun k' hk' => hH k' (.inr (.inl hk'))]
        simp only [hH k (.inl (by simp)), hk]
  · cases h

theorem aAlloc_local {T : TI} {e d : Nat} {r : AR} (h : aAlloc T H e d = some r) (hH : Agree r H H2) : aAlloc T H2 e d = some r := by
  unfold aAlloc newBox at h ⊢
  simp only [Option.some.injEq] at h
  subst h
  rw [hH d (.inr (.inr (by simp)))]

theorem aBox_local {T : TI} {e d : Nat} {x : AV} {r : AR} (h : aBox T H e d x = some r) (hH : Agree r H H2) : aBox T H2 e d x = some r := by
  unfold aBox newBox at h ⊢
  split at h
  · rename_i c cells fz ht
    simp only [Option.some.injEq] at h
    subst h
    rw [tcells_local ht fun k' hk' => hH k' (.inr (.inl hk'))]
    simp only [hH d (.inr (.inr (by simp)))]
  · cases h

theorem aMake_local {T : TI} {e d : Nat} {x y : AV} {r : AR} (h : aMake T H e d x y = some r) (hH : Agree r H H2) : aMake T H2 e d x y = some r := by
  unfold aMake at h ⊢
  split at h
  · simp only [Option.some.injEq] at h
    subst h
    simp only [hH d (.inr (.inr (by simp)))]
  · cases h

theorem aBuild_local {T : TI} {idx : List Nat} {xs : List AV} {r : AR} (h : aBuild T H idx xs = some r) (hH : Agree r H H2) : aBuild T H2 idx xs = some r := by
  unfold aBuild at h ⊢
  split at h
  · rename_i fs c css fz hd ht
    split at h
    · rename_i c' r' hl
      simp only [Option.some.injEq] at h
      subst h
      rw [tparts_local ht fun k' hk' => hH k' (.inr (.inl hk'))]
      simp only [hd, hl]
    · cases h
  · cases h

theorem aBuildSlice_local {T : TI} {e d n : Nat} {idx : List Nat} {xs : List AV} {r : AR} (h : aBuildSlice T H e d n idx xs = some r) (hH : Agree r H H2) : aBuildSlice T H2 e d n idx xs = some r := by
  unfold aBuildSlice at h ⊢
  split at h
  · rename_i c css fz ht
    simp only [Option.some.injEq] at h
    subst h
    rw [tparts_local ht fun k' hk' => hH k' (.inr (.inl hk'))]
    simp only [hH d (.inr (.inr (by simp)))]
  · cases h

theorem aIndex_local {esz : Nat} {eok : Bool} {x i : AV} {r : AR} (h : aIndex esz eok H x i = some r) (hH : Agree r H H2) : aIndex esz eok H2 x i = some r := by
  unfold aIndex at h ⊢
  split at h
  · exact h
  · rename_i k st _ _
    cases hk : H k <;> rw [hk] at h <;> simp only [Option.some.injEq, reduceCtorEq] at h
    subst h
    simp only [hH k (.inl (by simp)), hk]
  · rename_i k st off len _ _
    cases hk : H k <;> rw [hk] at h <;> simp only [Option.some.injEq, reduceCtorEq] at h
    subst h
    simp only [hH k (.inl (by simp)), hk]
  · cases h

theorem aLen_local {x : AV} {r : AR} (h : aLen H x = some r) (hH : Agree r H H2) : aLen H2 x = some r := by
  unfold aLen at h ⊢
  split at h
  · exact h
  · exact h
  · rename_i k st
    cases hk : H k <;> rw [hk] at h <;> simp only [Option.some.injEq, reduceCtorEq] at h
    subst h
    simp only [hH k (.inl (by simp)), hk]
  · rename_i k st off len
    cases hk : H k <;> rw [hk] at h <;> simp only [Option.some.injEq, reduceCtorEq] at h
    subst h
    simp only [hH k (.inl (by simp)), hk]
  · cases h

theorem aSlice_local {esz : Nat} {eok : Bool} {x : AV} {lo hi : Option AV} {r : AR} (h : aSlice esz eok H x lo hi = some r) (hH : Agree r H H2) : aSlice esz eok H2 x lo hi = some r := by
  unfold aSlice at h ⊢
  split at h
  · exact h
  · rename_i k st
    cases hk : H k <;> rw [hk] at h <;> simp only [reduceCtorEq] at h
    have hr : r.rd = [k] := by
      split at h <;> simp only [Option.some.injEq, reduceCtorEq] at h; subst h; rfl
    simp only [hH k (.inl (by simp [hr])), hk]
    exact h
  · cases h

theorem aFieldAddr_local {T : TI} {i : Nat} {x : AV} {r : AR} (h : aFieldAddr T i H x = some r) (hH : Agree r H H2) : aFieldAddr T i H2 x = some r := by
  unfold aFieldAddr at h ⊢
  split at h
  · exact h
  · rename_i fs k st _ off hd
    split at h
    · rename_i o sz hf
      simp only [Option.some.injEq] at h
      subst h
      simp only [hf, hH k (.inl (by simp))]
    · cases h
  · cases h

theorem aNil_local {x : AV} {r : AR} (h : aNil H x = some r) (hH : Agree r H H2) : aNil H2 x = some r := by
  unfold aNil at h ⊢
  split at h
  · exact h
  · rename_i k st i off
    simp only [Option.some.injEq] at h
    subst h
    simp only [hH k (.inl (by simp))]
  · cases h

theorem aAppend_local {T : TI} {e d : Nat} {x y : AV} {r : AR} (h : aAppend T H e d x y = some r) (hH : Agree r H H2) : aAppend T H2 e d x y = some r := by
  unfold aAppend at h ⊢
  split at h
  · rename_i c src rd hs
    split at h
    · simp only [Option.some.injEq] at h
      subst h
      rw [srcRows_local hs fun k hk => hH k (.inl hk)]
      simp only [hH d (.inr (.inr (by simp)))]
    · rename_i k st
      cases hk : H k with
      | none => rw [hk] at h; cases h
      | blk fz' st' e' sz rows =>
        rw [hk] at h
        cases fz' with
        | true => cases h
        | false =>
          simp only [Option.some.injEq] at h
          subst h
          rw [srcRows_local hs fun k' hk' => hH k' (.inl (by simp [hk']))]
          simp only [hH k (.inl (by simp)), hk]
    · cases h
  · cases h

theorem aCopy_local {T : TI} {x y : AV} {r : AR} (h : aCopy T H x y = some r) (hH : Agree r H H2) : aCopy T H2 x y = some r := by
  unfold aCopy at h ⊢
  split at h
  · rename_i c src rd hs
    split at h
    · rename_i k st off len
      cases hk : H k with
      | none => rw [hk] at h; cases h
      | blk fz' st' e' sz rows =>
        rw [hk] at h
        cases fz' with
        | true => cases h
        | false =>
          simp only [Option.some.injEq] at h
          subst h
          rw [srcRows_local hs fun k' hk' => hH k' (.inl (by simp [hk']))]
          simp only [hH k (.inl (by simp)), hk]
    · cases h
  · cases h

theorem aBuiltin_local {b : Builtin} {d : Option Nat} {xs : List AV} {ts : List Nat} {r : AR} (h : aBuiltin P b H d xs ts = some r) (hH : Agree r H H2) : aBuiltin P b H2 d xs ts = some r := by
  unfold aBuiltin at h ⊢
  split at h
  · split at h
    · exact aLen_local h hH
    · cases h
  · exact h
  · exact h
  · split at h
    · rename_i e e2 d ht ht2 hdd
      exact aAppend_local h hH
    · cases h
  · split at h
    · exact aCopy_local h hH
    · cases h
  · cases h

theorem map_ev {xs : List Operand} (h : ∀ x ∈ xs, ev f2 x = ev f x) : xs.map (ev f2) = xs.map (ev f) := List.map_congr_left h

theorem astep_local {op : Op} {d : Option Nat} {r : AR} (he : ∀ x ∈ op.operands, ev f2 x = ev f x) (h : astep P op d f H = some r) (hH : Agree r H H2) : astep P op d f2 H2 = some r := by
  cases op <;> simp only [astep, Op.operands, List.mem_toArray, List.mem_cons, List.not_mem_nil, or_false, forall_eq, forall_eq_or_imp, List.mem_append, Array.mem_append] at he h ⊢ <;> try (first | exact h | cases h)
  case move x => rw [he]
  case assign x => rw [he]
  case pick c x y => rw [he.1, he.2.1, he.2.2]; exact h
  case alloc e =>
    split at h
    · exact aAlloc_local h hH
    · cases h
  case box e x =>
    rw [he]
    split at h
    · exact aBox_local h hH
    · cases h
  case build t ps =>
    have : ps.toList.map (fun p => ev f2 p.2) = ps.toList.map (fun p => ev f p.2) := List.map_congr_left fun p hp => he _ (List.mem_map.2 ⟨p, hp, rfl⟩)
    rw [this]; exact aBuild_local h hH
  case buildSlice t n ps =>
    have : ps.toList.map (fun p => ev f2 p.2) = ps.toList.map (fun p => ev f p.2) := List.map_congr_left fun p hp => he _ (List.mem_map.2 ⟨p, hp, rfl⟩)
    rw [this]
    split at h
    · rename_i e d ht hdd; exact aBuildSlice_local h hH
    · cases h
  case load t x => rw [he]; exact aLoad_local h hH
  case store t x y => rw [he.1, he.2]; exact aStore_local h hH
  case nilCheck x => rw [he]; exact aNil_local h hH
  case binOp op t x y yt => rw [he.1, he.2]; exact h
  case unOp op t x => rw [he]; exact h
  case convert s d x => rw [he]; exact h
  case makeSlice t l c =>
    rw [he.1, he.2]
    split at h
    · rename_i e d ht hdd; exact aMake_local h hH
    · cases h
  case slice t x lo hi mx =>
    cases mx with
    | some m => simp only [astep] at h; cases h
    | none =>
      simp only [astep] at h ⊢
      have h1 : ev f2 x = ev f x := he x (by simp)
      have h2 : lo.map (ev f2) = lo.map (ev f) := by cases lo with | none => rfl | some y => simp [he y (by simp)]
      have h3 : hi.map (ev f2) = hi.map (ev f) := by cases hi with | none => rfl | some y => simp [he y (by simp)]
      rw [h1, h2, h3]
      split at h
      · rename_i e ht; exact aSlice_local h hH
      · cases h
  case fieldAddr s x i => rw [he]; exact aFieldAddr_local h hH
  case indexAddr t x i =>
    rw [he.1, he.2]
    split at h
    · rename_i e ht; exact aIndex_local h hH
    · cases h
  case index t x i => rw [he.1, he.2]; exact h
  case extract x i => rw [he]; exact h
  case call c =>
    have : c.args.toList.map (ev f2) = c.args.toList.map (ev f) := List.map_congr_left fun x hx => he x (by simp [Call.operands]; right; exact Array.mem_toList_iff.1 hx)
    rw [this]
    split at h
    · rename_i b hb; exact aBuiltin_local h hH
    · cases h
end


section
variable {P : Program}

theorem updo_f (u : Up) (d : Option Nat) (f : Fr) : u.f d f = updo f d u.v := rfl

theorem sim_op {o : Oper} {f : Fr} {H : Hp} {r : AR} (hr : astep P o.op o.dst f H = some r) (hc : r.c) : Sim P o f H (r.rd ++ r.fz ++ r.hs.map (·.1)) ⟨r.v, r.fz, r.hs⟩ := by
  intro f2 H2 he hH M w0 D0 N β a w hd R K Q hK
  have := astep_local he hr fun k hk => hH k (by simpa [or_assoc] using hk)
  exact (op_sound R o hd this hc).wp hK

theorem callsR_wp {g : Nat} {args : Array Operand} {ats : Array TypeId} {o : Oper} (ho : o.op = .call ⟨.value (.func g), args, ats⟩) {a : Act} {w : World} {R : Value → World → Prop} (h : CallsR P g (args.toList.map a.eval) w R) {K : Act → World → Prop} {Q : Exit → Act → World → Prop}
    (hK : ∀ v w', R v w' → K (a.put o.dst v) w') : o.wp P a w K Q := by
  have hx : execOp a.eval o = callFunc g (args.map a.eval) := by
    simp [execOp, ho, resolve, Act.eval, Deferred.ofValue, invoke]
  have hargs : (args.toList.map a.eval).toArray = args.map a.eval := by apply Array.ext'; simp
  unfold CallsR at h
  rw [hargs] at h
  unfold Oper.wp
  rw [hx]
  rcases h with ⟨fn, h1, h2, h3, h4⟩ | ⟨v, w', h1, h2⟩
  · have : (callFunc g (args.map a.eval)).run P w = .ok (.enter g (args.map a.eval)) w := by
      simp only [callFunc, Sem.run_bind, run_program, Result.andThen_ok, h1, h2, h3, Bool.false_eq_true, if_false, Sem.run_pure]
    rw [this, Oper.upon_enter]
    exact h4.mono fun e w' ⟨v, he, hR⟩ => by subst he; exact hK v w' hR
  · rw [h1]; exact hK v w' h2

theorem frzAll_agree (fz : List Nat) : ∀ (H H2 : Hp) (k : Nat), H2 k = H k → frzAll fz H2 k = frzAll fz H k := by
  induction fz with
  | nil => exact fun _ _ _ h => h
  | cons h r ih =>
    intro H H2 k e
    simp only [frzAll]
    refine ih _ _ _ ?_
    by_cases hk : k = h
    · subst hk; simp [updH_same, e]
    · simp [updH_ne _ _ hk, e]

theorem rAV_agree {H H2 : Hp} {d : Nat} (h : (H2 d).stamp = (H d).stamp) (own : OwnRes) : ∀ (res : List CV) (j : Nat), rAV H2 d own j res = rAV H d own j res
  | [], _ => rfl
  | c :: cs, j => by simp only [rAV, h, rAV_agree h own cs (j + 1)]

theorem rAV_none (H H2 : Hp) (d : Nat) : ∀ (res : List CV) (j : Nat), rAV H2 d none j res = rAV H d none j res
  | [], _ => rfl
  | c :: cs, j => by simp only [rAV, rAV_none H H2 d cs (j + 1)]

theorem FlatRes.ok {w w' : World} {D D' : Nat → Prop} {own : OwnRes} {res : List CV} {us : List Value} (h : FlatRes own res) (hr : ResOk w w' D own res us) : ResOk w w' D' own res us := by
  refine ⟨hr.len, fun j c v hj hc hv => (hr.val j c v hj hc hv).flat ?_, fun i e sz rows ho => ?_⟩
  · cases own with
    | none => exact h c (List.mem_of_getElem? hc)
    | some p => obtain ⟨i, e, sz, rows⟩ := p; exact h.2 j c (hj i e sz rows rfl) hc
  · obtain ⟨v, h1, h2, h3⟩ := hr.own i e sz rows ho
    subst ho
    refine ⟨v, h1, h2, h3.1, ?_⟩
    rcases h3.2 with hn | ⟨g, cap, cur, hv, hB, hg, a1, a2, a3, a4⟩
    · exact .inl hn
    · refine .inr ⟨g, cap, cur, hv, hB, hg, a1, a2, a3, a4.flat fun x hx => ?_⟩
      obtain ⟨r, hr', hx'⟩ := List.mem_flatten.1 hx
      exact h.1 r hr' x hx'

theorem sim_call {o : Oper} {g : Nat} {args : Array Operand} {ats : Array TypeId} (ho : o.op = .call ⟨.value (.func g), args, ats⟩) {d : Nat} (hdst : o.dst = some d) {f : Fr} {H : Hp} {c : Prop} {cv : List CV} {ms : List Nat} {own : OwnRes} {res : List CV} {fz : Bool}
    (ht : tocvs H (args.toList.map (ev f)) = some (c, cv, ms) ∨ tocvsN H (args.toList.map (ev f)) = some (c, cv, ms)) (hc : c) (hac : AC P g cv own res) (hf : fz = false → ms = [] ∨ FlatRes own res) :
    let H' := if fz then frzAll ms H else H
    Sim P o f H (ms ++ (ownH H' d own).map (·.1)) ⟨packA (rAV H' d own 0 res), if fz then ms else [], ownH H' d own⟩ := by
  intro H' f2 H2 he hH M w0 D0 N β a w hd R K Q hK
  have hargs : args.toList.map (ev f2) = args.toList.map (ev f) := List.map_congr_left fun x hx => he x (by rw [ho]; simp only [Op.operands, Call.operands]; exact Array.mem_append.2 (.inr (Array.mem_toList_iff.1 hx)))
  have hrep : CVReps w (DD (frzAll ms H2) β D0) cv (args.toList.map a.eval) := by
    rcases ht with ht | ht
    · have ht2 := tocvs_local ht fun k hk => hH k (by simp [hk])
      rw [← hargs] at ht2
      exact tocvs_sound R (avall_map R args.toList) ht2 hc
    · have ht2 := tocvsN_local ht fun k hk => hH k (by simp [hk])
      rw [← hargs] at ht2
      exact tocvsN_sound R (avall_map R args.toList) ht2 hc
  have hD : ∀ b, DD (frzAll ms H2) β D0 b → b < w.heap.size := by
    intro b hb
    rcases hb with hb | ⟨k, hm, hk⟩
    · exact Nat.lt_of_lt_of_le (R.old b hb).1 R.size
    · have := (frz_mut_iff ms H2 k).1 hm
      cases hHk : H2 k with
      | none => rw [hHk] at this; exact this.2.elim
      | blk fz' st e sz rows =>
        rw [hHk] at this
        cases fz' with
        | true => exact this.2.elim
        | false => exact ((R.own k _ _ _ _ hHk).lt hk).1
  refine callsR_wp ho (hac w _ _ hD hrep) fun v w' ⟨hb, us, hv, hres⟩ => ?_
  subst hv
  have hdN := hd d hdst
  rw [hdst]
  have fin : ∀ H3 : Hp, Rel M w0 D0 N f2 H3 β a w → ResOk w w' (DD H3 β D0) own res us → (∀ i e sz rows, own = some (i, e, sz, rows) → (H3 d).stamp = (H' d).stamp) → H3 = frzAll (if fz then ms else []) H2 → K (a.put (some d) (packV us)) w' := by
    intro H3 R3 hr3 hs he3
    obtain ⟨β', R'⟩ := call_next R3 hb hr3 hdN
    refine hK _ _ β' ?_
    have e1 : packA (rAV H3 d own 0 res) = packA (rAV H' d own 0 res) := by
      cases own with
      | none => rw [rAV_none H' H3]
      | some p => obtain ⟨i, e, sz, rows⟩ := p; rw [rAV_agree (hs i e sz rows rfl)]
    have e2 : ownH H3 d own = ownH H' d own := by
      cases own with
      | none => rfl
      | some p => obtain ⟨i, e, sz, rows⟩ := p; simp only [ownH, hs i e sz rows rfl]
    rw [e1, e2] at R'
    rw [he3] at R'
    simp only [Up.f, Up.h, hdst, updo]
    exact R'
  have hst : ∀ i e sz rows, own = some (i, e, sz, rows) → H2 d = H d := fun i e sz rows ho => hH d (by subst ho; simp [ownH])
  cases fz with
  | true =>
    refine fin (frzAll ms H2) (R.frzAll ms) hres (fun i e sz rows ho => ?_) rfl
    show (frzAll ms H2 d).stamp = (frzAll ms H d).stamp
    rw [(frzAll_stamp ms H2 d).1, (frzAll_stamp ms H d).1, hst i e sz rows ho]
  | false =>
    refine fin H2 R ?_ (fun i e sz rows ho => by rw [hst i e sz rows ho]; rfl) rfl
    rcases hf rfl with h0 | h0
    · rw [h0] at hres; exact hres
    · exact h0.ok hres

/-- What an operation of a region does. -/
theorem arun_sim {o : Oper} {K : Fr → Hp → Log → Prop} {f : Fr} {H : Hp} {lg : Log} (h : ARun P o K f H lg) : ∃ (u : Up) (rd : List Nat), Sim P o f H rd u ∧ K (u.f o.dst f) (u.h H) ((rd, u.fz ++ u.hs.map (·.1)) :: lg) ∧ ∀ k ∈ u.fz ++ u.hs.map (·.1), k ∈ rd := by
  unfold ARun at h
  split at h
  · rename_i g args ats d ho hdst
    obtain ⟨c, cv, ms, own, res, fz, ht, hc, hac, hf, hk⟩ := h
    refine ⟨⟨packA (rAV (if fz then frzAll ms H else H) d own 0 res), if fz then ms else [], ownH (if fz then frzAll ms H else H) d own⟩, ms ++ (ownH (if fz then frzAll ms H else H) d own).map (·.1), sim_call ho hdst ht hc hac hf, ?_, ?_⟩
    · have : frzAll (if fz then ms else []) H = if fz then frzAll ms H else H := by cases fz <;> rfl
      simp only [Up.f, Up.h, hdst, updo, this]
      exact hk
    · intro k hk
      simp only [List.mem_append] at hk ⊢
      rcases hk with hk | hk
      · cases fz with
        | true => exact .inl hk
        | false => simp at hk
      · exact .inr hk
  · split at h
    · rename_i r hr
      exact ⟨⟨r.v, r.fz, r.hs⟩, r.rd ++ r.fz ++ r.hs.map (·.1), sim_op hr h.1, h.2, fun k hk => by simp only [List.mem_append] at hk ⊢; rcases hk with hk | hk; exact .inl (.inr hk); exact .inr hk⟩
    · cases h
end

end Go.AL
