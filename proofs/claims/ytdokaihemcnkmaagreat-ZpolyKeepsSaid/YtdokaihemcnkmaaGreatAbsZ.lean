/-
 Contracts of the functions that the law reaches.
-/
import Derived.Test.YtdokaihemcnkmaaGreatAbsY
namespace Go.AL
variable {zi : Zi}
open Go.RowKit
set_option linter.unusedSimpArgs false
set_option linter.unusedVariables false
inductive Full : IV → Prop
 | int (k : IntKind) (n : Int) : Full (.int k n)
 | bool (b : Bool) : Full (.bool b)
 | raw (v : Value) : Full (.raw v)
 | nil : Full (.sl [])
 | own (b : Option (Nat × Nat)) (e sz : Nat) (rows : List (List IV)) (h : ∀ r ∈ rows, ∀ x ∈ r, Full x) : Full (.own b e sz rows)
theorem Rep.full {w w' : World} {D D' : Nat → Prop} {x : IV} {v : Value} (h : Rep w D x v) : Full x → (∀ g ∈ x.ids, w'.heap[g]? = w.heap[g]? ∧ ¬ D' g) → Rep w' D' x v := by
 induction h with
 | int k n => exact fun _ _ => .int k n
 | bool b => exact fun _ _ => .bool b
 | raw v hv => exact fun _ _ => .raw v hv
 | nil a cap hcap => exact fun _ _ => .nil a cap hcap
 | sl rows g o cap sz cell hsz hlen hcap hg hD hc hr ih =>
  intro hf _
  cases hf
  exact .nil _ cap hcap
 | ownN e sz => exact fun _ _ => .ownN e sz
 | own rows g cap e sz cur hsz hlen hcap hg hD hcs hr ih =>
  intro hf hk
  cases hf with
  | own _ _ _ _ hf =>
   have h0 := hk g (by simp [IV.ids])
   refine .own rows g cap e sz cur hsz hlen hcap (by rw [h0.1]; exact hg) h0.2 hcs fun i r hi j x hj => ih i r hi j x hj (hf r (List.mem_of_getElem? hi) x (List.mem_of_getElem? hj)) fun k hk' => hk k ?_
   simp only [IV.ids, List.mem_append]
   exact .inr (mem_idsRows.2 ⟨r, List.mem_of_getElem? hi, mem_idsRow.2 ⟨x, List.mem_of_getElem? hj, hk'⟩⟩)
 | av X x v hx ih => exact fun hf => by cases hf
theorem Reps.full {w w' : World} {D D' : Nat → Prop} : ∀ {xs : List IV} {vs : List Value}, Reps w D xs vs → (∀ x ∈ xs, Full x) → (∀ g ∈ idsRow xs, w'.heap[g]? = w.heap[g]? ∧ ¬ D' g) → Reps w' D' xs vs
 | [], [], _, _, _ => trivial
 | x :: xs, v :: vs, h, hf, hk => ⟨h.1.full (hf x (by simp)) fun g hg => hk g (by simp [idsRow, hg]), h.2.full (fun y hy => hf y (by simp [hy])) fun g hg => hk g (by simp [idsRow, hg])⟩
 | [], _ :: _, h, _, _ => h.elim
 | _ :: _, [], h, _, _ => h.elim
theorem Rep.own_some {w : World} {D : Nat → Prop} {b : Option (Nat × Nat)} {e sz : Nat} {rows : List (List IV)} {v : Value} (h : Rep w D (.own b e sz rows) v) (hne : rows ≠ []) :
  ∃ g cap cur, b = some (g, cap) ∧ v = .slice (some ⟨g, 0, none⟩) rows.length cap ∧ w.heap[g]? = some (.cells cur e (0, 0)) ∧ ¬ D g ∧ cur.size = cap * sz ∧ rows.length ≤ cap ∧ cap ≤ maxLen ∧ (∀ (i : Nat) (r : List IV), rows[i]? = some r → r.length = sz) ∧
   ∀ (i : Nat) (r : List IV), rows[i]? = some r → ∀ (j : Nat) (x : IV), r[j]? = some x → Rep w D x (cur.getD (i * sz + j) Go.undef) := by
 cases h with
 | ownN => exact (hne rfl).elim
 | own rows g cap e sz cur hsz hlen hcap hg hD hcs hr => exact ⟨g, cap, cur, rfl, rfl, hg, hD, hcs, hlen, hcap, hsz, hr⟩
theorem flatten_inv {sz : Nat} : ∀ (rows : List (List IV)), (∀ r ∈ rows, r.length = sz) → ∀ (k : Nat) (x : IV), rows.flatten[k]? = some x → ∃ r, rows[k / sz]? = some r ∧ r[k % sz]? = some x
 | [], _, k, x, h => by simp at h
 | r :: rs, hs, k, x, h => by
  have h0 := hs r (by simp)
  rw [List.flatten_cons] at h
  by_cases hk : k < sz
  ·rw [List.getElem?_append_left (by omega)] at h
   rw [Nat.div_eq_of_lt hk, Nat.mod_eq_of_lt hk]
   exact ⟨r, rfl, h⟩
  ·rw [List.getElem?_append_right (by omega), h0] at h
   obtain ⟨q, h1, h2⟩ := flatten_inv rs (fun r hr => hs r (by simp [hr])) _ x h
   rcases Nat.eq_zero_or_pos sz with hz | hz
   ·subst hz
    rw [Nat.mod_zero] at h2
    have hq := hs q (by simp [List.mem_of_getElem? h1])
    have : q = [] := List.eq_nil_of_length_eq_zero hq
    subst this; simp at h2
   ·have e1 : k / sz = (k - sz) / sz + 1 := by
     rw [show k = (k - sz) + sz by omega, Nat.add_div_right _ hz]; simp
    have e2 : k % sz = (k - sz) % sz := by
     rw [show k = (k - sz) + sz by omega, Nat.add_mod_right]; simp
    rw [e1, e2]
    exact ⟨q, by simpa using h1, h2⟩
theorem reps_of_cells {w : World} {D : Nat → Prop} {rows : List (List IV)} {cur : Array Value} {sz : Nat} (hsz : ∀ r ∈ rows, r.length = sz) (hc : rows.length * sz ≤ cur.size)
  (h : ∀ (i : Nat) (r : List IV), rows[i]? = some r → ∀ (j : Nat) (x : IV), r[j]? = some x → Rep w D x (cur.getD (i * sz + j) Go.undef)) : Reps w D rows.flatten (cur.toList.take (rows.length * sz)) := by
 refine Reps.of_get ?_ fun k x hk => ?_
 ·have e1 : cur.toList.length = cur.size := Array.length_toList
  rw [flatten_len rows hsz, List.length_take, e1]; omega
 ·obtain ⟨r, h1, h2⟩ := flatten_inv rows hsz k x hk
  have hlt := (List.getElem?_eq_some_iff.1 hk).1
  rw [flatten_len rows hsz] at hlt
  have := h _ r h1 _ x h2
  rw [Nat.mul_comm, Nat.div_add_mod] at this
  refine ⟨_, ?_, this⟩
  rw [List.getElem?_take, if_pos hlt, Array.getElem?_toList, Array.getElem?_eq_getElem (by omega), Array.getD_eq_getD_getElem?, Array.getElem?_eq_getElem (by omega)]
  rfl
theorem tie_head {w : World} {D : Nat → Prop} {H : Hp} {β : Nat → Value} {h st len g cap : Nat} {v : Value} (ht : AVRep w D H β (.hv h st 0 len) v) (hs : st = (H h).stamp) (hv : v = .slice (some ⟨g, 0, none⟩) len cap) : ∃ n, β h = .slice (some ⟨g, 0, none⟩) n cap := by
 simp only [AVRep] at ht
 subst hv
 rcases ht.2 hs with ⟨rfl, a, c, e1, e2, e3⟩ | ⟨g', n, cap', cap'', e1, e2, e3, e4, e5⟩
 ·obtain ⟨n, hn⟩ := e3 trivial
  injection e1 with h1 h2 h3
  subst h1 h3
  exact ⟨n, hn⟩
 ·injection e2 with h1 h2 h3
  injection h1 with h1
  injection h1 with h1 _ _
  subst h1
  have := e5 trivial
  subst h3
  subst this
  exact ⟨n, e1⟩
section
variable {G : Gh} {M : Nat → Prop} {w0 : World} {D0 : Nat → Prop} {N : Nat} {P : Program} {f : Fr} {H : Hp} {β : Nat → Value} {a : Act} {w : World}
theorem Rel.jump (R : Rel G M w0 D0 N f H β a w) (hG : ∀ x v, ¬ G.vals x v) {f' : Fr} {H' : Hp} {β' : Nat → Value} {a' : Act} {w' : World} (hos : w'.os = w.os) (htape : w'.tape = w.tape) (hout : w'.output = w.output) (hsz : w.heap.size ≤ w'.heap.size)
  (hk : ∀ k, k < w0.heap.size → ¬ M k → w'.heap[k]? = w.heap[k]?) (hts : a'.tmps.size = N) (hdf : a'.defers = [])
  (htm : ∀ t, AVRep w' (DD H' β' D0) H' β' (f' t) (a'.tmps.getD t Go.undef))
  (hown : ∀ h st e sz rows, H' h = .blk false st e sz rows → Own w' (DD H' β' D0) w0.heap.size M (β' h) e sz rows)
  (hfz : ∀ h st e sz rows, H' h ≠ .blk true st e sz rows)
  (hdis : ∀ h h', h ≠ h' → (H' h).isMut → (H' h').isMut → ∀ g, headOf (β' h) = some g → headOf (β' h') ≠ some g)
  (hnst : ∀ h st e rows, H' h = .nst st e rows → OwnN w' (DD H' β' D0) H' β' w0.heap.size M (β' h) e rows)
  (hmrk : ∀ h B, H' h = .mrk B → B ≤ w'.heap.size) (htie : ∀ h x v, H' h = .tie x v → AVRep w' (DD H' β' D0) H' β' x v) : Rel G M w0 D0 N f' H' β' a' w' :=
 ⟨hos.trans R.os, htape.trans R.tape, hout.trans R.output, Nat.le_trans R.size hsz, fun k h1 h2 => (hk k h1 h2).trans (R.keep k h1 h2), R.old, hts, fun d hd => (by rw [hdf] at hd; cases hd), fun _ => hdf, (by rw [hdf]; exact List.nodup_nil), fun x v h => (hG x v h).elim, htm, hown, fun h st e sz rows hh => (hfz h st e sz rows hh).elim, hdis, hnst, hmrk, htie⟩
theorem aops_pre {ro : Option Nat} {ops : Array Oper} {rest2 : List Oper} {K : Fr → Hp → Log → Prop} {Q : Exit → Act → World → Prop} (hQ : ∀ f H lg β a w, K f H lg → Rel G M w0 D0 N f H β a w → wpListIn (Wd ro) 0 P ops Q rest2 a w) :
  ∀ (rest : List Oper) (f : Fr) (H : Hp) (lg : Log) (β : Nat → Value) (a : Act) (w : World), (∀ o ∈ rest, ∀ d, o.dst = some d → d < N) → AOps P (dsts ops) rest K f H lg → Rel G M w0 D0 N f H β a w → wpListIn (Wd ro) 0 P ops Q (rest ++ rest2) a w
 | [], f, H, lg, β, a, w, _, h, R => hQ f H lg β a w h R
 | o :: rest, f, H, lg, β, a, w, hd, h, R => by
  have hdo := hd o (by simp)
  have hdr : ∀ o ∈ rest, ∀ d, o.dst = some d → d < N := fun o ho => hd o (by simp [ho])
  have run : ARun P o (AOps P (dsts ops) rest K) f H lg → o.wpIn (Wd ro) 0 P a w (wpListIn (Wd ro) 0 P ops Q (rest ++ rest2)) Q := by
   intro h
   rcases arun_sim h with ⟨u, rd, hs, hk, _⟩ | ⟨ms, B, R0, _, hs, hk⟩ | ⟨Z, _, hs, hk⟩
   ·exact hs f H (fun _ _ => rfl) (fun _ _ => rfl) G M w0 D0 N β a w hdo R _ _ (fun a' w' β' R' => aops_pre hQ rest _ _ _ β' a' w' hdr hk R') ro
   ·exact hs f H (fun _ _ => rfl) (fun _ _ => rfl) G M w0 D0 N β a w hdo R _ _ (fun B' E res a' w' β' h1 h2 h3 R' => aops_pre hQ rest _ _ _ β' a' w' hdr (hk B' E res h1 h2 h3) R') ro
   ·exact hs G M w0 D0 N β a w hdo R _ _ (fun x H' a' w' β' hz R' => aops_pre hQ rest _ _ _ β' a' w' hdr (hk x H' hz) R') ro
  simp only [AOps] at h
  simp only [List.cons_append, wpListIn]
  cases hg : o.guard with
  | none =>
   rw [hg] at h
   simp only [Region.wanted, hg, if_true]
   exact run h
  | some p =>
   obtain ⟨j, want⟩ := p
   rw [hg] at h
   have hy := yielded_of R (ops := ops) (j := j)
   simp only [Region.wanted, hg]
   simp only at h
   split at h
   ·rename_i b hb
    rw [hy.1 b hb]
    by_cases hbw : b = want
    ·subst hbw
     simp only [if_true] at h
     simp only [beq_self_eq_true, if_true]
     exact run h
    ·simp only [hbw, if_false] at h
     rw [if_neg (by simp [hbw])]
     exact ⟨fun _ _ => trivial, aops_pre hQ rest _ _ _ β _ w hdr h (R.skip hdo)⟩
   ·rename_i hb
    rw [hy.2 hb]
    rw [if_neg (by simp)]
    exact ⟨fun _ _ => trivial, aops_pre hQ rest _ _ _ β _ w hdr h (R.skip hdo)⟩
   ·exact h.elim
theorem aops_preN {ro : Option Nat} {l l1 l2 rest : List Oper} {K : Fr → Hp → Log → Prop} {Q : Exit → Act → World → Prop} (hl : rest = l1 ++ l2) (hd : ∀ o ∈ l1, ∀ d, o.dst = some d → d < N) (R : Rel G M w0 D0 N f H β a w) (h : AOps P (l.map (·.dst)) l1 K f H [])
  (k : ∀ f H lg β a w, K f H lg → Rel G M w0 D0 N f H β a w → wpListIn (Wd ro) 0 P l.toArray Q l2 a w) : wpListIn (Wd ro) 0 P l.toArray Q rest a w := by
 subst hl
 exact aops_pre (ro := ro) (ops := l.toArray) (rest2 := l2) (Q := Q) k l1 f H [] β a w hd h R
theorem aops_allN {ro : Option Nat} {l rest : List Oper} {K : Fr → Hp → Log → Prop} {Q : Exit → Act → World → Prop} (hd : ∀ o ∈ rest, ∀ d, o.dst = some d → d < N) (R : Rel G M w0 D0 N f H β a w) (h : AOps P (l.map (·.dst)) rest K f H [])
  (k : ∀ f H lg β a w, K f H lg → Rel G M w0 D0 N f H β a w → Q .normal a w) : wpListIn (Wd ro) 0 P l.toArray Q rest a w := by
 have := aops_preN (ro := ro) (l := l) (l1 := rest) (l2 := []) (rest := rest) (Q := Q) (by simp) hd R h (fun f H lg β a w hk R => k f H lg β a w hk R)
 exact this
theorem list_one {ro : Option Nat} {ops : Array Oper} {o : Oper} {rest : List Oper} {Q : Exit → Act → World → Prop} (hg : o.guard = none) (h : o.wpIn (Wd ro) 0 P a w (wpListIn (Wd ro) 0 P ops Q rest) Q) : wpListIn (Wd ro) 0 P ops Q (o :: rest) a w := by
 simp only [wpListIn, Region.wanted, hg, if_true]
 exact h
def avC (X : Nat → Prop) : CV → AV
 | .iv x => .iv (.av X x)
 | .agg cs => .agg (cs.map (.av X))
 | c => c.av
theorem Reps.avs {w : World} {D X : Nat → Prop} : ∀ {xs : List IV} {vs : List Value}, Reps w (fun b => D b ∨ X b) xs vs → Reps w D (xs.map (.av X)) vs
 | [], [], _ => trivial
 | x :: xs, v :: vs, h => ⟨.av _ _ _ h.1, h.2.avs⟩
 | [], _ :: _, h => h.elim
 | _ :: _, [], h => h.elim
theorem avC_rep {D X : Nat → Prop} {c : CV} {v : Value} (h : CVRep w (fun b => D b ∨ X b) c v) : AVRep w D H β (avC X c) v := by
 have g : Grows w (fun b => D b ∨ X b) w D := Grows.of_sub fun b h => .inl h
 cases c with
 | iv x => simp only [avC, AVRep]; exact .av _ _ _ h
 | agg cs =>
  simp only [avC, AVRep]
  obtain ⟨a, rfl, hr⟩ := h
  exact ⟨a, rfl, hr.avs⟩
 | val u => exact (CVRep.mono g (c := .val u) h).av
 | box cs => exact (CVRep.mono g (c := .box cs) h).av
 | fn g' caps => exact (CVRep.mono g (c := .fn g' caps) h).av
 | any => exact (CVRep.mono g (c := .any) h).av
theorem avC_reps {D X : Nat → Prop} : ∀ {cs : List CV} {vs : List Value}, (∀ (j : Nat) c v, cs[j]? = some c → vs[j]? = some v → CVRep w (fun b => D b ∨ X b) c v) → cs.length = vs.length → AVReps w D H β (cs.map (avC X)) vs
 | [], [], _, _ => by simp [AVReps]
 | c :: cs, v :: vs, h, hl => by
  simp only [List.map_cons, AVReps]
  exact ⟨avC_rep (h 0 c v rfl rfl), avC_reps (fun j c' v' hc hv => h (j + 1) c' v' (by simpa using hc) (by simpa using hv)) (by simpa using hl)⟩
 | [], _ :: _, _, hl => by simp at hl
 | _ :: _, [], _, hl => by simp at hl
theorem CallsR.mono {g : Nat} {vs : List Value} {R R' : Value → World → Prop} (h : CallsR P g vs w R) (hr : ∀ v w', R v w' → R' v w') : CallsR P g vs w R' := by
 rcases h with ⟨fn, h1, h2, h3, h4⟩ | ⟨v, w', h1, h2⟩
 ·exact .inl ⟨fn, h1, h2, h3, h4.mono fun e w' ⟨v, he, hv⟩ => ⟨v, he, hr v w' hv⟩⟩
 ·exact .inr ⟨v, w', h1, hr v w' h2⟩
theorem Rel.dd_lt (R : Rel G M w0 D0 N f H β a w) {b : Nat} (h : DD H β D0 b) : b < w.heap.size := by
 rcases h with h | ⟨k, hm, hk⟩
 ·exact Nat.lt_of_lt_of_le (R.old b h).1 R.size
 ·exact (R.mut_lt hm hk).1
theorem AC.avi {g : Nat} {args : List CV} {res : List CV} (h : AC P g args none res) {avs : List AV} {X : Nat → Prop} {E hE : Nat} (hH : H hE = .mrk E) (hX : ∀ b, X b → b < E)
  (hav : ∀ (w : World) (D : Nat → Prop) (β : Nat → Value) (vs : List Value), AVAll w D H β avs vs → CVReps w (fun b => D b ∨ X b) args vs) : ACI P g avs H (fun x H' => H' = H ∧ x = packA (res.map (avC X))) := by
 refine ⟨⟨_, _, rfl, rfl⟩, fun G M w0 D0 N f β a w vs R hall => ?_⟩
 have hEw := R.mrk _ _ hH
 refine CallsR.mono (h w (fun b => DD H β D0 b ∨ X b) vs (fun b hb => ?_) (hav w _ β vs hall)) fun v w' ⟨hb, us, hv, hr⟩ => ?_
 ·rcases hb with hb | hb
  ·exact R.dd_lt hb
  ·exact Nat.lt_of_lt_of_le (hX b hb) hEw
 ·subst hv
  exact ⟨_, H, β, ⟨rfl, rfl⟩, R.below hb, packV_rep _ _ (avC_reps (fun j c v hc hv => (hr.val j c v (by simp) hc hv).mono (Grows.of_sub fun b hb => .inl hb)) hr.len.symm)⟩
end
end Go.AL
