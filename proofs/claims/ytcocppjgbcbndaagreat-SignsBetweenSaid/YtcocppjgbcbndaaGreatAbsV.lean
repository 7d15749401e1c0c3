/-
  Several numbers; lowest places, heights, weights.
-/
import Derived.Test.YtcocppjgbcbndaaGreatAbsRM
namespace Go.AL
set_option linter.unusedSimpArgs false
set_option linter.unusedVariables false
def natsr (l : List (List Nat)) : List (List IV) := l.map fun a => [.sl (lims a)]
theorem natsr_len (l : List (List Nat)) : (natsr l).length = l.length := by simp [natsr]
theorem natsr_at {l : List (List Nat)} {i : Nat} (h : i < l.length) : (natsr l).getD i [] = [.sl (lims (l.getD i []))] := by simp [natsr, List.getD, h]
theorem natsr_snoc (l : List (List Nat)) (a : List Nat) : natsr l ++ [[.sl (lims a)]] = natsr (l ++ [a]) := by simp [natsr]
theorem natsr_app (l m : List (List Nat)) : natsr l ++ natsr m = natsr (l ++ m) := by simp [natsr]
theorem natsr_rows (l : List (List Nat)) : (∀ r ∈ natsr l, r.length = 1) ↔ True := by simp [natsr]
theorem natsr_nil : natsr [] = [] := rfl
def lw (q : List Int) : Nat := (q.takeWhile (· = 0)).length
theorem lw_at {q : List Int} : ∀ {i : Nat}, (∀ j, j < i → cf q j = 0) → cf q i ≠ 0 → lw q = i := by
  induction q with
  | nil => intro i _ h; rw [cf_nil] at h; exact (h rfl).elim
  | cons x xs ih =>
    intro i h1 h2
    cases i with
    | zero =>
      rw [cf_cons_zero] at h2
      unfold lw; rw [List.takeWhile_cons, if_neg (by simpa using h2)]; rfl
    | succ i =>
      have h0 : x = 0 := by have := h1 0 (by omega); rwa [cf_cons_zero] at this
      rw [cf_cons_succ] at h2
      have := ih (i := i) (fun j hj => by have := h1 (j + 1) (by omega); rwa [cf_cons_succ] at this) h2
      unfold lw at *; rw [List.takeWhile_cons, if_pos (by simpa using h0), List.length_cons, this]
theorem lw_all {q : List Int} (h : ∀ j, j < q.length → cf q j = 0) : lw q = q.length := by
  induction q with
  | nil => rfl
  | cons x xs ih =>
    have h0 : x = 0 := by have := h 0 (by simp); rwa [cf_cons_zero] at this
    have := ih fun j hj => by have := h (j + 1) (by simpa using hj); rwa [cf_cons_succ] at this
    unfold lw at *; rw [List.takeWhile_cons, if_pos (by simpa using h0), List.length_cons, this]; rfl
def hgt (q : List Int) : Nat := q.foldl (fun m z => max m z.natAbs) 0
def cmpZ (x y : Int) : Int := if x < y then -1 else if y < x then 1 else 0
end Go.AL
