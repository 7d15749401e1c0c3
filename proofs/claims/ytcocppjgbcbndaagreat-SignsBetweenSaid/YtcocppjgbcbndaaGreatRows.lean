/-
  No cell of these rows narrows 'for every input' (looked for: loops, veiled, ifaces, maps, wideKeys, modest, calm, conditions, laid).
  DERIVED. THE GIVEN ROWS OF THIS SEAT. 3 by the template 'for every input the law returns true; each argument reads behind the call as it read before'; 0 by the template 'total and deterministic' (their statements: YtcocppjgbcbndaaGreatTotals.lean).
  GIVEN WITH THE SEED: the statements are not yours to turn. If you find one false, say at which input.
  Laid BY PROGRAM, IN A SANDBOX (cutbox-rows.mjs): the forced cells as the released guide's own fill.sh prints them over the translation 9100f27e11609fca… (all of the seat's roots in one cut). By AI agents, Wed Nov 11 2026. No macro, syntax, notation, axiom, sorry.
-/
import Derived.Test.YtcocppjgbcbndaaGreatChecked
import GoSem.Claim
import GoSem.ClaimJoined
import GoSem.ClaimMapViews
import Derived.JoinedTies
import Derived.KernelRfl
namespace Go.Proofs.YtcocppjgbcbndaaGreat
/- THE CELL 'sum', in the pinned program and in every row, IS THE sha256 OF THE DUMP (.gsa) THAT YtcocppjgbcbndaaGreatProg.lean LOADS. Nothing in Lean hashes anything: it is a label: what it is worth is what the hold of that sum in a sandbox is worth. -/
noncomputable def Tryz.pinned : Pinned := { name := "ytcocppjgbcbndaagreat", sum := "9100f27e11609fca32bf6c8d109ab402b3aa5df8bc5c7c5a9602153f62c819ad", checked := Tryz.checked }
namespace Rows
def none {H : Type} : Left H := { results := [], args := [] }

/-- 'surdlaw16.SignsDescartes': WHATEVER THE INPUT: true; the input reads as it did. -/
def signsDescartesSpec : ChangeSpec := { name := "signsDescartes", fn := fun _ => fun
  | [d] => { results := [.lit (.bool true)], args := [d] }
  | _ => none }
def signsDescartesRow : OpenClaim := { program := "ytcocppjgbcbndaagreat", sum := "9100f27e11609fca32bf6c8d109ab402b3aa5df8bc5c7c5a9602153f62c819ad", func := "surd/surdlaw16.SignsDescartes", spec := "signsDescartes", inPlace := ["math/bits.Add64", "math/bits.Sub64"], unfollowed := true, recurses := true, named := ["math/bits.divideError", "math/bits.overflowError"], apart := false }
def SignsDescartesSaid : Prop := signsDescartesRow.holds Tryz.pinned (OpenSpec.ofChange signsDescartesSpec)

/-- ITS FALSE NEIGHBOUR: 'it returns false'. Refute it at one input. -/
def signsDescartesWrong : ChangeSpec := { name := "signsDescartes", fn := fun _ => fun
  | [d] => { results := [.lit (.bool false)], args := [d] }
  | _ => none }
def SignsDescartesWrongFalsely : Prop := signsDescartesRow.holds Tryz.pinned (OpenSpec.ofChange signsDescartesWrong)

/-- 'surdlaw16.SignsMoves': WHATEVER THE INPUT: true; the input reads as it did. -/
def signsMovesSpec : ChangeSpec := { name := "signsMoves", fn := fun _ => fun
  | [d1, d2, d3] => { results := [.lit (.bool true)], args := [d1, d2, d3] }
  | _ => none }
def signsMovesRow : OpenClaim := { program := "ytcocppjgbcbndaagreat", sum := "9100f27e11609fca32bf6c8d109ab402b3aa5df8bc5c7c5a9602153f62c819ad", func := "surd/surdlaw16.SignsMoves", spec := "signsMoves", inPlace := ["math/bits.Add64", "math/bits.Sub64"], unfollowed := true, recurses := true, named := ["math/bits.divideError", "math/bits.overflowError"], apart := false }
def SignsMovesSaid : Prop := signsMovesRow.holds Tryz.pinned (OpenSpec.ofChange signsMovesSpec)

/-- ITS FALSE NEIGHBOUR: 'it returns false'. Refute it at one input. -/
def signsMovesWrong : ChangeSpec := { name := "signsMoves", fn := fun _ => fun
  | [d1, d2, d3] => { results := [.lit (.bool false)], args := [d1, d2, d3] }
  | _ => none }
def SignsMovesWrongFalsely : Prop := signsMovesRow.holds Tryz.pinned (OpenSpec.ofChange signsMovesWrong)

/-- 'surdlaw16.SignsBetween': WHATEVER THE INPUT: true; the input reads as it did. -/
def signsBetweenSpec : ChangeSpec := { name := "signsBetween", fn := fun _ => fun
  | [d1, d2] => { results := [.lit (.bool true)], args := [d1, d2] }
  | _ => none }
def signsBetweenRow : OpenClaim := { program := "ytcocppjgbcbndaagreat", sum := "9100f27e11609fca32bf6c8d109ab402b3aa5df8bc5c7c5a9602153f62c819ad", func := "surd/surdlaw16.SignsBetween", spec := "signsBetween", inPlace := ["math/bits.Add64", "math/bits.Sub64"], unfollowed := true, recurses := true, named := ["math/bits.divideError", "math/bits.overflowError"], apart := false }
def SignsBetweenSaid : Prop := signsBetweenRow.holds Tryz.pinned (OpenSpec.ofChange signsBetweenSpec)

/-- ITS FALSE NEIGHBOUR: 'it returns false'. Refute it at one input. -/
def signsBetweenWrong : ChangeSpec := { name := "signsBetween", fn := fun _ => fun
  | [d1, d2] => { results := [.lit (.bool false)], args := [d1, d2] }
  | _ => none }
def SignsBetweenWrongFalsely : Prop := signsBetweenRow.holds Tryz.pinned (OpenSpec.ofChange signsBetweenWrong)

/- THE SECOND FORM. 'bulk': how many values and letters a reading holds, each counted each time it is reached (what is shared counts as often as it is met; a slice's spare places count too). A statement '..UptoSaid' is the law's where the arguments, and the package variables that the reading takes, are together of bulk at most 1048576: NARROWER than '..Said'. Prove '..Said' where nothing that the law and all that it calls make is longer than what came in: it says more and counts as full. Else prove '..UptoSaid'. A law counts once. -/
mutual
def uptoBulk {H : Type} : DataW H → Nat
  | .lit (.string bytes) => bytes.length + 1
  | .lit _ => 1
  | .nil => 1
  | .ptr d => uptoBulk d + 1
  | .slice elems spare => uptoBulkAll elems + uptoBulkAll spare + 1
  | .agg parts => uptoBulkAll parts + 1
  | .iface _ d => uptoBulk d + 1
  | .map entries => uptoBulkEntries entries + 1
  | .held _ => 1
def uptoBulkAll {H : Type} : List (DataW H) → Nat
  | [] => 0
  | d :: r => uptoBulk d + uptoBulkAll r
def uptoBulkEntries {H : Type} : List (Lit × DataW H) → Nat
  | [] => 0
  | x :: r => uptoBulkEntry x + uptoBulkEntries r
def uptoBulkEntry {H : Type} : Lit × DataW H → Nat
  | (.string bytes, d) => bytes.length + uptoBulk d + 1
  | (_, d) => uptoBulk d + 1
 end
def uptoSmall : (H : Type) → List (DataW H) → Bool := fun _ ds => decide (uptoBulkAll ds ≤ 1048576)
def OpenSpec.upto (s : _root_.Go.ChangeSpec) : _root_.Go.OpenSpec := { _root_.Go.OpenSpec.ofChange s with cond := some uptoSmall }

/-- 'surdlaw16.SignsDescartes', WHERE WHAT IT READS IS OF BULK AT MOST 1048576: true; the input reads as it did. -/
def signsDescartesUptoRow : OpenClaim := { program := "ytcocppjgbcbndaagreat", sum := "9100f27e11609fca32bf6c8d109ab402b3aa5df8bc5c7c5a9602153f62c819ad", func := "surd/surdlaw16.SignsDescartes", spec := "signsDescartes", inPlace := ["math/bits.Add64", "math/bits.Sub64"], unfollowed := true, recurses := true, named := ["math/bits.divideError", "math/bits.overflowError"], apart := false, narrowed := true }
def SignsDescartesUptoSaid : Prop := signsDescartesUptoRow.holds Tryz.pinned (OpenSpec.upto signsDescartesSpec)

/-- 'surdlaw16.SignsMoves', WHERE WHAT IT READS IS OF BULK AT MOST 1048576: true; the input reads as it did. -/
def signsMovesUptoRow : OpenClaim := { program := "ytcocppjgbcbndaagreat", sum := "9100f27e11609fca32bf6c8d109ab402b3aa5df8bc5c7c5a9602153f62c819ad", func := "surd/surdlaw16.SignsMoves", spec := "signsMoves", inPlace := ["math/bits.Add64", "math/bits.Sub64"], unfollowed := true, recurses := true, named := ["math/bits.divideError", "math/bits.overflowError"], apart := false, narrowed := true }
def SignsMovesUptoSaid : Prop := signsMovesUptoRow.holds Tryz.pinned (OpenSpec.upto signsMovesSpec)

/-- 'surdlaw16.SignsBetween', WHERE WHAT IT READS IS OF BULK AT MOST 1048576: true; the input reads as it did. -/
def signsBetweenUptoRow : OpenClaim := { program := "ytcocppjgbcbndaagreat", sum := "9100f27e11609fca32bf6c8d109ab402b3aa5df8bc5c7c5a9602153f62c819ad", func := "surd/surdlaw16.SignsBetween", spec := "signsBetween", inPlace := ["math/bits.Add64", "math/bits.Sub64"], unfollowed := true, recurses := true, named := ["math/bits.divideError", "math/bits.overflowError"], apart := false, narrowed := true }
def SignsBetweenUptoSaid : Prop := signsBetweenUptoRow.holds Tryz.pinned (OpenSpec.upto signsBetweenSpec)

end Rows
end Go.Proofs.YtcocppjgbcbndaaGreat
