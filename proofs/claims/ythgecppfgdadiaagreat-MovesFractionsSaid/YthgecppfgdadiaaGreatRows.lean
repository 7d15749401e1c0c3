/-
  No cell of these rows narrows 'for every input' (looked for: loops, veiled, ifaces, maps, wideKeys, modest, calm, conditions, laid).
  DERIVED. THE GIVEN ROWS OF THIS SEAT. 3 by the template 'for every input the law returns true; each argument reads behind the call as it read before'; 0 by the template 'total and deterministic' (their statements: YthgecppfgdadiaaGreatTotals.lean).
  GIVEN WITH THE SEED: the statements are not yours to turn. If you find one false, say at which input.
  Laid BY PROGRAM, IN A SANDBOX (cutbox-rows.mjs): the forced cells as the released guide's own fill.sh prints them over the translation 7c92bf6a72c66ae2… (all of the seat's roots in one cut). By AI agents, Wed Nov 11 2026. No macro, syntax, notation, axiom, sorry.
-/
import Derived.Test.YthgecppfgdadiaaGreatChecked
import GoSem.Claim
import GoSem.ClaimJoined
import GoSem.ClaimMapViews
import Derived.JoinedTies
import Derived.KernelRfl
namespace Go.Proofs.YthgecppfgdadiaaGreat
/- THE CELL 'sum', in the pinned program and in every row, IS THE sha256 OF THE DUMP (.gsa) THAT YthgecppfgdadiaaGreatProg.lean LOADS. Nothing in Lean hashes anything: it is a label: what it is worth is what the hold of that sum in a sandbox is worth. -/
noncomputable def Tryz.pinned : Pinned := { name := "ythgecppfgdadiaagreat", sum := "7c92bf6a72c66ae210b196d5f2adece594d45b10775d57911d1c78c71c234939", checked := Tryz.checked }
namespace Rows
def none {H : Type} : Left H := { results := [], args := [] }

/-- 'surdlaw11.MovesFractions': WHATEVER THE INPUT: true; the input reads as it did. -/
def movesFractionsSpec : ChangeSpec := { name := "movesFractions", fn := fun _ => fun
  | [d] => { results := [.lit (.bool true)], args := [d] }
  | _ => none }
def movesFractionsRow : OpenClaim := { program := "ythgecppfgdadiaagreat", sum := "7c92bf6a72c66ae210b196d5f2adece594d45b10775d57911d1c78c71c234939", func := "surd/surdlaw11.MovesFractions", spec := "movesFractions", inPlace := ["math/bits.Add64", "math/bits.Sub64"], unfollowed := true, recurses := true, apart := false }
def MovesFractionsSaid : Prop := movesFractionsRow.holds Tryz.pinned (OpenSpec.ofChange movesFractionsSpec)

/-- ITS FALSE NEIGHBOUR: 'it returns false'. Refute it at one input. -/
def movesFractionsWrong : ChangeSpec := { name := "movesFractions", fn := fun _ => fun
  | [d] => { results := [.lit (.bool false)], args := [d] }
  | _ => none }
def MovesFractionsWrongFalsely : Prop := movesFractionsRow.holds Tryz.pinned (OpenSpec.ofChange movesFractionsWrong)

/-- 'surdlaw11.MovesPlain': WHATEVER THE INPUT: true; the input reads as it did. -/
def movesPlainSpec : ChangeSpec := { name := "movesPlain", fn := fun _ => fun
  | [d] => { results := [.lit (.bool true)], args := [d] }
  | _ => none }
def movesPlainRow : OpenClaim := { program := "ythgecppfgdadiaagreat", sum := "7c92bf6a72c66ae210b196d5f2adece594d45b10775d57911d1c78c71c234939", func := "surd/surdlaw11.MovesPlain", spec := "movesPlain", inPlace := ["math/bits.Add64", "math/bits.Sub64"], unfollowed := true, recurses := true, apart := false }
def MovesPlainSaid : Prop := movesPlainRow.holds Tryz.pinned (OpenSpec.ofChange movesPlainSpec)

/-- ITS FALSE NEIGHBOUR: 'it returns false'. Refute it at one input. -/
def movesPlainWrong : ChangeSpec := { name := "movesPlain", fn := fun _ => fun
  | [d] => { results := [.lit (.bool false)], args := [d] }
  | _ => none }
def MovesPlainWrongFalsely : Prop := movesPlainRow.holds Tryz.pinned (OpenSpec.ofChange movesPlainWrong)

/-- 'surdlaw09.ZpolyParts': WHATEVER THE INPUT: true; the input reads as it did. -/
def zpolyPartsSpec : ChangeSpec := { name := "zpolyParts", fn := fun _ => fun
  | [d] => { results := [.lit (.bool true)], args := [d] }
  | _ => none }
def zpolyPartsRow : OpenClaim := { program := "ythgecppfgdadiaagreat", sum := "7c92bf6a72c66ae210b196d5f2adece594d45b10775d57911d1c78c71c234939", func := "surd/surdlaw09.ZpolyParts", spec := "zpolyParts", inPlace := ["math/bits.Add64", "math/bits.Sub64"], recurses := true, named := ["math/bits.divideError", "math/bits.overflowError"], apart := false }
def ZpolyPartsSaid : Prop := zpolyPartsRow.holds Tryz.pinned (OpenSpec.ofChange zpolyPartsSpec)

/-- ITS FALSE NEIGHBOUR: 'it returns false'. Refute it at one input. -/
def zpolyPartsWrong : ChangeSpec := { name := "zpolyParts", fn := fun _ => fun
  | [d] => { results := [.lit (.bool false)], args := [d] }
  | _ => none }
def ZpolyPartsWrongFalsely : Prop := zpolyPartsRow.holds Tryz.pinned (OpenSpec.ofChange zpolyPartsWrong)

/- THE SECOND FORM. 'bulk': how many values and letters a reading holds, each counted each time it is reached (what is shared counts as often as it is met; a slice's spare places count too). A statement '..UptoSaid' is the law's where the arguments, and the package variables that the reading takes, are together of bulk at most 1048576: NARROWER than '..Said'. Prove '..Said' where nothing that the law and all that it calls make is longer than what came in: it says more and counts as full. Else prove '..UptoSaid'. A law counts once. -/
mutual
def uptoBulk {H : Type} : DataW H → Nat
  | .lit (.string bytes) => bytes.length + 1
  | .lit _ => 1
  | .nil => 1
  | .ptr d => uptoBulk d + 1
  | .slice elems spare => uptoBulkAll elems + uptoBulkAll spare + 1
  | .agg parts => uptoBulkAll parts + 1
  | .iface _ d => uptoBulk d + 1
  | .map entries => uptoBulkEntries entries + 1
  | .held _ => 1
def uptoBulkAll {H : Type} : List (DataW H) → Nat
  | [] => 0
  | d :: r => uptoBulk d + uptoBulkAll r
def uptoBulkEntries {H : Type} : List (Lit × DataW H) → Nat
  | [] => 0
  | x :: r => uptoBulkEntry x + uptoBulkEntries r
def uptoBulkEntry {H : Type} : Lit × DataW H → Nat
  | (.string bytes, d) => bytes.length + uptoBulk d + 1
  | (_, d) => uptoBulk d + 1
 end
def uptoSmall : (H : Type) → List (DataW H) → Bool := fun _ ds => decide (uptoBulkAll ds ≤ 1048576)
def OpenSpec.upto (s : _root_.Go.ChangeSpec) : _root_.Go.OpenSpec := { _root_.Go.OpenSpec.ofChange s with cond := some uptoSmall }

/-- 'surdlaw11.MovesFractions', WHERE WHAT IT READS IS OF BULK AT MOST 1048576: true; the input reads as it did. -/
def movesFractionsUptoRow : OpenClaim := { program := "ythgecppfgdadiaagreat", sum := "7c92bf6a72c66ae210b196d5f2adece594d45b10775d57911d1c78c71c234939", func := "surd/surdlaw11.MovesFractions", spec := "movesFractions", inPlace := ["math/bits.Add64", "math/bits.Sub64"], unfollowed := true, recurses := true, apart := false, narrowed := true }
def MovesFractionsUptoSaid : Prop := movesFractionsUptoRow.holds Tryz.pinned (OpenSpec.upto movesFractionsSpec)

/-- 'surdlaw11.MovesPlain', WHERE WHAT IT READS IS OF BULK AT MOST 1048576: true; the input reads as it did. -/
def movesPlainUptoRow : OpenClaim := { program := "ythgecppfgdadiaagreat", sum := "7c92bf6a72c66ae210b196d5f2adece594d45b10775d57911d1c78c71c234939", func := "surd/surdlaw11.MovesPlain", spec := "movesPlain", inPlace := ["math/bits.Add64", "math/bits.Sub64"], unfollowed := true, recurses := true, apart := false, narrowed := true }
def MovesPlainUptoSaid : Prop := movesPlainUptoRow.holds Tryz.pinned (OpenSpec.upto movesPlainSpec)

/-- 'surdlaw09.ZpolyParts', WHERE WHAT IT READS IS OF BULK AT MOST 1048576: true; the input reads as it did. -/
def zpolyPartsUptoRow : OpenClaim := { program := "ythgecppfgdadiaagreat", sum := "7c92bf6a72c66ae210b196d5f2adece594d45b10775d57911d1c78c71c234939", func := "surd/surdlaw09.ZpolyParts", spec := "zpolyParts", inPlace := ["math/bits.Add64", "math/bits.Sub64"], recurses := true, named := ["math/bits.divideError", "math/bits.overflowError"], apart := false, narrowed := true }
def ZpolyPartsUptoSaid : Prop := zpolyPartsUptoRow.holds Tryz.pinned (OpenSpec.upto zpolyPartsSpec)

end Rows
end Go.Proofs.YthgecppfgdadiaaGreat
