/-
  No cell of these rows narrows 'for every input' (looked for: loops, veiled, ifaces, maps, wideKeys, modest, calm, conditions, laid).
  DERIVED. THE GIVEN ROWS OF THIS SEAT. 4 by the template 'for every input the law returns true; each argument reads behind the call as it read before'; 0 by the template 'total and deterministic' (their statements: YtcjnacpekbhhcaaGreatTotals.lean).
  GIVEN WITH THE SEED: the statements are not yours to turn. If you find one false, say at which input.
  Laid BY PROGRAM, IN A SANDBOX (cutbox-rows.mjs): the forced cells as the released guide's own fill.sh prints them over the translation 46fc1668d51546e0… (all of the seat's roots in one cut). By AI agents, Wed Nov 11 2026. No macro, syntax, notation, axiom, sorry.
-/
import Derived.Test.YtcjnacpekbhhcaaGreatChecked
import GoSem.Claim
import GoSem.ClaimJoined
import GoSem.ClaimMapViews
import Derived.JoinedTies
import Derived.KernelRfl
namespace Go.Proofs.YtcjnacpekbhhcaaGreat
/- THE CELL 'sum', in the pinned program and in every row, IS THE sha256 OF THE DUMP (.gsa) THAT YtcjnacpekbhhcaaGreatProg.lean LOADS. Nothing in Lean hashes anything: it is a label: what it is worth is what the hold of that sum in a sandbox is worth. -/
noncomputable def Tryz.pinned : Pinned := { name := "ytcjnacpekbhhcaagreat", sum := "46fc1668d51546e01b39b88d7746a3955bcd548f5337b4f56b41f74304661196", checked := Tryz.checked }
namespace Rows
def none {H : Type} : Left H := { results := [], args := [] }

/-- 'surdlaw12.EvalsTables': WHATEVER THE INPUT: true; the input reads as it did. -/
def evalsTablesSpec : ChangeSpec := { name := "evalsTables", fn := fun _ => fun
  | [d] => { results := [.lit (.bool true)], args := [d] }
  | _ => none }
def evalsTablesRow : OpenClaim := { program := "ytcjnacpekbhhcaagreat", sum := "46fc1668d51546e01b39b88d7746a3955bcd548f5337b4f56b41f74304661196", func := "surd/surdlaw12.EvalsTables", spec := "evalsTables", inPlace := ["math/bits.Add64", "math/bits.Sub64"], unfollowed := true, recurses := true, named := ["math/bits.divideError", "math/bits.overflowError"], apart := false }
def EvalsTablesSaid : Prop := evalsTablesRow.holds Tryz.pinned (OpenSpec.ofChange evalsTablesSpec)

/-- ITS FALSE NEIGHBOUR: 'it returns false'. Refute it at one input. -/
def evalsTablesWrong : ChangeSpec := { name := "evalsTables", fn := fun _ => fun
  | [d] => { results := [.lit (.bool false)], args := [d] }
  | _ => none }
def EvalsTablesWrongFalsely : Prop := evalsTablesRow.holds Tryz.pinned (OpenSpec.ofChange evalsTablesWrong)

/-- 'surdlaw12.EvalsPoints': WHATEVER THE INPUT: true; the input reads as it did. -/
def evalsPointsSpec : ChangeSpec := { name := "evalsPoints", fn := fun _ => fun
  | [d1, d2] => { results := [.lit (.bool true)], args := [d1, d2] }
  | _ => none }
def evalsPointsRow : OpenClaim := { program := "ytcjnacpekbhhcaagreat", sum := "46fc1668d51546e01b39b88d7746a3955bcd548f5337b4f56b41f74304661196", func := "surd/surdlaw12.EvalsPoints", spec := "evalsPoints", inPlace := ["math/bits.Add64", "math/bits.Sub64"], unfollowed := true, recurses := true, named := ["math/bits.divideError", "math/bits.overflowError"], apart := false }
def EvalsPointsSaid : Prop := evalsPointsRow.holds Tryz.pinned (OpenSpec.ofChange evalsPointsSpec)

/-- ITS FALSE NEIGHBOUR: 'it returns false'. Refute it at one input. -/
def evalsPointsWrong : ChangeSpec := { name := "evalsPoints", fn := fun _ => fun
  | [d1, d2] => { results := [.lit (.bool false)], args := [d1, d2] }
  | _ => none }
def EvalsPointsWrongFalsely : Prop := evalsPointsRow.holds Tryz.pinned (OpenSpec.ofChange evalsPointsWrong)

/-- 'surdlaw10.QpolyBack': WHATEVER THE INPUT: true; the input reads as it did. -/
def qpolyBackSpec : ChangeSpec := { name := "qpolyBack", fn := fun _ => fun
  | [d1, d2, d3] => { results := [.lit (.bool true)], args := [d1, d2, d3] }
  | _ => none }
def qpolyBackRow : OpenClaim := { program := "ytcjnacpekbhhcaagreat", sum := "46fc1668d51546e01b39b88d7746a3955bcd548f5337b4f56b41f74304661196", func := "surd/surdlaw10.QpolyBack", spec := "qpolyBack", inPlace := ["math/bits.Add64", "math/bits.Sub64"], unfollowed := true, recurses := true, named := ["math/bits.divideError", "math/bits.overflowError"], apart := false }
def QpolyBackSaid : Prop := qpolyBackRow.holds Tryz.pinned (OpenSpec.ofChange qpolyBackSpec)

/-- ITS FALSE NEIGHBOUR: 'it returns false'. Refute it at one input. -/
def qpolyBackWrong : ChangeSpec := { name := "qpolyBack", fn := fun _ => fun
  | [d1, d2, d3] => { results := [.lit (.bool false)], args := [d1, d2, d3] }
  | _ => none }
def QpolyBackWrongFalsely : Prop := qpolyBackRow.holds Tryz.pinned (OpenSpec.ofChange qpolyBackWrong)

/-- 'surdlaw13.PrsDets': WHATEVER THE INPUT: true; the input reads as it did. -/
def prsDetsSpec : ChangeSpec := { name := "prsDets", fn := fun _ => fun
  | [d] => { results := [.lit (.bool true)], args := [d] }
  | _ => none }
def prsDetsRow : OpenClaim := { program := "ytcjnacpekbhhcaagreat", sum := "46fc1668d51546e01b39b88d7746a3955bcd548f5337b4f56b41f74304661196", func := "surd/surdlaw13.PrsDets", spec := "prsDets", inPlace := ["math/bits.Add64", "math/bits.Sub64"], unfollowed := true, recurses := true, named := ["math/bits.divideError", "math/bits.overflowError"], apart := false }
def PrsDetsSaid : Prop := prsDetsRow.holds Tryz.pinned (OpenSpec.ofChange prsDetsSpec)

/-- ITS FALSE NEIGHBOUR: 'it returns false'. Refute it at one input. -/
def prsDetsWrong : ChangeSpec := { name := "prsDets", fn := fun _ => fun
  | [d] => { results := [.lit (.bool false)], args := [d] }
  | _ => none }
def PrsDetsWrongFalsely : Prop := prsDetsRow.holds Tryz.pinned (OpenSpec.ofChange prsDetsWrong)

/- THE SECOND FORM. 'bulk': how many values and letters a reading holds, each counted each time it is reached (what is shared counts as often as it is met; a slice's spare places count too). A statement '..UptoSaid' is the law's where the arguments, and the package variables that the reading takes, are together of bulk at most 1048576: NARROWER than '..Said'. Prove '..Said' where nothing that the law and all that it calls make is longer than what came in: it says more and counts as full. Else prove '..UptoSaid'. A law counts once. -/
mutual
def uptoBulk {H : Type} : DataW H → Nat
  | .lit (.string bytes) => bytes.length + 1
  | .lit _ => 1
  | .nil => 1
  | .ptr d => uptoBulk d + 1
  | .slice elems spare => uptoBulkAll elems + uptoBulkAll spare + 1
  | .agg parts => uptoBulkAll parts + 1
  | .iface _ d => uptoBulk d + 1
  | .map entries => uptoBulkEntries entries + 1
  | .held _ => 1
def uptoBulkAll {H : Type} : List (DataW H) → Nat
  | [] => 0
  | d :: r => uptoBulk d + uptoBulkAll r
def uptoBulkEntries {H : Type} : List (Lit × DataW H) → Nat
  | [] => 0
  | x :: r => uptoBulkEntry x + uptoBulkEntries r
def uptoBulkEntry {H : Type} : Lit × DataW H → Nat
  | (.string bytes, d) => bytes.length + uptoBulk d + 1
  | (_, d) => uptoBulk d + 1
 end
def uptoSmall : (H : Type) → List (DataW H) → Bool := fun _ ds => decide (uptoBulkAll ds ≤ 1048576)
def OpenSpec.upto (s : _root_.Go.ChangeSpec) : _root_.Go.OpenSpec := { _root_.Go.OpenSpec.ofChange s with cond := some uptoSmall }

/-- 'surdlaw12.EvalsTables', WHERE WHAT IT READS IS OF BULK AT MOST 1048576: true; the input reads as it did. -/
def evalsTablesUptoRow : OpenClaim := { program := "ytcjnacpekbhhcaagreat", sum := "46fc1668d51546e01b39b88d7746a3955bcd548f5337b4f56b41f74304661196", func := "surd/surdlaw12.EvalsTables", spec := "evalsTables", inPlace := ["math/bits.Add64", "math/bits.Sub64"], unfollowed := true, recurses := true, named := ["math/bits.divideError", "math/bits.overflowError"], apart := false, narrowed := true }
def EvalsTablesUptoSaid : Prop := evalsTablesUptoRow.holds Tryz.pinned (OpenSpec.upto evalsTablesSpec)

/-- 'surdlaw12.EvalsPoints', WHERE WHAT IT READS IS OF BULK AT MOST 1048576: true; the input reads as it did. -/
def evalsPointsUptoRow : OpenClaim := { program := "ytcjnacpekbhhcaagreat", sum := "46fc1668d51546e01b39b88d7746a3955bcd548f5337b4f56b41f74304661196", func := "surd/surdlaw12.EvalsPoints", spec := "evalsPoints", inPlace := ["math/bits.Add64", "math/bits.Sub64"], unfollowed := true, recurses := true, named := ["math/bits.divideError", "math/bits.overflowError"], apart := false, narrowed := true }
def EvalsPointsUptoSaid : Prop := evalsPointsUptoRow.holds Tryz.pinned (OpenSpec.upto evalsPointsSpec)

/-- 'surdlaw10.QpolyBack', WHERE WHAT IT READS IS OF BULK AT MOST 1048576: true; the input reads as it did. -/
def qpolyBackUptoRow : OpenClaim := { program := "ytcjnacpekbhhcaagreat", sum := "46fc1668d51546e01b39b88d7746a3955bcd548f5337b4f56b41f74304661196", func := "surd/surdlaw10.QpolyBack", spec := "qpolyBack", inPlace := ["math/bits.Add64", "math/bits.Sub64"], unfollowed := true, recurses := true, named := ["math/bits.divideError", "math/bits.overflowError"], apart := false, narrowed := true }
def QpolyBackUptoSaid : Prop := qpolyBackUptoRow.holds Tryz.pinned (OpenSpec.upto qpolyBackSpec)

/-- 'surdlaw13.PrsDets', WHERE WHAT IT READS IS OF BULK AT MOST 1048576: true; the input reads as it did. -/
def prsDetsUptoRow : OpenClaim := { program := "ytcjnacpekbhhcaagreat", sum := "46fc1668d51546e01b39b88d7746a3955bcd548f5337b4f56b41f74304661196", func := "surd/surdlaw13.PrsDets", spec := "prsDets", inPlace := ["math/bits.Add64", "math/bits.Sub64"], unfollowed := true, recurses := true, named := ["math/bits.divideError", "math/bits.overflowError"], apart := false, narrowed := true }
def PrsDetsUptoSaid : Prop := prsDetsUptoRow.holds Tryz.pinned (OpenSpec.upto prsDetsSpec)

end Rows
end Go.Proofs.YtcjnacpekbhhcaaGreat
