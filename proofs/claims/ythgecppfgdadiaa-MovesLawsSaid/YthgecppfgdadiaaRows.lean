/-
  No cell of these rows narrows 'for every input' (looked for: loops, veiled, ifaces, maps, wideKeys, modest, calm, conditions, laid).
  DERIVED. THE GIVEN ROWS OF THIS SEAT. 8 by the template 'for every input the law returns true; each argument reads behind the call as it read before'; 0 by the template 'total and deterministic' (their statements: YthgecppfgdadiaaTotals.lean).
  GIVEN WITH THE SEED: the statements are not yours to turn. If you find one false, say at which input.
  Laid BY PROGRAM, IN A SANDBOX (cutbox-rows.mjs): the forced cells as the released guide's own fill.sh prints them over the translation 2284cda0cd1d363d… (all of the seat's roots in one cut). By AI agents, Wed Nov 11 2026. No macro, syntax, notation, axiom, sorry.
-/
import Derived.Test.YthgecppfgdadiaaChecked
import GoSem.Claim
import GoSem.ClaimJoined
import GoSem.ClaimMapViews
import Derived.JoinedTies
import Derived.KernelRfl
namespace Go.Proofs.Ythgecppfgdadiaa
/- THE CELL 'sum', in the pinned program and in every row, IS THE sha256 OF THE DUMP (.gsa) THAT YthgecppfgdadiaaProg.lean LOADS. Nothing in Lean hashes anything: it is a label: what it is worth is what the hold of that sum in a sandbox is worth. -/
noncomputable def Try.pinned : Pinned := { name := "ythgecppfgdadiaa", sum := "2284cda0cd1d363d0512f95537d9a6cb9a36b85d9dfa1fd4eb1f809ef0b96745", checked := Try.checked }
namespace Rows
def none {H : Type} : Left H := { results := [], args := [] }

/-- 'surdlaw09.ZpolyLaws': WHATEVER THE INPUT: true; the input reads as it did. -/
def zpolyLawsSpec : ChangeSpec := { name := "zpolyLaws", fn := fun _ => fun
  | [d1, d2, d3] => { results := [.lit (.bool true)], args := [d1, d2, d3] }
  | _ => none }
def zpolyLawsRow : OpenClaim := { program := "ythgecppfgdadiaa", sum := "2284cda0cd1d363d0512f95537d9a6cb9a36b85d9dfa1fd4eb1f809ef0b96745", func := "surd/surdlaw09.ZpolyLaws", spec := "zpolyLaws", inPlace := ["math/bits.Add64", "math/bits.Sub64"], recurses := true, apart := false }
def ZpolyLawsSaid : Prop := zpolyLawsRow.holds Try.pinned (OpenSpec.ofChange zpolyLawsSpec)

/-- ITS FALSE NEIGHBOUR: 'it returns false'. Refute it at one input. -/
def zpolyLawsWrong : ChangeSpec := { name := "zpolyLaws", fn := fun _ => fun
  | [d1, d2, d3] => { results := [.lit (.bool false)], args := [d1, d2, d3] }
  | _ => none }
def ZpolyLawsWrongFalsely : Prop := zpolyLawsRow.holds Try.pinned (OpenSpec.ofChange zpolyLawsWrong)

/-- 'surdlaw09.ZpolyLeibniz': WHATEVER THE INPUT: true; the input reads as it did. -/
def zpolyLeibnizSpec : ChangeSpec := { name := "zpolyLeibniz", fn := fun _ => fun
  | [d1, d2, d3] => { results := [.lit (.bool true)], args := [d1, d2, d3] }
  | _ => none }
def zpolyLeibnizRow : OpenClaim := { program := "ythgecppfgdadiaa", sum := "2284cda0cd1d363d0512f95537d9a6cb9a36b85d9dfa1fd4eb1f809ef0b96745", func := "surd/surdlaw09.ZpolyLeibniz", spec := "zpolyLeibniz", inPlace := ["math/bits.Add64", "math/bits.Sub64"], recurses := true, apart := false }
def ZpolyLeibnizSaid : Prop := zpolyLeibnizRow.holds Try.pinned (OpenSpec.ofChange zpolyLeibnizSpec)

/-- ITS FALSE NEIGHBOUR: 'it returns false'. Refute it at one input. -/
def zpolyLeibnizWrong : ChangeSpec := { name := "zpolyLeibniz", fn := fun _ => fun
  | [d1, d2, d3] => { results := [.lit (.bool false)], args := [d1, d2, d3] }
  | _ => none }
def ZpolyLeibnizWrongFalsely : Prop := zpolyLeibnizRow.holds Try.pinned (OpenSpec.ofChange zpolyLeibnizWrong)

/-- 'surdlaw09.ZpolyRing': WHATEVER THE INPUT: true; the input reads as it did. -/
def zpolyRingSpec : ChangeSpec := { name := "zpolyRing", fn := fun _ => fun
  | [d] => { results := [.lit (.bool true)], args := [d] }
  | _ => none }
def zpolyRingRow : OpenClaim := { program := "ythgecppfgdadiaa", sum := "2284cda0cd1d363d0512f95537d9a6cb9a36b85d9dfa1fd4eb1f809ef0b96745", func := "surd/surdlaw09.ZpolyRing", spec := "zpolyRing", inPlace := ["math/bits.Add64", "math/bits.Sub64"], recurses := true, apart := false }
def ZpolyRingSaid : Prop := zpolyRingRow.holds Try.pinned (OpenSpec.ofChange zpolyRingSpec)

/-- ITS FALSE NEIGHBOUR: 'it returns false'. Refute it at one input. -/
def zpolyRingWrong : ChangeSpec := { name := "zpolyRing", fn := fun _ => fun
  | [d] => { results := [.lit (.bool false)], args := [d] }
  | _ => none }
def ZpolyRingWrongFalsely : Prop := zpolyRingRow.holds Try.pinned (OpenSpec.ofChange zpolyRingWrong)

/-- 'surdlaw09.ZpolyLooks': WHATEVER THE INPUT: true; the input reads as it did. -/
def zpolyLooksSpec : ChangeSpec := { name := "zpolyLooks", fn := fun _ => fun
  | [d] => { results := [.lit (.bool true)], args := [d] }
  | _ => none }
def zpolyLooksRow : OpenClaim := { program := "ythgecppfgdadiaa", sum := "2284cda0cd1d363d0512f95537d9a6cb9a36b85d9dfa1fd4eb1f809ef0b96745", func := "surd/surdlaw09.ZpolyLooks", spec := "zpolyLooks", inPlace := ["math/bits.Add64", "math/bits.Sub64"], recurses := true, apart := false }
def ZpolyLooksSaid : Prop := zpolyLooksRow.holds Try.pinned (OpenSpec.ofChange zpolyLooksSpec)

/-- ITS FALSE NEIGHBOUR: 'it returns false'. Refute it at one input. -/
def zpolyLooksWrong : ChangeSpec := { name := "zpolyLooks", fn := fun _ => fun
  | [d] => { results := [.lit (.bool false)], args := [d] }
  | _ => none }
def ZpolyLooksWrongFalsely : Prop := zpolyLooksRow.holds Try.pinned (OpenSpec.ofChange zpolyLooksWrong)

/-- 'surdlaw11.MovesValues': WHATEVER THE INPUT: true; the input reads as it did. -/
def movesValuesSpec : ChangeSpec := { name := "movesValues", fn := fun _ => fun
  | [d] => { results := [.lit (.bool true)], args := [d] }
  | _ => none }
def movesValuesRow : OpenClaim := { program := "ythgecppfgdadiaa", sum := "2284cda0cd1d363d0512f95537d9a6cb9a36b85d9dfa1fd4eb1f809ef0b96745", func := "surd/surdlaw11.MovesValues", spec := "movesValues", inPlace := ["math/bits.Add64", "math/bits.Sub64"], unfollowed := true, recurses := true, apart := false }
def MovesValuesSaid : Prop := movesValuesRow.holds Try.pinned (OpenSpec.ofChange movesValuesSpec)

/-- ITS FALSE NEIGHBOUR: 'it returns false'. Refute it at one input. -/
def movesValuesWrong : ChangeSpec := { name := "movesValues", fn := fun _ => fun
  | [d] => { results := [.lit (.bool false)], args := [d] }
  | _ => none }
def MovesValuesWrongFalsely : Prop := movesValuesRow.holds Try.pinned (OpenSpec.ofChange movesValuesWrong)

/-- 'surdlaw11.MovesLaws': WHATEVER THE INPUT: true; the input reads as it did. -/
def movesLawsSpec : ChangeSpec := { name := "movesLaws", fn := fun _ => fun
  | [d] => { results := [.lit (.bool true)], args := [d] }
  | _ => none }
def movesLawsRow : OpenClaim := { program := "ythgecppfgdadiaa", sum := "2284cda0cd1d363d0512f95537d9a6cb9a36b85d9dfa1fd4eb1f809ef0b96745", func := "surd/surdlaw11.MovesLaws", spec := "movesLaws", inPlace := ["math/bits.Add64", "math/bits.Sub64"], unfollowed := true, recurses := true, apart := false }
def MovesLawsSaid : Prop := movesLawsRow.holds Try.pinned (OpenSpec.ofChange movesLawsSpec)

/-- ITS FALSE NEIGHBOUR: 'it returns false'. Refute it at one input. -/
def movesLawsWrong : ChangeSpec := { name := "movesLaws", fn := fun _ => fun
  | [d] => { results := [.lit (.bool false)], args := [d] }
  | _ => none }
def MovesLawsWrongFalsely : Prop := movesLawsRow.holds Try.pinned (OpenSpec.ofChange movesLawsWrong)

/-- 'surdlaw09.ZpolyGauss': WHATEVER THE INPUT: true; the input reads as it did. -/
def zpolyGaussSpec : ChangeSpec := { name := "zpolyGauss", fn := fun _ => fun
  | [d1, d2] => { results := [.lit (.bool true)], args := [d1, d2] }
  | _ => none }
def zpolyGaussRow : OpenClaim := { program := "ythgecppfgdadiaa", sum := "2284cda0cd1d363d0512f95537d9a6cb9a36b85d9dfa1fd4eb1f809ef0b96745", func := "surd/surdlaw09.ZpolyGauss", spec := "zpolyGauss", inPlace := ["math/bits.Add64", "math/bits.Sub64"], recurses := true, named := ["math/bits.divideError", "math/bits.overflowError"], apart := false }
def ZpolyGaussSaid : Prop := zpolyGaussRow.holds Try.pinned (OpenSpec.ofChange zpolyGaussSpec)

/-- ITS FALSE NEIGHBOUR: 'it returns false'. Refute it at one input. -/
def zpolyGaussWrong : ChangeSpec := { name := "zpolyGauss", fn := fun _ => fun
  | [d1, d2] => { results := [.lit (.bool false)], args := [d1, d2] }
  | _ => none }
def ZpolyGaussWrongFalsely : Prop := zpolyGaussRow.holds Try.pinned (OpenSpec.ofChange zpolyGaussWrong)

/-- 'surdlaw13.PrsBack': WHATEVER THE INPUT: true; the input reads as it did. -/
def prsBackSpec : ChangeSpec := { name := "prsBack", fn := fun _ => fun
  | [d1, d2] => { results := [.lit (.bool true)], args := [d1, d2] }
  | _ => none }
def prsBackRow : OpenClaim := { program := "ythgecppfgdadiaa", sum := "2284cda0cd1d363d0512f95537d9a6cb9a36b85d9dfa1fd4eb1f809ef0b96745", func := "surd/surdlaw13.PrsBack", spec := "prsBack", inPlace := ["math/bits.Add64", "math/bits.Sub64"], recurses := true, named := ["math/bits.divideError", "math/bits.overflowError"], apart := false }
def PrsBackSaid : Prop := prsBackRow.holds Try.pinned (OpenSpec.ofChange prsBackSpec)

/-- ITS FALSE NEIGHBOUR: 'it returns false'. Refute it at one input. -/
def prsBackWrong : ChangeSpec := { name := "prsBack", fn := fun _ => fun
  | [d1, d2] => { results := [.lit (.bool false)], args := [d1, d2] }
  | _ => none }
def PrsBackWrongFalsely : Prop := prsBackRow.holds Try.pinned (OpenSpec.ofChange prsBackWrong)

/- THE SECOND FORM. 'bulk': how many values and letters a reading holds, each counted each time it is reached (what is shared counts as often as it is met; a slice's spare places count too). A statement '..UptoSaid' is the law's where the arguments, and the package variables that the reading takes, are together of bulk at most 1048576: NARROWER than '..Said'. Prove '..Said' where nothing that the law and all that it calls make is longer than what came in: it says more and counts as full. Else prove '..UptoSaid'. A law counts once. -/
mutual
def uptoBulk {H : Type} : DataW H → Nat
  | .lit (.string bytes) => bytes.length + 1
  | .lit _ => 1
  | .nil => 1
  | .ptr d => uptoBulk d + 1
  | .slice elems spare => uptoBulkAll elems + uptoBulkAll spare + 1
  | .agg parts => uptoBulkAll parts + 1
  | .iface _ d => uptoBulk d + 1
  | .map entries => uptoBulkEntries entries + 1
  | .held _ => 1
def uptoBulkAll {H : Type} : List (DataW H) → Nat
  | [] => 0
  | d :: r => uptoBulk d + uptoBulkAll r
def uptoBulkEntries {H : Type} : List (Lit × DataW H) → Nat
  | [] => 0
  | x :: r => uptoBulkEntry x + uptoBulkEntries r
def uptoBulkEntry {H : Type} : Lit × DataW H → Nat
  | (.string bytes, d) => bytes.length + uptoBulk d + 1
  | (_, d) => uptoBulk d + 1
 end
def uptoSmall : (H : Type) → List (DataW H) → Bool := fun _ ds => decide (uptoBulkAll ds ≤ 1048576)
def OpenSpec.upto (s : _root_.Go.ChangeSpec) : _root_.Go.OpenSpec := { _root_.Go.OpenSpec.ofChange s with cond := some uptoSmall }

/-- 'surdlaw09.ZpolyLaws', WHERE WHAT IT READS IS OF BULK AT MOST 1048576: true; the input reads as it did. -/
def zpolyLawsUptoRow : OpenClaim := { program := "ythgecppfgdadiaa", sum := "2284cda0cd1d363d0512f95537d9a6cb9a36b85d9dfa1fd4eb1f809ef0b96745", func := "surd/surdlaw09.ZpolyLaws", spec := "zpolyLaws", inPlace := ["math/bits.Add64", "math/bits.Sub64"], recurses := true, apart := false, narrowed := true }
def ZpolyLawsUptoSaid : Prop := zpolyLawsUptoRow.holds Try.pinned (OpenSpec.upto zpolyLawsSpec)

/-- 'surdlaw09.ZpolyLeibniz', WHERE WHAT IT READS IS OF BULK AT MOST 1048576: true; the input reads as it did. -/
def zpolyLeibnizUptoRow : OpenClaim := { program := "ythgecppfgdadiaa", sum := "2284cda0cd1d363d0512f95537d9a6cb9a36b85d9dfa1fd4eb1f809ef0b96745", func := "surd/surdlaw09.ZpolyLeibniz", spec := "zpolyLeibniz", inPlace := ["math/bits.Add64", "math/bits.Sub64"], recurses := true, apart := false, narrowed := true }
def ZpolyLeibnizUptoSaid : Prop := zpolyLeibnizUptoRow.holds Try.pinned (OpenSpec.upto zpolyLeibnizSpec)

/-- 'surdlaw09.ZpolyRing', WHERE WHAT IT READS IS OF BULK AT MOST 1048576: true; the input reads as it did. -/
def zpolyRingUptoRow : OpenClaim := { program := "ythgecppfgdadiaa", sum := "2284cda0cd1d363d0512f95537d9a6cb9a36b85d9dfa1fd4eb1f809ef0b96745", func := "surd/surdlaw09.ZpolyRing", spec := "zpolyRing", inPlace := ["math/bits.Add64", "math/bits.Sub64"], recurses := true, apart := false, narrowed := true }
def ZpolyRingUptoSaid : Prop := zpolyRingUptoRow.holds Try.pinned (OpenSpec.upto zpolyRingSpec)

/-- 'surdlaw09.ZpolyLooks', WHERE WHAT IT READS IS OF BULK AT MOST 1048576: true; the input reads as it did. -/
def zpolyLooksUptoRow : OpenClaim := { program := "ythgecppfgdadiaa", sum := "2284cda0cd1d363d0512f95537d9a6cb9a36b85d9dfa1fd4eb1f809ef0b96745", func := "surd/surdlaw09.ZpolyLooks", spec := "zpolyLooks", inPlace := ["math/bits.Add64", "math/bits.Sub64"], recurses := true, apart := false, narrowed := true }
def ZpolyLooksUptoSaid : Prop := zpolyLooksUptoRow.holds Try.pinned (OpenSpec.upto zpolyLooksSpec)

/-- 'surdlaw11.MovesValues', WHERE WHAT IT READS IS OF BULK AT MOST 1048576: true; the input reads as it did. -/
def movesValuesUptoRow : OpenClaim := { program := "ythgecppfgdadiaa", sum := "2284cda0cd1d363d0512f95537d9a6cb9a36b85d9dfa1fd4eb1f809ef0b96745", func := "surd/surdlaw11.MovesValues", spec := "movesValues", inPlace := ["math/bits.Add64", "math/bits.Sub64"], unfollowed := true, recurses := true, apart := false, narrowed := true }
def MovesValuesUptoSaid : Prop := movesValuesUptoRow.holds Try.pinned (OpenSpec.upto movesValuesSpec)

/-- 'surdlaw11.MovesLaws', WHERE WHAT IT READS IS OF BULK AT MOST 1048576: true; the input reads as it did. -/
def movesLawsUptoRow : OpenClaim := { program := "ythgecppfgdadiaa", sum := "2284cda0cd1d363d0512f95537d9a6cb9a36b85d9dfa1fd4eb1f809ef0b96745", func := "surd/surdlaw11.MovesLaws", spec := "movesLaws", inPlace := ["math/bits.Add64", "math/bits.Sub64"], unfollowed := true, recurses := true, apart := false, narrowed := true }
def MovesLawsUptoSaid : Prop := movesLawsUptoRow.holds Try.pinned (OpenSpec.upto movesLawsSpec)

/-- 'surdlaw09.ZpolyGauss', WHERE WHAT IT READS IS OF BULK AT MOST 1048576: true; the input reads as it did. -/
def zpolyGaussUptoRow : OpenClaim := { program := "ythgecppfgdadiaa", sum := "2284cda0cd1d363d0512f95537d9a6cb9a36b85d9dfa1fd4eb1f809ef0b96745", func := "surd/surdlaw09.ZpolyGauss", spec := "zpolyGauss", inPlace := ["math/bits.Add64", "math/bits.Sub64"], recurses := true, named := ["math/bits.divideError", "math/bits.overflowError"], apart := false, narrowed := true }
def ZpolyGaussUptoSaid : Prop := zpolyGaussUptoRow.holds Try.pinned (OpenSpec.upto zpolyGaussSpec)

/-- 'surdlaw13.PrsBack', WHERE WHAT IT READS IS OF BULK AT MOST 1048576: true; the input reads as it did. -/
def prsBackUptoRow : OpenClaim := { program := "ythgecppfgdadiaa", sum := "2284cda0cd1d363d0512f95537d9a6cb9a36b85d9dfa1fd4eb1f809ef0b96745", func := "surd/surdlaw13.PrsBack", spec := "prsBack", inPlace := ["math/bits.Add64", "math/bits.Sub64"], recurses := true, named := ["math/bits.divideError", "math/bits.overflowError"], apart := false, narrowed := true }
def PrsBackUptoSaid : Prop := prsBackUptoRow.holds Try.pinned (OpenSpec.upto prsBackSpec)

end Rows
end Go.Proofs.Ythgecppfgdadiaa
