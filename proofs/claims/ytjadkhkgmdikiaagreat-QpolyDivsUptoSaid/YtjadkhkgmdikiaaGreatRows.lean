/-
  No cell of these rows narrows 'for every input' (looked for: loops, veiled, ifaces, maps, wideKeys, modest, calm, conditions, laid).
  DERIVED. THE GIVEN ROWS OF THIS SEAT. 7 by the template 'for every input the law returns true; each argument reads behind the call as it read before'; 0 by the template 'total and deterministic' (their statements: YtjadkhkgmdikiaaGreatTotals.lean).
  GIVEN WITH THE SEED: the statements are not yours to turn. If you find one false, say at which input.
  Laid BY PROGRAM, IN A SANDBOX (cutbox-rows.mjs): the forced cells as the released guide's own fill.sh prints them over the translation fe73327916c5934d… (all of the seat's roots in one cut). By AI agents, Wed Nov 11 2026. No macro, syntax, notation, axiom, sorry.
-/
import Derived.Test.YtjadkhkgmdikiaaGreatChecked
import GoSem.Claim
import GoSem.ClaimJoined
import GoSem.ClaimMapViews
import Derived.JoinedTies
import Derived.KernelRfl
namespace Go.Proofs.YtjadkhkgmdikiaaGreat
/- THE CELL 'sum', in the pinned program and in every row, IS THE sha256 OF THE DUMP (.gsa) THAT YtjadkhkgmdikiaaGreatProg.lean LOADS. Nothing in Lean hashes anything: it is a label: what it is worth is what the hold of that sum in a sandbox is worth. -/
noncomputable def Tryz.pinned : Pinned := { name := "ytjadkhkgmdikiaagreat", sum := "fe73327916c5934dc527670dbafc9ac5f5064425664f790978a787fe472a3dff", checked := Tryz.checked }
namespace Rows
def none {H : Type} : Left H := { results := [], args := [] }

/-- 'surdlaw12.EvalsValues': WHATEVER THE INPUT: true; the input reads as it did. -/
def evalsValuesSpec : ChangeSpec := { name := "evalsValues", fn := fun _ => fun
  | [d] => { results := [.lit (.bool true)], args := [d] }
  | _ => none }
def evalsValuesRow : OpenClaim := { program := "ytjadkhkgmdikiaagreat", sum := "fe73327916c5934dc527670dbafc9ac5f5064425664f790978a787fe472a3dff", func := "surd/surdlaw12.EvalsValues", spec := "evalsValues", inPlace := ["math/bits.Add64", "math/bits.Sub64"], unfollowed := true, recurses := true, named := ["math/bits.divideError", "math/bits.overflowError"], apart := false }
def EvalsValuesSaid : Prop := evalsValuesRow.holds Tryz.pinned (OpenSpec.ofChange evalsValuesSpec)

/-- ITS FALSE NEIGHBOUR: 'it returns false'. Refute it at one input. -/
def evalsValuesWrong : ChangeSpec := { name := "evalsValues", fn := fun _ => fun
  | [d] => { results := [.lit (.bool false)], args := [d] }
  | _ => none }
def EvalsValuesWrongFalsely : Prop := evalsValuesRow.holds Tryz.pinned (OpenSpec.ofChange evalsValuesWrong)

/-- 'surdlaw12.EvalsSplits': WHATEVER THE INPUT: true; the input reads as it did. -/
def evalsSplitsSpec : ChangeSpec := { name := "evalsSplits", fn := fun _ => fun
  | [d1, d2] => { results := [.lit (.bool true)], args := [d1, d2] }
  | _ => none }
def evalsSplitsRow : OpenClaim := { program := "ytjadkhkgmdikiaagreat", sum := "fe73327916c5934dc527670dbafc9ac5f5064425664f790978a787fe472a3dff", func := "surd/surdlaw12.EvalsSplits", spec := "evalsSplits", inPlace := ["math/bits.Add64", "math/bits.Sub64"], unfollowed := true, recurses := true, named := ["math/bits.divideError", "math/bits.overflowError"], apart := false }
def EvalsSplitsSaid : Prop := evalsSplitsRow.holds Tryz.pinned (OpenSpec.ofChange evalsSplitsSpec)

/-- ITS FALSE NEIGHBOUR: 'it returns false'. Refute it at one input. -/
def evalsSplitsWrong : ChangeSpec := { name := "evalsSplits", fn := fun _ => fun
  | [d1, d2] => { results := [.lit (.bool false)], args := [d1, d2] }
  | _ => none }
def EvalsSplitsWrongFalsely : Prop := evalsSplitsRow.holds Tryz.pinned (OpenSpec.ofChange evalsSplitsWrong)

/-- 'surdlaw10.QpolyClears': WHATEVER THE INPUT: true; the input reads as it did. -/
def qpolyClearsSpec : ChangeSpec := { name := "qpolyClears", fn := fun _ => fun
  | [d1, d2] => { results := [.lit (.bool true)], args := [d1, d2] }
  | _ => none }
def qpolyClearsRow : OpenClaim := { program := "ytjadkhkgmdikiaagreat", sum := "fe73327916c5934dc527670dbafc9ac5f5064425664f790978a787fe472a3dff", func := "surd/surdlaw10.QpolyClears", spec := "qpolyClears", inPlace := ["math/bits.Add64", "math/bits.Sub64"], recurses := true, named := ["math/bits.divideError", "math/bits.overflowError"], apart := false }
def QpolyClearsSaid : Prop := qpolyClearsRow.holds Tryz.pinned (OpenSpec.ofChange qpolyClearsSpec)

/-- ITS FALSE NEIGHBOUR: 'it returns false'. Refute it at one input. -/
def qpolyClearsWrong : ChangeSpec := { name := "qpolyClears", fn := fun _ => fun
  | [d1, d2] => { results := [.lit (.bool false)], args := [d1, d2] }
  | _ => none }
def QpolyClearsWrongFalsely : Prop := qpolyClearsRow.holds Tryz.pinned (OpenSpec.ofChange qpolyClearsWrong)

/-- 'surdlaw10.QpolyForms': WHATEVER THE INPUT: true; the input reads as it did. -/
def qpolyFormsSpec : ChangeSpec := { name := "qpolyForms", fn := fun _ => fun
  | [d1, d2, d3] => { results := [.lit (.bool true)], args := [d1, d2, d3] }
  | _ => none }
def qpolyFormsRow : OpenClaim := { program := "ytjadkhkgmdikiaagreat", sum := "fe73327916c5934dc527670dbafc9ac5f5064425664f790978a787fe472a3dff", func := "surd/surdlaw10.QpolyForms", spec := "qpolyForms", inPlace := ["math/bits.Add64", "math/bits.Sub64"], unfollowed := true, recurses := true, named := ["math/bits.divideError", "math/bits.overflowError"], apart := false }
def QpolyFormsSaid : Prop := qpolyFormsRow.holds Tryz.pinned (OpenSpec.ofChange qpolyFormsSpec)

/-- ITS FALSE NEIGHBOUR: 'it returns false'. Refute it at one input. -/
def qpolyFormsWrong : ChangeSpec := { name := "qpolyForms", fn := fun _ => fun
  | [d1, d2, d3] => { results := [.lit (.bool false)], args := [d1, d2, d3] }
  | _ => none }
def QpolyFormsWrongFalsely : Prop := qpolyFormsRow.holds Tryz.pinned (OpenSpec.ofChange qpolyFormsWrong)

/-- 'surdlaw12.EvalsHomo': WHATEVER THE INPUT: true; the input reads as it did. -/
def evalsHomoSpec : ChangeSpec := { name := "evalsHomo", fn := fun _ => fun
  | [d] => { results := [.lit (.bool true)], args := [d] }
  | _ => none }
def evalsHomoRow : OpenClaim := { program := "ytjadkhkgmdikiaagreat", sum := "fe73327916c5934dc527670dbafc9ac5f5064425664f790978a787fe472a3dff", func := "surd/surdlaw12.EvalsHomo", spec := "evalsHomo", inPlace := ["math/bits.Add64", "math/bits.Sub64"], unfollowed := true, recurses := true, named := ["math/bits.divideError", "math/bits.overflowError"], apart := false }
def EvalsHomoSaid : Prop := evalsHomoRow.holds Tryz.pinned (OpenSpec.ofChange evalsHomoSpec)

/-- ITS FALSE NEIGHBOUR: 'it returns false'. Refute it at one input. -/
def evalsHomoWrong : ChangeSpec := { name := "evalsHomo", fn := fun _ => fun
  | [d] => { results := [.lit (.bool false)], args := [d] }
  | _ => none }
def EvalsHomoWrongFalsely : Prop := evalsHomoRow.holds Tryz.pinned (OpenSpec.ofChange evalsHomoWrong)

/-- 'surdlaw10.QpolyLaws': WHATEVER THE INPUT: true; the input reads as it did. -/
def qpolyLawsSpec : ChangeSpec := { name := "qpolyLaws", fn := fun _ => fun
  | [d1, d2, d3] => { results := [.lit (.bool true)], args := [d1, d2, d3] }
  | _ => none }
def qpolyLawsRow : OpenClaim := { program := "ytjadkhkgmdikiaagreat", sum := "fe73327916c5934dc527670dbafc9ac5f5064425664f790978a787fe472a3dff", func := "surd/surdlaw10.QpolyLaws", spec := "qpolyLaws", inPlace := ["math/bits.Add64", "math/bits.Sub64"], unfollowed := true, recurses := true, named := ["math/bits.divideError", "math/bits.overflowError"], apart := false }
def QpolyLawsSaid : Prop := qpolyLawsRow.holds Tryz.pinned (OpenSpec.ofChange qpolyLawsSpec)

/-- ITS FALSE NEIGHBOUR: 'it returns false'. Refute it at one input. -/
def qpolyLawsWrong : ChangeSpec := { name := "qpolyLaws", fn := fun _ => fun
  | [d1, d2, d3] => { results := [.lit (.bool false)], args := [d1, d2, d3] }
  | _ => none }
def QpolyLawsWrongFalsely : Prop := qpolyLawsRow.holds Tryz.pinned (OpenSpec.ofChange qpolyLawsWrong)

/-- 'surdlaw10.QpolyDivs': WHATEVER THE INPUT: true; the input reads as it did. -/
def qpolyDivsSpec : ChangeSpec := { name := "qpolyDivs", fn := fun _ => fun
  | [d1, d2] => { results := [.lit (.bool true)], args := [d1, d2] }
  | _ => none }
def qpolyDivsRow : OpenClaim := { program := "ytjadkhkgmdikiaagreat", sum := "fe73327916c5934dc527670dbafc9ac5f5064425664f790978a787fe472a3dff", func := "surd/surdlaw10.QpolyDivs", spec := "qpolyDivs", inPlace := ["math/bits.Add64", "math/bits.Sub64"], unfollowed := true, recurses := true, named := ["math/bits.divideError", "math/bits.overflowError"], apart := false }
def QpolyDivsSaid : Prop := qpolyDivsRow.holds Tryz.pinned (OpenSpec.ofChange qpolyDivsSpec)

/-- ITS FALSE NEIGHBOUR: 'it returns false'. Refute it at one input. -/
def qpolyDivsWrong : ChangeSpec := { name := "qpolyDivs", fn := fun _ => fun
  | [d1, d2] => { results := [.lit (.bool false)], args := [d1, d2] }
  | _ => none }
def QpolyDivsWrongFalsely : Prop := qpolyDivsRow.holds Tryz.pinned (OpenSpec.ofChange qpolyDivsWrong)

/- THE SECOND FORM. 'bulk': how many values and letters a reading holds, each counted each time it is reached (what is shared counts as often as it is met; a slice's spare places count too). A statement '..UptoSaid' is the law's where the arguments, and the package variables that the reading takes, are together of bulk at most 1048576: NARROWER than '..Said'. Prove '..Said' where nothing that the law and all that it calls make is longer than what came in: it says more and counts as full. Else prove '..UptoSaid'. A law counts once. -/
mutual
def uptoBulk {H : Type} : DataW H → Nat
  | .lit (.string bytes) => bytes.length + 1
  | .lit _ => 1
  | .nil => 1
  | .ptr d => uptoBulk d + 1
  | .slice elems spare => uptoBulkAll elems + uptoBulkAll spare + 1
  | .agg parts => uptoBulkAll parts + 1
  | .iface _ d => uptoBulk d + 1
  | .map entries => uptoBulkEntries entries + 1
  | .held _ => 1
def uptoBulkAll {H : Type} : List (DataW H) → Nat
  | [] => 0
  | d :: r => uptoBulk d + uptoBulkAll r
def uptoBulkEntries {H : Type} : List (Lit × DataW H) → Nat
  | [] => 0
  | x :: r => uptoBulkEntry x + uptoBulkEntries r
def uptoBulkEntry {H : Type} : Lit × DataW H → Nat
  | (.string bytes, d) => bytes.length + uptoBulk d + 1
  | (_, d) => uptoBulk d + 1
 end
def uptoSmall : (H : Type) → List (DataW H) → Bool := fun _ ds => decide (uptoBulkAll ds ≤ 1048576)
def OpenSpec.upto (s : _root_.Go.ChangeSpec) : _root_.Go.OpenSpec := { _root_.Go.OpenSpec.ofChange s with cond := some uptoSmall }

/-- 'surdlaw12.EvalsValues', WHERE WHAT IT READS IS OF BULK AT MOST 1048576: true; the input reads as it did. -/
def evalsValuesUptoRow : OpenClaim := { program := "ytjadkhkgmdikiaagreat", sum := "fe73327916c5934dc527670dbafc9ac5f5064425664f790978a787fe472a3dff", func := "surd/surdlaw12.EvalsValues", spec := "evalsValues", inPlace := ["math/bits.Add64", "math/bits.Sub64"], unfollowed := true, recurses := true, named := ["math/bits.divideError", "math/bits.overflowError"], apart := false, narrowed := true }
def EvalsValuesUptoSaid : Prop := evalsValuesUptoRow.holds Tryz.pinned (OpenSpec.upto evalsValuesSpec)

/-- 'surdlaw12.EvalsSplits', WHERE WHAT IT READS IS OF BULK AT MOST 1048576: true; the input reads as it did. -/
def evalsSplitsUptoRow : OpenClaim := { program := "ytjadkhkgmdikiaagreat", sum := "fe73327916c5934dc527670dbafc9ac5f5064425664f790978a787fe472a3dff", func := "surd/surdlaw12.EvalsSplits", spec := "evalsSplits", inPlace := ["math/bits.Add64", "math/bits.Sub64"], unfollowed := true, recurses := true, named := ["math/bits.divideError", "math/bits.overflowError"], apart := false, narrowed := true }
def EvalsSplitsUptoSaid : Prop := evalsSplitsUptoRow.holds Tryz.pinned (OpenSpec.upto evalsSplitsSpec)

/-- 'surdlaw10.QpolyClears', WHERE WHAT IT READS IS OF BULK AT MOST 1048576: true; the input reads as it did. -/
def qpolyClearsUptoRow : OpenClaim := { program := "ytjadkhkgmdikiaagreat", sum := "fe73327916c5934dc527670dbafc9ac5f5064425664f790978a787fe472a3dff", func := "surd/surdlaw10.QpolyClears", spec := "qpolyClears", inPlace := ["math/bits.Add64", "math/bits.Sub64"], recurses := true, named := ["math/bits.divideError", "math/bits.overflowError"], apart := false, narrowed := true }
def QpolyClearsUptoSaid : Prop := qpolyClearsUptoRow.holds Tryz.pinned (OpenSpec.upto qpolyClearsSpec)

/-- 'surdlaw10.QpolyForms', WHERE WHAT IT READS IS OF BULK AT MOST 1048576: true; the input reads as it did. -/
def qpolyFormsUptoRow : OpenClaim := { program := "ytjadkhkgmdikiaagreat", sum := "fe73327916c5934dc527670dbafc9ac5f5064425664f790978a787fe472a3dff", func := "surd/surdlaw10.QpolyForms", spec := "qpolyForms", inPlace := ["math/bits.Add64", "math/bits.Sub64"], unfollowed := true, recurses := true, named := ["math/bits.divideError", "math/bits.overflowError"], apart := false, narrowed := true }
def QpolyFormsUptoSaid : Prop := qpolyFormsUptoRow.holds Tryz.pinned (OpenSpec.upto qpolyFormsSpec)

/-- 'surdlaw12.EvalsHomo', WHERE WHAT IT READS IS OF BULK AT MOST 1048576: true; the input reads as it did. -/
def evalsHomoUptoRow : OpenClaim := { program := "ytjadkhkgmdikiaagreat", sum := "fe73327916c5934dc527670dbafc9ac5f5064425664f790978a787fe472a3dff", func := "surd/surdlaw12.EvalsHomo", spec := "evalsHomo", inPlace := ["math/bits.Add64", "math/bits.Sub64"], unfollowed := true, recurses := true, named := ["math/bits.divideError", "math/bits.overflowError"], apart := false, narrowed := true }
def EvalsHomoUptoSaid : Prop := evalsHomoUptoRow.holds Tryz.pinned (OpenSpec.upto evalsHomoSpec)

/-- 'surdlaw10.QpolyLaws', WHERE WHAT IT READS IS OF BULK AT MOST 1048576: true; the input reads as it did. -/
def qpolyLawsUptoRow : OpenClaim := { program := "ytjadkhkgmdikiaagreat", sum := "fe73327916c5934dc527670dbafc9ac5f5064425664f790978a787fe472a3dff", func := "surd/surdlaw10.QpolyLaws", spec := "qpolyLaws", inPlace := ["math/bits.Add64", "math/bits.Sub64"], unfollowed := true, recurses := true, named := ["math/bits.divideError", "math/bits.overflowError"], apart := false, narrowed := true }
def QpolyLawsUptoSaid : Prop := qpolyLawsUptoRow.holds Tryz.pinned (OpenSpec.upto qpolyLawsSpec)

/-- 'surdlaw10.QpolyDivs', WHERE WHAT IT READS IS OF BULK AT MOST 1048576: true; the input reads as it did. -/
def qpolyDivsUptoRow : OpenClaim := { program := "ytjadkhkgmdikiaagreat", sum := "fe73327916c5934dc527670dbafc9ac5f5064425664f790978a787fe472a3dff", func := "surd/surdlaw10.QpolyDivs", spec := "qpolyDivs", inPlace := ["math/bits.Add64", "math/bits.Sub64"], unfollowed := true, recurses := true, named := ["math/bits.divideError", "math/bits.overflowError"], apart := false, narrowed := true }
def QpolyDivsUptoSaid : Prop := qpolyDivsUptoRow.holds Tryz.pinned (OpenSpec.upto qpolyDivsSpec)

end Rows
end Go.Proofs.YtjadkhkgmdikiaaGreat
