/-
  DERIVED. GIVEN WITH THE SEED: THE CARDS: each row of YtnhghmibjddlkaaGreatDoorRows.lean that lists a variable, with what it lists TIED to the program's text (the seventh form; the later family's looks); each row that meets fmt, with fmt's text TOLD by the authors' own Lean function (tested against real Go, not proved from fmt's source: count such statements apart). THE CARD IS WHAT COUNTS. Prove the row's statement (the work); the ties are given (YtnhghmibjddlkaaGreatDoorTie.lean); close each card by the builder's one call (the guide's Derived/Test/ToyasCard.lean, 'card_holds'). Laid BY PROGRAM, IN A SANDBOX (cutbox-door.mjs). By AI agents, Wed Nov 11 2026. No macro, syntax, notation, axiom, sorry.
-/
import Derived.Test.YtnhghmibjddlkaaGreatDoorRows
import GoSem.ClaimSeven
namespace Go.Proofs.YtnhghmibjddlkaaGreatDoor
namespace Rows

/-- THE TIED CARD OF 'surdtop.SurdCells'. -/
def surdCellsCard : Claim7 := { stood := { row := surdCellsRow, standIns := [], harness := (true, "171818f0cea2ba1665adf521ef1db982147bc585793315fd3f79eb2d17dd25c6"), looks := false }, kinds := [], alts := [], laidByText := true, laidKinds := [.data], laidTests := true, laidLooks := .later }
def SurdCellsCardSaid : Prop := Claim7.holds Tryz.pinned (.plain (OpenSpec.ofChange surdCellsSpec)) surdCellsCard

/-- THE SECOND FORM's CARD OF 'surdtop.SurdCells'. -/
def surdCellsUptoCard : Claim7 := { stood := { row := surdCellsUptoRow, standIns := [], harness := (true, "171818f0cea2ba1665adf521ef1db982147bc585793315fd3f79eb2d17dd25c6"), looks := false }, kinds := [], alts := [], laidByText := true, laidKinds := [.data], laidTests := true, laidLooks := .later }
def SurdCellsUptoCardSaid : Prop := Claim7.holds Tryz.pinned (.plain (OpenSpec.upto surdCellsSpec)) surdCellsUptoCard
end Rows
end Go.Proofs.YtnhghmibjddlkaaGreatDoor
