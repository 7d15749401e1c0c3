/-
  No cell of these rows narrows 'for every input' (looked for: loops, veiled, ifaces, maps, wideKeys, modest, calm, conditions, laid).
  DERIVED. THE GIVEN ROWS OF THIS SEAT. 4 by the template 'for every input the law returns true; each argument reads behind the call as it read before'; 0 by the template 'total and deterministic' (their statements: YtlmkieimciodoaaGreatTotals.lean).
  GIVEN WITH THE SEED: the statements are not yours to turn. If you find one false, say at which input.
  Laid BY PROGRAM, IN A SANDBOX (cutbox-rows.mjs): the forced cells as the released guide's own fill.sh prints them over the translation cadc91100b9833d4… (all of the seat's roots in one cut). By AI agents, Wed Nov 11 2026. No macro, syntax, notation, axiom, sorry.
-/
import Derived.Test.YtlmkieimciodoaaGreatChecked
import GoSem.Claim
import GoSem.ClaimJoined
import GoSem.ClaimMapViews
import Derived.JoinedTies
import Derived.KernelRfl
namespace Go.Proofs.YtlmkieimciodoaaGreat
/- THE CELL 'sum', in the pinned program and in every row, IS THE sha256 OF THE DUMP (.gsa) THAT YtlmkieimciodoaaGreatProg.lean LOADS. Nothing in Lean hashes anything: it is a label: what it is worth is what the hold of that sum in a sandbox is worth. -/
noncomputable def Tryz.pinned : Pinned := { name := "ytlmkieimciodoaagreat", sum := "cadc91100b9833d4c76512626de58a3ab44b39b8ce625ffdaa7d7a0c052035ea", checked := Tryz.checked }
namespace Rows
def none {H : Type} : Left H := { results := [], args := [] }

/-- 'surdlaw14.PgcdDivisors': WHATEVER THE INPUT: true; the input reads as it did. -/
def pgcdDivisorsSpec : ChangeSpec := { name := "pgcdDivisors", fn := fun _ => fun
  | [d] => { results := [.lit (.bool true)], args := [d] }
  | _ => none }
def pgcdDivisorsRow : OpenClaim := { program := "ytlmkieimciodoaagreat", sum := "cadc91100b9833d4c76512626de58a3ab44b39b8ce625ffdaa7d7a0c052035ea", func := "surd/surdlaw14.PgcdDivisors", spec := "pgcdDivisors", inPlace := ["math/bits.Add64", "math/bits.Sub64"], unfollowed := true, recurses := true, named := ["math/bits.divideError", "math/bits.overflowError"], apart := false }
def PgcdDivisorsSaid : Prop := pgcdDivisorsRow.holds Tryz.pinned (OpenSpec.ofChange pgcdDivisorsSpec)

/-- ITS FALSE NEIGHBOUR: 'it returns false'. Refute it at one input. -/
def pgcdDivisorsWrong : ChangeSpec := { name := "pgcdDivisors", fn := fun _ => fun
  | [d] => { results := [.lit (.bool false)], args := [d] }
  | _ => none }
def PgcdDivisorsWrongFalsely : Prop := pgcdDivisorsRow.holds Tryz.pinned (OpenSpec.ofChange pgcdDivisorsWrong)

/-- 'surdlaw14.PgcdQuotients': WHATEVER THE INPUT: true; the input reads as it did. -/
def pgcdQuotientsSpec : ChangeSpec := { name := "pgcdQuotients", fn := fun _ => fun
  | [d] => { results := [.lit (.bool true)], args := [d] }
  | _ => none }
def pgcdQuotientsRow : OpenClaim := { program := "ytlmkieimciodoaagreat", sum := "cadc91100b9833d4c76512626de58a3ab44b39b8ce625ffdaa7d7a0c052035ea", func := "surd/surdlaw14.PgcdQuotients", spec := "pgcdQuotients", inPlace := ["math/bits.Add64", "math/bits.Sub64"], unfollowed := true, recurses := true, named := ["math/bits.divideError", "math/bits.overflowError"], apart := false }
def PgcdQuotientsSaid : Prop := pgcdQuotientsRow.holds Tryz.pinned (OpenSpec.ofChange pgcdQuotientsSpec)

/-- ITS FALSE NEIGHBOUR: 'it returns false'. Refute it at one input. -/
def pgcdQuotientsWrong : ChangeSpec := { name := "pgcdQuotients", fn := fun _ => fun
  | [d] => { results := [.lit (.bool false)], args := [d] }
  | _ => none }
def PgcdQuotientsWrongFalsely : Prop := pgcdQuotientsRow.holds Tryz.pinned (OpenSpec.ofChange pgcdQuotientsWrong)

/-- 'surdlaw14.PgcdLaws': WHATEVER THE INPUT: true; the input reads as it did. -/
def pgcdLawsSpec : ChangeSpec := { name := "pgcdLaws", fn := fun _ => fun
  | [d] => { results := [.lit (.bool true)], args := [d] }
  | _ => none }
def pgcdLawsRow : OpenClaim := { program := "ytlmkieimciodoaagreat", sum := "cadc91100b9833d4c76512626de58a3ab44b39b8ce625ffdaa7d7a0c052035ea", func := "surd/surdlaw14.PgcdLaws", spec := "pgcdLaws", inPlace := ["math/bits.Add64", "math/bits.Sub64"], unfollowed := true, recurses := true, named := ["math/bits.divideError", "math/bits.overflowError"], apart := false }
def PgcdLawsSaid : Prop := pgcdLawsRow.holds Tryz.pinned (OpenSpec.ofChange pgcdLawsSpec)

/-- ITS FALSE NEIGHBOUR: 'it returns false'. Refute it at one input. -/
def pgcdLawsWrong : ChangeSpec := { name := "pgcdLaws", fn := fun _ => fun
  | [d] => { results := [.lit (.bool false)], args := [d] }
  | _ => none }
def PgcdLawsWrongFalsely : Prop := pgcdLawsRow.holds Tryz.pinned (OpenSpec.ofChange pgcdLawsWrong)

/-- 'surdlaw14.PgcdPieces': WHATEVER THE INPUT: true; the input reads as it did. -/
def pgcdPiecesSpec : ChangeSpec := { name := "pgcdPieces", fn := fun _ => fun
  | [d] => { results := [.lit (.bool true)], args := [d] }
  | _ => none }
def pgcdPiecesRow : OpenClaim := { program := "ytlmkieimciodoaagreat", sum := "cadc91100b9833d4c76512626de58a3ab44b39b8ce625ffdaa7d7a0c052035ea", func := "surd/surdlaw14.PgcdPieces", spec := "pgcdPieces", inPlace := ["math/bits.Add64", "math/bits.Sub64"], unfollowed := true, recurses := true, named := ["math/bits.divideError", "math/bits.overflowError"], apart := false }
def PgcdPiecesSaid : Prop := pgcdPiecesRow.holds Tryz.pinned (OpenSpec.ofChange pgcdPiecesSpec)

/-- ITS FALSE NEIGHBOUR: 'it returns false'. Refute it at one input. -/
def pgcdPiecesWrong : ChangeSpec := { name := "pgcdPieces", fn := fun _ => fun
  | [d] => { results := [.lit (.bool false)], args := [d] }
  | _ => none }
def PgcdPiecesWrongFalsely : Prop := pgcdPiecesRow.holds Tryz.pinned (OpenSpec.ofChange pgcdPiecesWrong)

/- THE SECOND FORM. 'bulk': how many values and letters a reading holds, each counted each time it is reached (what is shared counts as often as it is met; a slice's spare places count too). A statement '..UptoSaid' is the law's where the arguments, and the package variables that the reading takes, are together of bulk at most 1048576: NARROWER than '..Said'. Prove '..Said' where nothing that the law and all that it calls make is longer than what came in: it says more and counts as full. Else prove '..UptoSaid'. A law counts once. -/
mutual
def uptoBulk {H : Type} : DataW H → Nat
  | .lit (.string bytes) => bytes.length + 1
  | .lit _ => 1
  | .nil => 1
  | .ptr d => uptoBulk d + 1
  | .slice elems spare => uptoBulkAll elems + uptoBulkAll spare + 1
  | .agg parts => uptoBulkAll parts + 1
  | .iface _ d => uptoBulk d + 1
  | .map entries => uptoBulkEntries entries + 1
  | .held _ => 1
def uptoBulkAll {H : Type} : List (DataW H) → Nat
  | [] => 0
  | d :: r => uptoBulk d + uptoBulkAll r
def uptoBulkEntries {H : Type} : List (Lit × DataW H) → Nat
  | [] => 0
  | x :: r => uptoBulkEntry x + uptoBulkEntries r
def uptoBulkEntry {H : Type} : Lit × DataW H → Nat
  | (.string bytes, d) => bytes.length + uptoBulk d + 1
  | (_, d) => uptoBulk d + 1
 end
def uptoSmall : (H : Type) → List (DataW H) → Bool := fun _ ds => decide (uptoBulkAll ds ≤ 1048576)
def OpenSpec.upto (s : _root_.Go.ChangeSpec) : _root_.Go.OpenSpec := { _root_.Go.OpenSpec.ofChange s with cond := some uptoSmall }

/-- 'surdlaw14.PgcdDivisors', WHERE WHAT IT READS IS OF BULK AT MOST 1048576: true; the input reads as it did. -/
def pgcdDivisorsUptoRow : OpenClaim := { program := "ytlmkieimciodoaagreat", sum := "cadc91100b9833d4c76512626de58a3ab44b39b8ce625ffdaa7d7a0c052035ea", func := "surd/surdlaw14.PgcdDivisors", spec := "pgcdDivisors", inPlace := ["math/bits.Add64", "math/bits.Sub64"], unfollowed := true, recurses := true, named := ["math/bits.divideError", "math/bits.overflowError"], apart := false, narrowed := true }
def PgcdDivisorsUptoSaid : Prop := pgcdDivisorsUptoRow.holds Tryz.pinned (OpenSpec.upto pgcdDivisorsSpec)

/-- 'surdlaw14.PgcdQuotients', WHERE WHAT IT READS IS OF BULK AT MOST 1048576: true; the input reads as it did. -/
def pgcdQuotientsUptoRow : OpenClaim := { program := "ytlmkieimciodoaagreat", sum := "cadc91100b9833d4c76512626de58a3ab44b39b8ce625ffdaa7d7a0c052035ea", func := "surd/surdlaw14.PgcdQuotients", spec := "pgcdQuotients", inPlace := ["math/bits.Add64", "math/bits.Sub64"], unfollowed := true, recurses := true, named := ["math/bits.divideError", "math/bits.overflowError"], apart := false, narrowed := true }
def PgcdQuotientsUptoSaid : Prop := pgcdQuotientsUptoRow.holds Tryz.pinned (OpenSpec.upto pgcdQuotientsSpec)

/-- 'surdlaw14.PgcdLaws', WHERE WHAT IT READS IS OF BULK AT MOST 1048576: true; the input reads as it did. -/
def pgcdLawsUptoRow : OpenClaim := { program := "ytlmkieimciodoaagreat", sum := "cadc91100b9833d4c76512626de58a3ab44b39b8ce625ffdaa7d7a0c052035ea", func := "surd/surdlaw14.PgcdLaws", spec := "pgcdLaws", inPlace := ["math/bits.Add64", "math/bits.Sub64"], unfollowed := true, recurses := true, named := ["math/bits.divideError", "math/bits.overflowError"], apart := false, narrowed := true }
def PgcdLawsUptoSaid : Prop := pgcdLawsUptoRow.holds Tryz.pinned (OpenSpec.upto pgcdLawsSpec)

/-- 'surdlaw14.PgcdPieces', WHERE WHAT IT READS IS OF BULK AT MOST 1048576: true; the input reads as it did. -/
def pgcdPiecesUptoRow : OpenClaim := { program := "ytlmkieimciodoaagreat", sum := "cadc91100b9833d4c76512626de58a3ab44b39b8ce625ffdaa7d7a0c052035ea", func := "surd/surdlaw14.PgcdPieces", spec := "pgcdPieces", inPlace := ["math/bits.Add64", "math/bits.Sub64"], unfollowed := true, recurses := true, named := ["math/bits.divideError", "math/bits.overflowError"], apart := false, narrowed := true }
def PgcdPiecesUptoSaid : Prop := pgcdPiecesUptoRow.holds Tryz.pinned (OpenSpec.upto pgcdPiecesSpec)

end Rows
end Go.Proofs.YtlmkieimciodoaaGreat
