/-
  No cell of these rows narrows 'for every input' (looked for: loops, veiled, ifaces, maps, wideKeys, modest, calm, conditions, laid).
  DERIVED. THE GIVEN ROWS OF THIS SEAT. 3 by the template 'for every input the law returns true; each argument reads behind the call as it read before'; 0 by the template 'total and deterministic' (their statements: YtbnincgnfiaemaaGreatTotals.lean).
  GIVEN WITH THE SEED: the statements are not yours to turn. If you find one false, say at which input.
  Laid BY PROGRAM, IN A SANDBOX (cutbox-rows.mjs): the forced cells as the released guide's own fill.sh prints them over the translation 78b0ed90234f788a… (all of the seat's roots in one cut). By AI agents, Wed Nov 11 2026. No macro, syntax, notation, axiom, sorry.
-/
import Derived.Test.YtbnincgnfiaemaaGreatChecked
import GoSem.Claim
import GoSem.ClaimJoined
import GoSem.ClaimMapViews
import Derived.JoinedTies
import Derived.KernelRfl
namespace Go.Proofs.YtbnincgnfiaemaaGreat
/- THE CELL 'sum', in the pinned program and in every row, IS THE sha256 OF THE DUMP (.gsa) THAT YtbnincgnfiaemaaGreatProg.lean LOADS. Nothing in Lean hashes anything: it is a label: what it is worth is what the hold of that sum in a sandbox is worth. -/
noncomputable def Tryz.pinned : Pinned := { name := "ytbnincgnfiaemaagreat", sum := "78b0ed90234f788a593377bf99c51450fed78ef475a85b1ccdcac3e91972f3bb", checked := Tryz.checked }
namespace Rows
def none {H : Type} : Left H := { results := [], args := [] }

/-- 'surdlaw14.PgcdBezout': WHATEVER THE INPUT: true; the input reads as it did. -/
def pgcdBezoutSpec : ChangeSpec := { name := "pgcdBezout", fn := fun _ => fun
  | [d] => { results := [.lit (.bool true)], args := [d] }
  | _ => none }
def pgcdBezoutRow : OpenClaim := { program := "ytbnincgnfiaemaagreat", sum := "78b0ed90234f788a593377bf99c51450fed78ef475a85b1ccdcac3e91972f3bb", func := "surd/surdlaw14.PgcdBezout", spec := "pgcdBezout", inPlace := ["math/bits.Add64", "math/bits.Sub64"], unfollowed := true, recurses := true, named := ["math/bits.divideError", "math/bits.overflowError"], apart := false }
def PgcdBezoutSaid : Prop := pgcdBezoutRow.holds Tryz.pinned (OpenSpec.ofChange pgcdBezoutSpec)

/-- ITS FALSE NEIGHBOUR: 'it returns false'. Refute it at one input. -/
def pgcdBezoutWrong : ChangeSpec := { name := "pgcdBezout", fn := fun _ => fun
  | [d] => { results := [.lit (.bool false)], args := [d] }
  | _ => none }
def PgcdBezoutWrongFalsely : Prop := pgcdBezoutRow.holds Tryz.pinned (OpenSpec.ofChange pgcdBezoutWrong)

/-- 'surdlaw11.MovesRational': WHATEVER THE INPUT: true; the input reads as it did. -/
def movesRationalSpec : ChangeSpec := { name := "movesRational", fn := fun _ => fun
  | [d] => { results := [.lit (.bool true)], args := [d] }
  | _ => none }
def movesRationalRow : OpenClaim := { program := "ytbnincgnfiaemaagreat", sum := "78b0ed90234f788a593377bf99c51450fed78ef475a85b1ccdcac3e91972f3bb", func := "surd/surdlaw11.MovesRational", spec := "movesRational", inPlace := ["math/bits.Add64", "math/bits.Sub64"], unfollowed := true, recurses := true, named := ["math/bits.divideError", "math/bits.overflowError"], apart := false }
def MovesRationalSaid : Prop := movesRationalRow.holds Tryz.pinned (OpenSpec.ofChange movesRationalSpec)

/-- ITS FALSE NEIGHBOUR: 'it returns false'. Refute it at one input. -/
def movesRationalWrong : ChangeSpec := { name := "movesRational", fn := fun _ => fun
  | [d] => { results := [.lit (.bool false)], args := [d] }
  | _ => none }
def MovesRationalWrongFalsely : Prop := movesRationalRow.holds Tryz.pinned (OpenSpec.ofChange movesRationalWrong)

/-- 'surdtop.SurdMultiples': WHATEVER THE INPUT: true; the input reads as it did. -/
def surdMultiplesSpec : ChangeSpec := { name := "surdMultiples", fn := fun _ => fun
  | [d1, d2] => { results := [.lit (.bool true)], args := [d1, d2] }
  | _ => none }
def surdMultiplesRow : OpenClaim := { program := "ytbnincgnfiaemaagreat", sum := "78b0ed90234f788a593377bf99c51450fed78ef475a85b1ccdcac3e91972f3bb", func := "surd/surdtop.SurdMultiples", spec := "surdMultiples", inPlace := ["math/bits.Add64", "math/bits.Sub64"], unfollowed := true, recurses := true, named := ["math/bits.divideError", "math/bits.overflowError"], apart := false }
def SurdMultiplesSaid : Prop := surdMultiplesRow.holds Tryz.pinned (OpenSpec.ofChange surdMultiplesSpec)

/-- ITS FALSE NEIGHBOUR: 'it returns false'. Refute it at one input. -/
def surdMultiplesWrong : ChangeSpec := { name := "surdMultiples", fn := fun _ => fun
  | [d1, d2] => { results := [.lit (.bool false)], args := [d1, d2] }
  | _ => none }
def SurdMultiplesWrongFalsely : Prop := surdMultiplesRow.holds Tryz.pinned (OpenSpec.ofChange surdMultiplesWrong)

/- THE SECOND FORM. 'bulk': how many values and letters a reading holds, each counted each time it is reached (what is shared counts as often as it is met; a slice's spare places count too). A statement '..UptoSaid' is the law's where the arguments, and the package variables that the reading takes, are together of bulk at most 1048576: NARROWER than '..Said'. Prove '..Said' where nothing that the law and all that it calls make is longer than what came in: it says more and counts as full. Else prove '..UptoSaid'. A law counts once. -/
mutual
def uptoBulk {H : Type} : DataW H → Nat
  | .lit (.string bytes) => bytes.length + 1
  | .lit _ => 1
  | .nil => 1
  | .ptr d => uptoBulk d + 1
  | .slice elems spare => uptoBulkAll elems + uptoBulkAll spare + 1
  | .agg parts => uptoBulkAll parts + 1
  | .iface _ d => uptoBulk d + 1
  | .map entries => uptoBulkEntries entries + 1
  | .held _ => 1
def uptoBulkAll {H : Type} : List (DataW H) → Nat
  | [] => 0
  | d :: r => uptoBulk d + uptoBulkAll r
def uptoBulkEntries {H : Type} : List (Lit × DataW H) → Nat
  | [] => 0
  | x :: r => uptoBulkEntry x + uptoBulkEntries r
def uptoBulkEntry {H : Type} : Lit × DataW H → Nat
  | (.string bytes, d) => bytes.length + uptoBulk d + 1
  | (_, d) => uptoBulk d + 1
 end
def uptoSmall : (H : Type) → List (DataW H) → Bool := fun _ ds => decide (uptoBulkAll ds ≤ 1048576)
def OpenSpec.upto (s : _root_.Go.ChangeSpec) : _root_.Go.OpenSpec := { _root_.Go.OpenSpec.ofChange s with cond := some uptoSmall }

/-- 'surdlaw14.PgcdBezout', WHERE WHAT IT READS IS OF BULK AT MOST 1048576: true; the input reads as it did. -/
def pgcdBezoutUptoRow : OpenClaim := { program := "ytbnincgnfiaemaagreat", sum := "78b0ed90234f788a593377bf99c51450fed78ef475a85b1ccdcac3e91972f3bb", func := "surd/surdlaw14.PgcdBezout", spec := "pgcdBezout", inPlace := ["math/bits.Add64", "math/bits.Sub64"], unfollowed := true, recurses := true, named := ["math/bits.divideError", "math/bits.overflowError"], apart := false, narrowed := true }
def PgcdBezoutUptoSaid : Prop := pgcdBezoutUptoRow.holds Tryz.pinned (OpenSpec.upto pgcdBezoutSpec)

/-- 'surdlaw11.MovesRational', WHERE WHAT IT READS IS OF BULK AT MOST 1048576: true; the input reads as it did. -/
def movesRationalUptoRow : OpenClaim := { program := "ytbnincgnfiaemaagreat", sum := "78b0ed90234f788a593377bf99c51450fed78ef475a85b1ccdcac3e91972f3bb", func := "surd/surdlaw11.MovesRational", spec := "movesRational", inPlace := ["math/bits.Add64", "math/bits.Sub64"], unfollowed := true, recurses := true, named := ["math/bits.divideError", "math/bits.overflowError"], apart := false, narrowed := true }
def MovesRationalUptoSaid : Prop := movesRationalUptoRow.holds Tryz.pinned (OpenSpec.upto movesRationalSpec)

/-- 'surdtop.SurdMultiples', WHERE WHAT IT READS IS OF BULK AT MOST 1048576: true; the input reads as it did. -/
def surdMultiplesUptoRow : OpenClaim := { program := "ytbnincgnfiaemaagreat", sum := "78b0ed90234f788a593377bf99c51450fed78ef475a85b1ccdcac3e91972f3bb", func := "surd/surdtop.SurdMultiples", spec := "surdMultiples", inPlace := ["math/bits.Add64", "math/bits.Sub64"], unfollowed := true, recurses := true, named := ["math/bits.divideError", "math/bits.overflowError"], apart := false, narrowed := true }
def SurdMultiplesUptoSaid : Prop := surdMultiplesUptoRow.holds Tryz.pinned (OpenSpec.upto surdMultiplesSpec)

end Rows
end Go.Proofs.YtbnincgnfiaemaaGreat
