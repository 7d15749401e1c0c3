/-
  No cell of these rows narrows 'for every input' (looked for: loops, veiled, ifaces, maps, wideKeys, modest, calm, conditions, laid).
  DERIVED. THE GIVEN ROWS OF THIS SEAT. 3 by the template 'for every input the law returns true; each argument reads behind the call as it read before'; 0 by the template 'total and deterministic' (their statements: YtdpngipofekcfaaGreatTotals.lean).
  GIVEN WITH THE SEED: the statements are not yours to turn. If you find one false, say at which input.
  Laid BY PROGRAM, IN A SANDBOX (cutbox-rows.mjs): the forced cells as the released guide's own fill.sh prints them over the translation edb283a9c3ba9697… (all of the seat's roots in one cut). By AI agents, Wed Nov 11 2026. No macro, syntax, notation, axiom, sorry.
-/
import Derived.Test.YtdpngipofekcfaaGreatChecked
import GoSem.Claim
import GoSem.ClaimJoined
import GoSem.ClaimMapViews
import Derived.JoinedTies
import Derived.KernelRfl
namespace Go.Proofs.YtdpngipofekcfaaGreat
/- THE CELL 'sum', in the pinned program and in every row, IS THE sha256 OF THE DUMP (.gsa) THAT YtdpngipofekcfaaGreatProg.lean LOADS. Nothing in Lean hashes anything: it is a label: what it is worth is what the hold of that sum in a sandbox is worth. -/
noncomputable def Tryz.pinned : Pinned := { name := "ytdpngipofekcfaagreat", sum := "edb283a9c3ba9697a4a51aa5355a993f1a1cea19b0453506db77244bf463a796", checked := Tryz.checked }
namespace Rows
def none {H : Type} : Left H := { results := [], args := [] }

/-- 'surdlaw10.QpolyApart': WHATEVER THE INPUT: true; the input reads as it did. -/
def qpolyApartSpec : ChangeSpec := { name := "qpolyApart", fn := fun _ => fun
  | [d1, d2] => { results := [.lit (.bool true)], args := [d1, d2] }
  | _ => none }
def qpolyApartRow : OpenClaim := { program := "ytdpngipofekcfaagreat", sum := "edb283a9c3ba9697a4a51aa5355a993f1a1cea19b0453506db77244bf463a796", func := "surd/surdlaw10.QpolyApart", spec := "qpolyApart", inPlace := ["math/bits.Add64", "math/bits.Sub64"], unfollowed := true, recurses := true, named := ["math/bits.divideError", "math/bits.overflowError"], apart := false }
def QpolyApartSaid : Prop := qpolyApartRow.holds Tryz.pinned (OpenSpec.ofChange qpolyApartSpec)

/-- ITS FALSE NEIGHBOUR: 'it returns false'. Refute it at one input. -/
def qpolyApartWrong : ChangeSpec := { name := "qpolyApart", fn := fun _ => fun
  | [d1, d2] => { results := [.lit (.bool false)], args := [d1, d2] }
  | _ => none }
def QpolyApartWrongFalsely : Prop := qpolyApartRow.holds Tryz.pinned (OpenSpec.ofChange qpolyApartWrong)

/-- 'surdlaw12.EvalsKeeps': WHATEVER THE INPUT: true; the input reads as it did. -/
def evalsKeepsSpec : ChangeSpec := { name := "evalsKeeps", fn := fun _ => fun
  | [d] => { results := [.lit (.bool true)], args := [d] }
  | _ => none }
def evalsKeepsRow : OpenClaim := { program := "ytdpngipofekcfaagreat", sum := "edb283a9c3ba9697a4a51aa5355a993f1a1cea19b0453506db77244bf463a796", func := "surd/surdlaw12.EvalsKeeps", spec := "evalsKeeps", inPlace := ["math/bits.Add64", "math/bits.Sub64"], unfollowed := true, recurses := true, named := ["math/bits.divideError", "math/bits.overflowError"], apart := false }
def EvalsKeepsSaid : Prop := evalsKeepsRow.holds Tryz.pinned (OpenSpec.ofChange evalsKeepsSpec)

/-- ITS FALSE NEIGHBOUR: 'it returns false'. Refute it at one input. -/
def evalsKeepsWrong : ChangeSpec := { name := "evalsKeeps", fn := fun _ => fun
  | [d] => { results := [.lit (.bool false)], args := [d] }
  | _ => none }
def EvalsKeepsWrongFalsely : Prop := evalsKeepsRow.holds Tryz.pinned (OpenSpec.ofChange evalsKeepsWrong)

/-- 'surdlaw14.PgcdMemory': WHATEVER THE INPUT: true; the input reads as it did. -/
def pgcdMemorySpec : ChangeSpec := { name := "pgcdMemory", fn := fun _ => fun
  | [d] => { results := [.lit (.bool true)], args := [d] }
  | _ => none }
def pgcdMemoryRow : OpenClaim := { program := "ytdpngipofekcfaagreat", sum := "edb283a9c3ba9697a4a51aa5355a993f1a1cea19b0453506db77244bf463a796", func := "surd/surdlaw14.PgcdMemory", spec := "pgcdMemory", inPlace := ["math/bits.Add64", "math/bits.Sub64"], unfollowed := true, recurses := true, named := ["math/bits.divideError", "math/bits.overflowError"], apart := false }
def PgcdMemorySaid : Prop := pgcdMemoryRow.holds Tryz.pinned (OpenSpec.ofChange pgcdMemorySpec)

/-- ITS FALSE NEIGHBOUR: 'it returns false'. Refute it at one input. -/
def pgcdMemoryWrong : ChangeSpec := { name := "pgcdMemory", fn := fun _ => fun
  | [d] => { results := [.lit (.bool false)], args := [d] }
  | _ => none }
def PgcdMemoryWrongFalsely : Prop := pgcdMemoryRow.holds Tryz.pinned (OpenSpec.ofChange pgcdMemoryWrong)

/- THE SECOND FORM. 'bulk': how many values and letters a reading holds, each counted each time it is reached (what is shared counts as often as it is met; a slice's spare places count too). A statement '..UptoSaid' is the law's where the arguments, and the package variables that the reading takes, are together of bulk at most 1048576: NARROWER than '..Said'. Prove '..Said' where nothing that the law and all that it calls make is longer than what came in: it says more and counts as full. Else prove '..UptoSaid'. A law counts once. -/
mutual
def uptoBulk {H : Type} : DataW H → Nat
  | .lit (.string bytes) => bytes.length + 1
  | .lit _ => 1
  | .nil => 1
  | .ptr d => uptoBulk d + 1
  | .slice elems spare => uptoBulkAll elems + uptoBulkAll spare + 1
  | .agg parts => uptoBulkAll parts + 1
  | .iface _ d => uptoBulk d + 1
  | .map entries => uptoBulkEntries entries + 1
  | .held _ => 1
def uptoBulkAll {H : Type} : List (DataW H) → Nat
  | [] => 0
  | d :: r => uptoBulk d + uptoBulkAll r
def uptoBulkEntries {H : Type} : List (Lit × DataW H) → Nat
  | [] => 0
  | x :: r => uptoBulkEntry x + uptoBulkEntries r
def uptoBulkEntry {H : Type} : Lit × DataW H → Nat
  | (.string bytes, d) => bytes.length + uptoBulk d + 1
  | (_, d) => uptoBulk d + 1
 end
def uptoSmall : (H : Type) → List (DataW H) → Bool := fun _ ds => decide (uptoBulkAll ds ≤ 1048576)
def OpenSpec.upto (s : _root_.Go.ChangeSpec) : _root_.Go.OpenSpec := { _root_.Go.OpenSpec.ofChange s with cond := some uptoSmall }

/-- 'surdlaw10.QpolyApart', WHERE WHAT IT READS IS OF BULK AT MOST 1048576: true; the input reads as it did. -/
def qpolyApartUptoRow : OpenClaim := { program := "ytdpngipofekcfaagreat", sum := "edb283a9c3ba9697a4a51aa5355a993f1a1cea19b0453506db77244bf463a796", func := "surd/surdlaw10.QpolyApart", spec := "qpolyApart", inPlace := ["math/bits.Add64", "math/bits.Sub64"], unfollowed := true, recurses := true, named := ["math/bits.divideError", "math/bits.overflowError"], apart := false, narrowed := true }
def QpolyApartUptoSaid : Prop := qpolyApartUptoRow.holds Tryz.pinned (OpenSpec.upto qpolyApartSpec)

/-- 'surdlaw12.EvalsKeeps', WHERE WHAT IT READS IS OF BULK AT MOST 1048576: true; the input reads as it did. -/
def evalsKeepsUptoRow : OpenClaim := { program := "ytdpngipofekcfaagreat", sum := "edb283a9c3ba9697a4a51aa5355a993f1a1cea19b0453506db77244bf463a796", func := "surd/surdlaw12.EvalsKeeps", spec := "evalsKeeps", inPlace := ["math/bits.Add64", "math/bits.Sub64"], unfollowed := true, recurses := true, named := ["math/bits.divideError", "math/bits.overflowError"], apart := false, narrowed := true }
def EvalsKeepsUptoSaid : Prop := evalsKeepsUptoRow.holds Tryz.pinned (OpenSpec.upto evalsKeepsSpec)

/-- 'surdlaw14.PgcdMemory', WHERE WHAT IT READS IS OF BULK AT MOST 1048576: true; the input reads as it did. -/
def pgcdMemoryUptoRow : OpenClaim := { program := "ytdpngipofekcfaagreat", sum := "edb283a9c3ba9697a4a51aa5355a993f1a1cea19b0453506db77244bf463a796", func := "surd/surdlaw14.PgcdMemory", spec := "pgcdMemory", inPlace := ["math/bits.Add64", "math/bits.Sub64"], unfollowed := true, recurses := true, named := ["math/bits.divideError", "math/bits.overflowError"], apart := false, narrowed := true }
def PgcdMemoryUptoSaid : Prop := pgcdMemoryUptoRow.holds Tryz.pinned (OpenSpec.upto pgcdMemorySpec)

end Rows
end Go.Proofs.YtdpngipofekcfaaGreat
