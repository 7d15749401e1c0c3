/-
 Contracts of the functions that the law reaches.
-/
import Derived.Test.YtljmoppgihphlaaChecked
import Derived.KernelRfl
import Derived.Test.YtljmoppgihphlaaAbsPM
namespace Go.Proofs.Ytljmoppgihphlaa
open Go Go.Proofs Go.AL
set_option linter.defProp false
set_option linter.unusedVariables false
theorem ti2 {zi:Zi}:ti Try.prog 2=⟨true,1,8,false,[.int .i64 0],true,.int .i64⟩:=by kernel_rfl
theorem ti3 {zi:Zi}:ti Try.prog 3=⟨true,1,8,false,[.int .i64 0],true,.int .i64⟩:=by kernel_rfl
theorem ti4 {zi:Zi}:ti Try.prog 4=⟨true,1,1,false,[.bool false],true,.bool⟩:=by kernel_rfl
theorem ti5 {zi:Zi}:ti Try.prog 5=⟨true,1,1,false,[.int .u8 0],true,.int .u8⟩:=by kernel_rfl
theorem ti6 {zi:Zi}:ti Try.prog 6=⟨true,1,1,false,[.int .u8 0],true,.int .u8⟩:=by kernel_rfl
theorem ti7 {zi:Zi}:ti Try.prog 7=⟨true,4,24,true,[.int .i64 0,.int .i64 0,.bool false,.int .u8 0],true,.st [(0,1),(1,1),(2,1),(3,1)]⟩:=by kernel_rfl
theorem ti8 {zi:Zi}:ti Try.prog 8=⟨true,4,24,true,[.int .i64 0,.int .i64 0,.bool false,.int .u8 0],true,.st [(0,1),(1,1),(2,1),(3,1)]⟩:=by kernel_rfl
theorem ti12 {zi:Zi}:ti Try.prog 12=⟨true,1,8,false,[.int .u64 0],true,.int .u64⟩:=by kernel_rfl
theorem ti21 {zi:Zi}:ti Try.prog 21=⟨true,1,4,false,[.int .i32 0],true,.int .i32⟩:=by kernel_rfl
theorem ti22 {zi:Zi}:ti Try.prog 22=⟨true,1,24,false,[zsl],true,.sl 32⟩:=by kernel_rfl
theorem ti23 {zi:Zi}:ti Try.prog 23=⟨true,1,24,false,[zsl],true,.sl 32⟩:=by kernel_rfl
theorem ti24 {zi:Zi}:ti Try.prog 24=⟨true,4,80,true,[zsl,zsl,zsl,.int .i64 0],true,.st [(0,1),(1,1),(2,1),(3,1)]⟩:=by kernel_rfl
theorem ti25 {zi:Zi}:ti Try.prog 25=⟨true,4,80,true,[zsl,zsl,zsl,.int .i64 0],true,.st [(0,1),(1,1),(2,1),(3,1)]⟩:=by kernel_rfl
theorem ti29 {zi:Zi}:ti Try.prog 29=⟨true,1,24,false,[zsl],true,.sl 55⟩:=by kernel_rfl
theorem ti30 {zi:Zi}:ti Try.prog 30=⟨true,1,24,false,[zsl],true,.sl 55⟩:=by kernel_rfl
theorem ti31 {zi:Zi}:ti Try.prog 31=⟨true,2,32,true,[.bool false,zsl],true,.st [(0,1),(1,1)]⟩:=by kernel_rfl
theorem ti32 {zi:Zi}:ti Try.prog 32=⟨true,2,32,true,[.bool false,zsl],true,.st [(0,1),(1,1)]⟩:=by kernel_rfl
theorem ti41 {zi:Zi}:ti Try.prog 41=⟨true,1,8,false,[.int .i64 0],true,.int .i64⟩:=by kernel_rfl
theorem ti46 {zi:Zi}:ti Try.prog 46=⟨true,1,24,false,[zsl],true,.sl 22⟩:=by kernel_rfl
theorem ti55 {zi:Zi}:ti Try.prog 55=⟨true,1,8,false,[.int .u64 0],true,.int .u64⟩:=by kernel_rfl
theorem ti58 {zi:Zi}:ti Try.prog 58=⟨true,1,24,false,[zsl],true,.sl 3⟩:=by kernel_rfl
theorem ti106 {zi:Zi}:ti Try.prog 106=⟨true,1,8,false,[.int .u64 0],true,.int .u64⟩:=by kernel_rfl
theorem ti117 {zi:Zi}:ti Try.prog 117=⟨true,1,24,false,[zsl],true,.sl 30⟩:=by kernel_rfl
theorem ti130 {zi:Zi}:ti Try.prog 130=⟨true,1,4,false,[.int .u32 0],true,.int .u32⟩:=by kernel_rfl
theorem ti131 {zi:Zi}:ti Try.prog 131=⟨true,1,1,false,[.int .u8 0],true,.int .u8⟩:=by kernel_rfl
theorem ti132 {zi:Zi}:ti Try.prog 132=⟨true,1,1,false,[.int .u8 0],true,.int .u8⟩:=by kernel_rfl
theorem ti135 {zi:Zi}:ti Try.prog 135=⟨true,1,4,false,[.int .i32 0],true,.int .i32⟩:=by kernel_rfl
theorem ti136 {zi:Zi}:ti Try.prog 136=⟨true,1,4,false,[.int .i32 0],true,.int .i32⟩:=by kernel_rfl
theorem str9:isStr Try.prog 9=True:=eq_true Try.underlying9
@[reducible] def ziX:Zi:=⟨some (55,1),λ_=>false,λ_=>false,.no⟩
theorem zstX : @Zi.st ziX=.no:=rfl
theorem zbxX (e:Nat) : @Zi.bx ziX e=false:=rfl
theorem zbsX (e:Nat) : @Zi.bs ziX e=false:=rfl
theorem zslX : @zsl ziX=.own none 55 1 []:=rfl
def tis:=And.intro @ti2 (And.intro @ti3 (And.intro @ti4 (And.intro @ti5 (And.intro @ti6 (And.intro @ti7 (And.intro @ti8 (And.intro @ti12 (And.intro @ti21 (And.intro @ti22 (And.intro @ti23 (And.intro @ti24 (And.intro @ti25 (And.intro @ti29 (And.intro @ti30 (And.intro @ti31 (And.intro @ti32 (And.intro @ti41 (And.intro @ti46 (And.intro @ti55 (And.intro @ti58 (And.intro @ti106 (And.intro @ti117 (And.intro @ti130 (And.intro @ti131 (And.intro @ti132 (And.intro @ti135 (And.intro @ti136 (And.intro @str9 (And.intro @zstX (And.intro @zbxX (And.intro @zbsX (@zslX))))))))))))))))))))))))))))))))
def wt:=And.intro wk tis
theorem ords:Try.prog.follows .mixedOrders=true:=by kernel_rfl
end Go.Proofs.Ytljmoppgihphlaa
