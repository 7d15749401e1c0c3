/-
 Contracts of the functions that the law reaches.
-/
import Derived.Test.YtmoiodckaadchaaGreatChecked
import Derived.KernelRfl
import Derived.Test.YtmoiodckaadchaaGreatAbsPM
namespace Go.Proofs.YtmoiodckaadchaaGreat
open Go Go.Proofs Go.AL
set_option linter.defProp false
set_option linter.unusedVariables false
theorem ti2 {zi:Zi}:ti Tryz.prog 2=⟨true,1,8,false,[.int .i64 0],true,.int .i64⟩:=by kernel_rfl
theorem ti3 {zi:Zi}:ti Tryz.prog 3=⟨true,1,8,false,[.int .i64 0],true,.int .i64⟩:=by kernel_rfl
theorem ti4 {zi:Zi}:ti Tryz.prog 4=⟨true,1,1,false,[.bool false],true,.bool⟩:=by kernel_rfl
theorem ti5 {zi:Zi}:ti Tryz.prog 5=⟨true,1,1,false,[.int .u8 0],true,.int .u8⟩:=by kernel_rfl
theorem ti6 {zi:Zi}:ti Tryz.prog 6=⟨true,1,1,false,[.int .u8 0],true,.int .u8⟩:=by kernel_rfl
theorem ti7 {zi:Zi}:ti Tryz.prog 7=⟨true,4,24,true,[.int .i64 0,.int .i64 0,.bool false,.int .u8 0],true,.st [(0,1),(1,1),(2,1),(3,1)]⟩:=by kernel_rfl
theorem ti8 {zi:Zi}:ti Tryz.prog 8=⟨true,4,24,true,[.int .i64 0,.int .i64 0,.bool false,.int .u8 0],true,.st [(0,1),(1,1),(2,1),(3,1)]⟩:=by kernel_rfl
theorem ti12 {zi:Zi}:ti Tryz.prog 12=⟨true,1,8,false,[.int .u64 0],true,.int .u64⟩:=by kernel_rfl
theorem ti21 {zi:Zi}:ti Tryz.prog 21=⟨true,1,4,false,[.int .i32 0],true,.int .i32⟩:=by kernel_rfl
theorem ti22 {zi:Zi}:ti Tryz.prog 22=⟨true,1,24,false,[zsl],true,.sl 27⟩:=by kernel_rfl
theorem ti23 {zi:Zi}:ti Tryz.prog 23=⟨true,1,24,false,[zsl],true,.sl 27⟩:=by kernel_rfl
theorem ti24 {zi:Zi}:ti Tryz.prog 24=⟨true,1,24,false,[zsl],true,.sl 108⟩:=by kernel_rfl
theorem ti25 {zi:Zi}:ti Tryz.prog 25=⟨true,1,24,false,[zsl],true,.sl 108⟩:=by kernel_rfl
theorem ti26 {zi:Zi}:ti Tryz.prog 26=⟨true,2,32,true,[.bool false,zsl],true,.st [(0,1),(1,1)]⟩:=by kernel_rfl
theorem ti27 {zi:Zi}:ti Tryz.prog 27=⟨true,2,32,true,[.bool false,zsl],true,.st [(0,1),(1,1)]⟩:=by kernel_rfl
theorem ti28 {zi:Zi}:ti Tryz.prog 28=⟨true,4,48,true,[.bool false,zsl,.int .i64 0,.bool false],true,.st [(0,2),(2,1),(3,1)]⟩:=by kernel_rfl
theorem ti29 {zi:Zi}:ti Tryz.prog 29=⟨true,4,48,true,[.bool false,zsl,.int .i64 0,.bool false],true,.st [(0,2),(2,1),(3,1)]⟩:=by kernel_rfl
theorem ti30 {zi:Zi}:ti Tryz.prog 30=⟨true,1,24,false,[zsl],true,.sl 33⟩:=by kernel_rfl
theorem ti31 {zi:Zi}:ti Tryz.prog 31=⟨true,1,24,false,[zsl],true,.sl 33⟩:=by kernel_rfl
theorem ti32 {zi:Zi}:ti Tryz.prog 32=⟨true,3,56,true,[.bool false,zsl,zsl],true,.st [(0,2),(2,1)]⟩:=by kernel_rfl
theorem ti33 {zi:Zi}:ti Tryz.prog 33=⟨true,3,56,true,[.bool false,zsl,zsl],true,.st [(0,2),(2,1)]⟩:=by kernel_rfl
theorem ti34 {zi:Zi}:ti Tryz.prog 34=⟨true,21,344,true,[zsl,zsl,.bool false,zsl,.bool false,zsl,.bool false,zsl,.bool false,zsl,.int .i64 0,.int .i64 0,.bool false,zsl,.int .i64 0,.bool false,zsl,zsl,.bool false,zsl,zsl],true,.st [(0,1),(1,1),(2,2),(4,2),(6,2),(8,2),(10,1),(11,1),(12,4),(16,1),(17,1),(18,3)]⟩:=by kernel_rfl
theorem ti35 {zi:Zi}:ti Tryz.prog 35=⟨true,21,344,true,[zsl,zsl,.bool false,zsl,.bool false,zsl,.bool false,zsl,.bool false,zsl,.int .i64 0,.int .i64 0,.bool false,zsl,.int .i64 0,.bool false,zsl,zsl,.bool false,zsl,zsl],true,.st [(0,1),(1,1),(2,2),(4,2),(6,2),(8,2),(10,1),(11,1),(12,4),(16,1),(17,1),(18,3)]⟩:=by kernel_rfl
theorem ti42 {zi:Zi}:ti Tryz.prog 42=⟨true,1,8,false,[.int .i64 0],true,.int .i64⟩:=by kernel_rfl
theorem ti105 {zi:Zi}:ti Tryz.prog 105=⟨true,1,24,false,[zsl],true,.sl 3⟩:=by kernel_rfl
theorem ti108 {zi:Zi}:ti Tryz.prog 108=⟨true,1,8,false,[.int .u64 0],true,.int .u64⟩:=by kernel_rfl
theorem ti155 {zi:Zi}:ti Tryz.prog 155=⟨true,1,24,false,[zsl],true,.sl 25⟩:=by kernel_rfl
theorem ti174 {zi:Zi}:ti Tryz.prog 174=⟨true,1,8,false,[.int .u64 0],true,.int .u64⟩:=by kernel_rfl
theorem ti198 {zi:Zi}:ti Tryz.prog 198=⟨true,1,4,false,[.int .u32 0],true,.int .u32⟩:=by kernel_rfl
theorem ti199 {zi:Zi}:ti Tryz.prog 199=⟨true,1,1,false,[.int .u8 0],true,.int .u8⟩:=by kernel_rfl
theorem ti200 {zi:Zi}:ti Tryz.prog 200=⟨true,1,1,false,[.int .u8 0],true,.int .u8⟩:=by kernel_rfl
theorem ti203 {zi:Zi}:ti Tryz.prog 203=⟨true,1,4,false,[.int .i32 0],true,.int .i32⟩:=by kernel_rfl
theorem ti204 {zi:Zi}:ti Tryz.prog 204=⟨true,1,4,false,[.int .i32 0],true,.int .i32⟩:=by kernel_rfl
theorem str9:isStr Tryz.prog 9=True:=eq_true Tryz.underlying9
@[reducible] def ziX:Zi:=⟨some (108,1),λ_=>false,λ_=>false,.no⟩
theorem zstX : @Zi.st ziX=.no:=rfl
theorem zbxX (e:Nat) : @Zi.bx ziX e=false:=rfl
theorem zbsX (e:Nat) : @Zi.bs ziX e=false:=rfl
theorem zslX : @zsl ziX=.own none 108 1 []:=rfl
def tis:=And.intro @ti2 (And.intro @ti3 (And.intro @ti4 (And.intro @ti5 (And.intro @ti6 (And.intro @ti7 (And.intro @ti8 (And.intro @ti12 (And.intro @ti21 (And.intro @ti22 (And.intro @ti23 (And.intro @ti24 (And.intro @ti25 (And.intro @ti26 (And.intro @ti27 (And.intro @ti28 (And.intro @ti29 (And.intro @ti30 (And.intro @ti31 (And.intro @ti32 (And.intro @ti33 (And.intro @ti34 (And.intro @ti35 (And.intro @ti42 (And.intro @ti105 (And.intro @ti108 (And.intro @ti155 (And.intro @ti174 (And.intro @ti198 (And.intro @ti199 (And.intro @ti200 (And.intro @ti203 (And.intro @ti204 (And.intro @str9 (And.intro @zstX (And.intro @zbxX (And.intro @zbsX (@zslX)))))))))))))))))))))))))))))))))))))
def wt:=And.intro wk tis
theorem ords:Tryz.prog.follows .mixedOrders=true:=by kernel_rfl
end Go.Proofs.YtmoiodckaadchaaGreat
