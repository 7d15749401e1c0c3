/-
 Contracts of the functions that the law reaches.
-/
import Derived.Test.YtnjaeokkfbihlaaGreatChecked
import Derived.KernelRfl
import Derived.Test.YtnjaeokkfbihlaaGreatAbsPM
namespace Go.Proofs.YtnjaeokkfbihlaaGreat
open Go Go.Proofs Go.AL
set_option linter.defProp false
set_option linter.unusedVariables false
theorem ti2 {zi:Zi}:ti Tryz.prog 2=⟨true,1,8,false,[.int .i64 0],true,.int .i64⟩:=by kernel_rfl
theorem ti3 {zi:Zi}:ti Tryz.prog 3=⟨true,1,8,false,[.int .i64 0],true,.int .i64⟩:=by kernel_rfl
theorem ti4 {zi:Zi}:ti Tryz.prog 4=⟨true,1,1,false,[.bool false],true,.bool⟩:=by kernel_rfl
theorem ti5 {zi:Zi}:ti Tryz.prog 5=⟨true,1,1,false,[.int .u8 0],true,.int .u8⟩:=by kernel_rfl
theorem ti6 {zi:Zi}:ti Tryz.prog 6=⟨true,1,1,false,[.int .u8 0],true,.int .u8⟩:=by kernel_rfl
theorem ti7 {zi:Zi}:ti Tryz.prog 7=⟨true,4,24,true,[.int .i64 0,.int .i64 0,.bool false,.int .u8 0],true,.st [(0,1),(1,1),(2,1),(3,1)]⟩:=by kernel_rfl
theorem ti8 {zi:Zi}:ti Tryz.prog 8=⟨true,4,24,true,[.int .i64 0,.int .i64 0,.bool false,.int .u8 0],true,.st [(0,1),(1,1),(2,1),(3,1)]⟩:=by kernel_rfl
theorem ti12 {zi:Zi}:ti Tryz.prog 12=⟨true,1,8,false,[.int .u64 0],true,.int .u64⟩:=by kernel_rfl
theorem ti21 {zi:Zi}:ti Tryz.prog 21=⟨true,1,4,false,[.int .i32 0],true,.int .i32⟩:=by kernel_rfl
theorem ti22 {zi:Zi}:ti Tryz.prog 22=⟨true,1,24,false,[zsl],true,.sl 29⟩:=by kernel_rfl
theorem ti23 {zi:Zi}:ti Tryz.prog 23=⟨true,1,24,false,[zsl],true,.sl 29⟩:=by kernel_rfl
theorem ti24 {zi:Zi}:ti Tryz.prog 24=⟨true,1,24,false,[zsl],true,.sl 31⟩:=by kernel_rfl
theorem ti25 {zi:Zi}:ti Tryz.prog 25=⟨true,1,24,false,[zsl],true,.sl 31⟩:=by kernel_rfl
theorem ti26 {zi:Zi}:ti Tryz.prog 26=⟨true,1,24,false,[zsl],true,.sl 92⟩:=by kernel_rfl
theorem ti27 {zi:Zi}:ti Tryz.prog 27=⟨true,1,24,false,[zsl],true,.sl 92⟩:=by kernel_rfl
theorem ti28 {zi:Zi}:ti Tryz.prog 28=⟨true,2,32,true,[.bool false,zsl],true,.st [(0,1),(1,1)]⟩:=by kernel_rfl
theorem ti29 {zi:Zi}:ti Tryz.prog 29=⟨true,2,32,true,[.bool false,zsl],true,.st [(0,1),(1,1)]⟩:=by kernel_rfl
theorem ti30 {zi:Zi}:ti Tryz.prog 30=⟨true,3,56,true,[.bool false,zsl,zsl],true,.st [(0,2),(2,1)]⟩:=by kernel_rfl
theorem ti31 {zi:Zi}:ti Tryz.prog 31=⟨true,3,56,true,[.bool false,zsl,zsl],true,.st [(0,2),(2,1)]⟩:=by kernel_rfl
theorem ti32 {zi:Zi}:ti Tryz.prog 32=⟨true,15,280,true,[zsl,zsl,zsl,zsl,.bool false,zsl,.bool false,zsl,.bool false,zsl,zsl,.bool false,zsl,zsl,.int .i64 0],true,.st [(0,1),(1,1),(2,1),(3,1),(4,2),(6,2),(8,3),(11,3),(14,1)]⟩:=by kernel_rfl
theorem ti33 {zi:Zi}:ti Tryz.prog 33=⟨true,15,280,true,[zsl,zsl,zsl,zsl,.bool false,zsl,.bool false,zsl,.bool false,zsl,zsl,.bool false,zsl,zsl,.int .i64 0],true,.st [(0,1),(1,1),(2,1),(3,1),(4,2),(6,2),(8,3),(11,3),(14,1)]⟩:=by kernel_rfl
theorem ti38 {zi:Zi}:ti Tryz.prog 38=⟨true,1,8,false,[.int .i64 0],true,.int .i64⟩:=by kernel_rfl
theorem ti44 {zi:Zi}:ti Tryz.prog 44=⟨true,1,24,false,[zsl],true,.sl 23⟩:=by kernel_rfl
theorem ti45 {zi:Zi}:ti Tryz.prog 45=⟨true,1,24,false,[zsl],true,.sl 3⟩:=by kernel_rfl
theorem ti92 {zi:Zi}:ti Tryz.prog 92=⟨true,1,8,false,[.int .u64 0],true,.int .u64⟩:=by kernel_rfl
theorem ti135 {zi:Zi}:ti Tryz.prog 135=⟨true,1,8,false,[.int .u64 0],true,.int .u64⟩:=by kernel_rfl
theorem ti153 {zi:Zi}:ti Tryz.prog 153=⟨true,1,24,false,[zsl],true,.sl 27⟩:=by kernel_rfl
theorem ti166 {zi:Zi}:ti Tryz.prog 166=⟨true,1,4,false,[.int .u32 0],true,.int .u32⟩:=by kernel_rfl
theorem ti167 {zi:Zi}:ti Tryz.prog 167=⟨true,1,1,false,[.int .u8 0],true,.int .u8⟩:=by kernel_rfl
theorem ti168 {zi:Zi}:ti Tryz.prog 168=⟨true,1,1,false,[.int .u8 0],true,.int .u8⟩:=by kernel_rfl
theorem ti171 {zi:Zi}:ti Tryz.prog 171=⟨true,1,4,false,[.int .i32 0],true,.int .i32⟩:=by kernel_rfl
theorem ti172 {zi:Zi}:ti Tryz.prog 172=⟨true,1,4,false,[.int .i32 0],true,.int .i32⟩:=by kernel_rfl
theorem str9:isStr Tryz.prog 9=True:=eq_true Tryz.underlying9
@[reducible] def ziX:Zi:=⟨some (92,1),λ_=>false,λ_=>false,.no⟩
theorem zstX : @Zi.st ziX=.no:=rfl
theorem zbxX (e:Nat) : @Zi.bx ziX e=false:=rfl
theorem zbsX (e:Nat) : @Zi.bs ziX e=false:=rfl
theorem zslX : @zsl ziX=.own none 92 1 []:=rfl
def tis:=And.intro @ti2 (And.intro @ti3 (And.intro @ti4 (And.intro @ti5 (And.intro @ti6 (And.intro @ti7 (And.intro @ti8 (And.intro @ti12 (And.intro @ti21 (And.intro @ti22 (And.intro @ti23 (And.intro @ti24 (And.intro @ti25 (And.intro @ti26 (And.intro @ti27 (And.intro @ti28 (And.intro @ti29 (And.intro @ti30 (And.intro @ti31 (And.intro @ti32 (And.intro @ti33 (And.intro @ti38 (And.intro @ti44 (And.intro @ti45 (And.intro @ti92 (And.intro @ti135 (And.intro @ti153 (And.intro @ti166 (And.intro @ti167 (And.intro @ti168 (And.intro @ti171 (And.intro @ti172 (And.intro @str9 (And.intro @zstX (And.intro @zbxX (And.intro @zbsX (@zslX))))))))))))))))))))))))))))))))))))
def wt:=And.intro wk tis
theorem ords:Tryz.prog.follows .mixedOrders=true:=by kernel_rfl
end Go.Proofs.YtnjaeokkfbihlaaGreat
