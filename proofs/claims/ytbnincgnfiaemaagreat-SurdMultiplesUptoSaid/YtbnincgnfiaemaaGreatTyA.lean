/-
 Contracts of the functions that the law reaches.
-/
import Derived.Test.YtbnincgnfiaemaaGreatChecked
import Derived.KernelRfl
import Derived.Test.YtbnincgnfiaemaaGreatAbsW
namespace Go.Proofs.YtbnincgnfiaemaaGreat
open Go Go.Proofs Go.AL
set_option linter.defProp false
set_option linter.unusedVariables false
theorem ti2 {zi:Zi}:ti Tryz.prog 2=⟨true,1,8,false,[.int .i64 0],true,.int .i64⟩:=by kernel_rfl
theorem ti3 {zi:Zi}:ti Tryz.prog 3=⟨true,1,8,false,[.int .i64 0],true,.int .i64⟩:=by kernel_rfl
theorem ti4 {zi:Zi}:ti Tryz.prog 4=⟨true,1,1,false,[.bool false],true,.bool⟩:=by kernel_rfl
theorem ti5 {zi:Zi}:ti Tryz.prog 5=⟨true,1,1,false,[.int .u8 0],true,.int .u8⟩:=by kernel_rfl
theorem ti6 {zi:Zi}:ti Tryz.prog 6=⟨true,1,1,false,[.int .u8 0],true,.int .u8⟩:=by kernel_rfl
theorem ti7 {zi:Zi}:ti Tryz.prog 7=⟨true,4,24,true,[.int .i64 0,.int .i64 0,.bool false,.int .u8 0],true,.st [(0,1),(1,1),(2,1),(3,1)]⟩:=by kernel_rfl
theorem ti8 {zi:Zi}:ti Tryz.prog 8=⟨true,4,24,true,[.int .i64 0,.int .i64 0,.bool false,.int .u8 0],true,.st [(0,1),(1,1),(2,1),(3,1)]⟩:=by kernel_rfl
theorem ti12 {zi:Zi}:ti Tryz.prog 12=⟨true,1,8,false,[.int .u64 0],true,.int .u64⟩:=by kernel_rfl
theorem ti21 {zi:Zi}:ti Tryz.prog 21=⟨true,1,4,false,[.int .i32 0],true,.int .i32⟩:=by kernel_rfl
theorem ti22 {zi:Zi}:ti Tryz.prog 22=⟨true,1,24,false,[zsl],true,.sl 44⟩:=by kernel_rfl
theorem ti23 {zi:Zi}:ti Tryz.prog 23=⟨true,1,24,false,[zsl],true,.sl 44⟩:=by kernel_rfl
theorem ti24 {zi:Zi}:ti Tryz.prog 24=⟨true,1,24,false,[zsl],true,.sl 23⟩:=by kernel_rfl
theorem ti25 {zi:Zi}:ti Tryz.prog 25=⟨true,1,24,false,[zsl],true,.sl 46⟩:=by kernel_rfl
theorem ti26 {zi:Zi}:ti Tryz.prog 26=⟨true,1,24,false,[zsl],true,.sl 46⟩:=by kernel_rfl
theorem ti27 {zi:Zi}:ti Tryz.prog 27=⟨true,6,144,true,[zsl,zsl,zsl,zsl,zsl,zsl],true,.st [(0,1),(1,1),(2,1),(3,1),(4,1),(5,1)]⟩:=by kernel_rfl
theorem ti28 {zi:Zi}:ti Tryz.prog 28=⟨true,6,144,true,[zsl,zsl,zsl,zsl,zsl,zsl],true,.st [(0,1),(1,1),(2,1),(3,1),(4,1),(5,1)]⟩:=by kernel_rfl
theorem ti32 {zi:Zi}:ti Tryz.prog 32=⟨true,1,8,false,[.int .i64 0],true,.int .i64⟩:=by kernel_rfl
theorem ti41 {zi:Zi}:ti Tryz.prog 41=⟨true,1,24,false,[zsl],true,.sl 93⟩:=by kernel_rfl
theorem ti42 {zi:Zi}:ti Tryz.prog 42=⟨true,1,24,false,[zsl],true,.sl 93⟩:=by kernel_rfl
theorem ti43 {zi:Zi}:ti Tryz.prog 43=⟨true,2,32,true,[.bool false,zsl],true,.st [(0,1),(1,1)]⟩:=by kernel_rfl
theorem ti44 {zi:Zi}:ti Tryz.prog 44=⟨true,2,32,true,[.bool false,zsl],true,.st [(0,1),(1,1)]⟩:=by kernel_rfl
theorem ti45 {zi:Zi}:ti Tryz.prog 45=⟨true,3,56,true,[.bool false,zsl,zsl],true,.st [(0,2),(2,1)]⟩:=by kernel_rfl
theorem ti46 {zi:Zi}:ti Tryz.prog 46=⟨true,3,56,true,[.bool false,zsl,zsl],true,.st [(0,2),(2,1)]⟩:=by kernel_rfl
theorem ti53 {zi:Zi}:ti Tryz.prog 53=⟨true,4,48,true,[.bool false,zsl,.int .i64 0,.bool false],true,.st [(0,2),(2,1),(3,1)]⟩:=by kernel_rfl
theorem ti54 {zi:Zi}:ti Tryz.prog 54=⟨true,4,48,true,[.bool false,zsl,.int .i64 0,.bool false],true,.st [(0,2),(2,1),(3,1)]⟩:=by kernel_rfl
theorem ti55 {zi:Zi}:ti Tryz.prog 55=⟨true,21,344,true,[zsl,zsl,.bool false,zsl,.bool false,zsl,.bool false,zsl,.bool false,zsl,.int .i64 0,.int .i64 0,.bool false,zsl,.int .i64 0,.bool false,zsl,zsl,.bool false,zsl,zsl],true,.st [(0,1),(1,1),(2,2),(4,2),(6,2),(8,2),(10,1),(11,1),(12,4),(16,1),(17,1),(18,3)]⟩:=by kernel_rfl
theorem ti56 {zi:Zi}:ti Tryz.prog 56=⟨true,21,344,true,[zsl,zsl,.bool false,zsl,.bool false,zsl,.bool false,zsl,.bool false,zsl,.int .i64 0,.int .i64 0,.bool false,zsl,.int .i64 0,.bool false,zsl,zsl,.bool false,zsl,zsl],true,.st [(0,1),(1,1),(2,2),(4,2),(6,2),(8,2),(10,1),(11,1),(12,4),(16,1),(17,1),(18,3)]⟩:=by kernel_rfl
theorem ti64 {zi:Zi}:ti Tryz.prog 64=⟨true,1,24,false,[zsl],true,.sl 121⟩:=by kernel_rfl
theorem ti65 {zi:Zi}:ti Tryz.prog 65=⟨true,1,24,false,[zsl],true,.sl 127⟩:=by kernel_rfl
theorem ti66 {zi:Zi}:ti Tryz.prog 66=⟨true,3,56,true,[.int .i64 0,zsl,zsl],true,.st [(0,1),(1,1),(2,1)]⟩:=by kernel_rfl
theorem ti67 {zi:Zi}:ti Tryz.prog 67=⟨true,3,56,true,[.int .i64 0,zsl,zsl],true,.st [(0,1),(1,1),(2,1)]⟩:=by kernel_rfl
theorem ti68 {zi:Zi}:ti Tryz.prog 68=⟨true,1,24,false,[zsl],true,.sl 72⟩:=by kernel_rfl
theorem ti71 {zi:Zi}:ti Tryz.prog 71=⟨true,2,32,true,[zsl,.int .i64 0],true,.st [(0,1),(1,1)]⟩:=by kernel_rfl
theorem ti72 {zi:Zi}:ti Tryz.prog 72=⟨true,2,32,true,[zsl,.int .i64 0],true,.st [(0,1),(1,1)]⟩:=by kernel_rfl
theorem ti73 {zi:Zi}:ti Tryz.prog 73=⟨true,1,24,false,[zsl],true,.sl 3⟩:=by kernel_rfl
theorem ti74 {zi:Zi}:ti Tryz.prog 74=⟨true,4,80,true,[zsl,zsl,zsl,.bool false],true,.st [(0,1),(1,1),(2,1),(3,1)]⟩:=by kernel_rfl
theorem ti75 {zi:Zi}:ti Tryz.prog 75=⟨true,4,80,true,[zsl,zsl,zsl,.bool false],true,.st [(0,1),(1,1),(2,1),(3,1)]⟩:=by kernel_rfl
theorem ti93 {zi:Zi}:ti Tryz.prog 93=⟨true,1,8,false,[.int .u64 0],true,.int .u64⟩:=by kernel_rfl
theorem ti120 {zi:Zi}:ti Tryz.prog 120=⟨true,3,24,true,[.int .i64 0,.int .i64 0,.int .i64 0],true,.st [(0,1),(1,1),(2,1)]⟩:=by kernel_rfl
theorem ti121 {zi:Zi}:ti Tryz.prog 121=⟨true,3,24,true,[.int .i64 0,.int .i64 0,.int .i64 0],true,.st [(0,1),(1,1),(2,1)]⟩:=by kernel_rfl
theorem ti127 {zi:Zi}:ti Tryz.prog 127=⟨true,2,16,true,[.int .i64 0,.int .i64 0],true,.arr 2 3⟩:=by kernel_rfl
theorem ti142 {zi:Zi}:ti Tryz.prog 142=⟨true,1,24,false,[zsl],true,.sl 26⟩:=by kernel_rfl
theorem ti163 {zi:Zi}:ti Tryz.prog 163=⟨true,1,8,false,[.int .u64 0],true,.int .u64⟩:=by kernel_rfl
theorem ti194 {zi:Zi}:ti Tryz.prog 194=⟨true,1,8,false,[.int .i64 0],true,.int .i64⟩:=by kernel_rfl
theorem ti202 {zi:Zi}:ti Tryz.prog 202=⟨true,1,4,false,[.int .u32 0],true,.int .u32⟩:=by kernel_rfl
theorem ti217 {zi:Zi}:ti Tryz.prog 217=⟨true,1,24,false,[zsl],true,.sl 42⟩:=by kernel_rfl
theorem ti225 {zi:Zi}:ti Tryz.prog 225=⟨true,1,8,false,[.int .u64 0],true,.int .u64⟩:=by kernel_rfl
theorem ti266 {zi:Zi}:ti Tryz.prog 266=⟨true,1,1,false,[.int .u8 0],true,.int .u8⟩:=by kernel_rfl
theorem ti267 {zi:Zi}:ti Tryz.prog 267=⟨true,1,1,false,[.int .u8 0],true,.int .u8⟩:=by kernel_rfl
theorem ti270 {zi:Zi}:ti Tryz.prog 270=⟨true,1,4,false,[.int .i32 0],true,.int .i32⟩:=by kernel_rfl
theorem ti271 {zi:Zi}:ti Tryz.prog 271=⟨true,1,4,false,[.int .i32 0],true,.int .i32⟩:=by kernel_rfl
theorem str9:isStr Tryz.prog 9=True:=eq_true Tryz.underlying9
@[reducible] def ziX:Zi:=⟨some (93,1),λ_=>false,λ_=>false,.no⟩
theorem zstX : @Zi.st ziX=.no:=rfl
theorem zbxX (e:Nat) : @Zi.bx ziX e=false:=rfl
theorem zbsX (e:Nat) : @Zi.bs ziX e=false:=rfl
theorem zslX : @zsl ziX=.own none 93 1 []:=rfl
def tis:=And.intro @ti2 (And.intro @ti3 (And.intro @ti4 (And.intro @ti5 (And.intro @ti6 (And.intro @ti7 (And.intro @ti8 (And.intro @ti12 (And.intro @ti21 (And.intro @ti22 (And.intro @ti23 (And.intro @ti24 (And.intro @ti25 (And.intro @ti26 (And.intro @ti27 (And.intro @ti28 (And.intro @ti32 (And.intro @ti41 (And.intro @ti42 (And.intro @ti43 (And.intro @ti44 (And.intro @ti45 (And.intro @ti46 (And.intro @ti53 (And.intro @ti54 (And.intro @ti55 (And.intro @ti56 (And.intro @ti64 (And.intro @ti65 (And.intro @ti66 (And.intro @ti67 (And.intro @ti68 (And.intro @ti71 (And.intro @ti72 (And.intro @ti73 (And.intro @ti74 (And.intro @ti75 (And.intro @ti93 (And.intro @ti120 (And.intro @ti121 (And.intro @ti127 (And.intro @ti142 (And.intro @ti163 (And.intro @ti194 (And.intro @ti202 (And.intro @ti217 (And.intro @ti225 (And.intro @ti266 (And.intro @ti267 (And.intro @ti270 (And.intro @ti271 (And.intro @str9 (And.intro @zstX (And.intro @zbxX (And.intro @zbsX (@zslX)))))))))))))))))))))))))))))))))))))))))))))))))))))))
def wt:=And.intro wk tis
theorem ords:Tryz.prog.follows .mixedOrders=true:=by kernel_rfl
end Go.Proofs.YtbnincgnfiaemaaGreat
