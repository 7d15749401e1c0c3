/-
 Contracts of the functions that the law reaches.
-/
import Derived.Test.YtnhghmibjddlkaaGreatDoorChecked
import Derived.KernelRfl
import Derived.Test.YtnhghmibjddlkaaGreatDoorAbsFM
namespace Go.Proofs.YtnhghmibjddlkaaGreatDoor
open Go Go.Proofs Go.AL
set_option linter.defProp false
set_option linter.unusedVariables false
theorem ti2 {zi:Zi}:ti Tryz.prog 2=⟨true,1,8,false,[.int .i64 0],true,.int .i64⟩:=by kernel_rfl
theorem ti3 {zi:Zi}:ti Tryz.prog 3=⟨true,1,8,false,[.int .i64 0],true,.int .i64⟩:=by kernel_rfl
theorem ti4 {zi:Zi}:ti Tryz.prog 4=⟨true,1,1,false,[.bool false],true,.bool⟩:=by kernel_rfl
theorem ti5 {zi:Zi}:ti Tryz.prog 5=⟨true,1,1,false,[.int .u8 0],true,.int .u8⟩:=by kernel_rfl
theorem ti6 {zi:Zi}:ti Tryz.prog 6=⟨true,1,1,false,[.int .u8 0],true,.int .u8⟩:=by kernel_rfl
theorem ti7 {zi:Zi}:ti Tryz.prog 7=⟨true,4,24,true,[.int .i64 0,.int .i64 0,.bool false,.int .u8 0],true,.st [(0,1),(1,1),(2,1),(3,1)]⟩:=by kernel_rfl
theorem ti8 {zi:Zi}:ti Tryz.prog 8=⟨true,4,24,true,[.int .i64 0,.int .i64 0,.bool false,.int .u8 0],true,.st [(0,1),(1,1),(2,1),(3,1)]⟩:=by kernel_rfl
theorem b4V {zi:Zi}:ti Tryz.prog 12=⟨true,1,8,false,[.int .u64 0],true,.int .u64⟩:=by kernel_rfl
theorem b4U {zi:Zi}:ti Tryz.prog 21=⟨true,1,4,false,[.int .i32 0],true,.int .i32⟩:=by kernel_rfl
theorem b4T {zi:Zi}:ti Tryz.prog 22=⟨true,1,24,false,[zsl],true,.sl 65⟩:=by kernel_rfl
theorem b4S {zi:Zi}:ti Tryz.prog 23=⟨true,1,24,false,[zsl],true,.sl 70⟩:=by kernel_rfl
theorem b4R {zi:Zi}:ti Tryz.prog 24=⟨true,3,56,true,[.int .i64 0,zsl,zsl],true,.st [(0,1),(1,1),(2,1)]⟩:=by kernel_rfl
theorem b4Q {zi:Zi}:ti Tryz.prog 25=⟨true,3,56,true,[.int .i64 0,zsl,zsl],true,.st [(0,1),(1,1),(2,1)]⟩:=by kernel_rfl
theorem b4P {zi:Zi}:ti Tryz.prog 26=⟨true,1,24,false,[zsl],true,.sl 73⟩:=by kernel_rfl
theorem b4O {zi:Zi}:ti Tryz.prog 27=⟨true,1,24,false,[zsl],true,.sl 73⟩:=by kernel_rfl
theorem b4N {zi:Zi}:ti Tryz.prog 28=⟨true,2,32,true,[.bool false,zsl],true,.st [(0,1),(1,1)]⟩:=by kernel_rfl
theorem b4M {zi:Zi}:ti Tryz.prog 29=⟨true,2,32,true,[.bool false,zsl],true,.st [(0,1),(1,1)]⟩:=by kernel_rfl
theorem b4L {zi:Zi}:ti Tryz.prog 30=⟨true,3,56,true,[.bool false,zsl,zsl],true,.st [(0,2),(2,1)]⟩:=by kernel_rfl
theorem b4K {zi:Zi}:ti Tryz.prog 31=⟨true,3,56,true,[.bool false,zsl,zsl],true,.st [(0,2),(2,1)]⟩:=by kernel_rfl
theorem b4J {zi:Zi}:ti Tryz.prog 32=⟨true,1,8,false,[.int .i64 0],true,.int .i64⟩:=by kernel_rfl
theorem b4I {zi:Zi}:ti Tryz.prog 35=⟨true,1,24,false,[zsl],true,.sl 62⟩:=by kernel_rfl
theorem b4H {zi:Zi}:ti Tryz.prog 38=⟨true,1,24,false,[zsl],true,.sl 29⟩:=by kernel_rfl
theorem b4G {zi:Zi}:ti Tryz.prog 39=⟨true,1,24,false,[zsl],true,.sl 29⟩:=by kernel_rfl
theorem b4F {zi:Zi}:ti Tryz.prog 43=⟨true,1,24,false,[zsl],true,.sl 31⟩:=by kernel_rfl
theorem b4E {zi:Zi}:ti Tryz.prog 44=⟨true,1,24,false,[zsl],true,.sl 3⟩:=by kernel_rfl
theorem b4D {zi:Zi}:ti Tryz.prog 45=⟨true,4,80,true,[zsl,zsl,zsl,.bool false],true,.st [(0,1),(1,1),(2,1),(3,1)]⟩:=by kernel_rfl
theorem b4C {zi:Zi}:ti Tryz.prog 46=⟨true,4,80,true,[zsl,zsl,zsl,.bool false],true,.st [(0,1),(1,1),(2,1),(3,1)]⟩:=by kernel_rfl
theorem b4B {zi:Zi}:ti Tryz.prog 61=⟨true,4,48,true,[.bool false,zsl,.int .i64 0,.bool false],true,.st [(0,2),(2,1),(3,1)]⟩:=by kernel_rfl
theorem b4A {zi:Zi}:ti Tryz.prog 62=⟨true,4,48,true,[.bool false,zsl,.int .i64 0,.bool false],true,.st [(0,2),(2,1),(3,1)]⟩:=by kernel_rfl
theorem b4z {zi:Zi}:ti Tryz.prog 64=⟨true,3,24,true,[.int .i64 0,.int .i64 0,.int .i64 0],true,.st [(0,1),(1,1),(2,1)]⟩:=by kernel_rfl
theorem b4y {zi:Zi}:ti Tryz.prog 65=⟨true,3,24,true,[.int .i64 0,.int .i64 0,.int .i64 0],true,.st [(0,1),(1,1),(2,1)]⟩:=by kernel_rfl
theorem b4x {zi:Zi}:ti Tryz.prog 70=⟨true,2,16,true,[.int .i64 0,.int .i64 0],true,.arr 2 3⟩:=by kernel_rfl
theorem b4w {zi:Zi}:ti Tryz.prog 73=⟨true,1,8,false,[.int .u64 0],true,.int .u64⟩:=by kernel_rfl
theorem b4v {zi:Zi}:ti Tryz.prog 86=⟨true,1,24,false,[zsl],true,.sl 89⟩:=by kernel_rfl
theorem b4u {zi:Zi}:ti Tryz.prog 88=⟨true,5,72,true,[.bool false,zsl,.int .i64 0,.bool false,zsl],true,.st [(0,2),(2,1),(3,1),(4,1)]⟩:=by kernel_rfl
theorem b4t {zi:Zi}:ti Tryz.prog 89=⟨true,5,72,true,[.bool false,zsl,.int .i64 0,.bool false,zsl],true,.st [(0,2),(2,1),(3,1),(4,1)]⟩:=by kernel_rfl
theorem b2z {zi:Zi}:ti Tryz.prog 153=⟨true,1,24,false,[zsl],true,.sl 39⟩:=by kernel_rfl
theorem b2y {zi:Zi}:ti Tryz.prog 167=⟨true,1,8,false,[.int .u64 0],true,.int .u64⟩:=by kernel_rfl
theorem b2x {zi:Zi}:ti Tryz.prog 184=⟨true,1,24,false,[zsl],true,.sl 27⟩:=by kernel_rfl
theorem b2w {zi:Zi}:ti Tryz.prog 188=⟨true,64,64,true,[.int .u8 0,.int .u8 0,.int .u8 0,.int .u8 0,.int .u8 0,.int .u8 0,.int .u8 0,.int .u8 0,.int .u8 0,.int .u8 0,.int .u8 0,.int .u8 0,.int .u8 0,.int .u8 0,.int .u8 0,.int .u8 0,.int .u8 0,.int .u8 0,.int .u8 0,.int .u8 0,.int .u8 0,.int .u8 0,.int .u8 0,.int .u8 0,.int .u8 0,.int .u8 0,.int .u8 0,.int .u8 0,.int .u8 0,.int .u8 0,.int .u8 0,.int .u8 0,.int .u8 0,.int .u8 0,.int .u8 0,.int .u8 0,.int .u8 0,.int .u8 0,.int .u8 0,.int .u8 0,.int .u8 0,.int .u8 0,.int .u8 0,.int .u8 0,.int .u8 0,.int .u8 0,.int .u8 0,.int .u8 0,.int .u8 0,.int .u8 0,.int .u8 0,.int .u8 0,.int .u8 0,.int .u8 0,.int .u8 0,.int .u8 0,.int .u8 0,.int .u8 0,.int .u8 0,.int .u8 0,.int .u8 0,.int .u8 0,.int .u8 0,.int .u8 0],true,.arr 64 5⟩:=by kernel_rfl
theorem b2v {zi:Zi}:ti Tryz.prog 199=⟨true,1,4,false,[.int .u32 0],true,.int .u32⟩:=by kernel_rfl
theorem b2u {zi:Zi}:ti Tryz.prog 200=⟨true,1,1,false,[.int .u8 0],true,.int .u8⟩:=by kernel_rfl
theorem b2t {zi:Zi}:ti Tryz.prog 201=⟨true,1,1,false,[.int .u8 0],true,.int .u8⟩:=by kernel_rfl
theorem b2s {zi:Zi}:ti Tryz.prog 204=⟨true,1,4,false,[.int .i32 0],true,.int .i32⟩:=by kernel_rfl
theorem b2r {zi:Zi}:ti Tryz.prog 205=⟨true,1,4,false,[.int .i32 0],true,.int .i32⟩:=by kernel_rfl
theorem str9:isStr Tryz.prog 9=True:=eq_true Tryz.underlying9
@[reducible] def ziX:Zi:=⟨some (73,1),λ_=>false,λ_=>false,.no⟩
theorem b3Z : @Zi.st ziX=.no:=rfl
theorem b4h (e:Nat) : @Zi.bx ziX e=false:=rfl
theorem b4l (e:Nat) : @Zi.bs ziX e=false:=rfl
theorem b4d : @zsl ziX=.own none 73 1 []:=rfl
def tis:=And.intro @ti2 (And.intro @ti3 (And.intro @ti4 (And.intro @ti5 (And.intro @ti6 (And.intro @ti7 (And.intro @ti8 (And.intro @b4V (And.intro @b4U (And.intro @b4T (And.intro @b4S (And.intro @b4R (And.intro @b4Q (And.intro @b4P (And.intro @b4O (And.intro @b4N (And.intro @b4M (And.intro @b4L (And.intro @b4K (And.intro @b4J (And.intro @b4I (And.intro @b4H (And.intro @b4G (And.intro @b4F (And.intro @b4E (And.intro @b4D (And.intro @b4C (And.intro @b4B (And.intro @b4A (And.intro @b4z (And.intro @b4y (And.intro @b4x (And.intro @b4w (And.intro @b4v (And.intro @b4u (And.intro @b4t (And.intro @b2z (And.intro @b2y (And.intro @b2x (And.intro @b2w (And.intro @b2v (And.intro @b2u (And.intro @b2t (And.intro @b2s (And.intro @b2r (And.intro @str9 (And.intro @b3Z (And.intro @b4h (And.intro @b4l (@b4d)))))))))))))))))))))))))))))))))))))))))))))))))
def wt:=And.intro wk tis
theorem bM:Tryz.prog.follows .mixedOrders=true:=by kernel_rfl
end Go.Proofs.YtnhghmibjddlkaaGreatDoor
