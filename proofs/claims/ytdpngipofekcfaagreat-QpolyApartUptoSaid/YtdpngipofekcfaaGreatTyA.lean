/-
 Contracts of the functions that the law reaches.
-/
import Derived.Test.YtdpngipofekcfaaGreatChecked
import Derived.KernelRfl
import Derived.Test.YtdpngipofekcfaaGreatAbsQM
namespace Go.Proofs.YtdpngipofekcfaaGreat
open Go Go.Proofs Go.AL
set_option linter.defProp false
set_option linter.unusedVariables false
theorem ti2 {zi:Zi}:ti Tryz.prog 2=⟨true,1,8,false,[.int .i64 0],true,.int .i64⟩:=by kernel_rfl
theorem ti3 {zi:Zi}:ti Tryz.prog 3=⟨true,1,8,false,[.int .i64 0],true,.int .i64⟩:=by kernel_rfl
theorem ti4 {zi:Zi}:ti Tryz.prog 4=⟨true,1,1,false,[.bool false],true,.bool⟩:=by kernel_rfl
theorem ti5 {zi:Zi}:ti Tryz.prog 5=⟨true,1,1,false,[.int .u8 0],true,.int .u8⟩:=by kernel_rfl
theorem ti6 {zi:Zi}:ti Tryz.prog 6=⟨true,1,1,false,[.int .u8 0],true,.int .u8⟩:=by kernel_rfl
theorem ti7 {zi:Zi}:ti Tryz.prog 7=⟨true,4,24,true,[.int .i64 0,.int .i64 0,.bool false,.int .u8 0],true,.st [(0,1),(1,1),(2,1),(3,1)]⟩:=by kernel_rfl
theorem ti8 {zi:Zi}:ti Tryz.prog 8=⟨true,4,24,true,[.int .i64 0,.int .i64 0,.bool false,.int .u8 0],true,.st [(0,1),(1,1),(2,1),(3,1)]⟩:=by kernel_rfl
theorem b0F {zi:Zi}:ti Tryz.prog 12=⟨true,1,8,false,[.int .u64 0],true,.int .u64⟩:=by kernel_rfl
theorem b0E {zi:Zi}:ti Tryz.prog 21=⟨true,1,4,false,[.int .i32 0],true,.int .i32⟩:=by kernel_rfl
theorem a8p {zi:Zi}:ti Tryz.prog 22=⟨true,1,24,false,[zsl],true,.sl 32⟩:=by kernel_rfl
theorem b0D {zi:Zi}:ti Tryz.prog 23=⟨true,1,24,false,[zsl],true,.sl 32⟩:=by kernel_rfl
theorem a6r {zi:Zi}:ti Tryz.prog 27=⟨true,1,24,false,[zsl],true,.sl 148⟩:=by kernel_rfl
theorem b0C {zi:Zi}:ti Tryz.prog 28=⟨true,1,24,false,[zsl],true,.sl 148⟩:=by kernel_rfl
theorem b0B {zi:Zi}:ti Tryz.prog 29=⟨true,2,32,true,[.bool false,zsl],true,.st [(0,1),(1,1)]⟩:=by kernel_rfl
theorem a7Q {zi:Zi}:ti Tryz.prog 30=⟨true,2,32,true,[.bool false,zsl],true,.st [(0,1),(1,1)]⟩:=by kernel_rfl
theorem b0A {zi:Zi}:ti Tryz.prog 31=⟨true,3,56,true,[.bool false,zsl,zsl],true,.st [(0,2),(2,1)]⟩:=by kernel_rfl
theorem a7P {zi:Zi}:ti Tryz.prog 32=⟨true,3,56,true,[.bool false,zsl,zsl],true,.st [(0,2),(2,1)]⟩:=by kernel_rfl
theorem b0z {zi:Zi}:ti Tryz.prog 35=⟨true,1,24,false,[zsl],true,.sl 27⟩:=by kernel_rfl
theorem b0y {zi:Zi}:ti Tryz.prog 36=⟨true,3,72,true,[zsl,zsl,zsl],true,.st [(0,1),(1,1),(2,1)]⟩:=by kernel_rfl
theorem b0x {zi:Zi}:ti Tryz.prog 37=⟨true,3,72,true,[zsl,zsl,zsl],true,.st [(0,1),(1,1),(2,1)]⟩:=by kernel_rfl
theorem b0w {zi:Zi}:ti Tryz.prog 38=⟨true,1,24,false,[zsl],true,.sl 49⟩:=by kernel_rfl
theorem b0v {zi:Zi}:ti Tryz.prog 39=⟨true,1,24,false,[zsl],true,.sl 22⟩:=by kernel_rfl
theorem b0u {zi:Zi}:ti Tryz.prog 40=⟨true,7,168,true,[zsl,zsl,zsl,zsl,zsl,zsl,zsl],true,.st [(0,3),(3,1),(4,1),(5,1),(6,1)]⟩:=by kernel_rfl
theorem b0t {zi:Zi}:ti Tryz.prog 41=⟨true,7,168,true,[zsl,zsl,zsl,zsl,zsl,zsl,zsl],true,.st [(0,3),(3,1),(4,1),(5,1),(6,1)]⟩:=by kernel_rfl
theorem b0s {zi:Zi}:ti Tryz.prog 43=⟨true,1,8,false,[.int .i64 0],true,.int .i64⟩:=by kernel_rfl
theorem a8j {zi:Zi}:ti Tryz.prog 49=⟨true,1,24,false,[zsl],true,.sl 30⟩:=by kernel_rfl
theorem b0r {zi:Zi}:ti Tryz.prog 50=⟨true,1,24,false,[zsl],true,.sl 30⟩:=by kernel_rfl
theorem b0q {zi:Zi}:ti Tryz.prog 74=⟨true,15,280,true,[zsl,zsl,zsl,zsl,.bool false,zsl,.bool false,zsl,.bool false,zsl,zsl,.bool false,zsl,zsl,.int .i64 0],true,.st [(0,1),(1,1),(2,1),(3,1),(4,2),(6,2),(8,3),(11,3),(14,1)]⟩:=by kernel_rfl
theorem b0p {zi:Zi}:ti Tryz.prog 75=⟨true,15,280,true,[zsl,zsl,zsl,zsl,.bool false,zsl,.bool false,zsl,.bool false,zsl,zsl,.bool false,zsl,zsl,.int .i64 0],true,.st [(0,1),(1,1),(2,1),(3,1),(4,2),(6,2),(8,3),(11,3),(14,1)]⟩:=by kernel_rfl
theorem b0o {zi:Zi}:ti Tryz.prog 77=⟨true,1,24,false,[zsl],true,.sl 28⟩:=by kernel_rfl
theorem b0n {zi:Zi}:ti Tryz.prog 78=⟨true,3,72,true,[zsl,zsl,zsl],true,.st [(0,1),(1,1),(2,1)]⟩:=by kernel_rfl
theorem b0m {zi:Zi}:ti Tryz.prog 79=⟨true,3,72,true,[zsl,zsl,zsl],true,.st [(0,1),(1,1),(2,1)]⟩:=by kernel_rfl
theorem b0l {zi:Zi}:ti Tryz.prog 82=⟨true,1,24,false,[zsl],true,.sl 50⟩:=by kernel_rfl
theorem b0k {zi:Zi}:ti Tryz.prog 83=⟨true,1,24,false,[zsl],true,.sl 23⟩:=by kernel_rfl
theorem b0j {zi:Zi}:ti Tryz.prog 84=⟨true,1,24,false,[zsl],true,.sl 209⟩:=by kernel_rfl
theorem b0i {zi:Zi}:ti Tryz.prog 85=⟨true,1,24,false,[zsl],true,.sl 212⟩:=by kernel_rfl
theorem b0h {zi:Zi}:ti Tryz.prog 86=⟨true,1,24,false,[zsl],true,.sl 102⟩:=by kernel_rfl
theorem b0g {zi:Zi}:ti Tryz.prog 87=⟨true,6,144,true,[zsl,zsl,zsl,zsl,zsl,zsl],true,.st [(0,1),(1,1),(2,1),(3,1),(4,1),(5,1)]⟩:=by kernel_rfl
theorem b0f {zi:Zi}:ti Tryz.prog 88=⟨true,6,144,true,[zsl,zsl,zsl,zsl,zsl,zsl],true,.st [(0,1),(1,1),(2,1),(3,1),(4,1),(5,1)]⟩:=by kernel_rfl
theorem a8D {zi:Zi}:ti Tryz.prog 102=⟨true,1,24,false,[zsl],true,.sl 3⟩:=by kernel_rfl
theorem a8C {zi:Zi}:ti Tryz.prog 112=⟨true,6,144,true,[zsl,zsl,zsl,zsl,zsl,zsl],true,.st [(0,1),(1,1),(2,1),(3,1),(4,1),(5,1)]⟩:=by kernel_rfl
theorem a8B {zi:Zi}:ti Tryz.prog 113=⟨true,6,144,true,[zsl,zsl,zsl,zsl,zsl,zsl],true,.st [(0,1),(1,1),(2,1),(3,1),(4,1),(5,1)]⟩:=by kernel_rfl
theorem a8A {zi:Zi}:ti Tryz.prog 115=⟨true,3,72,true,[zsl,zsl,zsl],true,.st [(0,1),(1,1),(2,1)]⟩:=by kernel_rfl
theorem a8z {zi:Zi}:ti Tryz.prog 116=⟨true,3,72,true,[zsl,zsl,zsl],true,.st [(0,1),(1,1),(2,1)]⟩:=by kernel_rfl
theorem a8y {zi:Zi}:ti Tryz.prog 119=⟨true,3,72,true,[zsl,zsl,zsl],true,.st [(0,1),(1,1),(2,1)]⟩:=by kernel_rfl
theorem a8x {zi:Zi}:ti Tryz.prog 120=⟨true,3,72,true,[zsl,zsl,zsl],true,.st [(0,1),(1,1),(2,1)]⟩:=by kernel_rfl
theorem Oa {zi:Zi}:ti Tryz.prog 148=⟨true,1,8,false,[.int .u64 0],true,.int .u64⟩:=by kernel_rfl
theorem a8w {zi:Zi}:ti Tryz.prog 149=⟨true,1,8,false,[.int .u64 0],true,.int .u64⟩:=by kernel_rfl
theorem a8v {zi:Zi}:ti Tryz.prog 209=⟨true,1,24,false,[zsl],true,.sl 211⟩:=by kernel_rfl
theorem a8u {zi:Zi}:ti Tryz.prog 210=⟨true,4,48,true,[.bool false,zsl,.int .i64 0,.bool false],true,.st [(0,2),(2,1),(3,1)]⟩:=by kernel_rfl
theorem a8t {zi:Zi}:ti Tryz.prog 211=⟨true,4,48,true,[.bool false,zsl,.int .i64 0,.bool false],true,.st [(0,2),(2,1),(3,1)]⟩:=by kernel_rfl
theorem a8s {zi:Zi}:ti Tryz.prog 212=⟨true,1,24,false,[zsl],true,.sl 214⟩:=by kernel_rfl
theorem a8r {zi:Zi}:ti Tryz.prog 213=⟨true,2,32,true,[zsl,.int .i64 0],true,.st [(0,1),(1,1)]⟩:=by kernel_rfl
theorem a8q {zi:Zi}:ti Tryz.prog 214=⟨true,2,32,true,[zsl,.int .i64 0],true,.st [(0,1),(1,1)]⟩:=by kernel_rfl
theorem a8o {zi:Zi}:ti Tryz.prog 280=⟨true,1,4,false,[.int .u32 0],true,.int .u32⟩:=by kernel_rfl
theorem a8n {zi:Zi}:ti Tryz.prog 281=⟨true,1,1,false,[.int .u8 0],true,.int .u8⟩:=by kernel_rfl
theorem a8m {zi:Zi}:ti Tryz.prog 282=⟨true,1,1,false,[.int .u8 0],true,.int .u8⟩:=by kernel_rfl
theorem a8l {zi:Zi}:ti Tryz.prog 285=⟨true,1,4,false,[.int .i32 0],true,.int .i32⟩:=by kernel_rfl
theorem a8k {zi:Zi}:ti Tryz.prog 286=⟨true,1,4,false,[.int .i32 0],true,.int .i32⟩:=by kernel_rfl
theorem str9:isStr Tryz.prog 9=True:=eq_true Tryz.underlying9
@[reducible] def ziX:Zi:=⟨some (148,1),fun _=>false,fun _=>false,.no⟩
theorem a9Q : @Zi.st ziX=.no:=rfl
theorem a9W (e:Nat) : @Zi.bx ziX e=false:=rfl
theorem a9Z (e:Nat) : @Zi.bs ziX e=false:=rfl
theorem a9T : @zsl ziX=.own none 148 1 []:=rfl
def tis:=And.intro @ti2 (And.intro @ti3 (And.intro @ti4 (And.intro @ti5 (And.intro @ti6 (And.intro @ti7 (And.intro @ti8 (And.intro @b0F (And.intro @b0E (And.intro @a8p (And.intro @b0D (And.intro @a6r (And.intro @b0C (And.intro @b0B (And.intro @a7Q (And.intro @b0A (And.intro @a7P (And.intro @b0z (And.intro @b0y (And.intro @b0x (And.intro @b0w (And.intro @b0v (And.intro @b0u (And.intro @b0t (And.intro @b0s (And.intro @a8j (And.intro @b0r (And.intro @b0q (And.intro @b0p (And.intro @b0o (And.intro @b0n (And.intro @b0m (And.intro @b0l (And.intro @b0k (And.intro @b0j (And.intro @b0i (And.intro @b0h (And.intro @b0g (And.intro @b0f (And.intro @a8D (And.intro @a8C (And.intro @a8B (And.intro @a8A (And.intro @a8z (And.intro @a8y (And.intro @a8x (And.intro @Oa (And.intro @a8w (And.intro @a8v (And.intro @a8u (And.intro @a8t (And.intro @a8s (And.intro @a8r (And.intro @a8q (And.intro @a8o (And.intro @a8n (And.intro @a8m (And.intro @a8l (And.intro @a8k (And.intro @str9 (And.intro @a9Q (And.intro @a9W (And.intro @a9Z (@a9T)))))))))))))))))))))))))))))))))))))))))))))))))))))))))))))))
def wt:=And.intro wk tis
theorem aX:Tryz.prog.follows .mixedOrders=true:=by kernel_rfl
end Go.Proofs.YtdpngipofekcfaaGreat
