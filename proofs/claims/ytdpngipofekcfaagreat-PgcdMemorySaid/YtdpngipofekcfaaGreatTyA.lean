/-
 Contracts of the functions that the law reaches.
-/
import Derived.Test.YtdpngipofekcfaaGreatAbsK
import Derived.Test.YtdpngipofekcfaaGreatChecked
import Derived.KernelRfl
import Derived.Test.YtdpngipofekcfaaGreatAbsW
namespace Go.Proofs.YtdpngipofekcfaaGreat
open Go Go.Proofs Go.AL
set_option linter.defProp false
set_option linter.unusedVariables false
theorem ti2 {zi:Zi}:ti Tryz.prog 2=⟨true,1,8,false,[.int .i64 0],true,.int .i64⟩:=by kernel_rfl
theorem ti3 {zi:Zi}:ti Tryz.prog 3=⟨true,1,8,false,[.int .i64 0],true,.int .i64⟩:=by kernel_rfl
theorem ti4 {zi:Zi}:ti Tryz.prog 4=⟨true,1,1,false,[.bool false],true,.bool⟩:=by kernel_rfl
theorem ti5 {zi:Zi}:ti Tryz.prog 5=⟨true,1,1,false,[.int .u8 0],true,.int .u8⟩:=by kernel_rfl
theorem ti6 {zi:Zi}:ti Tryz.prog 6=⟨true,1,1,false,[.int .u8 0],true,.int .u8⟩:=by kernel_rfl
theorem ti7 {zi:Zi}:ti Tryz.prog 7=⟨true,4,24,true,[.int .i64 0,.int .i64 0,.bool false,.int .u8 0],true,.st [(0,1),(1,1),(2,1),(3,1)]⟩:=by kernel_rfl
theorem ti8 {zi:Zi}:ti Tryz.prog 8=⟨true,4,24,true,[.int .i64 0,.int .i64 0,.bool false,.int .u8 0],true,.st [(0,1),(1,1),(2,1),(3,1)]⟩:=by kernel_rfl
theorem b9v {zi:Zi}:ti Tryz.prog 12=⟨true,1,8,false,[.int .u64 0],true,.int .u64⟩:=by kernel_rfl
theorem b9u {zi:Zi}:ti Tryz.prog 21=⟨true,1,4,false,[.int .i32 0],true,.int .i32⟩:=by kernel_rfl
theorem b9t {zi:Zi}:ti Tryz.prog 22=⟨true,1,24,false,[zsl],true,.sl 32⟩:=by kernel_rfl
theorem b9s {zi:Zi}:ti Tryz.prog 23=⟨true,1,24,false,[zsl],true,.sl 32⟩:=by kernel_rfl
theorem b9r {zi:Zi}:ti Tryz.prog 27=⟨true,1,24,false,[zsl],true,.sl 148⟩:=by kernel_rfl
theorem b9q {zi:Zi}:ti Tryz.prog 28=⟨true,1,24,false,[zsl],true,.sl 148⟩:=by kernel_rfl
theorem b9p {zi:Zi}:ti Tryz.prog 29=⟨true,2,32,true,[.bool false,zsl],true,.st [(0,1),(1,1)]⟩:=by kernel_rfl
theorem b9o {zi:Zi}:ti Tryz.prog 30=⟨true,2,32,true,[.bool false,zsl],true,.st [(0,1),(1,1)]⟩:=by kernel_rfl
theorem b9n {zi:Zi}:ti Tryz.prog 31=⟨true,3,56,true,[.bool false,zsl,zsl],true,.st [(0,2),(2,1)]⟩:=by kernel_rfl
theorem b9m {zi:Zi}:ti Tryz.prog 32=⟨true,3,56,true,[.bool false,zsl,zsl],true,.st [(0,2),(2,1)]⟩:=by kernel_rfl
theorem b9l {zi:Zi}:ti Tryz.prog 35=⟨true,1,24,false,[zsl],true,.sl 27⟩:=by kernel_rfl
theorem b9k {zi:Zi}:ti Tryz.prog 36=⟨true,3,72,true,[zsl,zsl,zsl],true,.st [(0,1),(1,1),(2,1)]⟩:=by kernel_rfl
theorem b9j {zi:Zi}:ti Tryz.prog 37=⟨true,3,72,true,[zsl,zsl,zsl],true,.st [(0,1),(1,1),(2,1)]⟩:=by kernel_rfl
theorem b9i {zi:Zi}:ti Tryz.prog 38=⟨true,1,24,false,[zsl],true,.sl 49⟩:=by kernel_rfl
theorem b9h {zi:Zi}:ti Tryz.prog 39=⟨true,1,24,false,[zsl],true,.sl 22⟩:=by kernel_rfl
theorem b9g {zi:Zi}:ti Tryz.prog 40=⟨true,7,168,true,[zsl,zsl,zsl,zsl,zsl,zsl,zsl],true,.st [(0,3),(3,1),(4,1),(5,1),(6,1)]⟩:=by kernel_rfl
theorem b9f {zi:Zi}:ti Tryz.prog 41=⟨true,7,168,true,[zsl,zsl,zsl,zsl,zsl,zsl,zsl],true,.st [(0,3),(3,1),(4,1),(5,1),(6,1)]⟩:=by kernel_rfl
theorem b9e {zi:Zi}:ti Tryz.prog 43=⟨true,1,8,false,[.int .i64 0],true,.int .i64⟩:=by kernel_rfl
theorem b9d {zi:Zi}:ti Tryz.prog 49=⟨true,1,24,false,[zsl],true,.sl 30⟩:=by kernel_rfl
theorem b9c {zi:Zi}:ti Tryz.prog 50=⟨true,1,24,false,[zsl],true,.sl 30⟩:=by kernel_rfl
theorem b9b {zi:Zi}:ti Tryz.prog 74=⟨true,15,280,true,[zsl,zsl,zsl,zsl,.bool false,zsl,.bool false,zsl,.bool false,zsl,zsl,.bool false,zsl,zsl,.int .i64 0],true,.st [(0,1),(1,1),(2,1),(3,1),(4,2),(6,2),(8,3),(11,3),(14,1)]⟩:=by kernel_rfl
theorem b9a {zi:Zi}:ti Tryz.prog 75=⟨true,15,280,true,[zsl,zsl,zsl,zsl,.bool false,zsl,.bool false,zsl,.bool false,zsl,zsl,.bool false,zsl,zsl,.int .i64 0],true,.st [(0,1),(1,1),(2,1),(3,1),(4,2),(6,2),(8,3),(11,3),(14,1)]⟩:=by kernel_rfl
theorem b8Z {zi:Zi}:ti Tryz.prog 77=⟨true,1,24,false,[zsl],true,.sl 28⟩:=by kernel_rfl
theorem b8Y {zi:Zi}:ti Tryz.prog 78=⟨true,3,72,true,[zsl,zsl,zsl],true,.st [(0,1),(1,1),(2,1)]⟩:=by kernel_rfl
theorem b8X {zi:Zi}:ti Tryz.prog 79=⟨true,3,72,true,[zsl,zsl,zsl],true,.st [(0,1),(1,1),(2,1)]⟩:=by kernel_rfl
theorem b8W {zi:Zi}:ti Tryz.prog 82=⟨true,1,24,false,[zsl],true,.sl 50⟩:=by kernel_rfl
theorem b8V {zi:Zi}:ti Tryz.prog 83=⟨true,1,24,false,[zsl],true,.sl 23⟩:=by kernel_rfl
theorem b8U {zi:Zi}:ti Tryz.prog 84=⟨true,1,24,false,[zsl],true,.sl 209⟩:=by kernel_rfl
theorem b8T {zi:Zi}:ti Tryz.prog 85=⟨true,1,24,false,[zsl],true,.sl 212⟩:=by kernel_rfl
theorem b8S {zi:Zi}:ti Tryz.prog 86=⟨true,1,24,false,[zsl],true,.sl 102⟩:=by kernel_rfl
theorem b8R {zi:Zi}:ti Tryz.prog 87=⟨true,6,144,true,[zsl,zsl,zsl,zsl,zsl,zsl],true,.st [(0,1),(1,1),(2,1),(3,1),(4,1),(5,1)]⟩:=by kernel_rfl
theorem b8Q {zi:Zi}:ti Tryz.prog 88=⟨true,6,144,true,[zsl,zsl,zsl,zsl,zsl,zsl],true,.st [(0,1),(1,1),(2,1),(3,1),(4,1),(5,1)]⟩:=by kernel_rfl
theorem b6I {zi:Zi}:ti Tryz.prog 102=⟨true,1,24,false,[zsl],true,.sl 3⟩:=by kernel_rfl
theorem b6H {zi:Zi}:ti Tryz.prog 112=⟨true,6,144,true,[zsl,zsl,zsl,zsl,zsl,zsl],true,.st [(0,1),(1,1),(2,1),(3,1),(4,1),(5,1)]⟩:=by kernel_rfl
theorem b6G {zi:Zi}:ti Tryz.prog 113=⟨true,6,144,true,[zsl,zsl,zsl,zsl,zsl,zsl],true,.st [(0,1),(1,1),(2,1),(3,1),(4,1),(5,1)]⟩:=by kernel_rfl
theorem b6F {zi:Zi}:ti Tryz.prog 115=⟨true,3,72,true,[zsl,zsl,zsl],true,.st [(0,1),(1,1),(2,1)]⟩:=by kernel_rfl
theorem b6E {zi:Zi}:ti Tryz.prog 116=⟨true,3,72,true,[zsl,zsl,zsl],true,.st [(0,1),(1,1),(2,1)]⟩:=by kernel_rfl
theorem b6D {zi:Zi}:ti Tryz.prog 119=⟨true,3,72,true,[zsl,zsl,zsl],true,.st [(0,1),(1,1),(2,1)]⟩:=by kernel_rfl
theorem b6C {zi:Zi}:ti Tryz.prog 120=⟨true,3,72,true,[zsl,zsl,zsl],true,.st [(0,1),(1,1),(2,1)]⟩:=by kernel_rfl
theorem b6B {zi:Zi}:ti Tryz.prog 148=⟨true,1,8,false,[.int .u64 0],true,.int .u64⟩:=by kernel_rfl
theorem b6A {zi:Zi}:ti Tryz.prog 149=⟨true,1,8,false,[.int .u64 0],true,.int .u64⟩:=by kernel_rfl
theorem b6z {zi:Zi}:ti Tryz.prog 209=⟨true,1,24,false,[zsl],true,.sl 211⟩:=by kernel_rfl
theorem b6y {zi:Zi}:ti Tryz.prog 210=⟨true,4,48,true,[.bool false,zsl,.int .i64 0,.bool false],true,.st [(0,2),(2,1),(3,1)]⟩:=by kernel_rfl
theorem b6x {zi:Zi}:ti Tryz.prog 211=⟨true,4,48,true,[.bool false,zsl,.int .i64 0,.bool false],true,.st [(0,2),(2,1),(3,1)]⟩:=by kernel_rfl
theorem b6w {zi:Zi}:ti Tryz.prog 212=⟨true,1,24,false,[zsl],true,.sl 214⟩:=by kernel_rfl
theorem b6v {zi:Zi}:ti Tryz.prog 213=⟨true,2,32,true,[zsl,.int .i64 0],true,.st [(0,1),(1,1)]⟩:=by kernel_rfl
theorem b6u {zi:Zi}:ti Tryz.prog 214=⟨true,2,32,true,[zsl,.int .i64 0],true,.st [(0,1),(1,1)]⟩:=by kernel_rfl
theorem b6t {zi:Zi}:ti Tryz.prog 280=⟨true,1,4,false,[.int .u32 0],true,.int .u32⟩:=by kernel_rfl
theorem b6s {zi:Zi}:ti Tryz.prog 281=⟨true,1,1,false,[.int .u8 0],true,.int .u8⟩:=by kernel_rfl
theorem b6r {zi:Zi}:ti Tryz.prog 282=⟨true,1,1,false,[.int .u8 0],true,.int .u8⟩:=by kernel_rfl
theorem b6q {zi:Zi}:ti Tryz.prog 285=⟨true,1,4,false,[.int .i32 0],true,.int .i32⟩:=by kernel_rfl
theorem b6p {zi:Zi}:ti Tryz.prog 286=⟨true,1,4,false,[.int .i32 0],true,.int .i32⟩:=by kernel_rfl
theorem str9:isStr Tryz.prog 9=True:=eq_true Tryz.underlying9
@[reducible] def ziX:Zi:=⟨some (148,1),λ_=>false,λ_=>false,.no⟩
theorem b8A : @Zi.st ziX=.no:=rfl
theorem b8F (e:Nat) : @Zi.bx ziX e=false:=rfl
theorem b8I (e:Nat) : @Zi.bs ziX e=false:=rfl
theorem b8C : @zsl ziX=.own none 148 1 []:=rfl
def tis:=zaa @ti2 (zaa @ti3 (zaa @ti4 (zaa @ti5 (zaa @ti6 (zaa @ti7 (zaa @ti8 (zaa @b9v (zaa @b9u (zaa @b9t (zaa @b9s (zaa @b9r (zaa @b9q (zaa @b9p (zaa @b9o (zaa @b9n (zaa @b9m (zaa @b9l (zaa @b9k (zaa @b9j (zaa @b9i (zaa @b9h (zaa @b9g (zaa @b9f (zaa @b9e (zaa @b9d (zaa @b9c (zaa @b9b (zaa @b9a (zaa @b8Z (zaa @b8Y (zaa @b8X (zaa @b8W (zaa @b8V (zaa @b8U (zaa @b8T (zaa @b8S (zaa @b8R (zaa @b8Q (zaa @b6I (zaa @b6H (zaa @b6G (zaa @b6F (zaa @b6E (zaa @b6D (zaa @b6C (zaa @b6B (zaa @b6A (zaa @b6z (zaa @b6y (zaa @b6x (zaa @b6w (zaa @b6v (zaa @b6u (zaa @b6t (zaa @b6s (zaa @b6r (zaa @b6q (zaa @b6p (zaa @str9 (zaa @b8A (zaa @b8F (zaa @b8I (@b8C)))))))))))))))))))))))))))))))))))))))))))))))))))))))))))))))
def wt:=zaa wk tis
theorem aV:Tryz.prog.follows .mixedOrders=true:=by kernel_rfl
end Go.Proofs.YtdpngipofekcfaaGreat
