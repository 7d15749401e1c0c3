/-
 Contracts of the functions that the law reaches.
-/
import Derived.Test.YtfmpegbdeppjbaaGreatChecked
import Derived.KernelRfl
import Derived.Test.YtfmpegbdeppjbaaGreatAbsPM
namespace Go.Proofs.YtfmpegbdeppjbaaGreat
open Go Go.Proofs Go.AL
set_option linter.defProp false
set_option linter.unusedVariables false
theorem ti2 {zi : Zi} : ti Tryz.prog 2 = ⟨true, 1, 8, false, [.int .i64 0], true, .int .i64⟩ := by kernel_rfl
theorem ti3 {zi : Zi} : ti Tryz.prog 3 = ⟨true, 1, 8, false, [.int .i64 0], true, .int .i64⟩ := by kernel_rfl
theorem ti4 {zi : Zi} : ti Tryz.prog 4 = ⟨true, 1, 1, false, [.bool false], true, .bool⟩ := by kernel_rfl
theorem ti5 {zi : Zi} : ti Tryz.prog 5 = ⟨true, 1, 1, false, [.int .u8 0], true, .int .u8⟩ := by kernel_rfl
theorem ti6 {zi : Zi} : ti Tryz.prog 6 = ⟨true, 1, 1, false, [.int .u8 0], true, .int .u8⟩ := by kernel_rfl
theorem ti7 {zi : Zi} : ti Tryz.prog 7 = ⟨true, 4, 24, true, [.int .i64 0, .int .i64 0, .bool false, .int .u8 0], true, .st [(0, 1), (1, 1), (2, 1), (3, 1)]⟩ := by kernel_rfl
theorem ti8 {zi : Zi} : ti Tryz.prog 8 = ⟨true, 4, 24, true, [.int .i64 0, .int .i64 0, .bool false, .int .u8 0], true, .st [(0, 1), (1, 1), (2, 1), (3, 1)]⟩ := by kernel_rfl
theorem ti12 {zi : Zi} : ti Tryz.prog 12 = ⟨true, 1, 8, false, [.int .u64 0], true, .int .u64⟩ := by kernel_rfl
theorem ti21 {zi : Zi} : ti Tryz.prog 21 = ⟨true, 1, 4, false, [.int .i32 0], true, .int .i32⟩ := by kernel_rfl
theorem ti22 {zi : Zi} : ti Tryz.prog 22 = ⟨true, 1, 24, false, [zsl], true, .sl 32⟩ := by kernel_rfl
theorem ti23 {zi : Zi} : ti Tryz.prog 23 = ⟨true, 1, 24, false, [zsl], true, .sl 32⟩ := by kernel_rfl
theorem ti27 {zi : Zi} : ti Tryz.prog 27 = ⟨true, 1, 24, false, [zsl], true, .sl 134⟩ := by kernel_rfl
theorem ti28 {zi : Zi} : ti Tryz.prog 28 = ⟨true, 1, 24, false, [zsl], true, .sl 134⟩ := by kernel_rfl
theorem ti29 {zi : Zi} : ti Tryz.prog 29 = ⟨true, 2, 32, true, [.bool false, zsl], true, .st [(0, 1), (1, 1)]⟩ := by kernel_rfl
theorem ti30 {zi : Zi} : ti Tryz.prog 30 = ⟨true, 2, 32, true, [.bool false, zsl], true, .st [(0, 1), (1, 1)]⟩ := by kernel_rfl
theorem ti31 {zi : Zi} : ti Tryz.prog 31 = ⟨true, 3, 56, true, [.bool false, zsl, zsl], true, .st [(0, 2), (2, 1)]⟩ := by kernel_rfl
theorem ti32 {zi : Zi} : ti Tryz.prog 32 = ⟨true, 3, 56, true, [.bool false, zsl, zsl], true, .st [(0, 2), (2, 1)]⟩ := by kernel_rfl
theorem ti35 {zi : Zi} : ti Tryz.prog 35 = ⟨true, 1, 24, false, [zsl], true, .sl 27⟩ := by kernel_rfl
theorem ti36 {zi : Zi} : ti Tryz.prog 36 = ⟨true, 3, 72, true, [zsl, zsl, zsl], true, .st [(0, 1), (1, 1), (2, 1)]⟩ := by kernel_rfl
theorem ti37 {zi : Zi} : ti Tryz.prog 37 = ⟨true, 3, 72, true, [zsl, zsl, zsl], true, .st [(0, 1), (1, 1), (2, 1)]⟩ := by kernel_rfl
theorem ti38 {zi : Zi} : ti Tryz.prog 38 = ⟨true, 1, 24, false, [zsl], true, .sl 49⟩ := by kernel_rfl
theorem ti39 {zi : Zi} : ti Tryz.prog 39 = ⟨true, 1, 24, false, [zsl], true, .sl 22⟩ := by kernel_rfl
theorem ti40 {zi : Zi} : ti Tryz.prog 40 = ⟨true, 7, 168, true, [zsl, zsl, zsl, zsl, zsl, zsl, zsl], true, .st [(0, 3), (3, 1), (4, 1), (5, 1), (6, 1)]⟩ := by kernel_rfl
theorem ti41 {zi : Zi} : ti Tryz.prog 41 = ⟨true, 7, 168, true, [zsl, zsl, zsl, zsl, zsl, zsl, zsl], true, .st [(0, 3), (3, 1), (4, 1), (5, 1), (6, 1)]⟩ := by kernel_rfl
theorem ti43 {zi : Zi} : ti Tryz.prog 43 = ⟨true, 1, 8, false, [.int .i64 0], true, .int .i64⟩ := by kernel_rfl
theorem ti49 {zi : Zi} : ti Tryz.prog 49 = ⟨true, 1, 24, false, [zsl], true, .sl 30⟩ := by kernel_rfl
theorem ti50 {zi : Zi} : ti Tryz.prog 50 = ⟨true, 1, 24, false, [zsl], true, .sl 30⟩ := by kernel_rfl
theorem ti74 {zi : Zi} : ti Tryz.prog 74 = ⟨true, 15, 280, true, [zsl, zsl, zsl, zsl, .bool false, zsl, .bool false, zsl, .bool false, zsl, zsl, .bool false, zsl, zsl, .int .i64 0], true, .st [(0, 1), (1, 1), (2, 1), (3, 1), (4, 2), (6, 2), (8, 3), (11, 3), (14, 1)]⟩ := by kernel_rfl
theorem ti75 {zi : Zi} : ti Tryz.prog 75 = ⟨true, 15, 280, true, [zsl, zsl, zsl, zsl, .bool false, zsl, .bool false, zsl, .bool false, zsl, zsl, .bool false, zsl, zsl, .int .i64 0], true, .st [(0, 1), (1, 1), (2, 1), (3, 1), (4, 2), (6, 2), (8, 3), (11, 3), (14, 1)]⟩ := by kernel_rfl
theorem ti77 {zi : Zi} : ti Tryz.prog 77 = ⟨true, 1, 24, false, [zsl], true, .sl 28⟩ := by kernel_rfl
theorem ti78 {zi : Zi} : ti Tryz.prog 78 = ⟨true, 3, 72, true, [zsl, zsl, zsl], true, .st [(0, 1), (1, 1), (2, 1)]⟩ := by kernel_rfl
theorem ti79 {zi : Zi} : ti Tryz.prog 79 = ⟨true, 3, 72, true, [zsl, zsl, zsl], true, .st [(0, 1), (1, 1), (2, 1)]⟩ := by kernel_rfl
theorem ti82 {zi : Zi} : ti Tryz.prog 82 = ⟨true, 1, 24, false, [zsl], true, .sl 50⟩ := by kernel_rfl
theorem ti83 {zi : Zi} : ti Tryz.prog 83 = ⟨true, 1, 24, false, [zsl], true, .sl 23⟩ := by kernel_rfl
theorem ti84 {zi : Zi} : ti Tryz.prog 84 = ⟨true, 1, 24, false, [zsl], true, .sl 186⟩ := by kernel_rfl
theorem ti85 {zi : Zi} : ti Tryz.prog 85 = ⟨true, 1, 24, false, [zsl], true, .sl 189⟩ := by kernel_rfl
theorem ti86 {zi : Zi} : ti Tryz.prog 86 = ⟨true, 1, 24, false, [zsl], true, .sl 102⟩ := by kernel_rfl
theorem ti87 {zi : Zi} : ti Tryz.prog 87 = ⟨true, 6, 144, true, [zsl, zsl, zsl, zsl, zsl, zsl], true, .st [(0, 1), (1, 1), (2, 1), (3, 1), (4, 1), (5, 1)]⟩ := by kernel_rfl
theorem ti88 {zi : Zi} : ti Tryz.prog 88 = ⟨true, 6, 144, true, [zsl, zsl, zsl, zsl, zsl, zsl], true, .st [(0, 1), (1, 1), (2, 1), (3, 1), (4, 1), (5, 1)]⟩ := by kernel_rfl
theorem ti102 {zi : Zi} : ti Tryz.prog 102 = ⟨true, 1, 24, false, [zsl], true, .sl 3⟩ := by kernel_rfl
theorem ti134 {zi : Zi} : ti Tryz.prog 134 = ⟨true, 1, 8, false, [.int .u64 0], true, .int .u64⟩ := by kernel_rfl
theorem ti135 {zi : Zi} : ti Tryz.prog 135 = ⟨true, 1, 8, false, [.int .u64 0], true, .int .u64⟩ := by kernel_rfl
theorem ti186 {zi : Zi} : ti Tryz.prog 186 = ⟨true, 1, 24, false, [zsl], true, .sl 188⟩ := by kernel_rfl
theorem ti187 {zi : Zi} : ti Tryz.prog 187 = ⟨true, 4, 48, true, [.bool false, zsl, .int .i64 0, .bool false], true, .st [(0, 2), (2, 1), (3, 1)]⟩ := by kernel_rfl
theorem ti188 {zi : Zi} : ti Tryz.prog 188 = ⟨true, 4, 48, true, [.bool false, zsl, .int .i64 0, .bool false], true, .st [(0, 2), (2, 1), (3, 1)]⟩ := by kernel_rfl
theorem ti189 {zi : Zi} : ti Tryz.prog 189 = ⟨true, 1, 24, false, [zsl], true, .sl 191⟩ := by kernel_rfl
theorem ti190 {zi : Zi} : ti Tryz.prog 190 = ⟨true, 2, 32, true, [zsl, .int .i64 0], true, .st [(0, 1), (1, 1)]⟩ := by kernel_rfl
theorem ti191 {zi : Zi} : ti Tryz.prog 191 = ⟨true, 2, 32, true, [zsl, .int .i64 0], true, .st [(0, 1), (1, 1)]⟩ := by kernel_rfl
theorem ti239 {zi : Zi} : ti Tryz.prog 239 = ⟨true, 1, 4, false, [.int .u32 0], true, .int .u32⟩ := by kernel_rfl
theorem ti240 {zi : Zi} : ti Tryz.prog 240 = ⟨true, 1, 1, false, [.int .u8 0], true, .int .u8⟩ := by kernel_rfl
theorem ti241 {zi : Zi} : ti Tryz.prog 241 = ⟨true, 1, 1, false, [.int .u8 0], true, .int .u8⟩ := by kernel_rfl
theorem ti244 {zi : Zi} : ti Tryz.prog 244 = ⟨true, 1, 4, false, [.int .i32 0], true, .int .i32⟩ := by kernel_rfl
theorem ti245 {zi : Zi} : ti Tryz.prog 245 = ⟨true, 1, 4, false, [.int .i32 0], true, .int .i32⟩ := by kernel_rfl
theorem str9 : isStr Tryz.prog 9 = True := eq_true Tryz.underlying9
@[reducible] def ziX : Zi := ⟨some (134, 1), fun _ => false, fun _ => false, .no⟩
theorem zstX : @Zi.st ziX = .no := rfl
theorem zbxX (e : Nat) : @Zi.bx ziX e = false := rfl
theorem zbsX (e : Nat) : @Zi.bs ziX e = false := rfl
theorem zslX : @zsl ziX = .own none 134 1 [] := rfl
def tis := And.intro @ti2 (And.intro @ti3 (And.intro @ti4 (And.intro @ti5 (And.intro @ti6 (And.intro @ti7 (And.intro @ti8 (And.intro @ti12 (And.intro @ti21 (And.intro @ti22 (And.intro @ti23 (And.intro @ti27 (And.intro @ti28 (And.intro @ti29 (And.intro @ti30 (And.intro @ti31 (And.intro @ti32 (And.intro @ti35 (And.intro @ti36 (And.intro @ti37 (And.intro @ti38 (And.intro @ti39 (And.intro @ti40 (And.intro @ti41 (And.intro @ti43 (And.intro @ti49 (And.intro @ti50 (And.intro @ti74 (And.intro @ti75 (And.intro @ti77 (And.intro @ti78 (And.intro @ti79 (And.intro @ti82 (And.intro @ti83 (And.intro @ti84 (And.intro @ti85 (And.intro @ti86 (And.intro @ti87 (And.intro @ti88 (And.intro @ti102 (And.intro @ti134 (And.intro @ti135 (And.intro @ti186 (And.intro @ti187 (And.intro @ti188 (And.intro @ti189 (And.intro @ti190 (And.intro @ti191 (And.intro @ti239 (And.intro @ti240 (And.intro @ti241 (And.intro @ti244 (And.intro @ti245 (And.intro @str9 (And.intro @zstX (And.intro @zbxX (And.intro @zbsX (@zslX)))))))))))))))))))))))))))))))))))))))))))))))))))))))))
def wt := And.intro wk tis
theorem ords : Tryz.prog.follows .mixedOrders = true := by kernel_rfl
end Go.Proofs.YtfmpegbdeppjbaaGreat
