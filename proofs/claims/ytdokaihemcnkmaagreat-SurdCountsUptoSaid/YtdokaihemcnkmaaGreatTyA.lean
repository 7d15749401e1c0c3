/-
 Contracts of the functions that the law reaches.
-/
import Derived.Test.YtdokaihemcnkmaaGreatChecked
import Derived.KernelRfl
import Derived.Test.YtdokaihemcnkmaaGreatAbsW
namespace Go.Proofs.YtdokaihemcnkmaaGreat
open Go Go.Proofs Go.AL
set_option linter.defProp false
set_option linter.unusedVariables false
theorem ti2 {zi : Zi} : ti Tryz.prog 2 = ⟨true, 1, 8, false, [.int .i64 0], true, .int .i64⟩ := by kernel_rfl
theorem ti3 {zi : Zi} : ti Tryz.prog 3 = ⟨true, 1, 8, false, [.int .i64 0], true, .int .i64⟩ := by kernel_rfl
theorem ti4 {zi : Zi} : ti Tryz.prog 4 = ⟨true, 1, 1, false, [.bool false], true, .bool⟩ := by kernel_rfl
theorem ti5 {zi : Zi} : ti Tryz.prog 5 = ⟨true, 1, 1, false, [.int .u8 0], true, .int .u8⟩ := by kernel_rfl
theorem ti6 {zi : Zi} : ti Tryz.prog 6 = ⟨true, 1, 1, false, [.int .u8 0], true, .int .u8⟩ := by kernel_rfl
theorem ti7 {zi : Zi} : ti Tryz.prog 7 = ⟨true, 4, 24, true, [.int .i64 0, .int .i64 0, .bool false, .int .u8 0], true, .st [(0, 1), (1, 1), (2, 1), (3, 1)]⟩ := by kernel_rfl
theorem ti8 {zi : Zi} : ti Tryz.prog 8 = ⟨true, 4, 24, true, [.int .i64 0, .int .i64 0, .bool false, .int .u8 0], true, .st [(0, 1), (1, 1), (2, 1), (3, 1)]⟩ := by kernel_rfl
theorem ti12 {zi : Zi} : ti Tryz.prog 12 = ⟨true, 1, 8, false, [.int .u64 0], true, .int .u64⟩ := by kernel_rfl
theorem ti21 {zi : Zi} : ti Tryz.prog 21 = ⟨true, 1, 4, false, [.int .i32 0], true, .int .i32⟩ := by kernel_rfl
theorem ti22 {zi : Zi} : ti Tryz.prog 22 = ⟨true, 1, 24, false, [zsl], true, .sl 27⟩ := by kernel_rfl
theorem ti23 {zi : Zi} : ti Tryz.prog 23 = ⟨true, 1, 24, false, [zsl], true, .sl 27⟩ := by kernel_rfl
theorem ti24 {zi : Zi} : ti Tryz.prog 24 = ⟨true, 1, 24, false, [zsl], true, .sl 144⟩ := by kernel_rfl
theorem ti25 {zi : Zi} : ti Tryz.prog 25 = ⟨true, 1, 24, false, [zsl], true, .sl 144⟩ := by kernel_rfl
theorem ti26 {zi : Zi} : ti Tryz.prog 26 = ⟨true, 2, 32, true, [.bool false, zsl], true, .st [(0, 1), (1, 1)]⟩ := by kernel_rfl
theorem ti27 {zi : Zi} : ti Tryz.prog 27 = ⟨true, 2, 32, true, [.bool false, zsl], true, .st [(0, 1), (1, 1)]⟩ := by kernel_rfl
theorem ti28 {zi : Zi} : ti Tryz.prog 28 = ⟨true, 6, 112, true, [zsl, zsl, zsl, .bool false, zsl, .int .i64 0], true, .st [(0, 1), (1, 1), (2, 1), (3, 2), (5, 1)]⟩ := by kernel_rfl
theorem ti29 {zi : Zi} : ti Tryz.prog 29 = ⟨true, 6, 112, true, [zsl, zsl, zsl, .bool false, zsl, .int .i64 0], true, .st [(0, 1), (1, 1), (2, 1), (3, 2), (5, 1)]⟩ := by kernel_rfl
theorem ti33 {zi : Zi} : ti Tryz.prog 33 = ⟨true, 1, 24, false, [zsl], true, .sl 25⟩ := by kernel_rfl
theorem ti34 {zi : Zi} : ti Tryz.prog 34 = ⟨true, 3, 72, true, [zsl, zsl, zsl], true, .st [(0, 1), (1, 1), (2, 1)]⟩ := by kernel_rfl
theorem ti35 {zi : Zi} : ti Tryz.prog 35 = ⟨true, 3, 72, true, [zsl, zsl, zsl], true, .st [(0, 1), (1, 1), (2, 1)]⟩ := by kernel_rfl
theorem ti37 {zi : Zi} : ti Tryz.prog 37 = ⟨true, 1, 24, false, [zsl], true, .sl 23⟩ := by kernel_rfl
theorem ti44 {zi : Zi} : ti Tryz.prog 44 = ⟨true, 1, 24, false, [zsl], true, .sl 56⟩ := by kernel_rfl
theorem ti45 {zi : Zi} : ti Tryz.prog 45 = ⟨true, 1, 24, false, [zsl], true, .sl 221⟩ := by kernel_rfl
theorem ti46 {zi : Zi} : ti Tryz.prog 46 = ⟨true, 1, 24, false, [zsl], true, .sl 224⟩ := by kernel_rfl
theorem ti47 {zi : Zi} : ti Tryz.prog 47 = ⟨true, 1, 24, false, [zsl], true, .sl 79⟩ := by kernel_rfl
theorem ti48 {zi : Zi} : ti Tryz.prog 48 = ⟨true, 6, 144, true, [zsl, zsl, zsl, zsl, zsl, zsl], true, .st [(0, 1), (1, 1), (2, 1), (3, 1), (4, 1), (5, 1)]⟩ := by kernel_rfl
theorem ti49 {zi : Zi} : ti Tryz.prog 49 = ⟨true, 6, 144, true, [zsl, zsl, zsl, zsl, zsl, zsl], true, .st [(0, 1), (1, 1), (2, 1), (3, 1), (4, 1), (5, 1)]⟩ := by kernel_rfl
theorem ti50 {zi : Zi} : ti Tryz.prog 50 = ⟨true, 1, 24, false, [zsl], true, .sl 37⟩ := by kernel_rfl
theorem ti52 {zi : Zi} : ti Tryz.prog 52 = ⟨true, 1, 24, false, [zsl], true, .sl 33⟩ := by kernel_rfl
theorem ti55 {zi : Zi} : ti Tryz.prog 55 = ⟨true, 1, 24, false, [zsl], true, .sl 58⟩ := by kernel_rfl
theorem ti56 {zi : Zi} : ti Tryz.prog 56 = ⟨true, 1, 24, false, [zsl], true, .sl 58⟩ := by kernel_rfl
theorem ti57 {zi : Zi} : ti Tryz.prog 57 = ⟨true, 3, 56, true, [.bool false, zsl, zsl], true, .st [(0, 2), (2, 1)]⟩ := by kernel_rfl
theorem ti58 {zi : Zi} : ti Tryz.prog 58 = ⟨true, 3, 56, true, [.bool false, zsl, zsl], true, .st [(0, 2), (2, 1)]⟩ := by kernel_rfl
theorem ti59 {zi : Zi} : ti Tryz.prog 59 = ⟨true, 15, 280, true, [zsl, zsl, zsl, zsl, .bool false, zsl, .bool false, zsl, .bool false, zsl, zsl, .bool false, zsl, zsl, .int .i64 0], true, .st [(0, 1), (1, 1), (2, 1), (3, 1), (4, 2), (6, 2), (8, 3), (11, 3), (14, 1)]⟩ := by kernel_rfl
theorem ti60 {zi : Zi} : ti Tryz.prog 60 = ⟨true, 15, 280, true, [zsl, zsl, zsl, zsl, .bool false, zsl, .bool false, zsl, .bool false, zsl, zsl, .bool false, zsl, zsl, .int .i64 0], true, .st [(0, 1), (1, 1), (2, 1), (3, 1), (4, 2), (6, 2), (8, 3), (11, 3), (14, 1)]⟩ := by kernel_rfl
theorem ti67 {zi : Zi} : ti Tryz.prog 67 = ⟨true, 1, 8, false, [.int .i64 0], true, .int .i64⟩ := by kernel_rfl
theorem ti79 {zi : Zi} : ti Tryz.prog 79 = ⟨true, 1, 24, false, [zsl], true, .sl 3⟩ := by kernel_rfl
theorem ti92 {zi : Zi} : ti Tryz.prog 92 = ⟨true, 1, 24, false, [zsl], true, .sl 24⟩ := by kernel_rfl
theorem ti93 {zi : Zi} : ti Tryz.prog 93 = ⟨true, 3, 72, true, [zsl, zsl, zsl], true, .st [(0, 1), (1, 1), (2, 1)]⟩ := by kernel_rfl
theorem ti94 {zi : Zi} : ti Tryz.prog 94 = ⟨true, 3, 72, true, [zsl, zsl, zsl], true, .st [(0, 1), (1, 1), (2, 1)]⟩ := by kernel_rfl
theorem ti95 {zi : Zi} : ti Tryz.prog 95 = ⟨true, 1, 24, false, [zsl], true, .sl 22⟩ := by kernel_rfl
theorem ti96 {zi : Zi} : ti Tryz.prog 96 = ⟨true, 1, 24, false, [zsl], true, .sl 55⟩ := by kernel_rfl
theorem ti97 {zi : Zi} : ti Tryz.prog 97 = ⟨true, 7, 168, true, [zsl, zsl, zsl, zsl, zsl, zsl, zsl], true, .st [(0, 3), (3, 1), (4, 1), (5, 1), (6, 1)]⟩ := by kernel_rfl
theorem ti98 {zi : Zi} : ti Tryz.prog 98 = ⟨true, 7, 168, true, [zsl, zsl, zsl, zsl, zsl, zsl, zsl], true, .st [(0, 3), (3, 1), (4, 1), (5, 1), (6, 1)]⟩ := by kernel_rfl
theorem ti125 {zi : Zi} : ti Tryz.prog 125 = ⟨true, 1, 24, false, [zsl], true, .sl 201⟩ := by kernel_rfl
theorem ti126 {zi : Zi} : ti Tryz.prog 126 = ⟨true, 1, 24, false, [zsl], true, .sl 205⟩ := by kernel_rfl
theorem ti127 {zi : Zi} : ti Tryz.prog 127 = ⟨true, 3, 56, true, [.int .i64 0, zsl, zsl], true, .st [(0, 1), (1, 1), (2, 1)]⟩ := by kernel_rfl
theorem ti128 {zi : Zi} : ti Tryz.prog 128 = ⟨true, 3, 56, true, [.int .i64 0, zsl, zsl], true, .st [(0, 1), (1, 1), (2, 1)]⟩ := by kernel_rfl
theorem ti131 {zi : Zi} : ti Tryz.prog 131 = ⟨true, 4, 80, true, [zsl, zsl, zsl, .bool false], true, .st [(0, 1), (1, 1), (2, 1), (3, 1)]⟩ := by kernel_rfl
theorem ti132 {zi : Zi} : ti Tryz.prog 132 = ⟨true, 4, 80, true, [zsl, zsl, zsl, .bool false], true, .st [(0, 1), (1, 1), (2, 1), (3, 1)]⟩ := by kernel_rfl
theorem ti144 {zi : Zi} : ti Tryz.prog 144 = ⟨true, 1, 8, false, [.int .u64 0], true, .int .u64⟩ := by kernel_rfl
theorem ti186 {zi : Zi} : ti Tryz.prog 186 = ⟨true, 1, 8, false, [.int .u64 0], true, .int .u64⟩ := by kernel_rfl
theorem ti200 {zi : Zi} : ti Tryz.prog 200 = ⟨true, 3, 24, true, [.int .i64 0, .int .i64 0, .int .i64 0], true, .st [(0, 1), (1, 1), (2, 1)]⟩ := by kernel_rfl
theorem ti201 {zi : Zi} : ti Tryz.prog 201 = ⟨true, 3, 24, true, [.int .i64 0, .int .i64 0, .int .i64 0], true, .st [(0, 1), (1, 1), (2, 1)]⟩ := by kernel_rfl
theorem ti205 {zi : Zi} : ti Tryz.prog 205 = ⟨true, 2, 16, true, [.int .i64 0, .int .i64 0], true, .arr 2 3⟩ := by kernel_rfl
theorem ti221 {zi : Zi} : ti Tryz.prog 221 = ⟨true, 1, 24, false, [zsl], true, .sl 223⟩ := by kernel_rfl
theorem ti222 {zi : Zi} : ti Tryz.prog 222 = ⟨true, 4, 48, true, [.bool false, zsl, .int .i64 0, .bool false], true, .st [(0, 2), (2, 1), (3, 1)]⟩ := by kernel_rfl
theorem ti223 {zi : Zi} : ti Tryz.prog 223 = ⟨true, 4, 48, true, [.bool false, zsl, .int .i64 0, .bool false], true, .st [(0, 2), (2, 1), (3, 1)]⟩ := by kernel_rfl
theorem ti224 {zi : Zi} : ti Tryz.prog 224 = ⟨true, 1, 24, false, [zsl], true, .sl 226⟩ := by kernel_rfl
theorem ti225 {zi : Zi} : ti Tryz.prog 225 = ⟨true, 2, 32, true, [zsl, .int .i64 0], true, .st [(0, 1), (1, 1)]⟩ := by kernel_rfl
theorem ti226 {zi : Zi} : ti Tryz.prog 226 = ⟨true, 2, 32, true, [zsl, .int .i64 0], true, .st [(0, 1), (1, 1)]⟩ := by kernel_rfl
theorem ti302 {zi : Zi} : ti Tryz.prog 302 = ⟨true, 1, 4, false, [.int .u32 0], true, .int .u32⟩ := by kernel_rfl
theorem ti303 {zi : Zi} : ti Tryz.prog 303 = ⟨true, 1, 1, false, [.int .u8 0], true, .int .u8⟩ := by kernel_rfl
theorem ti304 {zi : Zi} : ti Tryz.prog 304 = ⟨true, 1, 1, false, [.int .u8 0], true, .int .u8⟩ := by kernel_rfl
theorem ti307 {zi : Zi} : ti Tryz.prog 307 = ⟨true, 1, 4, false, [.int .i32 0], true, .int .i32⟩ := by kernel_rfl
theorem ti308 {zi : Zi} : ti Tryz.prog 308 = ⟨true, 1, 4, false, [.int .i32 0], true, .int .i32⟩ := by kernel_rfl
theorem str9 : isStr Tryz.prog 9 = True := eq_true Tryz.underlying9
@[reducible] def ziX : Zi := ⟨some (144, 1), fun _ => false, fun _ => false, .no⟩
theorem zstX : @Zi.st ziX = .no := rfl
theorem zbxX (e : Nat) : @Zi.bx ziX e = false := rfl
theorem zbsX (e : Nat) : @Zi.bs ziX e = false := rfl
theorem zslX : @zsl ziX = .own none 144 1 [] := rfl
def tis := And.intro @ti2 (And.intro @ti3 (And.intro @ti4 (And.intro @ti5 (And.intro @ti6 (And.intro @ti7 (And.intro @ti8 (And.intro @ti12 (And.intro @ti21 (And.intro @ti22 (And.intro @ti23 (And.intro @ti24 (And.intro @ti25 (And.intro @ti26 (And.intro @ti27 (And.intro @ti28 (And.intro @ti29 (And.intro @ti33 (And.intro @ti34 (And.intro @ti35 (And.intro @ti37 (And.intro @ti44 (And.intro @ti45 (And.intro @ti46 (And.intro @ti47 (And.intro @ti48 (And.intro @ti49 (And.intro @ti50 (And.intro @ti52 (And.intro @ti55 (And.intro @ti56 (And.intro @ti57 (And.intro @ti58 (And.intro @ti59 (And.intro @ti60 (And.intro @ti67 (And.intro @ti79 (And.intro @ti92 (And.intro @ti93 (And.intro @ti94 (And.intro @ti95 (And.intro @ti96 (And.intro @ti97 (And.intro @ti98 (And.intro @ti125 (And.intro @ti126 (And.intro @ti127 (And.intro @ti128 (And.intro @ti131 (And.intro @ti132 (And.intro @ti144 (And.intro @ti186 (And.intro @ti200 (And.intro @ti201 (And.intro @ti205 (And.intro @ti221 (And.intro @ti222 (And.intro @ti223 (And.intro @ti224 (And.intro @ti225 (And.intro @ti226 (And.intro @ti302 (And.intro @ti303 (And.intro @ti304 (And.intro @ti307 (And.intro @ti308 (And.intro @str9 (And.intro @zstX (And.intro @zbxX (And.intro @zbsX (@zslX))))))))))))))))))))))))))))))))))))))))))))))))))))))))))))))))))))))
def wt := And.intro wk tis
theorem ords : Tryz.prog.follows .mixedOrders = true := by kernel_rfl
end Go.Proofs.YtdokaihemcnkmaaGreat
