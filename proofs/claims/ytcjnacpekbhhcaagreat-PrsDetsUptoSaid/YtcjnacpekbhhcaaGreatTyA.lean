/-
  Contracts of the functions that the law reaches.
-/
import Derived.Test.YtcjnacpekbhhcaaGreatChecked
import Derived.KernelRfl
import Derived.Test.YtcjnacpekbhhcaaGreatAbsW
namespace Go.Proofs.YtcjnacpekbhhcaaGreat
open Go Go.Proofs Go.AL
set_option linter.defProp false
theorem ti2 : ti Tryz.prog 2 = ⟨true, 1, 8, false, [.int .i64 0], true, .int .i64⟩ := by kernel_rfl
theorem ti3 : ti Tryz.prog 3 = ⟨true, 1, 8, false, [.int .i64 0], true, .int .i64⟩ := by kernel_rfl
theorem ti4 : ti Tryz.prog 4 = ⟨true, 1, 1, false, [.bool false], true, .bool⟩ := by kernel_rfl
theorem ti5 : ti Tryz.prog 5 = ⟨true, 1, 1, false, [.int .u8 0], true, .int .u8⟩ := by kernel_rfl
theorem ti6 : ti Tryz.prog 6 = ⟨true, 1, 1, false, [.int .u8 0], true, .int .u8⟩ := by kernel_rfl
theorem ti7 : ti Tryz.prog 7 = ⟨true, 4, 24, true, [.int .i64 0, .int .i64 0, .bool false, .int .u8 0], true, .st [(0, 1), (1, 1), (2, 1), (3, 1)]⟩ := by kernel_rfl
theorem ti8 : ti Tryz.prog 8 = ⟨true, 4, 24, true, [.int .i64 0, .int .i64 0, .bool false, .int .u8 0], true, .st [(0, 1), (1, 1), (2, 1), (3, 1)]⟩ := by kernel_rfl
theorem ti12 : ti Tryz.prog 12 = ⟨true, 1, 8, false, [.int .u64 0], true, .int .u64⟩ := by kernel_rfl
theorem ti21 : ti Tryz.prog 21 = ⟨true, 1, 4, false, [.int .i32 0], true, .int .i32⟩ := by kernel_rfl
theorem ti22 : ti Tryz.prog 22 = ⟨true, 1, 24, false, [.sl []], true, .sl 29⟩ := by kernel_rfl
theorem ti23 : ti Tryz.prog 23 = ⟨true, 1, 24, false, [.sl []], true, .sl 29⟩ := by kernel_rfl
theorem ti24 : ti Tryz.prog 24 = ⟨true, 1, 24, false, [.sl []], true, .sl 31⟩ := by kernel_rfl
theorem ti25 : ti Tryz.prog 25 = ⟨true, 1, 24, false, [.sl []], true, .sl 31⟩ := by kernel_rfl
theorem ti26 : ti Tryz.prog 26 = ⟨true, 1, 24, false, [.sl []], true, .sl 64⟩ := by kernel_rfl
theorem ti27 : ti Tryz.prog 27 = ⟨true, 1, 24, false, [.sl []], true, .sl 64⟩ := by kernel_rfl
theorem ti28 : ti Tryz.prog 28 = ⟨true, 2, 32, true, [.bool false, .sl []], true, .st [(0, 1), (1, 1)]⟩ := by kernel_rfl
theorem ti29 : ti Tryz.prog 29 = ⟨true, 2, 32, true, [.bool false, .sl []], true, .st [(0, 1), (1, 1)]⟩ := by kernel_rfl
theorem ti30 : ti Tryz.prog 30 = ⟨true, 3, 56, true, [.bool false, .sl [], .sl []], true, .st [(0, 2), (2, 1)]⟩ := by kernel_rfl
theorem ti31 : ti Tryz.prog 31 = ⟨true, 3, 56, true, [.bool false, .sl [], .sl []], true, .st [(0, 2), (2, 1)]⟩ := by kernel_rfl
theorem ti32 : ti Tryz.prog 32 = ⟨true, 15, 280, true, [.sl [], .sl [], .sl [], .sl [], .bool false, .sl [], .bool false, .sl [], .bool false, .sl [], .sl [], .bool false, .sl [], .sl [], .int .i64 0], true, .st [(0, 1), (1, 1), (2, 1), (3, 1), (4, 2), (6, 2), (8, 3), (11, 3), (14, 1)]⟩ := by kernel_rfl
theorem ti33 : ti Tryz.prog 33 = ⟨true, 15, 280, true, [.sl [], .sl [], .sl [], .sl [], .bool false, .sl [], .bool false, .sl [], .bool false, .sl [], .sl [], .bool false, .sl [], .sl [], .int .i64 0], true, .st [(0, 1), (1, 1), (2, 1), (3, 1), (4, 2), (6, 2), (8, 3), (11, 3), (14, 1)]⟩ := by kernel_rfl
theorem ti38 : ti Tryz.prog 38 = ⟨true, 1, 8, false, [.int .i64 0], true, .int .i64⟩ := by kernel_rfl
theorem ti64 : ti Tryz.prog 64 = ⟨true, 1, 8, false, [.int .u64 0], true, .int .u64⟩ := by kernel_rfl
theorem ti71 : ti Tryz.prog 71 = ⟨true, 1, 24, false, [.sl []], true, .sl 22⟩ := by kernel_rfl
theorem ti101 : ti Tryz.prog 101 = ⟨true, 1, 24, false, [.sl []], true, .sl 38⟩ := by kernel_rfl
theorem ti102 : ti Tryz.prog 102 = ⟨true, 1, 24, false, [.sl []], true, .sl 27⟩ := by kernel_rfl
theorem ti119 : ti Tryz.prog 119 = ⟨true, 1, 24, false, [.sl []], true, .sl 24⟩ := by kernel_rfl
theorem ti126 : ti Tryz.prog 126 = ⟨true, 1, 24, false, [.sl []], true, .sl 3⟩ := by kernel_rfl
theorem ti128 : ti Tryz.prog 128 = ⟨true, 1, 24, false, [.sl []], true, .sl 23⟩ := by kernel_rfl
theorem ti169 : ti Tryz.prog 169 = ⟨true, 1, 8, false, [.int .u64 0], true, .int .u64⟩ := by kernel_rfl
theorem ti214 : ti Tryz.prog 214 = ⟨true, 1, 4, false, [.int .u32 0], true, .int .u32⟩ := by kernel_rfl
theorem ti215 : ti Tryz.prog 215 = ⟨true, 1, 1, false, [.int .u8 0], true, .int .u8⟩ := by kernel_rfl
theorem ti216 : ti Tryz.prog 216 = ⟨true, 1, 1, false, [.int .u8 0], true, .int .u8⟩ := by kernel_rfl
theorem ti219 : ti Tryz.prog 219 = ⟨true, 1, 4, false, [.int .i32 0], true, .int .i32⟩ := by kernel_rfl
theorem ti220 : ti Tryz.prog 220 = ⟨true, 1, 4, false, [.int .i32 0], true, .int .i32⟩ := by kernel_rfl
theorem str9 : isStr Tryz.prog 9 = True := eq_true Tryz.underlying9
def tis := And.intro ti2 (And.intro ti3 (And.intro ti4 (And.intro ti5 (And.intro ti6 (And.intro ti7 (And.intro ti8 (And.intro ti12 (And.intro ti21 (And.intro ti22 (And.intro ti23 (And.intro ti24 (And.intro ti25 (And.intro ti26 (And.intro ti27 (And.intro ti28 (And.intro ti29 (And.intro ti30 (And.intro ti31 (And.intro ti32 (And.intro ti33 (And.intro ti38 (And.intro ti64 (And.intro ti71 (And.intro ti101 (And.intro ti102 (And.intro ti119 (And.intro ti126 (And.intro ti128 (And.intro ti169 (And.intro ti214 (And.intro ti215 (And.intro ti216 (And.intro ti219 (And.intro ti220 (str9)))))))))))))))))))))))))))))))))))
theorem ords : Tryz.prog.follows .mixedOrders = true := by kernel_rfl
end Go.Proofs.YtcjnacpekbhhcaaGreat
