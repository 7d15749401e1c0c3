/-
  Contracts of the functions that the law reaches.
-/
import Derived.Test.YtkkmiboodkilbaaGreatChecked
import Derived.KernelRfl
import Derived.Test.YtkkmiboodkilbaaGreatAbsFM
namespace Go.Proofs.YtkkmiboodkilbaaGreat
open Go Go.Proofs Go.AL
set_option linter.defProp false

theorem ti2 : ti Tryz.prog 2 = ⟨true, 1, 8, false, [.int .i64 0], true, .int .i64⟩ := by kernel_rfl
theorem ti3 : ti Tryz.prog 3 = ⟨true, 1, 8, false, [.int .i64 0], true, .int .i64⟩ := by kernel_rfl
theorem ti4 : ti Tryz.prog 4 = ⟨true, 1, 1, false, [.bool false], true, .bool⟩ := by kernel_rfl
theorem ti5 : ti Tryz.prog 5 = ⟨true, 1, 1, false, [.int .u8 0], true, .int .u8⟩ := by kernel_rfl
theorem ti6 : ti Tryz.prog 6 = ⟨true, 1, 1, false, [.int .u8 0], true, .int .u8⟩ := by kernel_rfl
theorem ti7 : ti Tryz.prog 7 = ⟨true, 4, 24, true, [.int .i64 0, .int .i64 0, .bool false, .int .u8 0], true, .st [(0, 1), (1, 1), (2, 1), (3, 1)]⟩ := by kernel_rfl
theorem ti8 : ti Tryz.prog 8 = ⟨true, 4, 24, true, [.int .i64 0, .int .i64 0, .bool false, .int .u8 0], true, .st [(0, 1), (1, 1), (2, 1), (3, 1)]⟩ := by kernel_rfl
theorem ti12 : ti Tryz.prog 12 = ⟨true, 1, 8, false, [.int .u64 0], true, .int .u64⟩ := by kernel_rfl
theorem ti21 : ti Tryz.prog 21 = ⟨true, 1, 4, false, [.int .i32 0], true, .int .i32⟩ := by kernel_rfl
theorem ti22 : ti Tryz.prog 22 = ⟨true, 1, 24, false, [.sl []], true, .sl 3⟩ := by kernel_rfl
theorem ti23 : ti Tryz.prog 23 = ⟨true, 1, 24, false, [.sl []], true, .sl 36⟩ := by kernel_rfl
theorem ti28 : ti Tryz.prog 28 = ⟨true, 1, 8, false, [.int .i64 0], true, .int .i64⟩ := by kernel_rfl
theorem ti31 : ti Tryz.prog 31 = ⟨true, 1, 24, false, [.sl []], true, .sl 36⟩ := by kernel_rfl
theorem ti33 : ti Tryz.prog 33 = ⟨true, 1, 24, false, [.sl []], true, .sl 78⟩ := by kernel_rfl
theorem ti34 : ti Tryz.prog 34 = ⟨true, 1, 24, false, [.sl []], true, .sl 78⟩ := by kernel_rfl
theorem ti35 : ti Tryz.prog 35 = ⟨true, 2, 32, true, [.bool false, .sl []], true, .st [(0, 1), (1, 1)]⟩ := by kernel_rfl
theorem ti36 : ti Tryz.prog 36 = ⟨true, 2, 32, true, [.bool false, .sl []], true, .st [(0, 1), (1, 1)]⟩ := by kernel_rfl
theorem ti37 : ti Tryz.prog 37 = ⟨true, 3, 56, true, [.bool false, .sl [], .sl []], true, .st [(0, 2), (2, 1)]⟩ := by kernel_rfl
theorem ti38 : ti Tryz.prog 38 = ⟨true, 3, 56, true, [.bool false, .sl [], .sl []], true, .st [(0, 2), (2, 1)]⟩ := by kernel_rfl
theorem ti53 : ti Tryz.prog 53 = ⟨true, 1, 24, false, [.sl []], true, .sl 38⟩ := by kernel_rfl
theorem ti54 : ti Tryz.prog 54 = ⟨true, 1, 24, false, [.sl []], true, .sl 38⟩ := by kernel_rfl
theorem ti78 : ti Tryz.prog 78 = ⟨true, 1, 8, false, [.int .u64 0], true, .int .u64⟩ := by kernel_rfl
theorem ti80 : ti Tryz.prog 80 = ⟨true, 1, 24, false, [.sl []], true, .sl 34⟩ := by kernel_rfl
theorem ti139 : ti Tryz.prog 139 = ⟨true, 1, 8, false, [.int .u64 0], true, .int .u64⟩ := by kernel_rfl
theorem ti167 : ti Tryz.prog 167 = ⟨true, 1, 4, false, [.int .u32 0], true, .int .u32⟩ := by kernel_rfl
theorem ti168 : ti Tryz.prog 168 = ⟨true, 1, 1, false, [.int .u8 0], true, .int .u8⟩ := by kernel_rfl
theorem ti169 : ti Tryz.prog 169 = ⟨true, 1, 1, false, [.int .u8 0], true, .int .u8⟩ := by kernel_rfl
theorem ti172 : ti Tryz.prog 172 = ⟨true, 1, 4, false, [.int .i32 0], true, .int .i32⟩ := by kernel_rfl
theorem ti173 : ti Tryz.prog 173 = ⟨true, 1, 4, false, [.int .i32 0], true, .int .i32⟩ := by kernel_rfl
theorem str9 : isStr Tryz.prog 9 = True := eq_true Tryz.underlying9
def tis := And.intro ti2 (And.intro ti3 (And.intro ti4 (And.intro ti5 (And.intro ti6 (And.intro ti7 (And.intro ti8 (And.intro ti12 (And.intro ti21 (And.intro ti22 (And.intro ti23 (And.intro ti28 (And.intro ti31 (And.intro ti33 (And.intro ti34 (And.intro ti35 (And.intro ti36 (And.intro ti37 (And.intro ti38 (And.intro ti53 (And.intro ti54 (And.intro ti78 (And.intro ti80 (And.intro ti139 (And.intro ti167 (And.intro ti168 (And.intro ti169 (And.intro ti172 (And.intro ti173 (str9)))))))))))))))))))))))))))))

theorem ords : Tryz.prog.follows .mixedOrders = true := by kernel_rfl
end Go.Proofs.YtkkmiboodkilbaaGreat
