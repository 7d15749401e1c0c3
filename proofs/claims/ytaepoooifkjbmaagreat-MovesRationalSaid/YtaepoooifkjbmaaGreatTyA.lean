/-
  Contracts of the functions that the law reaches.
-/
import Derived.Test.YtaepoooifkjbmaaGreatChecked
import Derived.KernelRfl
import Derived.Test.YtaepoooifkjbmaaGreatAbsFM
namespace Go.Proofs.YtaepoooifkjbmaaGreat
open Go Go.Proofs Go.AL
set_option linter.defProp false

theorem ti2 : ti Tryz.prog 2 = ⟨true, 1, 8, false, [.int .i64 0], true, .int .i64⟩ := by kernel_rfl
theorem ti3 : ti Tryz.prog 3 = ⟨true, 1, 8, false, [.int .i64 0], true, .int .i64⟩ := by kernel_rfl
theorem ti4 : ti Tryz.prog 4 = ⟨true, 1, 1, false, [.bool false], true, .bool⟩ := by kernel_rfl
theorem ti5 : ti Tryz.prog 5 = ⟨true, 1, 1, false, [.int .u8 0], true, .int .u8⟩ := by kernel_rfl
theorem ti6 : ti Tryz.prog 6 = ⟨true, 1, 1, false, [.int .u8 0], true, .int .u8⟩ := by kernel_rfl
theorem ti7 : ti Tryz.prog 7 = ⟨true, 4, 24, true, [.int .i64 0, .int .i64 0, .bool false, .int .u8 0], true, .st [(0, 1), (1, 1), (2, 1), (3, 1)]⟩ := by kernel_rfl
theorem ti8 : ti Tryz.prog 8 = ⟨true, 4, 24, true, [.int .i64 0, .int .i64 0, .bool false, .int .u8 0], true, .st [(0, 1), (1, 1), (2, 1), (3, 1)]⟩ := by kernel_rfl
theorem ti12 : ti Tryz.prog 12 = ⟨true, 1, 8, false, [.int .u64 0], true, .int .u64⟩ := by kernel_rfl
theorem ti21 : ti Tryz.prog 21 = ⟨true, 1, 4, false, [.int .i32 0], true, .int .i32⟩ := by kernel_rfl
theorem ti22 : ti Tryz.prog 22 = ⟨true, 1, 24, false, [.sl []], true, .sl 27⟩ := by kernel_rfl
theorem ti23 : ti Tryz.prog 23 = ⟨true, 1, 24, false, [.sl []], true, .sl 27⟩ := by kernel_rfl
theorem ti24 : ti Tryz.prog 24 = ⟨true, 1, 24, false, [.sl []], true, .sl 65⟩ := by kernel_rfl
theorem ti25 : ti Tryz.prog 25 = ⟨true, 1, 24, false, [.sl []], true, .sl 65⟩ := by kernel_rfl
theorem ti26 : ti Tryz.prog 26 = ⟨true, 2, 32, true, [.bool false, .sl []], true, .st [(0, 1), (1, 1)]⟩ := by kernel_rfl
theorem ti27 : ti Tryz.prog 27 = ⟨true, 2, 32, true, [.bool false, .sl []], true, .st [(0, 1), (1, 1)]⟩ := by kernel_rfl
theorem ti28 : ti Tryz.prog 28 = ⟨true, 4, 48, true, [.bool false, .sl [], .int .i64 0, .bool false], true, .st [(0, 2), (2, 1), (3, 1)]⟩ := by kernel_rfl
theorem ti29 : ti Tryz.prog 29 = ⟨true, 4, 48, true, [.bool false, .sl [], .int .i64 0, .bool false], true, .st [(0, 2), (2, 1), (3, 1)]⟩ := by kernel_rfl
theorem ti30 : ti Tryz.prog 30 = ⟨true, 1, 24, false, [.sl []], true, .sl 33⟩ := by kernel_rfl
theorem ti31 : ti Tryz.prog 31 = ⟨true, 1, 24, false, [.sl []], true, .sl 33⟩ := by kernel_rfl
theorem ti32 : ti Tryz.prog 32 = ⟨true, 3, 56, true, [.bool false, .sl [], .sl []], true, .st [(0, 2), (2, 1)]⟩ := by kernel_rfl
theorem ti33 : ti Tryz.prog 33 = ⟨true, 3, 56, true, [.bool false, .sl [], .sl []], true, .st [(0, 2), (2, 1)]⟩ := by kernel_rfl
theorem ti34 : ti Tryz.prog 34 = ⟨true, 21, 344, true, [.sl [], .sl [], .bool false, .sl [], .bool false, .sl [], .bool false, .sl [], .bool false, .sl [], .int .i64 0, .int .i64 0, .bool false, .sl [], .int .i64 0, .bool false, .sl [], .sl [], .bool false, .sl [], .sl []], true, .st [(0, 1), (1, 1), (2, 2), (4, 2), (6, 2), (8, 2), (10, 1), (11, 1), (12, 4), (16, 1), (17, 1), (18, 3)]⟩ := by kernel_rfl
theorem ti35 : ti Tryz.prog 35 = ⟨true, 21, 344, true, [.sl [], .sl [], .bool false, .sl [], .bool false, .sl [], .bool false, .sl [], .bool false, .sl [], .int .i64 0, .int .i64 0, .bool false, .sl [], .int .i64 0, .bool false, .sl [], .sl [], .bool false, .sl [], .sl []], true, .st [(0, 1), (1, 1), (2, 2), (4, 2), (6, 2), (8, 2), (10, 1), (11, 1), (12, 4), (16, 1), (17, 1), (18, 3)]⟩ := by kernel_rfl
theorem ti41 : ti Tryz.prog 41 = ⟨true, 1, 8, false, [.int .i64 0], true, .int .i64⟩ := by kernel_rfl
theorem ti65 : ti Tryz.prog 65 = ⟨true, 1, 8, false, [.int .u64 0], true, .int .u64⟩ := by kernel_rfl
theorem ti72 : ti Tryz.prog 72 = ⟨true, 1, 24, false, [.sl []], true, .sl 3⟩ := by kernel_rfl
theorem ti132 : ti Tryz.prog 132 = ⟨true, 1, 24, false, [.sl []], true, .sl 25⟩ := by kernel_rfl
theorem ti163 : ti Tryz.prog 163 = ⟨true, 1, 8, false, [.int .u64 0], true, .int .u64⟩ := by kernel_rfl
theorem ti182 : ti Tryz.prog 182 = ⟨true, 1, 4, false, [.int .u32 0], true, .int .u32⟩ := by kernel_rfl
theorem ti183 : ti Tryz.prog 183 = ⟨true, 1, 1, false, [.int .u8 0], true, .int .u8⟩ := by kernel_rfl
theorem ti184 : ti Tryz.prog 184 = ⟨true, 1, 1, false, [.int .u8 0], true, .int .u8⟩ := by kernel_rfl
theorem ti187 : ti Tryz.prog 187 = ⟨true, 1, 4, false, [.int .i32 0], true, .int .i32⟩ := by kernel_rfl
theorem ti188 : ti Tryz.prog 188 = ⟨true, 1, 4, false, [.int .i32 0], true, .int .i32⟩ := by kernel_rfl
theorem str9 : isStr Tryz.prog 9 = True := eq_true Tryz.underlying9
def tis := And.intro ti2 (And.intro ti3 (And.intro ti4 (And.intro ti5 (And.intro ti6 (And.intro ti7 (And.intro ti8 (And.intro ti12 (And.intro ti21 (And.intro ti22 (And.intro ti23 (And.intro ti24 (And.intro ti25 (And.intro ti26 (And.intro ti27 (And.intro ti28 (And.intro ti29 (And.intro ti30 (And.intro ti31 (And.intro ti32 (And.intro ti33 (And.intro ti34 (And.intro ti35 (And.intro ti41 (And.intro ti65 (And.intro ti72 (And.intro ti132 (And.intro ti163 (And.intro ti182 (And.intro ti183 (And.intro ti184 (And.intro ti187 (And.intro ti188 (str9)))))))))))))))))))))))))))))))))

theorem ords : Tryz.prog.follows .mixedOrders = true := by kernel_rfl
end Go.Proofs.YtaepoooifkjbmaaGreat
