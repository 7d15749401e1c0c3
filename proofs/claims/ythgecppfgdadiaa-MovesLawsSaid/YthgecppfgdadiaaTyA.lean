/-
  Contracts of the functions that the law reaches.
-/
import Derived.Test.YthgecppfgdadiaaChecked
import Derived.KernelRfl
import Derived.Test.YthgecppfgdadiaaAbsFM
namespace Go.Proofs.Ythgecppfgdadiaa
open Go Go.Proofs Go.AL
set_option linter.defProp false

theorem ti2 : ti Try.prog 2 = ⟨true, 1, 8, false, [.int .i64 0], true, .int .i64⟩ := by kernel_rfl
theorem ti3 : ti Try.prog 3 = ⟨true, 1, 8, false, [.int .i64 0], true, .int .i64⟩ := by kernel_rfl
theorem ti4 : ti Try.prog 4 = ⟨true, 1, 1, false, [.bool false], true, .bool⟩ := by kernel_rfl
theorem ti5 : ti Try.prog 5 = ⟨true, 1, 1, false, [.int .u8 0], true, .int .u8⟩ := by kernel_rfl
theorem ti6 : ti Try.prog 6 = ⟨true, 1, 1, false, [.int .u8 0], true, .int .u8⟩ := by kernel_rfl
theorem ti7 : ti Try.prog 7 = ⟨true, 4, 24, true, [.int .i64 0, .int .i64 0, .bool false, .int .u8 0], true, .st [(0, 1), (1, 1), (2, 1), (3, 1)]⟩ := by kernel_rfl
theorem ti8 : ti Try.prog 8 = ⟨true, 4, 24, true, [.int .i64 0, .int .i64 0, .bool false, .int .u8 0], true, .st [(0, 1), (1, 1), (2, 1), (3, 1)]⟩ := by kernel_rfl
theorem ti12 : ti Try.prog 12 = ⟨true, 1, 8, false, [.int .u64 0], true, .int .u64⟩ := by kernel_rfl
theorem ti21 : ti Try.prog 21 = ⟨true, 1, 4, false, [.int .i32 0], true, .int .i32⟩ := by kernel_rfl
theorem ti22 : ti Try.prog 22 = ⟨true, 1, 24, false, [.sl []], true, .sl 40⟩ := by kernel_rfl
theorem ti23 : ti Try.prog 23 = ⟨true, 1, 24, false, [.sl []], true, .sl 40⟩ := by kernel_rfl
theorem ti33 : ti Try.prog 33 = ⟨true, 1, 8, false, [.int .i64 0], true, .int .i64⟩ := by kernel_rfl
theorem ti37 : ti Try.prog 37 = ⟨true, 1, 24, false, [.sl []], true, .sl 87⟩ := by kernel_rfl
theorem ti38 : ti Try.prog 38 = ⟨true, 1, 24, false, [.sl []], true, .sl 87⟩ := by kernel_rfl
theorem ti39 : ti Try.prog 39 = ⟨true, 2, 32, true, [.bool false, .sl []], true, .st [(0, 1), (1, 1)]⟩ := by kernel_rfl
theorem ti40 : ti Try.prog 40 = ⟨true, 2, 32, true, [.bool false, .sl []], true, .st [(0, 1), (1, 1)]⟩ := by kernel_rfl
theorem ti43 : ti Try.prog 43 = ⟨true, 6, 112, true, [.sl [], .sl [], .sl [], .bool false, .sl [], .int .i64 0], true, .st [(0, 1), (1, 1), (2, 1), (3, 2), (5, 1)]⟩ := by kernel_rfl
theorem ti44 : ti Try.prog 44 = ⟨true, 6, 112, true, [.sl [], .sl [], .sl [], .bool false, .sl [], .int .i64 0], true, .st [(0, 1), (1, 1), (2, 1), (3, 2), (5, 1)]⟩ := by kernel_rfl
theorem ti61 : ti Try.prog 61 = ⟨true, 4, 48, true, [.bool false, .sl [], .int .i64 0, .bool false], true, .st [(0, 2), (2, 1), (3, 1)]⟩ := by kernel_rfl
theorem ti62 : ti Try.prog 62 = ⟨true, 4, 48, true, [.bool false, .sl [], .int .i64 0, .bool false], true, .st [(0, 2), (2, 1), (3, 1)]⟩ := by kernel_rfl
theorem ti63 : ti Try.prog 63 = ⟨true, 1, 24, false, [.sl []], true, .sl 66⟩ := by kernel_rfl
theorem ti64 : ti Try.prog 64 = ⟨true, 1, 24, false, [.sl []], true, .sl 66⟩ := by kernel_rfl
theorem ti65 : ti Try.prog 65 = ⟨true, 3, 56, true, [.bool false, .sl [], .sl []], true, .st [(0, 2), (2, 1)]⟩ := by kernel_rfl
theorem ti66 : ti Try.prog 66 = ⟨true, 3, 56, true, [.bool false, .sl [], .sl []], true, .st [(0, 2), (2, 1)]⟩ := by kernel_rfl
theorem ti67 : ti Try.prog 67 = ⟨true, 21, 344, true, [.sl [], .sl [], .bool false, .sl [], .bool false, .sl [], .bool false, .sl [], .bool false, .sl [], .int .i64 0, .int .i64 0, .bool false, .sl [], .int .i64 0, .bool false, .sl [], .sl [], .bool false, .sl [], .sl []], true, .st [(0, 1), (1, 1), (2, 2), (4, 2), (6, 2), (8, 2), (10, 1), (11, 1), (12, 4), (16, 1), (17, 1), (18, 3)]⟩ := by kernel_rfl
theorem ti68 : ti Try.prog 68 = ⟨true, 21, 344, true, [.sl [], .sl [], .bool false, .sl [], .bool false, .sl [], .bool false, .sl [], .bool false, .sl [], .int .i64 0, .int .i64 0, .bool false, .sl [], .int .i64 0, .bool false, .sl [], .sl [], .bool false, .sl [], .sl []], true, .st [(0, 1), (1, 1), (2, 2), (4, 2), (6, 2), (8, 2), (10, 1), (11, 1), (12, 4), (16, 1), (17, 1), (18, 3)]⟩ := by kernel_rfl
theorem ti87 : ti Try.prog 87 = ⟨true, 1, 8, false, [.int .u64 0], true, .int .u64⟩ := by kernel_rfl
theorem ti88 : ti Try.prog 88 = ⟨true, 1, 24, false, [.sl []], true, .sl 23⟩ := by kernel_rfl
theorem ti89 : ti Try.prog 89 = ⟨true, 1, 24, false, [.sl []], true, .sl 3⟩ := by kernel_rfl
theorem ti99 : ti Try.prog 99 = ⟨true, 1, 24, false, [.sl []], true, .sl 38⟩ := by kernel_rfl
theorem ti157 : ti Try.prog 157 = ⟨true, 1, 8, false, [.int .u64 0], true, .int .u64⟩ := by kernel_rfl
theorem ti176 : ti Try.prog 176 = ⟨true, 1, 4, false, [.int .u32 0], true, .int .u32⟩ := by kernel_rfl
theorem ti177 : ti Try.prog 177 = ⟨true, 1, 1, false, [.int .u8 0], true, .int .u8⟩ := by kernel_rfl
theorem ti178 : ti Try.prog 178 = ⟨true, 1, 1, false, [.int .u8 0], true, .int .u8⟩ := by kernel_rfl
theorem ti181 : ti Try.prog 181 = ⟨true, 1, 4, false, [.int .i32 0], true, .int .i32⟩ := by kernel_rfl
theorem ti182 : ti Try.prog 182 = ⟨true, 1, 4, false, [.int .i32 0], true, .int .i32⟩ := by kernel_rfl
theorem str9 : isStr Try.prog 9 = True := eq_true Try.underlying9
def tis := And.intro ti2 (And.intro ti3 (And.intro ti4 (And.intro ti5 (And.intro ti6 (And.intro ti7 (And.intro ti8 (And.intro ti12 (And.intro ti21 (And.intro ti22 (And.intro ti23 (And.intro ti33 (And.intro ti37 (And.intro ti38 (And.intro ti39 (And.intro ti40 (And.intro ti43 (And.intro ti44 (And.intro ti61 (And.intro ti62 (And.intro ti63 (And.intro ti64 (And.intro ti65 (And.intro ti66 (And.intro ti67 (And.intro ti68 (And.intro ti87 (And.intro ti88 (And.intro ti89 (And.intro ti99 (And.intro ti157 (And.intro ti176 (And.intro ti177 (And.intro ti178 (And.intro ti181 (And.intro ti182 (str9))))))))))))))))))))))))))))))))))))

theorem ords : Try.prog.follows .mixedOrders = true := by kernel_rfl
end Go.Proofs.Ythgecppfgdadiaa
