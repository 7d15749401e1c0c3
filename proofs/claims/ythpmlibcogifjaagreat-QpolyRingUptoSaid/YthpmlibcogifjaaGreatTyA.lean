/-
  Contracts of the functions that the law reaches.
-/
import Derived.Test.YthpmlibcogifjaaGreatChecked
import Derived.KernelRfl
import Derived.Test.YthpmlibcogifjaaGreatAbsE2M
namespace Go.Proofs.YthpmlibcogifjaaGreat
open Go Go.Proofs Go.AL
set_option linter.defProp false
theorem ti2 : ti Tryz.prog 2 = ⟨true, 1, 8, false, [.int .i64 0], true, .int .i64⟩ := by kernel_rfl
theorem ti3 : ti Tryz.prog 3 = ⟨true, 1, 8, false, [.int .i64 0], true, .int .i64⟩ := by kernel_rfl
theorem ti4 : ti Tryz.prog 4 = ⟨true, 1, 1, false, [.bool false], true, .bool⟩ := by kernel_rfl
theorem ti5 : ti Tryz.prog 5 = ⟨true, 1, 1, false, [.int .u8 0], true, .int .u8⟩ := by kernel_rfl
theorem ti6 : ti Tryz.prog 6 = ⟨true, 1, 1, false, [.int .u8 0], true, .int .u8⟩ := by kernel_rfl
theorem ti7 : ti Tryz.prog 7 = ⟨true, 4, 24, true, [.int .i64 0, .int .i64 0, .bool false, .int .u8 0], true, .st [(0, 1), (1, 1), (2, 1), (3, 1)]⟩ := by kernel_rfl
theorem ti8 : ti Tryz.prog 8 = ⟨true, 4, 24, true, [.int .i64 0, .int .i64 0, .bool false, .int .u8 0], true, .st [(0, 1), (1, 1), (2, 1), (3, 1)]⟩ := by kernel_rfl
theorem ti12 : ti Tryz.prog 12 = ⟨true, 1, 8, false, [.int .u64 0], true, .int .u64⟩ := by kernel_rfl
theorem ti21 : ti Tryz.prog 21 = ⟨true, 1, 4, false, [.int .i32 0], true, .int .i32⟩ := by kernel_rfl
theorem ti22 : ti Tryz.prog 22 = ⟨true, 1, 24, false, [.sl []], true, .sl 32⟩ := by kernel_rfl
theorem ti23 : ti Tryz.prog 23 = ⟨true, 1, 24, false, [.sl []], true, .sl 32⟩ := by kernel_rfl
theorem ti27 : ti Tryz.prog 27 = ⟨true, 1, 24, false, [.sl []], true, .sl 65⟩ := by kernel_rfl
theorem ti28 : ti Tryz.prog 28 = ⟨true, 1, 24, false, [.sl []], true, .sl 65⟩ := by kernel_rfl
theorem ti29 : ti Tryz.prog 29 = ⟨true, 2, 32, true, [.bool false, .sl []], true, .st [(0, 1), (1, 1)]⟩ := by kernel_rfl
theorem ti30 : ti Tryz.prog 30 = ⟨true, 2, 32, true, [.bool false, .sl []], true, .st [(0, 1), (1, 1)]⟩ := by kernel_rfl
theorem ti31 : ti Tryz.prog 31 = ⟨true, 3, 56, true, [.bool false, .sl [], .sl []], true, .st [(0, 2), (2, 1)]⟩ := by kernel_rfl
theorem ti32 : ti Tryz.prog 32 = ⟨true, 3, 56, true, [.bool false, .sl [], .sl []], true, .st [(0, 2), (2, 1)]⟩ := by kernel_rfl
theorem ti35 : ti Tryz.prog 35 = ⟨true, 1, 8, false, [.int .i64 0], true, .int .i64⟩ := by kernel_rfl
theorem ti55 : ti Tryz.prog 55 = ⟨true, 1, 24, false, [.sl []], true, .sl 30⟩ := by kernel_rfl
theorem ti56 : ti Tryz.prog 56 = ⟨true, 1, 24, false, [.sl []], true, .sl 30⟩ := by kernel_rfl
theorem ti65 : ti Tryz.prog 65 = ⟨true, 1, 8, false, [.int .u64 0], true, .int .u64⟩ := by kernel_rfl
theorem ti66 : ti Tryz.prog 66 = ⟨true, 1, 8, false, [.int .u64 0], true, .int .u64⟩ := by kernel_rfl
theorem ti75 : ti Tryz.prog 75 = ⟨true, 1, 24, false, [.sl []], true, .sl 3⟩ := by kernel_rfl
theorem ti82 : ti Tryz.prog 82 = ⟨true, 1, 24, false, [.sl []], true, .sl 28⟩ := by kernel_rfl
theorem ti156 : ti Tryz.prog 156 = ⟨true, 1, 4, false, [.int .u32 0], true, .int .u32⟩ := by kernel_rfl
theorem ti157 : ti Tryz.prog 157 = ⟨true, 1, 1, false, [.int .u8 0], true, .int .u8⟩ := by kernel_rfl
theorem ti158 : ti Tryz.prog 158 = ⟨true, 1, 1, false, [.int .u8 0], true, .int .u8⟩ := by kernel_rfl
theorem ti161 : ti Tryz.prog 161 = ⟨true, 1, 4, false, [.int .i32 0], true, .int .i32⟩ := by kernel_rfl
theorem ti162 : ti Tryz.prog 162 = ⟨true, 1, 4, false, [.int .i32 0], true, .int .i32⟩ := by kernel_rfl
theorem str9 : isStr Tryz.prog 9 = True := eq_true Tryz.underlying9
def tis := And.intro ti2 (And.intro ti3 (And.intro ti4 (And.intro ti5 (And.intro ti6 (And.intro ti7 (And.intro ti8 (And.intro ti12 (And.intro ti21 (And.intro ti22 (And.intro ti23 (And.intro ti27 (And.intro ti28 (And.intro ti29 (And.intro ti30 (And.intro ti31 (And.intro ti32 (And.intro ti35 (And.intro ti55 (And.intro ti56 (And.intro ti65 (And.intro ti66 (And.intro ti75 (And.intro ti82 (And.intro ti156 (And.intro ti157 (And.intro ti158 (And.intro ti161 (And.intro ti162 (str9)))))))))))))))))))))))))))))
theorem ords : Tryz.prog.follows .mixedOrders = true := by kernel_rfl
end Go.Proofs.YthpmlibcogifjaaGreat
