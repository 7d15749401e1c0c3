/-
  Contracts of the functions that the law reaches.
-/
import Derived.Test.YthbobdhkbgggjaaGreatChecked
import Derived.KernelRfl
import Derived.Test.YthbobdhkbgggjaaGreatAbsW
namespace Go.Proofs.YthbobdhkbgggjaaGreat
open Go Go.Proofs Go.AL
set_option linter.defProp false
theorem ti2 : ti Tryz.prog 2 = ⟨true, 1, 8, false, [.int .i64 0], true, .int .i64⟩ := by kernel_rfl
theorem ti3 : ti Tryz.prog 3 = ⟨true, 1, 8, false, [.int .i64 0], true, .int .i64⟩ := by kernel_rfl
theorem ti4 : ti Tryz.prog 4 = ⟨true, 1, 1, false, [.bool false], true, .bool⟩ := by kernel_rfl
theorem ti5 : ti Tryz.prog 5 = ⟨true, 1, 1, false, [.int .u8 0], true, .int .u8⟩ := by kernel_rfl
theorem ti6 : ti Tryz.prog 6 = ⟨true, 1, 1, false, [.int .u8 0], true, .int .u8⟩ := by kernel_rfl
theorem ti7 : ti Tryz.prog 7 = ⟨true, 4, 24, true, [.int .i64 0, .int .i64 0, .bool false, .int .u8 0], true, .st [(0, 1), (1, 1), (2, 1), (3, 1)]⟩ := by kernel_rfl
theorem ti8 : ti Tryz.prog 8 = ⟨true, 4, 24, true, [.int .i64 0, .int .i64 0, .bool false, .int .u8 0], true, .st [(0, 1), (1, 1), (2, 1), (3, 1)]⟩ := by kernel_rfl
theorem ti12 : ti Tryz.prog 12 = ⟨true, 1, 8, false, [.int .u64 0], true, .int .u64⟩ := by kernel_rfl
theorem ti21 : ti Tryz.prog 21 = ⟨true, 1, 4, false, [.int .i32 0], true, .int .i32⟩ := by kernel_rfl
theorem ti22 : ti Tryz.prog 22 = ⟨true, 1, 24, false, [.sl []], true, .sl 39⟩ := by kernel_rfl
theorem ti25 : ti Tryz.prog 25 = ⟨true, 1, 24, false, [.sl []], true, .sl 43⟩ := by kernel_rfl
theorem ti26 : ti Tryz.prog 26 = ⟨true, 1, 24, false, [.sl []], true, .sl 43⟩ := by kernel_rfl
theorem ti29 : ti Tryz.prog 29 = ⟨true, 1, 8, false, [.int .i64 0], true, .int .i64⟩ := by kernel_rfl
theorem ti38 : ti Tryz.prog 38 = ⟨true, 2, 32, true, [.sl [], .int .i64 0], true, .st [(0, 1), (1, 1)]⟩ := by kernel_rfl
theorem ti39 : ti Tryz.prog 39 = ⟨true, 2, 32, true, [.sl [], .int .i64 0], true, .st [(0, 1), (1, 1)]⟩ := by kernel_rfl
theorem ti40 : ti Tryz.prog 40 = ⟨true, 1, 24, false, [.sl []], true, .sl 70⟩ := by kernel_rfl
theorem ti41 : ti Tryz.prog 41 = ⟨true, 1, 24, false, [.sl []], true, .sl 70⟩ := by kernel_rfl
theorem ti42 : ti Tryz.prog 42 = ⟨true, 2, 32, true, [.bool false, .sl []], true, .st [(0, 1), (1, 1)]⟩ := by kernel_rfl
theorem ti43 : ti Tryz.prog 43 = ⟨true, 2, 32, true, [.bool false, .sl []], true, .st [(0, 1), (1, 1)]⟩ := by kernel_rfl
theorem ti53 : ti Tryz.prog 53 = ⟨true, 1, 24, false, [.sl []], true, .sl 3⟩ := by kernel_rfl
theorem ti63 : ti Tryz.prog 63 = ⟨true, 1, 8, false, [.int .u64 0], true, .int .u64⟩ := by kernel_rfl
theorem ti70 : ti Tryz.prog 70 = ⟨true, 1, 8, false, [.int .u64 0], true, .int .u64⟩ := by kernel_rfl
theorem ti77 : ti Tryz.prog 77 = ⟨true, 1, 24, false, [.sl []], true, .sl 26⟩ := by kernel_rfl
theorem ti81 : ti Tryz.prog 81 = ⟨true, 1, 8, false, [.int .i64 0], true, .int .i64⟩ := by kernel_rfl
theorem ti89 : ti Tryz.prog 89 = ⟨true, 1, 4, false, [.int .u32 0], true, .int .u32⟩ := by kernel_rfl
theorem ti112 : ti Tryz.prog 112 = ⟨true, 1, 8, false, [.int .u64 0], true, .int .u64⟩ := by kernel_rfl
theorem ti155 : ti Tryz.prog 155 = ⟨true, 1, 24, false, [.sl []], true, .sl 41⟩ := by kernel_rfl
theorem ti168 : ti Tryz.prog 168 = ⟨true, 1, 1, false, [.int .u8 0], true, .int .u8⟩ := by kernel_rfl
theorem ti169 : ti Tryz.prog 169 = ⟨true, 1, 1, false, [.int .u8 0], true, .int .u8⟩ := by kernel_rfl
theorem ti172 : ti Tryz.prog 172 = ⟨true, 1, 4, false, [.int .i32 0], true, .int .i32⟩ := by kernel_rfl
theorem ti173 : ti Tryz.prog 173 = ⟨true, 1, 4, false, [.int .i32 0], true, .int .i32⟩ := by kernel_rfl
theorem str9 : isStr Tryz.prog 9 = True := eq_true Tryz.underlying9
def tis := And.intro ti2 (And.intro ti3 (And.intro ti4 (And.intro ti5 (And.intro ti6 (And.intro ti7 (And.intro ti8 (And.intro ti12 (And.intro ti21 (And.intro ti22 (And.intro ti25 (And.intro ti26 (And.intro ti29 (And.intro ti38 (And.intro ti39 (And.intro ti40 (And.intro ti41 (And.intro ti42 (And.intro ti43 (And.intro ti53 (And.intro ti63 (And.intro ti70 (And.intro ti77 (And.intro ti81 (And.intro ti89 (And.intro ti112 (And.intro ti155 (And.intro ti168 (And.intro ti169 (And.intro ti172 (And.intro ti173 (str9)))))))))))))))))))))))))))))))
theorem ords : Tryz.prog.follows .mixedOrders = true := by kernel_rfl
end Go.Proofs.YthbobdhkbgggjaaGreat
