/-
  Contracts of the functions that the law reaches.
-/
import Derived.Test.YtdmodmcaahmgmaaGreatChecked
import Derived.KernelRfl
import Derived.Test.YtdmodmcaahmgmaaGreatAbsFM
namespace Go.Proofs.YtdmodmcaahmgmaaGreat
open Go Go.Proofs Go.AL
set_option linter.defProp false
theorem ti2 : ti Tryz.prog 2 = ⟨true, 1, 8, false, [.int .i64 0], true, .int .i64⟩ := by kernel_rfl
theorem ti3 : ti Tryz.prog 3 = ⟨true, 1, 8, false, [.int .i64 0], true, .int .i64⟩ := by kernel_rfl
theorem ti4 : ti Tryz.prog 4 = ⟨true, 1, 1, false, [.bool false], true, .bool⟩ := by kernel_rfl
theorem ti5 : ti Tryz.prog 5 = ⟨true, 1, 1, false, [.int .u8 0], true, .int .u8⟩ := by kernel_rfl
theorem ti6 : ti Tryz.prog 6 = ⟨true, 1, 1, false, [.int .u8 0], true, .int .u8⟩ := by kernel_rfl
theorem ti7 : ti Tryz.prog 7 = ⟨true, 4, 24, true, [.int .i64 0, .int .i64 0, .bool false, .int .u8 0], true, .st [(0, 1), (1, 1), (2, 1), (3, 1)]⟩ := by kernel_rfl
theorem ti8 : ti Tryz.prog 8 = ⟨true, 4, 24, true, [.int .i64 0, .int .i64 0, .bool false, .int .u8 0], true, .st [(0, 1), (1, 1), (2, 1), (3, 1)]⟩ := by kernel_rfl
theorem ti12 : ti Tryz.prog 12 = ⟨true, 1, 8, false, [.int .u64 0], true, .int .u64⟩ := by kernel_rfl
theorem ti21 : ti Tryz.prog 21 = ⟨true, 1, 4, false, [.int .i32 0], true, .int .i32⟩ := by kernel_rfl
theorem ti22 : ti Tryz.prog 22 = ⟨true, 1, 24, false, [.sl []], true, .sl 50⟩ := by kernel_rfl
theorem ti23 : ti Tryz.prog 23 = ⟨true, 1, 24, false, [.sl []], true, .sl 50⟩ := by kernel_rfl
theorem ti24 : ti Tryz.prog 24 = ⟨true, 1, 24, false, [.sl []], true, .sl 23⟩ := by kernel_rfl
theorem ti25 : ti Tryz.prog 25 = ⟨true, 1, 24, false, [.sl []], true, .sl 52⟩ := by kernel_rfl
theorem ti26 : ti Tryz.prog 26 = ⟨true, 1, 24, false, [.sl []], true, .sl 52⟩ := by kernel_rfl
theorem ti27 : ti Tryz.prog 27 = ⟨true, 6, 144, true, [.sl [], .sl [], .sl [], .sl [], .sl [], .sl []], true, .st [(0, 1), (1, 1), (2, 1), (3, 1), (4, 1), (5, 1)]⟩ := by kernel_rfl
theorem ti28 : ti Tryz.prog 28 = ⟨true, 6, 144, true, [.sl [], .sl [], .sl [], .sl [], .sl [], .sl []], true, .st [(0, 1), (1, 1), (2, 1), (3, 1), (4, 1), (5, 1)]⟩ := by kernel_rfl
theorem ti31 : ti Tryz.prog 31 = ⟨true, 1, 8, false, [.int .i64 0], true, .int .i64⟩ := by kernel_rfl
theorem ti47 : ti Tryz.prog 47 = ⟨true, 1, 24, false, [.sl []], true, .sl 66⟩ := by kernel_rfl
theorem ti48 : ti Tryz.prog 48 = ⟨true, 1, 24, false, [.sl []], true, .sl 66⟩ := by kernel_rfl
theorem ti49 : ti Tryz.prog 49 = ⟨true, 2, 32, true, [.bool false, .sl []], true, .st [(0, 1), (1, 1)]⟩ := by kernel_rfl
theorem ti50 : ti Tryz.prog 50 = ⟨true, 2, 32, true, [.bool false, .sl []], true, .st [(0, 1), (1, 1)]⟩ := by kernel_rfl
theorem ti51 : ti Tryz.prog 51 = ⟨true, 3, 56, true, [.bool false, .sl [], .sl []], true, .st [(0, 2), (2, 1)]⟩ := by kernel_rfl
theorem ti52 : ti Tryz.prog 52 = ⟨true, 3, 56, true, [.bool false, .sl [], .sl []], true, .st [(0, 2), (2, 1)]⟩ := by kernel_rfl
theorem ti66 : ti Tryz.prog 66 = ⟨true, 1, 8, false, [.int .u64 0], true, .int .u64⟩ := by kernel_rfl
theorem ti79 : ti Tryz.prog 79 = ⟨true, 1, 24, false, [.sl []], true, .sl 3⟩ := by kernel_rfl
theorem ti96 : ti Tryz.prog 96 = ⟨true, 1, 24, false, [.sl []], true, .sl 26⟩ := by kernel_rfl
theorem ti150 : ti Tryz.prog 150 = ⟨true, 1, 24, false, [.sl []], true, .sl 48⟩ := by kernel_rfl
theorem ti172 : ti Tryz.prog 172 = ⟨true, 1, 8, false, [.int .u64 0], true, .int .u64⟩ := by kernel_rfl
theorem ti195 : ti Tryz.prog 195 = ⟨true, 1, 4, false, [.int .u32 0], true, .int .u32⟩ := by kernel_rfl
theorem ti196 : ti Tryz.prog 196 = ⟨true, 1, 1, false, [.int .u8 0], true, .int .u8⟩ := by kernel_rfl
theorem ti197 : ti Tryz.prog 197 = ⟨true, 1, 1, false, [.int .u8 0], true, .int .u8⟩ := by kernel_rfl
theorem ti200 : ti Tryz.prog 200 = ⟨true, 1, 4, false, [.int .i32 0], true, .int .i32⟩ := by kernel_rfl
theorem ti201 : ti Tryz.prog 201 = ⟨true, 1, 4, false, [.int .i32 0], true, .int .i32⟩ := by kernel_rfl
theorem str9 : isStr Tryz.prog 9 = True := eq_true Tryz.underlying9
def tis := And.intro ti2 (And.intro ti3 (And.intro ti4 (And.intro ti5 (And.intro ti6 (And.intro ti7 (And.intro ti8 (And.intro ti12 (And.intro ti21 (And.intro ti22 (And.intro ti23 (And.intro ti24 (And.intro ti25 (And.intro ti26 (And.intro ti27 (And.intro ti28 (And.intro ti31 (And.intro ti47 (And.intro ti48 (And.intro ti49 (And.intro ti50 (And.intro ti51 (And.intro ti52 (And.intro ti66 (And.intro ti79 (And.intro ti96 (And.intro ti150 (And.intro ti172 (And.intro ti195 (And.intro ti196 (And.intro ti197 (And.intro ti200 (And.intro ti201 (str9)))))))))))))))))))))))))))))))))
theorem ords : Tryz.prog.follows .mixedOrders = true := by kernel_rfl
end Go.Proofs.YtdmodmcaahmgmaaGreat
