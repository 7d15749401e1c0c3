/-
  Contracts of the functions that the law reaches.
-/
import Derived.Test.YtcocppjgbcbndaaGreatChecked
import Derived.KernelRfl
import Derived.Test.YtcocppjgbcbndaaGreatAbsFM
namespace Go.Proofs.YtcocppjgbcbndaaGreat
open Go Go.Proofs Go.AL
set_option linter.defProp false
theorem ti2 : ti Tryz.prog 2 = ⟨true, 1, 8, false, [.int .i64 0], true, .int .i64⟩ := by kernel_rfl
theorem ti3 : ti Tryz.prog 3 = ⟨true, 1, 8, false, [.int .i64 0], true, .int .i64⟩ := by kernel_rfl
theorem ti4 : ti Tryz.prog 4 = ⟨true, 1, 1, false, [.bool false], true, .bool⟩ := by kernel_rfl
theorem ti5 : ti Tryz.prog 5 = ⟨true, 1, 1, false, [.int .u8 0], true, .int .u8⟩ := by kernel_rfl
theorem ti6 : ti Tryz.prog 6 = ⟨true, 1, 1, false, [.int .u8 0], true, .int .u8⟩ := by kernel_rfl
theorem ti7 : ti Tryz.prog 7 = ⟨true, 4, 24, true, [.int .i64 0, .int .i64 0, .bool false, .int .u8 0], true, .st [(0, 1), (1, 1), (2, 1), (3, 1)]⟩ := by kernel_rfl
theorem ti8 : ti Tryz.prog 8 = ⟨true, 4, 24, true, [.int .i64 0, .int .i64 0, .bool false, .int .u8 0], true, .st [(0, 1), (1, 1), (2, 1), (3, 1)]⟩ := by kernel_rfl
theorem ti12 : ti Tryz.prog 12 = ⟨true, 1, 8, false, [.int .u64 0], true, .int .u64⟩ := by kernel_rfl
theorem ti21 : ti Tryz.prog 21 = ⟨true, 1, 4, false, [.int .i32 0], true, .int .i32⟩ := by kernel_rfl
theorem ti22 : ti Tryz.prog 22 = ⟨true, 1, 24, false, [.sl []], true, .sl 47⟩ := by kernel_rfl
theorem ti23 : ti Tryz.prog 23 = ⟨true, 1, 24, false, [.sl []], true, .sl 3⟩ := by kernel_rfl
theorem ti24 : ti Tryz.prog 24 = ⟨true, 3, 56, true, [.sl [], .sl [], .int .i64 0], true, .st [(0, 1), (1, 1), (2, 1)]⟩ := by kernel_rfl
theorem ti25 : ti Tryz.prog 25 = ⟨true, 3, 56, true, [.sl [], .sl [], .int .i64 0], true, .st [(0, 1), (1, 1), (2, 1)]⟩ := by kernel_rfl
theorem ti27 : ti Tryz.prog 27 = ⟨true, 1, 24, false, [.sl []], true, .sl 33⟩ := by kernel_rfl
theorem ti28 : ti Tryz.prog 28 = ⟨true, 1, 24, false, [.sl []], true, .sl 33⟩ := by kernel_rfl
theorem ti30 : ti Tryz.prog 30 = ⟨true, 1, 24, false, [.sl []], true, .sl 77⟩ := by kernel_rfl
theorem ti31 : ti Tryz.prog 31 = ⟨true, 1, 24, false, [.sl []], true, .sl 77⟩ := by kernel_rfl
theorem ti32 : ti Tryz.prog 32 = ⟨true, 2, 32, true, [.bool false, .sl []], true, .st [(0, 1), (1, 1)]⟩ := by kernel_rfl
theorem ti33 : ti Tryz.prog 33 = ⟨true, 2, 32, true, [.bool false, .sl []], true, .st [(0, 1), (1, 1)]⟩ := by kernel_rfl
theorem ti34 : ti Tryz.prog 34 = ⟨true, 3, 56, true, [.bool false, .sl [], .sl []], true, .st [(0, 2), (2, 1)]⟩ := by kernel_rfl
theorem ti35 : ti Tryz.prog 35 = ⟨true, 3, 56, true, [.bool false, .sl [], .sl []], true, .st [(0, 2), (2, 1)]⟩ := by kernel_rfl
theorem ti37 : ti Tryz.prog 37 = ⟨true, 1, 8, false, [.int .i64 0], true, .int .i64⟩ := by kernel_rfl
theorem ti46 : ti Tryz.prog 46 = ⟨true, 2, 16, true, [.int .i64 0, .int .i64 0], true, .st [(0, 1), (1, 1)]⟩ := by kernel_rfl
theorem ti47 : ti Tryz.prog 47 = ⟨true, 2, 16, true, [.int .i64 0, .int .i64 0], true, .st [(0, 1), (1, 1)]⟩ := by kernel_rfl
theorem ti48 : ti Tryz.prog 48 = ⟨true, 4, 32, true, [.int .i64 0, .int .i64 0, .int .i64 0, .int .i64 0], true, .arr 2 47⟩ := by kernel_rfl
theorem ti56 : ti Tryz.prog 56 = ⟨true, 1, 24, false, [.sl []], true, .sl 35⟩ := by kernel_rfl
theorem ti57 : ti Tryz.prog 57 = ⟨true, 1, 24, false, [.sl []], true, .sl 35⟩ := by kernel_rfl
theorem ti68 : ti Tryz.prog 68 = ⟨true, 6, 48, true, [.int .i64 0, .int .i64 0, .int .i64 0, .int .i64 0, .int .i64 0, .int .i64 0], true, .arr 3 47⟩ := by kernel_rfl
theorem ti77 : ti Tryz.prog 77 = ⟨true, 1, 8, false, [.int .u64 0], true, .int .u64⟩ := by kernel_rfl
theorem ti137 : ti Tryz.prog 137 = ⟨true, 1, 24, false, [.sl []], true, .sl 31⟩ := by kernel_rfl
theorem ti172 : ti Tryz.prog 172 = ⟨true, 1, 8, false, [.int .u64 0], true, .int .u64⟩ := by kernel_rfl
theorem ti199 : ti Tryz.prog 199 = ⟨true, 1, 4, false, [.int .u32 0], true, .int .u32⟩ := by kernel_rfl
theorem ti200 : ti Tryz.prog 200 = ⟨true, 1, 1, false, [.int .u8 0], true, .int .u8⟩ := by kernel_rfl
theorem ti201 : ti Tryz.prog 201 = ⟨true, 1, 1, false, [.int .u8 0], true, .int .u8⟩ := by kernel_rfl
theorem ti204 : ti Tryz.prog 204 = ⟨true, 1, 4, false, [.int .i32 0], true, .int .i32⟩ := by kernel_rfl
theorem ti205 : ti Tryz.prog 205 = ⟨true, 1, 4, false, [.int .i32 0], true, .int .i32⟩ := by kernel_rfl
theorem str9 : isStr Tryz.prog 9 = True := eq_true Tryz.underlying9
def tis := And.intro ti2 (And.intro ti3 (And.intro ti4 (And.intro ti5 (And.intro ti6 (And.intro ti7 (And.intro ti8 (And.intro ti12 (And.intro ti21 (And.intro ti22 (And.intro ti23 (And.intro ti24 (And.intro ti25 (And.intro ti27 (And.intro ti28 (And.intro ti30 (And.intro ti31 (And.intro ti32 (And.intro ti33 (And.intro ti34 (And.intro ti35 (And.intro ti37 (And.intro ti46 (And.intro ti47 (And.intro ti48 (And.intro ti56 (And.intro ti57 (And.intro ti68 (And.intro ti77 (And.intro ti137 (And.intro ti172 (And.intro ti199 (And.intro ti200 (And.intro ti201 (And.intro ti204 (And.intro ti205 (str9))))))))))))))))))))))))))))))))))))
theorem ords : Tryz.prog.follows .mixedOrders = true := by kernel_rfl
end Go.Proofs.YtcocppjgbcbndaaGreat
