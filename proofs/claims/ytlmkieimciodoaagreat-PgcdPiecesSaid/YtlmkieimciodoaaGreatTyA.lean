/-
  Contracts of the functions that the law reaches.
-/
import Derived.Test.YtlmkieimciodoaaGreatChecked
import Derived.KernelRfl
import Derived.Test.YtlmkieimciodoaaGreatAbsFM
namespace Go.Proofs.YtlmkieimciodoaaGreat
open Go Go.Proofs Go.AL
set_option linter.defProp false
theorem ti2 : ti Tryz.prog 2 = ⟨true, 1, 8, false, [.int .i64 0], true, .int .i64⟩ := by kernel_rfl
theorem ti3 : ti Tryz.prog 3 = ⟨true, 1, 8, false, [.int .i64 0], true, .int .i64⟩ := by kernel_rfl
theorem ti4 : ti Tryz.prog 4 = ⟨true, 1, 1, false, [.bool false], true, .bool⟩ := by kernel_rfl
theorem ti5 : ti Tryz.prog 5 = ⟨true, 1, 1, false, [.int .u8 0], true, .int .u8⟩ := by kernel_rfl
theorem ti6 : ti Tryz.prog 6 = ⟨true, 1, 1, false, [.int .u8 0], true, .int .u8⟩ := by kernel_rfl
theorem ti7 : ti Tryz.prog 7 = ⟨true, 4, 24, true, [.int .i64 0, .int .i64 0, .bool false, .int .u8 0], true, .st [(0, 1), (1, 1), (2, 1), (3, 1)]⟩ := by kernel_rfl
theorem ti8 : ti Tryz.prog 8 = ⟨true, 4, 24, true, [.int .i64 0, .int .i64 0, .bool false, .int .u8 0], true, .st [(0, 1), (1, 1), (2, 1), (3, 1)]⟩ := by kernel_rfl
theorem ti12 : ti Tryz.prog 12 = ⟨true, 1, 8, false, [.int .u64 0], true, .int .u64⟩ := by kernel_rfl
theorem ti21 : ti Tryz.prog 21 = ⟨true, 1, 4, false, [.int .i32 0], true, .int .i32⟩ := by kernel_rfl
theorem ti22 : ti Tryz.prog 22 = ⟨true, 1, 24, false, [.sl []], true, .sl 55⟩ := by kernel_rfl
theorem ti23 : ti Tryz.prog 23 = ⟨true, 1, 24, false, [.sl []], true, .sl 55⟩ := by kernel_rfl
theorem ti24 : ti Tryz.prog 24 = ⟨true, 1, 24, false, [.sl []], true, .sl 23⟩ := by kernel_rfl
theorem ti25 : ti Tryz.prog 25 = ⟨true, 1, 24, false, [.sl []], true, .sl 57⟩ := by kernel_rfl
theorem ti26 : ti Tryz.prog 26 = ⟨true, 1, 24, false, [.sl []], true, .sl 57⟩ := by kernel_rfl
theorem ti27 : ti Tryz.prog 27 = ⟨true, 6, 144, true, [.sl [], .sl [], .sl [], .sl [], .sl [], .sl []], true, .st [(0, 1), (1, 1), (2, 1), (3, 1), (4, 1), (5, 1)]⟩ := by kernel_rfl
theorem ti28 : ti Tryz.prog 28 = ⟨true, 6, 144, true, [.sl [], .sl [], .sl [], .sl [], .sl [], .sl []], true, .st [(0, 1), (1, 1), (2, 1), (3, 1), (4, 1), (5, 1)]⟩ := by kernel_rfl
theorem ti37 : ti Tryz.prog 37 = ⟨true, 1, 8, false, [.int .i64 0], true, .int .i64⟩ := by kernel_rfl
theorem ti52 : ti Tryz.prog 52 = ⟨true, 1, 24, false, [.sl []], true, .sl 86⟩ := by kernel_rfl
theorem ti53 : ti Tryz.prog 53 = ⟨true, 1, 24, false, [.sl []], true, .sl 86⟩ := by kernel_rfl
theorem ti54 : ti Tryz.prog 54 = ⟨true, 2, 32, true, [.bool false, .sl []], true, .st [(0, 1), (1, 1)]⟩ := by kernel_rfl
theorem ti55 : ti Tryz.prog 55 = ⟨true, 2, 32, true, [.bool false, .sl []], true, .st [(0, 1), (1, 1)]⟩ := by kernel_rfl
theorem ti56 : ti Tryz.prog 56 = ⟨true, 3, 56, true, [.bool false, .sl [], .sl []], true, .st [(0, 2), (2, 1)]⟩ := by kernel_rfl
theorem ti57 : ti Tryz.prog 57 = ⟨true, 3, 56, true, [.bool false, .sl [], .sl []], true, .st [(0, 2), (2, 1)]⟩ := by kernel_rfl
theorem ti77 : ti Tryz.prog 77 = ⟨true, 1, 24, false, [.sl []], true, .sl 3⟩ := by kernel_rfl
theorem ti86 : ti Tryz.prog 86 = ⟨true, 1, 8, false, [.int .u64 0], true, .int .u64⟩ := by kernel_rfl
theorem ti108 : ti Tryz.prog 108 = ⟨true, 1, 24, false, [.sl []], true, .sl 26⟩ := by kernel_rfl
theorem ti165 : ti Tryz.prog 165 = ⟨true, 1, 24, false, [.sl []], true, .sl 53⟩ := by kernel_rfl
theorem ti179 : ti Tryz.prog 179 = ⟨true, 1, 8, false, [.int .u64 0], true, .int .u64⟩ := by kernel_rfl
theorem ti201 : ti Tryz.prog 201 = ⟨true, 1, 4, false, [.int .u32 0], true, .int .u32⟩ := by kernel_rfl
theorem ti202 : ti Tryz.prog 202 = ⟨true, 1, 1, false, [.int .u8 0], true, .int .u8⟩ := by kernel_rfl
theorem ti203 : ti Tryz.prog 203 = ⟨true, 1, 1, false, [.int .u8 0], true, .int .u8⟩ := by kernel_rfl
theorem ti206 : ti Tryz.prog 206 = ⟨true, 1, 4, false, [.int .i32 0], true, .int .i32⟩ := by kernel_rfl
theorem ti207 : ti Tryz.prog 207 = ⟨true, 1, 4, false, [.int .i32 0], true, .int .i32⟩ := by kernel_rfl
theorem str9 : isStr Tryz.prog 9 = True := eq_true Tryz.underlying9
def tis := And.intro ti2 (And.intro ti3 (And.intro ti4 (And.intro ti5 (And.intro ti6 (And.intro ti7 (And.intro ti8 (And.intro ti12 (And.intro ti21 (And.intro ti22 (And.intro ti23 (And.intro ti24 (And.intro ti25 (And.intro ti26 (And.intro ti27 (And.intro ti28 (And.intro ti37 (And.intro ti52 (And.intro ti53 (And.intro ti54 (And.intro ti55 (And.intro ti56 (And.intro ti57 (And.intro ti77 (And.intro ti86 (And.intro ti108 (And.intro ti165 (And.intro ti179 (And.intro ti201 (And.intro ti202 (And.intro ti203 (And.intro ti206 (And.intro ti207 (str9)))))))))))))))))))))))))))))))))
theorem ords : Tryz.prog.follows .mixedOrders = true := by kernel_rfl
end Go.Proofs.YtlmkieimciodoaaGreat
