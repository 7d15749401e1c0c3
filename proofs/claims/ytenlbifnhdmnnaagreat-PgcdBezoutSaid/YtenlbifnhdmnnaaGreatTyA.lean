/-
  Contracts of the functions that the law reaches.
-/
import Derived.Test.YtenlbifnhdmnnaaGreatChecked
import Derived.KernelRfl
import Derived.Test.YtenlbifnhdmnnaaGreatAbsFM
namespace Go.Proofs.YtenlbifnhdmnnaaGreat
open Go Go.Proofs Go.AL
set_option linter.defProp false
theorem ti2 : ti Tryz.prog 2 = ⟨true, 1, 8, false, [.int .i64 0], true, .int .i64⟩ := by kernel_rfl
theorem ti3 : ti Tryz.prog 3 = ⟨true, 1, 8, false, [.int .i64 0], true, .int .i64⟩ := by kernel_rfl
theorem ti4 : ti Tryz.prog 4 = ⟨true, 1, 1, false, [.bool false], true, .bool⟩ := by kernel_rfl
theorem ti5 : ti Tryz.prog 5 = ⟨true, 1, 1, false, [.int .u8 0], true, .int .u8⟩ := by kernel_rfl
theorem ti6 : ti Tryz.prog 6 = ⟨true, 1, 1, false, [.int .u8 0], true, .int .u8⟩ := by kernel_rfl
theorem ti7 : ti Tryz.prog 7 = ⟨true, 4, 24, true, [.int .i64 0, .int .i64 0, .bool false, .int .u8 0], true, .st [(0, 1), (1, 1), (2, 1), (3, 1)]⟩ := by kernel_rfl
theorem ti8 : ti Tryz.prog 8 = ⟨true, 4, 24, true, [.int .i64 0, .int .i64 0, .bool false, .int .u8 0], true, .st [(0, 1), (1, 1), (2, 1), (3, 1)]⟩ := by kernel_rfl
theorem ti12 : ti Tryz.prog 12 = ⟨true, 1, 8, false, [.int .u64 0], true, .int .u64⟩ := by kernel_rfl
theorem ti21 : ti Tryz.prog 21 = ⟨true, 1, 4, false, [.int .i32 0], true, .int .i32⟩ := by kernel_rfl
theorem ti22 : ti Tryz.prog 22 = ⟨true, 1, 24, false, [.sl []], true, .sl 44⟩ := by kernel_rfl
theorem ti23 : ti Tryz.prog 23 = ⟨true, 1, 24, false, [.sl []], true, .sl 44⟩ := by kernel_rfl
theorem ti24 : ti Tryz.prog 24 = ⟨true, 1, 24, false, [.sl []], true, .sl 23⟩ := by kernel_rfl
theorem ti25 : ti Tryz.prog 25 = ⟨true, 1, 24, false, [.sl []], true, .sl 46⟩ := by kernel_rfl
theorem ti26 : ti Tryz.prog 26 = ⟨true, 1, 24, false, [.sl []], true, .sl 46⟩ := by kernel_rfl
theorem ti27 : ti Tryz.prog 27 = ⟨true, 6, 144, true, [.sl [], .sl [], .sl [], .sl [], .sl [], .sl []], true, .st [(0, 1), (1, 1), (2, 1), (3, 1), (4, 1), (5, 1)]⟩ := by kernel_rfl
theorem ti28 : ti Tryz.prog 28 = ⟨true, 6, 144, true, [.sl [], .sl [], .sl [], .sl [], .sl [], .sl []], true, .st [(0, 1), (1, 1), (2, 1), (3, 1), (4, 1), (5, 1)]⟩ := by kernel_rfl
theorem ti32 : ti Tryz.prog 32 = ⟨true, 1, 8, false, [.int .i64 0], true, .int .i64⟩ := by kernel_rfl
theorem ti41 : ti Tryz.prog 41 = ⟨true, 1, 24, false, [.sl []], true, .sl 70⟩ := by kernel_rfl
theorem ti42 : ti Tryz.prog 42 = ⟨true, 1, 24, false, [.sl []], true, .sl 70⟩ := by kernel_rfl
theorem ti43 : ti Tryz.prog 43 = ⟨true, 2, 32, true, [.bool false, .sl []], true, .st [(0, 1), (1, 1)]⟩ := by kernel_rfl
theorem ti44 : ti Tryz.prog 44 = ⟨true, 2, 32, true, [.bool false, .sl []], true, .st [(0, 1), (1, 1)]⟩ := by kernel_rfl
theorem ti45 : ti Tryz.prog 45 = ⟨true, 3, 56, true, [.bool false, .sl [], .sl []], true, .st [(0, 2), (2, 1)]⟩ := by kernel_rfl
theorem ti46 : ti Tryz.prog 46 = ⟨true, 3, 56, true, [.bool false, .sl [], .sl []], true, .st [(0, 2), (2, 1)]⟩ := by kernel_rfl
theorem ti70 : ti Tryz.prog 70 = ⟨true, 1, 8, false, [.int .u64 0], true, .int .u64⟩ := by kernel_rfl
theorem ti82 : ti Tryz.prog 82 = ⟨true, 1, 24, false, [.sl []], true, .sl 3⟩ := by kernel_rfl
theorem ti97 : ti Tryz.prog 97 = ⟨true, 1, 24, false, [.sl []], true, .sl 26⟩ := by kernel_rfl
theorem ti148 : ti Tryz.prog 148 = ⟨true, 1, 24, false, [.sl []], true, .sl 42⟩ := by kernel_rfl
theorem ti169 : ti Tryz.prog 169 = ⟨true, 1, 8, false, [.int .u64 0], true, .int .u64⟩ := by kernel_rfl
theorem ti192 : ti Tryz.prog 192 = ⟨true, 1, 4, false, [.int .u32 0], true, .int .u32⟩ := by kernel_rfl
theorem ti193 : ti Tryz.prog 193 = ⟨true, 1, 1, false, [.int .u8 0], true, .int .u8⟩ := by kernel_rfl
theorem ti194 : ti Tryz.prog 194 = ⟨true, 1, 1, false, [.int .u8 0], true, .int .u8⟩ := by kernel_rfl
theorem ti197 : ti Tryz.prog 197 = ⟨true, 1, 4, false, [.int .i32 0], true, .int .i32⟩ := by kernel_rfl
theorem ti198 : ti Tryz.prog 198 = ⟨true, 1, 4, false, [.int .i32 0], true, .int .i32⟩ := by kernel_rfl
theorem str9 : isStr Tryz.prog 9 = True := eq_true Tryz.underlying9
def tis := And.intro ti2 (And.intro ti3 (And.intro ti4 (And.intro ti5 (And.intro ti6 (And.intro ti7 (And.intro ti8 (And.intro ti12 (And.intro ti21 (And.intro ti22 (And.intro ti23 (And.intro ti24 (And.intro ti25 (And.intro ti26 (And.intro ti27 (And.intro ti28 (And.intro ti32 (And.intro ti41 (And.intro ti42 (And.intro ti43 (And.intro ti44 (And.intro ti45 (And.intro ti46 (And.intro ti70 (And.intro ti82 (And.intro ti97 (And.intro ti148 (And.intro ti169 (And.intro ti192 (And.intro ti193 (And.intro ti194 (And.intro ti197 (And.intro ti198 (str9)))))))))))))))))))))))))))))))))
theorem ords : Tryz.prog.follows .mixedOrders = true := by kernel_rfl
end Go.Proofs.YtenlbifnhdmnnaaGreat
