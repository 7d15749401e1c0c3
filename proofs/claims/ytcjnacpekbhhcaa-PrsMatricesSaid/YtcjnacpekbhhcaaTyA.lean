/-
  Contracts of the functions that the law reaches.
-/
import Derived.Test.YtcjnacpekbhhcaaChecked
import Derived.KernelRfl
import Derived.Test.YtcjnacpekbhhcaaAbsW
namespace Go.Proofs.Ytcjnacpekbhhcaa
open Go Go.Proofs Go.AL
set_option linter.defProp false
theorem ti2 : ti Try.prog 2 = ⟨true, 1, 8, false, [.int .i64 0], true, .int .i64⟩ := by kernel_rfl
theorem ti3 : ti Try.prog 3 = ⟨true, 1, 8, false, [.int .i64 0], true, .int .i64⟩ := by kernel_rfl
theorem ti4 : ti Try.prog 4 = ⟨true, 1, 1, false, [.bool false], true, .bool⟩ := by kernel_rfl
theorem ti5 : ti Try.prog 5 = ⟨true, 1, 1, false, [.int .u8 0], true, .int .u8⟩ := by kernel_rfl
theorem ti6 : ti Try.prog 6 = ⟨true, 1, 1, false, [.int .u8 0], true, .int .u8⟩ := by kernel_rfl
theorem ti7 : ti Try.prog 7 = ⟨true, 4, 24, true, [.int .i64 0, .int .i64 0, .bool false, .int .u8 0], true, .st [(0, 1), (1, 1), (2, 1), (3, 1)]⟩ := by kernel_rfl
theorem ti8 : ti Try.prog 8 = ⟨true, 4, 24, true, [.int .i64 0, .int .i64 0, .bool false, .int .u8 0], true, .st [(0, 1), (1, 1), (2, 1), (3, 1)]⟩ := by kernel_rfl
theorem ti12 : ti Try.prog 12 = ⟨true, 1, 8, false, [.int .u64 0], true, .int .u64⟩ := by kernel_rfl
theorem ti21 : ti Try.prog 21 = ⟨true, 1, 4, false, [.int .i32 0], true, .int .i32⟩ := by kernel_rfl
theorem ti22 : ti Try.prog 22 = ⟨true, 3, 24, true, [.int .i64 0, .int .i64 0, .int .i64 0], true, .arr 3 3⟩ := by kernel_rfl
theorem ti23 : ti Try.prog 23 = ⟨true, 9, 72, true, [.int .i64 0, .int .i64 0, .int .i64 0, .int .i64 0, .int .i64 0, .int .i64 0, .int .i64 0, .int .i64 0, .int .i64 0], true, .arr 3 22⟩ := by kernel_rfl
theorem ti24 : ti Try.prog 24 = ⟨true, 20, 160, true, [.int .i64 0, .int .i64 0, .int .i64 0, .int .i64 0, .int .i64 0, .int .i64 0, .int .i64 0, .int .i64 0, .int .i64 0, .int .i64 0, .int .i64 0, .int .i64 0, .int .i64 0, .int .i64 0, .int .i64 0, .int .i64 0, .int .i64 0, .int .i64 0, .int .i64 0, .int .i64 0], true, .st [(0, 9), (9, 9), (18, 1), (19, 1)]⟩ := by kernel_rfl
theorem ti25 : ti Try.prog 25 = ⟨true, 20, 160, true, [.int .i64 0, .int .i64 0, .int .i64 0, .int .i64 0, .int .i64 0, .int .i64 0, .int .i64 0, .int .i64 0, .int .i64 0, .int .i64 0, .int .i64 0, .int .i64 0, .int .i64 0, .int .i64 0, .int .i64 0, .int .i64 0, .int .i64 0, .int .i64 0, .int .i64 0, .int .i64 0], true, .st [(0, 9), (9, 9), (18, 1), (19, 1)]⟩ := by kernel_rfl
theorem ti27 : ti Try.prog 27 = ⟨true, 1, 24, false, [.sl []], true, .sl 28⟩ := by kernel_rfl
theorem ti28 : ti Try.prog 28 = ⟨true, 1, 24, false, [.sl []], true, .sl 32⟩ := by kernel_rfl
theorem ti29 : ti Try.prog 29 = ⟨true, 1, 24, false, [.sl []], true, .sl 35⟩ := by kernel_rfl
theorem ti30 : ti Try.prog 30 = ⟨true, 1, 24, false, [.sl []], true, .sl 35⟩ := by kernel_rfl
theorem ti31 : ti Try.prog 31 = ⟨true, 2, 32, true, [.bool false, .sl []], true, .st [(0, 1), (1, 1)]⟩ := by kernel_rfl
theorem ti32 : ti Try.prog 32 = ⟨true, 2, 32, true, [.bool false, .sl []], true, .st [(0, 1), (1, 1)]⟩ := by kernel_rfl
theorem ti35 : ti Try.prog 35 = ⟨true, 1, 8, false, [.int .u64 0], true, .int .u64⟩ := by kernel_rfl
theorem ti36 : ti Try.prog 36 = ⟨true, 1, 8, false, [.int .i64 0], true, .int .i64⟩ := by kernel_rfl
theorem ti43 : ti Try.prog 43 = ⟨true, 1, 24, false, [.sl []], true, .sl 32⟩ := by kernel_rfl
theorem ti62 : ti Try.prog 62 = ⟨true, 1, 24, false, [.sl []], true, .sl 3⟩ := by kernel_rfl
theorem ti96 : ti Try.prog 96 = ⟨true, 1, 8, false, [.int .u64 0], true, .int .u64⟩ := by kernel_rfl
theorem ti109 : ti Try.prog 109 = ⟨true, 1, 24, false, [.sl []], true, .sl 30⟩ := by kernel_rfl
theorem ti122 : ti Try.prog 122 = ⟨true, 1, 4, false, [.int .u32 0], true, .int .u32⟩ := by kernel_rfl
theorem ti123 : ti Try.prog 123 = ⟨true, 1, 1, false, [.int .u8 0], true, .int .u8⟩ := by kernel_rfl
theorem ti124 : ti Try.prog 124 = ⟨true, 1, 1, false, [.int .u8 0], true, .int .u8⟩ := by kernel_rfl
theorem ti127 : ti Try.prog 127 = ⟨true, 1, 4, false, [.int .i32 0], true, .int .i32⟩ := by kernel_rfl
theorem ti128 : ti Try.prog 128 = ⟨true, 1, 4, false, [.int .i32 0], true, .int .i32⟩ := by kernel_rfl
theorem str9 : isStr Try.prog 9 = True := eq_true Try.underlying9
def tis := And.intro ti2 (And.intro ti3 (And.intro ti4 (And.intro ti5 (And.intro ti6 (And.intro ti7 (And.intro ti8 (And.intro ti12 (And.intro ti21 (And.intro ti22 (And.intro ti23 (And.intro ti24 (And.intro ti25 (And.intro ti27 (And.intro ti28 (And.intro ti29 (And.intro ti30 (And.intro ti31 (And.intro ti32 (And.intro ti35 (And.intro ti36 (And.intro ti43 (And.intro ti62 (And.intro ti96 (And.intro ti109 (And.intro ti122 (And.intro ti123 (And.intro ti124 (And.intro ti127 (And.intro ti128 (str9))))))))))))))))))))))))))))))
theorem ords : Try.prog.follows .mixedOrders = true := by kernel_rfl
end Go.Proofs.Ytcjnacpekbhhcaa
