/- The types of the client's statements: how many cells, which zero. -/
import Derived.Test.YtieffajmdfjokaaSpec
import Derived.Test.YtieffajmdfjokaaHp
set_option linter.unusedSimpArgs false
set_option linter.unusedVariables false
namespace Go.Proofs.Ytieffajmdfjokaa
theorem agg24 : aggB Try.prog 24 7 = true := by kernel_rfl
theorem agg26 : aggB Try.prog 26 13 = true := by kernel_rfl
theorem agg39 : aggB Try.prog 39 23 = true := by kernel_rfl
theorem agg56 : aggB Try.prog 56 13 = true := by kernel_rfl
theorem agg51 : aggB Try.prog 51 8 = true := by kernel_rfl
theorem cell3 : cellB Try.prog 3 = true := by kernel_rfl
theorem cell4 : cellB Try.prog 4 = true := by kernel_rfl
theorem cell9 : cellB Try.prog 9 = true := by kernel_rfl
theorem cell22 : cellB Try.prog 22 = true := by kernel_rfl
theorem cell27 : cellB Try.prog 27 = true := by kernel_rfl
theorem cell34 : cellB Try.prog 34 = true := by kernel_rfl
theorem cell35 : cellB Try.prog 35 = true := by kernel_rfl
theorem cell54 : cellB Try.prog 54 = true := by kernel_rfl
def zeroCli : List Value := [.int .i64 0, .int .i64 0, .int .i64 0, .int .i64 0, .int .i64 0, .bool false, .int .i64 0, .int .i64 0, .int .i64 0, .int .i64 0, .int .i64 0, .int .i64 0, .int .i64 0]
theorem zero26 : zeroL Try.prog 26 = some ([.int .i64 0, .int .i64 0, .int .i64 0, .int .i64 0, .int .i64 0, .bool false, .int .i64 0, .int .i64 0, .int .i64 0, .int .i64 0, .int .i64 0, .int .i64 0, .int .i64 0], 13) := by kernel_rfl
theorem zero39 : zeroL Try.prog 39 = some ([.int .i64 0, .int .i64 0, .int .i64 0, .int .i64 0, .int .i64 0, .int .i64 0, .int .i64 0, .int .i64 0, .slice none 0 0, .int .i64 0, .int .i64 0, .string ByteArray.empty, .int .i64 0,
  .int .i64 0, .int .i64 0, .int .i64 0, .int .i64 0, .int .i64 0, .int .i64 0, .int .i64 0, .int .i64 0, .int .i64 0, .bool false], 23) := by kernel_rfl
theorem zero51 : zeroL Try.prog 51 = some ([.int .i64 0, .int .i64 0, .int .i64 0, .int .i64 0, .int .i64 0, .int .i64 0, .int .i64 0, .int .i64 0], 8) := by kernel_rfl
end Go.Proofs.Ytieffajmdfjokaa
