/- The types of the heap statements. -/
import Derived.Test.YtinlmcdphhmhjaaHSpec
import Derived.Test.YtinlmcdphhmhjaaBSame
import Derived.Deep.LoopGhost
set_option linter.unusedSimpArgs false
set_option linter.unusedVariables false
namespace Go.Proofs.Ytinlmcdphhmhjaa
open Go.RowKit
--@optional
theorem agg55 : aggB Try.prog 55 5 = true := by kernel_rfl
theorem agg26 : aggB Try.prog 26 8 = true := by kernel_rfl
theorem agg23 : aggB Try.prog 23 4 = true := by kernel_rfl
theorem cell53 : cellB Try.prog 53 = true := by kernel_rfl
theorem cell22 : cellB Try.prog 22 = true := by kernel_rfl
theorem cell24 : cellB Try.prog 24 = true := by kernel_rfl
theorem zero55 : zeroL Try.prog 55 = some ([.int .i64 0, .int .i64 0, .int .i64 0, .slice none 0 0, .slice none 0 0], 5) := by kernel_rfl
theorem zero26 : zeroL Try.prog 26 = some ([.int .i64 0, .slice none 0 0, .int .i64 0, .int .i64 0, .int .i64 0, .int .i64 0, .int .i64 0, .slice none 0 0], 8) := by kernel_rfl
theorem info55 : (Try.prog.info? 55).map (fun i => (i.zero, i.size, i.bytes)) = some (some (.agg #[.int .i64 0, .int .i64 0, .int .i64 0, .slice none 0 0, .slice none 0 0]), 5, 72) := by kernel_rfl
theorem info3 : (Try.prog.info? 3).map (fun i => (i.zero, i.size, i.bytes)) = some (some (.int .i64 0), 1, 8) := by kernel_rfl
end Go.Proofs.Ytinlmcdphhmhjaa
