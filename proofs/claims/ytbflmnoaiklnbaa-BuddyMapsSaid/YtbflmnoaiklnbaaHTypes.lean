/- The types of the heap statements. -/
import Derived.Test.YtbflmnoaiklnbaaHSpec
import Derived.Test.YtbflmnoaiklnbaaBSame
import Derived.Deep.LoopGhost
set_option linter.unusedSimpArgs false
set_option linter.unusedVariables false
namespace Go.Proofs.Ytbflmnoaiklnbaa
open Go.RowKit
--@optional
theorem agg76 : aggB Try.prog 76 5 = true := by kernel_rfl
theorem agg26 : aggB Try.prog 26 8 = true := by kernel_rfl
theorem agg53 : aggB Try.prog 53 9 = true := by kernel_rfl
theorem agg117 : aggB Try.prog 117 4 = true := by kernel_rfl
theorem agg23 : aggB Try.prog 23 4 = true := by kernel_rfl
theorem cell74 : cellB Try.prog 74 = true := by kernel_rfl
theorem cell22 : cellB Try.prog 22 = true := by kernel_rfl
theorem cell24 : cellB Try.prog 24 = true := by kernel_rfl
theorem cell51 : cellB Try.prog 51 = true := by kernel_rfl
theorem zero76 : zeroL Try.prog 76 = some ([.int .i64 0, .int .i64 0, .int .i64 0, .slice none 0 0, .slice none 0 0], 5) := by kernel_rfl
theorem zero26 : zeroL Try.prog 26 = some ([.int .i64 0, .slice none 0 0, .int .i64 0, .int .i64 0, .int .i64 0, .int .i64 0, .int .i64 0, .slice none 0 0], 8) := by kernel_rfl
theorem zero53 : zeroL Try.prog 53 = some ([.int .i64 0, .slice none 0 0, .int .i64 0, .int .i64 0, .int .i64 0, .int .i64 0, .int .i64 0, .slice none 0 0, .slice none 0 0], 9) := by kernel_rfl
theorem zero117 : zeroL Try.prog 117 = some ([.int .i64 0, .int .i64 0, .int .i64 0, .int .i64 0], 4) := by kernel_rfl
theorem info76 : (Try.prog.info? 76).map (fun i => (i.zero, i.size, i.bytes)) = some (some (.agg #[.int .i64 0, .int .i64 0, .int .i64 0, .slice none 0 0, .slice none 0 0]), 5, 72) := by kernel_rfl
theorem info3 : (Try.prog.info? 3).map (fun i => (i.zero, i.size, i.bytes)) = some (some (.int .i64 0), 1, 8) := by kernel_rfl
theorem info117 : (Try.prog.info? 117).map (fun i => (i.zero, i.size, i.bytes)) = some (some (.agg #[.int .i64 0, .int .i64 0, .int .i64 0, .int .i64 0]), 4, 32) := by kernel_rfl
end Go.Proofs.Ytbflmnoaiklnbaa
