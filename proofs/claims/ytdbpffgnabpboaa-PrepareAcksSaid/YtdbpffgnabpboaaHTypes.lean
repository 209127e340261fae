/- The types of the heap statements. -/
import Derived.Test.YtdbpffgnabpboaaHSpec
import Derived.Test.YtdbpffgnabpboaaBSame
import Derived.Deep.LoopGhost
set_option linter.unusedSimpArgs false
set_option linter.unusedVariables false
namespace Go.Proofs.Ytdbpffgnabpboaa
open Go.RowKit
theorem agg108 : aggB Try.prog 108 5 = true := by kernel_rfl
theorem agg41 : aggB Try.prog 41 8 = true := by kernel_rfl
theorem agg44 : aggB Try.prog 44 9 = true := by kernel_rfl
theorem agg57 : aggB Try.prog 57 4 = true := by kernel_rfl
theorem agg39 : aggB Try.prog 39 4 = true := by kernel_rfl
theorem cell94 : cellB Try.prog 94 = true := by kernel_rfl
theorem cell38 : cellB Try.prog 38 = true := by kernel_rfl
theorem cell22 : cellB Try.prog 22 = true := by kernel_rfl
theorem cell42 : cellB Try.prog 42 = true := by kernel_rfl
theorem zero108 : zeroL Try.prog 108 = some ([.int .i64 0, .int .i64 0, .int .i64 0, .slice none 0 0, .slice none 0 0], 5) := by kernel_rfl
theorem zero41 : zeroL Try.prog 41 = some ([.int .i64 0, .slice none 0 0, .int .i64 0, .int .i64 0, .int .i64 0, .int .i64 0, .int .i64 0, .slice none 0 0], 8) := by kernel_rfl
theorem zero44 : zeroL Try.prog 44 = some ([.int .i64 0, .slice none 0 0, .int .i64 0, .int .i64 0, .int .i64 0, .int .i64 0, .int .i64 0, .slice none 0 0, .slice none 0 0], 9) := by kernel_rfl
theorem zero57 : zeroL Try.prog 57 = some ([.int .i64 0, .int .i64 0, .int .i64 0, .int .i64 0], 4) := by kernel_rfl
theorem info108 : (Try.prog.info? 108).map (fun i => (i.zero, i.size, i.bytes)) = some (some (.agg #[.int .i64 0, .int .i64 0, .int .i64 0, .slice none 0 0, .slice none 0 0]), 5, 72) := by kernel_rfl
theorem info3 : (Try.prog.info? 3).map (fun i => (i.zero, i.size, i.bytes)) = some (some (.int .i64 0), 1, 8) := by kernel_rfl
theorem info57 : (Try.prog.info? 57).map (fun i => (i.zero, i.size, i.bytes)) = some (some (.agg #[.int .i64 0, .int .i64 0, .int .i64 0, .int .i64 0]), 4, 32) := by kernel_rfl
end Go.Proofs.Ytdbpffgnabpboaa
