import Derived.Test.YtjcbpfbifbfkcaaGreatOaDB
/- The walks of no and lead. -/
set_option linter.unusedSimpArgs false
set_option linter.unusedVariables false
namespace Go.Proofs.YtjcbpfbifbfkcaaGreat
open Go.RowKit
theorem agg36 : aggB Tryz.prog 36 7 = true := by kernel_rfl
def resV (c v : Int) : Value := .agg #[.int .i64 c, .int .i64 v]
end Go.Proofs.YtjcbpfbifbfkcaaGreat
