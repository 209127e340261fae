import Derived.Test.YtjcbpfbifbfkcaaGreatOaYK
import Derived.Test.YtjcbpfbifbfkcaaGreatOaQB
import Derived.Test.YtjcbpfbifbfkcaaGreatOaQC
import Derived.Test.YtjcbpfbifbfkcaaGreatOaQA
import Derived.Test.YtjcbpfbifbfkcaaGreatOaHMay
/- The walk of table.Apply: what an entry makes of a state. -/
set_option linter.unusedSimpArgs false
set_option linter.unusedVariables false
namespace Go.Proofs.YtjcbpfbifbfkcaaGreat
open Go.RowKit
def SvO (y : Sv) (R : List Blk) : Prop := ∃ RR RH, R = RR ++ RH ∧ OwnRow 141 4 (.slice y.ra y.rs.length y.rc) y.rs.length (y.rs.flatMap rwV) RR ∧ HvO y.hv RH
def zeroSv : Sv := ⟨zeroHv, none, [], 0⟩
theorem may_lit (nu vi cl sq kk hh ii nn cc vv tt : Int) (b : Bool) (hb : mayE ⟨nu, vi, cl, sq, ⟨kk, hh, ii, nn, cc, vv, tt⟩⟩ = b) (w : World) : Calls Tryz.prog 69 #[.agg #[.int .i64 nu, .int .i64 vi, .int .i64 cl, .int .i64 sq, .int .i64 kk, .int .i64 hh, .int .i64 ii, .int .i64 nn, .int .i64 cc, .int .i64 vv, .int .i64 tt]] w fun x w' => x = .returned (.bool b) ∧ Below w.heap.size w w' := hb ▸ may69 ⟨nu, vi, cl, sq, ⟨kk, hh, ii, nn, cc, vv, tt⟩⟩ w
end Go.Proofs.YtjcbpfbifbfkcaaGreat
