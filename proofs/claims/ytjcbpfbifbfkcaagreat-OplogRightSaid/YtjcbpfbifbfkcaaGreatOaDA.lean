import Derived.Test.YtjcbpfbifbfkcaaGreatOaDF
import Derived.Test.YtjcbpfbifbfkcaaGreatOaDrawn4
import Derived.Test.YtjcbpfbifbfkcaaGreatOaQA
import Derived.Test.YtjcbpfbifbfkcaaGreatOaQD
/- The walk of alloc. -/
set_option linter.unusedSimpArgs false
set_option linter.unusedVariables false
namespace Go.Proofs.YtjcbpfbifbfkcaaGreat
open Go.RowKit
theorem WorkAt.sm {B : Nat} {w0 w : World} {b : Nat} {x : Hv} {K : List Blk} (h : WorkAt B w0 w b x K) {e : Ending} {c v : Int} (he : e = .returned (resV c v)) : WorkPost B w0 b x c v K e w := ⟨he, x, Hv.Sm.refl x, h⟩
end Go.Proofs.YtjcbpfbifbfkcaaGreat
