import Derived.Test.YtjcbpfbifbfkcaaGreatOaDA
import Derived.Test.YtjcbpfbifbfkcaaGreatOaQF
import Derived.Test.YtjcbpfbifbfkcaaGreatOaKSm
/- The walk of heap.Do: what an operation makes of a heap. -/
set_option linter.unusedSimpArgs false
set_option linter.unusedVariables false
namespace Go.Proofs.YtjcbpfbifbfkcaaGreat
open Go.RowKit
def HvO (y : Hv) (R : List Blk) : Prop := ∃ RO RF M, R = RO ++ (RF ++ M) ∧ HvR y RO RF M
theorem hright_of {x : Hv} (h : hrightB x = true) : HRight x := by unfold hrightB at h; simpa using h
end Go.Proofs.YtjcbpfbifbfkcaaGreat
