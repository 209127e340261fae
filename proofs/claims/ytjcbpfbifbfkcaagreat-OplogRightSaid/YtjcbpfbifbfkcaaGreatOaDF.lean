import Derived.Test.YtjcbpfbifbfkcaaGreatOaQA
import Derived.Test.YtjcbpfbifbfkcaaGreatOaQD
import Derived.Test.YtjcbpfbifbfkcaaGreatOaDL
import Derived.Test.YtjcbpfbifbfkcaaGreatOaGW
/- The walk of free. -/
set_option linter.unusedSimpArgs false
set_option linter.unusedVariables false
namespace Go.Proofs.YtjcbpfbifbfkcaaGreat
open Go.RowKit
def WorkPost (B : Nat) (w0 : World) (b : Nat) (s : Hv) (c v : Int) (K : List Blk) (e : Ending) (w' : World) : Prop := e = .returned (resV c v) ∧ ∃ y : Hv, y.Sm s ∧ WorkAt B w0 w' b y K
theorem HRight.small {x : Hv} (h : HRight x) : x.Small := by
  obtain ⟨h3, h8, hcan⟩ := right_can h.free
  refine ⟨⟨by have := h.len; omega, fun o ho => ?_⟩, ?_⟩
  · have h1 := (h.need o ho)
    have h2 : 0 ≤ needI o.ws.length o.ls.length := by rw [h1.1]; exact h1.2.1
    have := needI_ok h2
    omega
  · have h1 := hcan.good.len h3
    have h2 := pw_le h8
    omega
theorem HRight.sorted {x : Hv} (h : HRight x) : SortedO x.os := h.rise.step
theorem Hp.part {B : Nat} {w0 w : World} {L L' D : List Blk} (hp : Hp B w0 w L) (h : L.Perm (L' ++ D)) : Hp B w0 w L' := (hp.reorder h).sublist (List.sublist_append_left _ _)
end Go.Proofs.YtjcbpfbifbfkcaaGreat
