/- The closure of heap.Check's sort. -/
import Derived.Test.YtinlmcdphhmhjaaBSort
set_option linter.unusedSimpArgs false
set_option linter.unusedVariables false
namespace Go.Proofs.Ytinlmcdphhmhjaa
open Go.RowKit Go.Lib Go.Shelf Go.Sort
theorem enter36 (args : Array Value) (w : World) : (callFunc 36 args).run Try.prog w = .ok (.enter 36 args) w := enters_of Try.func36 (by kernel_rfl) rfl args w
theorem compares36 : Compares 36 := by
  intro x y W
  have hcon := cmp37 x.p y.p
  generalize cmpI x.p y.p = r at hcon ⊢
  go_enter Try.func36, Try.ntmps36
  go_wp2_with (go_at_call 37; (with_reducible refine (hcon _).mono ?_); rintro e w' ⟨rfl, rfl⟩)
  go_ret
  exact ⟨rfl, 0, _, by rw [alloc_eq_grow, alloc_eq_grow, grow_grow]; rfl⟩
end Go.Proofs.Ytinlmcdphhmhjaa
