/- The walks of client.Check and of the reference's Right. -/
import Derived.Test.YtieffajmdfjokaaSpec
set_option linter.unusedSimpArgs false
set_option linter.unusedVariables false
namespace Go.Proofs.Ytieffajmdfjokaa
open Go.RowKit

set_option maxHeartbeats 1000000 in
theorem check10 (c : Cli) (w : World) :
    Calls Try.prog 10 #[cliV c] w fun e w' => e = .returned (.int .i64 (errB (rightB c))) ∧ Below w.heap.size w w' := by
  simp only [cliV, cliA]
  go_enter Try.func10, Try.ntmps10
  go_wp2_with (first | (go_at_call 22; refine (nodes22 _ _).mono ?_; rintro e w' ⟨rfl, rfl⟩) | (go_at_call 23; refine (within23 _ _ _ _).mono ?_; rintro e w' ⟨rfl, rfl⟩))
  all_goals go_ret
  all_goals refine ⟨ret_int ?_, (Below.refl _ _).alloc (Nat.le_refl _) _⟩
  all_goals (simp [errB, rightB, headB, tailB, opNoneB, *]; try omega)

set_option maxHeartbeats 1000000 in
theorem right12 (c : Cli) (w : World) :
    Calls Try.prog 12 #[cliV c] w fun e w' => e = .returned (.bool (rightB c)) ∧ Below w.heap.size w w' := by
  simp only [cliV, cliA]
  go_enter Try.func12, Try.ntmps12
  go_wp2_with (first | (go_at_call 24; refine (nodes24 _ _).mono ?_; rintro e w' ⟨rfl, rfl⟩) | (go_at_call 25; refine (within25 _ _ _ _).mono ?_; rintro e w' ⟨rfl, rfl⟩))
  all_goals go_ret
  all_goals refine ⟨ret_bool ?_, (Below.refl _ _).alloc (Nat.le_refl _) _⟩
  all_goals go_tidy
  all_goals (try simp only [Bool.not_eq_true', Bool.not_eq_false'] at *)
  all_goals (simp [rightB, headB, tailB, opNoneB, *]; try omega)
end Go.Proofs.Ytieffajmdfjokaa
