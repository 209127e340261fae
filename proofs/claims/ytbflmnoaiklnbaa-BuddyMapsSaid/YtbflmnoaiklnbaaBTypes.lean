/- The types of the buddy statements; the small walks on numbers. -/
import Derived.Test.YtbflmnoaiklnbaaBSpec
import Derived.LoopTactic
import Derived.Lib.Hide
import Derived.Test.YtbflmnoaiklnbaaRows
set_option linter.unusedSimpArgs false
set_option linter.unusedVariables false
namespace Go.Proofs.Ytbflmnoaiklnbaa
open Go.RowKit
theorem agg44 : aggB Try.prog 44 2 = true := by kernel_rfl
theorem cell3 : cellB Try.prog 3 = true := by kernel_rfl
theorem cell4 : cellB Try.prog 4 = true := by kernel_rfl
theorem cell30 : cellB Try.prog 30 = true := by kernel_rfl
theorem zero44 : zeroL Try.prog 44 = some ([.int .i64 0, .int .i64 0], 2) := by kernel_rfl
theorem info44 : (Try.prog.info? 44).map (fun i => (i.zero, i.size, i.bytes)) = some (some (.agg #[.int .i64 0, .int .i64 0]), 2, 16) := by kernel_rfl
theorem ret_bool {a b : Bool} (h : a = b) : Ending.returned (.bool a) = .returned (.bool b) := by rw [h]
theorem ret_int {k : IntKind} {a b : Int} (h : a = b) : Ending.returned (.int k a) = .returned (.int k b) := by rw [h]

theorem pw0 : pw 0 = 1 := by decide
theorem pw1 : pw 1 = 2 := by decide
theorem pw2 : pw 2 = 4 := by decide
theorem pw3 : pw 3 = 8 := by decide
theorem pw4 : pw 4 = 16 := by decide
theorem pw5 : pw 5 = 32 := by decide
theorem pw6 : pw 6 = 64 := by decide
theorem pw7 : pw 7 = 128 := by decide
theorem pw8 : pw 8 = 256 := by decide

set_option maxHeartbeats 400000 in
theorem region52 (o : Int) (w : World) : Calls Try.prog 52 #[.int .i64 o] w fun e w' => e = .returned (.bool (regionB o)) ∧ w = w' := by
  go_enter Try.func52, Try.ntmps52
  go_wp2
  all_goals go_ret
  all_goals refine ⟨ret_bool ?_, rfl⟩
  all_goals simp [regionB]
  all_goals omega
set_option maxHeartbeats 400000 in
theorem region132 (o : Int) (w : World) : Calls Try.prog 132 #[.int .i64 o] w fun e w' => e = .returned (.bool (regionB o)) ∧ w = w' := by
  go_enter Try.func132, Try.ntmps132
  go_wp2
  all_goals go_ret
  all_goals refine ⟨ret_bool ?_, rfl⟩
  all_goals simp [regionB]
  all_goals omega

set_option maxHeartbeats 1000000 in
theorem words22 (o : Int) (h0 : 0 ≤ o) (h8 : o ≤ 8) (w : World) : Calls Try.prog 22 #[.int .i64 o] w fun e w' => e = .returned (.int .i64 (pw o)) ∧ w = w' := by
  rcases pw_cases h0 h8 with rfl | rfl | rfl | rfl | rfl | rfl | rfl | rfl | rfl
  all_goals
    clear h0 h8
    go_enter Try.func22, Try.ntmps22
    go_wp2
    go_ret
    exact ⟨ret_int (by decide), rfl⟩
set_option maxHeartbeats 1000000 in
theorem words22_no (o : Int) (h : o < 0 ∨ 8 < o) (w : World) : Calls Try.prog 22 #[.int .i64 o] w fun e w' => e = .returned (.int .i64 0) ∧ w = w' := by
  rcases h with h | h
  · go_enter Try.func22, Try.ntmps22
    go_wp2
    go_ret
    exact ⟨rfl, rfl⟩
  · have h' : ¬ o < 0 := by omega
    go_enter Try.func22, Try.ntmps22
    go_wp2
    go_ret
    exact ⟨rfl, rfl⟩
set_option maxHeartbeats 1000000 in
theorem size62 (o : Int) (h8 : o ≤ 8) (w : World) : Calls Try.prog 62 #[.int .i64 o] w fun e w' => e = .returned (.int .i64 (pw o)) ∧ w = w' := by
  go_enter Try.func62, Try.ntmps62
  go_wp2
  go_loop [3, 4] (fun n i => ∃ k : Int, 0 ≤ k ∧ (k ≤ o ∨ k = 0) ∧ i = .int .i64 k ∧ n = .int .i64 (pw k)) (fun _ i => (o - intOf i).toNat)
  case atStart => exact ⟨0, by omega, by omega, rfl, rfl⟩
  case round =>
    obtain ⟨k, h0, hk, rfl, rfl⟩ := hrel
    have h1 := pw_pos k
    have h2 := pw_le (o := k) (by omega)
    by_cases hlt : k < o
    · have hs := Lib.hid (pw_succ h0)
      go_wp2
      go_round
      case rel => exact ⟨k + 1, by omega, by omega, rfl, by rw [hs.out]⟩
      case measure => simp [intOf]; omega
    · have he := Lib.hid (show pw k = pw o by
        rcases hk with hk | hk
        · rw [show k = o by omega]
        · subst hk; rw [pw_low (show o ≤ 0 by omega)]; decide)
      go_wp2
      go_ret
      exact ⟨ret_int he.out, rfl⟩
end Go.Proofs.Ytbflmnoaiklnbaa
