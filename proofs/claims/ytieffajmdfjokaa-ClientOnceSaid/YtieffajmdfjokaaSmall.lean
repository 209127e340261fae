/- The small walks of the client's statements: Nodes, within, View: each computes a Bool of numbers. -/
import Derived.Test.YtieffajmdfjokaaRows
import Derived.WalkKit
import Derived.WalkSpells
import Derived.WalkLawsBesides
set_option linter.unusedSimpArgs false
set_option linter.unusedVariables false
namespace Go.Proofs.Ytieffajmdfjokaa
open Go.RowKit

def nodesB (n : Int) : Bool := decide (n = 3 ∨ n = 5 ∨ n = 7)
def withinB (n low high : Int) : Bool := decide (low ≤ n ∧ n ≤ high)

theorem nodes_tmod (n : Int) (h1 : 3 ≤ n) (h2 : n ≤ 7) : (n.tmod 2 == 1) = nodesB n := by
  have : n = 3 ∨ n = 4 ∨ n = 5 ∨ n = 6 ∨ n = 7 := by omega
  rcases this with h | h | h | h | h <;> subst h <;> decide

set_option maxHeartbeats 400000 in
theorem within23 (n low high : Int) (w : World) :
    Calls Try.prog 23 #[.int .i64 n, .int .i64 low, .int .i64 high] w fun e w' => e = .returned (.bool (withinB n low high)) ∧ w = w' := by
  go_enter Try.func23, Try.ntmps23
  go_wp2
  all_goals go_ret
  all_goals refine ⟨?_, rfl⟩
  all_goals simp [withinB]
  all_goals omega

set_option maxHeartbeats 400000 in
theorem within25 (n low high : Int) (w : World) :
    Calls Try.prog 25 #[.int .i64 n, .int .i64 low, .int .i64 high] w fun e w' => e = .returned (.bool (withinB n low high)) ∧ w = w' := by
  go_enter Try.func25, Try.ntmps25
  go_wp2
  all_goals go_ret
  all_goals refine ⟨?_, rfl⟩
  all_goals simp [withinB]
  all_goals omega

theorem ret_bool {a b : Bool} (h : a = b) : Ending.returned (.bool a) = .returned (.bool b) := by rw [h]
theorem ret_int {k : IntKind} {a b : Int} (h : a = b) : Ending.returned (.int k a) = .returned (.int k b) := by rw [h]

theorem nodes_not (n : Int) (h : ¬ n.tmod 2 = 1) : nodesB n = false := by
  unfold nodesB
  have : n ≠ 3 ∧ n ≠ 5 ∧ n ≠ 7 := ⟨by rintro rfl; exact h (by decide), by rintro rfl; exact h (by decide), by rintro rfl; exact h (by decide)⟩
  simp; omega

set_option maxHeartbeats 400000 in
theorem nodes22 (n : Int) (w : World) :
    Calls Try.prog 22 #[.int .i64 n] w fun e w' => e = .returned (.bool (nodesB n)) ∧ w = w' := by
  go_enter Try.func22, Try.ntmps22
  go_wp2
  all_goals go_ret
  · refine ⟨ret_bool ?_, rfl⟩
    have h1 : n.tmod 2 = 1 := by assumption
    by_cases h : n ≤ 7
    · have := nodes_tmod n (by assumption) h
      simp [h1, h] at this ⊢; exact this
    · simp [h, nodesB]; omega
  · refine ⟨ret_bool ?_, rfl⟩
    simp [nodesB]; omega
  · refine ⟨ret_bool ?_, rfl⟩
    exact (nodes_not n (by assumption)).symm

set_option maxHeartbeats 400000 in
theorem nodes24 (n : Int) (w : World) :
    Calls Try.prog 24 #[.int .i64 n] w fun e w' => e = .returned (.bool (nodesB n)) ∧ w = w' := by
  go_enter Try.func24, Try.ntmps24
  go_wp2
  all_goals go_ret
  all_goals refine ⟨ret_bool ?_, rfl⟩
  all_goals first | (subst_vars; rfl) | (unfold nodesB; rw [Bool.eq_iff_iff]; simp; omega)

set_option maxHeartbeats 400000 in
theorem view31 (n : Int) (w : World) :
    Calls Try.prog 31 #[.int .i64 n] w fun e w' => e = .returned (.bool (withinB n 0 900000000)) ∧ w = w' := by
  go_enter Try.func31, Try.ntmps31
  go_wp2
  all_goals go_ret
  all_goals refine ⟨ret_bool ?_, rfl⟩
  all_goals simp [withinB]
  all_goals omega

set_option maxHeartbeats 400000 in
theorem view32 (n : Int) (w : World) :
    Calls Try.prog 32 #[.int .i64 n] w fun e w' => e = .returned (.bool (withinB n 0 900000000)) ∧ w = w' := by
  go_enter Try.func32, Try.ntmps32
  go_wp2
  all_goals go_ret
  all_goals refine ⟨ret_bool ?_, rfl⟩
  all_goals simp [withinB]
  all_goals omega

def primI (n v : Int) : Int := if nodesB n && withinB v 0 900000000 then v % n + 1 else 0

theorem nodes_pos {n : Int} (h : nodesB n = true) : 3 ≤ n ∧ n ≤ 7 := by
  simp [nodesB] at h; omega

set_option maxHeartbeats 400000 in
theorem prim21 (n v : Int) (w : World) :
    Calls Try.prog 21 #[.int .i64 n, .int .i64 v] w fun e w' => e = .returned (.int .i64 (primI n v)) ∧ w = w' := by
  cases hn : nodesB n
  · go_enter Try.func21, Try.ntmps21
    go_wp2_with (first | (go_at_call 22; refine (nodes22 _ _).mono ?_; rintro e w' ⟨rfl, rfl⟩) | (go_at_call 31; refine (view31 _ _).mono ?_; rintro e w' ⟨rfl, rfl⟩))
    go_ret
    refine ⟨ret_int ?_, rfl⟩
    simp [primI, hn]
  · obtain ⟨h1, h2⟩ := nodes_pos hn
    cases hv : withinB v 0 900000000
    · go_enter Try.func21, Try.ntmps21
      go_wp2_with (first | (go_at_call 22; refine (nodes22 _ _).mono ?_; rintro e w' ⟨rfl, rfl⟩) | (go_at_call 31; refine (view31 _ _).mono ?_; rintro e w' ⟨rfl, rfl⟩))
      go_ret
      refine ⟨ret_int ?_, rfl⟩
      simp [primI, hn, hv]
    · have hb : 0 ≤ v ∧ v ≤ 900000000 := by simpa [withinB] using hv
      obtain ⟨hb1, hb2⟩ := hb
      have hm1 : 0 ≤ v % n := Int.emod_nonneg _ (by omega)
      have hm2 : v % n < n := Int.emod_lt_of_pos _ (by omega)
      go_enter Try.func21, Try.ntmps21
      go_wp2_with (first | (go_at_call 22; refine (nodes22 _ _).mono ?_; rintro e w' ⟨rfl, rfl⟩) | (go_at_call 31; refine (view31 _ _).mono ?_; rintro e w' ⟨rfl, rfl⟩))
      go_ret
      refine ⟨ret_int ?_, rfl⟩
      simp [primI, hn, hv]; try omega

set_option maxHeartbeats 400000 in
theorem prim30 (n v : Int) (w : World) :
    Calls Try.prog 30 #[.int .i64 n, .int .i64 v] w fun e w' => e = .returned (.int .i64 (primI n v)) ∧ w = w' := by
  cases hn : nodesB n
  · go_enter Try.func30, Try.ntmps30
    go_wp2_with (first | (go_at_call 24; refine (nodes24 _ _).mono ?_; rintro e w' ⟨rfl, rfl⟩) | (go_at_call 32; refine (view32 _ _).mono ?_; rintro e w' ⟨rfl, rfl⟩))
    go_ret
    refine ⟨ret_int ?_, rfl⟩
    simp [primI, hn]
  · obtain ⟨h1, h2⟩ := nodes_pos hn
    cases hv : withinB v 0 900000000
    · go_enter Try.func30, Try.ntmps30
      go_wp2_with (first | (go_at_call 24; refine (nodes24 _ _).mono ?_; rintro e w' ⟨rfl, rfl⟩) | (go_at_call 32; refine (view32 _ _).mono ?_; rintro e w' ⟨rfl, rfl⟩))
      go_ret
      refine ⟨ret_int ?_, rfl⟩
      simp [primI, hn, hv]
    · have hb : 0 ≤ v ∧ v ≤ 900000000 := by simpa [withinB] using hv
      obtain ⟨hb1, hb2⟩ := hb
      have hm1 : 0 ≤ v % n := Int.emod_nonneg _ (by omega)
      have hm2 : v % n < n := Int.emod_lt_of_pos _ (by omega)
      go_enter Try.func30, Try.ntmps30
      go_wp2_with (first | (go_at_call 24; refine (nodes24 _ _).mono ?_; rintro e w' ⟨rfl, rfl⟩) | (go_at_call 32; refine (view32 _ _).mono ?_; rintro e w' ⟨rfl, rfl⟩))
      go_ret
      refine ⟨ret_int ?_, rfl⟩
      simp [primI, hn, hv]; try omega

end Go.Proofs.Ytieffajmdfjokaa
