/- The walk of the law BuddyChecks. -/
import Derived.Test.YtdbpffgnabpboaaBAll
set_option linter.unusedSimpArgs false
set_option linter.unusedVariables false
namespace Go.Proofs.Ytdbpffgnabpboaa
open Go.RowKit

/-- The ways of the law. -/
def W3 (order want : Int) (l : List Bl) : Prop :=
  (regionB order = false ∧ rightB order l = false ∧ roomB order l want = false) ∨
  (regionB order = true ∧ rightB order l = false ∧ roomB order l want = false) ∨
  (regionB order = true ∧ rightB order l = true ∧ decide (0 ≤ want) = true ∧ decide (want ≤ order) = true ∧ roomB order l want = greatB l want) ∨
  (regionB order = true ∧ rightB order l = true ∧ (decide (0 ≤ want) = false ∨ decide (0 ≤ want) = true ∧ decide (want ≤ order) = false) ∧ roomB order l want = false)
theorem w3 (order want : Int) (l : List Bl) : W3 order want l := by
  unfold W3 roomB
  cases hr : regionB order
  · left
    rw [rightB_reg hr]; simp
  · right
    cases h : rightB order l
    · left; simp
    · right
      cases decide (0 ≤ want) <;> cases decide (want ≤ order) <;> simp
/-- The ways of 'want'. -/
theorem w3w (want : Int) : (decide (0 ≤ want) = false ∧ (want < 0 ∨ 8 < want)) ∨ (decide (0 ≤ want) = true ∧ decide (want ≤ 8) = false ∧ (want < 0 ∨ 8 < want)) ∨ (decide (0 ≤ want) = true ∧ decide (want ≤ 8) = true ∧ 0 ≤ want ∧ want ≤ 8) := by
  by_cases h1 : 0 ≤ want
  · by_cases h2 : want ≤ 8
    · right; right; simp [h1, h2]
    · right; left; exact ⟨by simp [h1], by simp [h2], by omega⟩
  · left; exact ⟨by simp [h1], by omega⟩

theorem same_one (b b' : Nat) (order : Int) (w : World) (h : RowIs w (some ⟨b, 0, none⟩) [.int .i64 0, .int .i64 order]) (h' : RowIs w (some ⟨b', 0, none⟩) [.int .i64 0, .int .i64 order]) :
    Calls Try.prog 12 #[.slice (some ⟨b, 0, none⟩) 1 1, .slice (some ⟨b', 0, none⟩) 1 1] w fun e w' => e = .returned (.bool true) ∧ Below w.heap.size w w' :=
  same12 [⟨0, order⟩] _ _ 1 1 (by simp) w h h'
end Go.Proofs.Ytdbpffgnabpboaa
