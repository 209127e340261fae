/- The walk of the reference's Best. -/
import Derived.Test.YtbflmnoaiklnbaaBRoom
set_option linter.unusedSimpArgs false
set_option linter.unusedVariables false
namespace Go.Proofs.Ytbflmnoaiklnbaa
open Go.RowKit

/-- The best place among the first n blocks. -/
def BestAt (l : List Bl) (want : Int) (n : Nat) (i : Int) : Prop :=
  (i = -1 ∧ ∀ (k : Nat) x, k < n → l[k]? = some x → ¬ want ≤ x.o) ∨
  ∃ (k : Nat) (z : Bl), i = (k : Int) ∧ k < n ∧ l[k]? = some z ∧ want ≤ z.o ∧ ∀ (k' : Nat) x, k' < n → l[k']? = some x → want ≤ x.o → z.o ≤ x.o ∧ (x.o = z.o → k ≤ k')
theorem BestAt.great {l : List Bl} {want i : Int} (h : BestAt l want l.length i) : decide (0 ≤ i) = greatB l want := by
  rcases h with ⟨rfl, h⟩ | ⟨k, z, rfl, hk, hz, hw, h⟩
  · have : greatB l want = false := by
      unfold greatB
      rw [List.any_eq_false]
      intro x hx
      obtain ⟨k, hk, rfl⟩ := List.getElem_of_mem hx
      have := h k _ hk (List.getElem?_eq_getElem hk)
      simpa using this
    rw [this]; decide
  · rw [great_yes hz hw]; simp
def BestPost (w : World) (l : List Bl) (want : Int) (e : Ending) (w' : World) : Prop := ∃ i : Int, e = .returned (.int .i64 i) ∧ BestAt l want l.length i ∧ Below w.heap.size w w'

theorem best_ways1 {l : List Bl} {want : Int} {j : Nat} {p o : Int} (hj : l[j]? = some ⟨p, o⟩) (h : ∀ (k : Nat) x, k < j → l[k]? = some x → ¬ want ≤ x.o) :
    (decide (want ≤ o) = false ∧ BestAt l want (j + 1) (-1)) ∨ (decide (want ≤ o) = true ∧ BestAt l want (j + 1) j) := by
  by_cases hw : want ≤ o
  · right
    refine ⟨by simp [hw], .inr ⟨j, _, rfl, by omega, hj, hw, fun k' x hk hx hwx => ?_⟩⟩
    by_cases hkj : k' = j
    · subst hkj; rw [hj] at hx; cases hx; simp
    · exact absurd hwx (h k' x (by omega) hx)
  · left
    refine ⟨by simp [hw], .inl ⟨rfl, fun k' x hk hx => ?_⟩⟩
    by_cases hkj : k' = j
    · subst hkj; rw [hj] at hx; cases hx; exact hw
    · exact h k' x (by omega) hx
theorem best_ways2 {l : List Bl} {want : Int} {j k : Nat} {p o q r : Int} (hj : l[j]? = some ⟨p, o⟩) (hk : k < j) (hz : l[k]? = some ⟨q, r⟩) (hwz : want ≤ r) (h : ∀ (k' : Nat) x, k' < j → l[k']? = some x → want ≤ x.o → r ≤ x.o ∧ (x.o = r → k ≤ k')) :
    (decide (want ≤ o) = false ∧ BestAt l want (j + 1) k) ∨ (decide (want ≤ o) = true ∧ decide (o < r) = true ∧ BestAt l want (j + 1) j) ∨ (decide (want ≤ o) = true ∧ decide (o < r) = false ∧ BestAt l want (j + 1) k) := by
  by_cases hw : want ≤ o
  · right
    by_cases hr : o < r
    · left
      refine ⟨by simp [hw], by simp [hr], .inr ⟨j, _, rfl, by omega, hj, hw, fun k' x hk' hx hwx => ?_⟩⟩
      by_cases hkj : k' = j
      · subst hkj; rw [hj] at hx; cases hx; simp
      · have := h k' x (by omega) hx hwx
        simp only
        omega
    · right
      refine ⟨by simp [hw], by simp; omega, .inr ⟨k, _, rfl, by omega, hz, hwz, fun k' x hk' hx hwx => ?_⟩⟩
      by_cases hkj : k' = j
      · subst hkj; rw [hj] at hx; cases hx; simp only; omega
      · exact h k' x (by omega) hx hwx
  · left
    refine ⟨by simp [hw], .inr ⟨k, _, rfl, by omega, hz, hwz, fun k' x hk' hx hwx => ?_⟩⟩
    by_cases hkj : k' = j
    · subst hkj; rw [hj] at hx; cases hx; exact absurd hwx hw
    · exact h k' x (by omega) hx hwx

end Go.Proofs.Ytbflmnoaiklnbaa
