import Derived.Test.YtjcbpfbifbfkcaaGreatOaDV
import Derived.Test.YtjcbpfbifbfkcaaGreatOaQC
import Derived.Test.YtjcbpfbifbfkcaaGreatOaQB
/- What an entry makes of a state: the plain law. No program in sight. -/
set_option linter.unusedSimpArgs false
set_option linter.unusedVariables false
namespace Go.Proofs.YtjcbpfbifbfkcaaGreat
def rowOk (last : Int) (x : Rw) : Bool := decide (last < x.c ∧ x.c ≤ 4 ∧ 1 ≤ x.s ∧ x.s ≤ 1000000 ∧ 0 ≤ x.e ∧ x.e ≤ 65535)
def rowsOk : Int → List Rw → Bool
  | _, [] => true
  | last, x :: r => rowOk last x && rowsOk x.c r
noncomputable def stB (x : Sv) : Bool := hrightB x.hv && rowsOk 0 x.rs
theorem rowsOk_cons {last : Int} {x : Rw} {r : List Rw} : rowsOk last (x :: r) = true ↔ rowOk last x = true ∧ rowsOk x.c r = true := by simp [rowsOk]
theorem rowOk_iff {last : Int} {x : Rw} : rowOk last x = true ↔ last < x.c ∧ x.c ≤ 4 ∧ 1 ≤ x.s ∧ x.s ≤ 1000000 ∧ 0 ≤ x.e ∧ x.e ≤ 65535 := by simp [rowOk]
theorem rowsOk_mem : ∀ {l : List Rw} {last : Int}, rowsOk last l = true → ∀ x ∈ l, rowOk last x = true
  | [], _, _, x, hx => by cases hx
  | y :: r, last, h, x, hx => by
    obtain ⟨h1, h2⟩ := rowsOk_cons.1 h
    rcases List.mem_cons.1 hx with rfl | hx
    · exact h1
    · have h3 := rowOk_iff.1 h1
      have h4 := rowOk_iff.1 (rowsOk_mem h2 x hx)
      exact rowOk_iff.2 ⟨by omega, h4.2⟩
theorem rowsOk_len : ∀ {l : List Rw} {last : Int}, rowsOk last l = true → last ≤ 4 → (l.length : Int) ≤ 4 - last
  | [], _, _, h => by simp; omega
  | y :: r, last, h, _ => by
    obtain ⟨h1, h2⟩ := rowsOk_cons.1 h
    have h3 := rowOk_iff.1 h1
    have := rowsOk_len h2 h3.2.1
    simp only [List.length_cons]; omega
structure StR (x : Sv) : Prop where
  hv : HRight x.hv
  rows : rowsOk 0 x.rs = true
theorem st_of {x : Sv} (h : stB x = true) : StR x := by
  unfold stB at h
  rw [Bool.and_eq_true] at h
  exact ⟨hright_of h.1, h.2⟩
theorem st_yes {x : Sv} (h : StR x) : stB x = true := by unfold stB; rw [hright_yes h.hv, h.rows]; rfl
theorem StR.small {x : Sv} (h : StR x) : x.Small := ⟨h.hv.small, by have := rowsOk_len h.rows (by decide); omega⟩
theorem stB_sm {x y : Sv} (h : x.Sm y) : stB x = stB y := by unfold stB; rw [hright_sm h.1, h.2]
end Go.Proofs.YtjcbpfbifbfkcaaGreat
