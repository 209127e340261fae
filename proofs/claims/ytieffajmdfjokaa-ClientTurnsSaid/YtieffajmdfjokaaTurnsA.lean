/- ClientTurns: what the rounds gather, as plain Lean. -/
import Derived.Test.YtieffajmdfjokaaOnceA
set_option linter.unusedSimpArgs false
set_option linter.unusedVariables false
namespace Go.Proofs.Ytieffajmdfjokaa
open Go.RowKit

def tgtI (n t : Int) : Nat → Int
  | 0 => t
  | j + 1 => tgtI n t j % n + 1
def cntL (n t : Int) : Nat → List Int
  | 0 => [0, 0, 0, 0, 0, 0, 0, 0]
  | j + 1 => (cntL n t j).set (tgtI n t (j + 1)).toNat ((cntL n t j).getD (tgtI n t (j + 1)).toNat 0 + 1)
abbrev intV (x : Int) : Value := .int .i64 x
def cntV (n t : Int) (j : Nat) : List Value := (cntL n t j).map intV

theorem tgt_in {n t : Int} (hn : nodesB n = true) (h1 : 1 ≤ t) (h2 : t ≤ n) : ∀ j, 1 ≤ tgtI n t j ∧ tgtI n t j ≤ n
  | 0 => ⟨h1, h2⟩
  | _ + 1 => mod_within hn
theorem cnt_length (n t : Int) : ∀ j, (cntL n t j).length = 8
  | 0 => rfl
  | j + 1 => by simp [cntL, cnt_length n t j]
theorem cntV_length (n t : Int) (j : Nat) : (cntV n t j).length = 8 := by simp [cntV, cnt_length]
theorem cnt_bound (n t : Int) : ∀ (j i : Nat), 0 ≤ (cntL n t j).getD i 0 ∧ (cntL n t j).getD i 0 ≤ j
  | 0, i => by
    have : (cntL n t 0).getD i 0 = 0 := by
      simp only [cntL]
      rcases i with _ | _ | _ | _ | _ | _ | _ | _ | i <;> rfl
    rw [this]; simp
  | j + 1, i => by
    have h1 := cnt_bound n t j i
    have h2 := cnt_bound n t j (tgtI n t (j + 1)).toNat
    simp only [cntL]
    rw [List.getD_eq_getElem?_getD, List.getElem?_set]
    rw [List.getD_eq_getElem?_getD] at h1
    split
    · split
      · simp only [Option.getD_some]; omega
      · simp; omega
    · omega
theorem cntV_get {n t : Int} {j i : Nat} (hi : i < 8) : (cntV n t j)[i]? = some (.int .i64 ((cntL n t j).getD i 0)) := by
  have h : i < (cntL n t j).length := by rw [cnt_length]; exact hi
  simp [cntV, List.getD_eq_getElem?_getD, List.getElem?_eq_getElem h]
theorem cntV_set (n t : Int) (j : Nat) : (cntV n t j).set (tgtI n t (j + 1)).toNat (.int .i64 ((cntL n t j).getD (tgtI n t (j + 1)).toNat 0 + 1)) = cntV n t (j + 1) := by
  simp [cntV, cntL, List.map_set]
theorem turns_end {n t : Int} (hn : nodesB n = true) (h1 : 1 ≤ t) (h2 : t ≤ n) : tgtI n t n.toNat = t ∧ ∀ i : Nat, 1 ≤ i → (i : Int) ≤ n → (cntL n t n.toNat).getD i 0 = 1 := by
  have hn' : n = 3 ∨ n = 5 ∨ n = 7 := by simpa [nodesB] using hn
  have key : ∀ a ∈ ([3, 5, 7] : List Nat), ∀ b ∈ List.range 8, 1 ≤ b → b ≤ a → tgtI a b a = b ∧ ∀ i ∈ List.range 8, 1 ≤ i → i ≤ a → (cntL a b a).getD i 0 = 1 := by decide
  obtain ⟨b, rfl⟩ := Int.eq_ofNat_of_zero_le (show 0 ≤ t by omega)
  rcases hn' with rfl | rfl | rfl
  · have := key 3 (by decide) b (List.mem_range.2 (by omega)) (by omega) (by omega)
    exact ⟨this.1, fun i h3 h4 => this.2 i (List.mem_range.2 (by omega)) h3 (by omega)⟩
  · have := key 5 (by decide) b (List.mem_range.2 (by omega)) (by omega) (by omega)
    exact ⟨this.1, fun i h3 h4 => this.2 i (List.mem_range.2 (by omega)) h3 (by omega)⟩
  · have := key 7 (by decide) b (List.mem_range.2 (by omega)) (by omega) (by omega)
    exact ⟨this.1, fun i h3 h4 => this.2 i (List.mem_range.2 (by omega)) h3 (by omega)⟩
theorem right_turns {id nodes seq view target : Int} {op : OpD} (hr : rightB ⟨id, nodes, seq, view, target, true, op⟩ = true) : ∀ j, rightB ⟨id, nodes, seq, view, tgtI nodes target j, true, op⟩ = true
  | 0 => hr
  | j + 1 => right_turned (right_turns hr j)
end Go.Proofs.Ytieffajmdfjokaa
