/- The walks of get, Get, Len. -/
import Derived.Test.YtfnadjlnnfmnmaaNSpec
import Derived.Test.YtfnadjlnnfmnmaaRows
import Derived.LoopTactic
import Derived.Lib.Hide
set_option linter.unusedSimpArgs false
set_option linter.unusedVariables false
namespace Go.Proofs.Ytfnadjlnnfmnmaa
open Go.RowKit
theorem agg57 : aggB Try.prog 57 2 = true := by kernel_rfl
theorem agg23 : aggB Try.prog 23 4 = true := by kernel_rfl
theorem cell3 : cellB Try.prog 3 = true := by kernel_rfl
theorem cell4 : cellB Try.prog 4 = true := by kernel_rfl
theorem cell5 : cellB Try.prog 5 = true := by kernel_rfl
theorem cell25 : cellB Try.prog 25 = true := by kernel_rfl
theorem cell55 : cellB Try.prog 55 = true := by kernel_rfl
theorem cell58 : cellB Try.prog 58 = true := by kernel_rfl
theorem ret_bool {a b : Bool} (h : a = b) : Ending.returned (.bool a) = .returned (.bool b) := by rw [h]
theorem ret_int {k : IntKind} {a b : Int} (h : a = b) : Ending.returned (.int k a) = .returned (.int k b) := by rw [h]

def wN (n : Nat) : Nat := (n + 63) / 64
/-- In w the map behind bm has n bits, f. -/
structure MapAt (w : World) (bm bw n : Nat) (f : Nat → Bool) : Prop where
  len : w.cell? ⟨bm, 0, none⟩ = some (.int .i64 n)
  row : w.cell? ⟨bm, 1, none⟩ = some (.slice (some ⟨bw, 0, none⟩) (wN n) (wN n))
  word : ∀ k, k < wN n → w.cell? ⟨bw, k, none⟩ = some (.int .u64 (wordOf f k : Nat))

set_option maxRecDepth 100000 in
set_option maxHeartbeats 1000000 in
theorem get27 (bm bw n : Nat) (f : Nat → Bool) (i : Nat) (hi : i < n) (hn : n ≤ 4096) (w : World) (hm : MapAt w bm bw n f) :
    Calls Try.prog 27 #[.pointer (some ⟨bm, 0, none⟩), .int .i64 i] w fun e w' => e = .returned (.bool (f i)) ∧ w = w' := by
  obtain ⟨h0, h1, h2⟩ := hm
  have hq : i / 64 < wN n := by unfold wN; omega
  have hw : wN n ≤ 64 := by unfold wN; omega
  have h3 := h2 _ hq
  have e1 : (0 : Int) ≤ (i : Int) := by omega
  have hb := Lib.hid (get_bit f i)
  clear h2
  go_enter Try.func27, Try.ntmps27
  go_wp2
  go_ret
  exact ⟨ret_bool hb.out, rfl⟩

set_option maxRecDepth 100000 in
set_option maxHeartbeats 1000000 in
theorem get13_nil (i : Int) (w : World) : Calls Try.prog 13 #[.pointer none, .int .i64 i] w fun e w' => e = .returned (.tuple #[.bool false, .int .i64 3]) ∧ w = w' := by
  go_enter Try.func13, Try.ntmps13
  go_wp2
  go_ret2
  exact ⟨rfl, rfl⟩
set_option maxRecDepth 100000 in
set_option maxHeartbeats 1000000 in
theorem get13_out (bm bw n : Nat) (f : Nat → Bool) (i : Int) (hi : i < 0 ∨ (n : Int) ≤ i) (w : World) (hm : MapAt w bm bw n f) :
    Calls Try.prog 13 #[.pointer (some ⟨bm, 0, none⟩), .int .i64 i] w fun e w' => e = .returned (.tuple #[.bool false, .int .i64 30]) ∧ w = w' := by
  obtain ⟨h0, h1, h2⟩ := hm
  clear h1 h2
  rcases hi with hi | hi
  · go_enter Try.func13, Try.ntmps13
    go_wp2
    go_ret2
    exact ⟨rfl, rfl⟩
  · have h3 : ¬ i < 0 := by omega
    go_enter Try.func13, Try.ntmps13
    go_wp2
    go_ret2
    exact ⟨rfl, rfl⟩
set_option maxRecDepth 100000 in
set_option maxHeartbeats 1000000 in
theorem get13_in (bm bw n : Nat) (f : Nat → Bool) (i : Nat) (hi : i < n) (hn : n ≤ 4096) (w : World) (hm : MapAt w bm bw n f) :
    Calls Try.prog 13 #[.pointer (some ⟨bm, 0, none⟩), .int .i64 i] w fun e w' => e = .returned (.tuple #[.bool (f i), .int .i64 0]) ∧ w = w' := by
  have K := Lib.hid (get27 bm bw n f i hi hn w hm)
  obtain ⟨h0, h1, h2⟩ := hm
  clear h1 h2
  have e1 : (0 : Int) ≤ (i : Int) := by omega
  have e2 : (i : Int) < (n : Int) := by omega
  go_enter Try.func13, Try.ntmps13
  go_wp2_with (go_at_call 27; refine K.out.mono ?_; rintro e w' ⟨rfl, rfl⟩)
  go_ret2
  exact ⟨rfl, rfl⟩

set_option maxRecDepth 100000 in
set_option maxHeartbeats 1000000 in
theorem len19 (bm bw n : Nat) (f : Nat → Bool) (w : World) (hm : MapAt w bm bw n f) :
    Calls Try.prog 19 #[.pointer (some ⟨bm, 0, none⟩)] w fun e w' => e = .returned (.int .i64 n) ∧ w = w' := by
  obtain ⟨h0, h1, h2⟩ := hm
  clear h1 h2
  go_enter Try.func19, Try.ntmps19
  go_wp2
  go_ret
  exact ⟨rfl, rfl⟩
set_option maxHeartbeats 1000000 in
theorem len19_nil (w : World) : Calls Try.prog 19 #[.pointer none] w fun e w' => e = .returned (.int .i64 0) ∧ w = w' := by
  go_enter Try.func19, Try.ntmps19
  go_wp2
  go_ret
  exact ⟨rfl, rfl⟩
set_option maxRecDepth 100000 in
set_option maxHeartbeats 1000000 in
theorem put12_nil (a n : Int) (on : Bool) (w : World) : Calls Try.prog 12 #[.pointer none, .int .i64 a, .int .i64 n, .bool on] w fun e w' => e = .returned (.int .i64 3) ∧ w = w' := by
  go_enter Try.func12, Try.ntmps12
  go_wp2
  go_ret
  exact ⟨rfl, rfl⟩
set_option maxRecDepth 100000 in
set_option maxHeartbeats 1000000 in
theorem count20_nil (w : World) : Calls Try.prog 20 #[.pointer none] w fun e w' => e = .returned (.int .i64 0) ∧ w = w' := by
  go_enter Try.func20, Try.ntmps20
  go_wp2
  go_ret
  exact ⟨rfl, rfl⟩
set_option maxRecDepth 100000 in
set_option maxHeartbeats 1000000 in
theorem run16_nil (a n : Int) (on : Bool) (w : World) : Calls Try.prog 16 #[.pointer none, .int .i64 a, .int .i64 n, .bool on] w fun e w' => e = .returned (.int .i64 (-1)) ∧ w = w' := by
  go_enter Try.func16, Try.ntmps16
  go_wp2
  go_ret
  exact ⟨rfl, rfl⟩
set_option maxRecDepth 100000 in
set_option maxHeartbeats 1000000 in
theorem bytes18_nil (w : World) : Calls Try.prog 18 #[.pointer none] w fun e w' => e = .returned (.slice none 0 0) ∧ w = w' := by
  go_enter Try.func18, Try.ntmps18
  go_wp2
  go_ret
  exact ⟨rfl, rfl⟩
end Go.Proofs.Ytfnadjlnnfmnmaa
