/- The walks of within and Need. -/
import Derived.Test.YtinlmcdphhmhjaaKSpec
import Derived.Test.YtinlmcdphhmhjaaBTypes
set_option linter.unusedSimpArgs false
set_option linter.unusedVariables false
namespace Go.Proofs.Ytinlmcdphhmhjaa
open Go.RowKit
def inB (n lo hi : Int) : Bool := decide (lo ≤ n) && decide (n ≤ hi)
theorem within33 (n lo hi : Int) (w : World) : Calls Try.prog 33 #[.int .i64 n, .int .i64 lo, .int .i64 hi] w fun e w' => e = .returned (.bool (inB n lo hi)) ∧ w = w' := by
  go_enter Try.func33, Try.ntmps33
  go_wp2
  all_goals go_ret
  all_goals refine ⟨ret_bool ?_, rfl⟩
  all_goals (simp [inB, *] <;> omega)
theorem need_bad {w l : Int} (h : inB w 0 32 = false ∨ inB l 0 16 = false) : needI w l = -1 := by
  unfold needI inB at *
  rw [if_neg]
  rintro ⟨h1, h2, h3, h4⟩
  simp [h1, h2, h3, h4] at h
theorem need_ok {w l : Int} (h : inB w 0 32 = true) (h' : inB l 0 16 = true) : 0 ≤ w ∧ w ≤ 32 ∧ 0 ≤ l ∧ l ≤ 16 ∧ needI w l = needN (w + l) := by
  simp [inB] at h h'
  refine ⟨h.1, h.2, h'.1, h'.2, ?_⟩
  unfold needI
  rw [if_pos ⟨h.1, h.2, h'.1, h'.2⟩]
set_option maxRecDepth 100000 in
set_option maxHeartbeats 4000000 in
theorem need17 (n m : Int) (w : World) : Calls Try.prog 17 #[.int .i64 n, .int .i64 m] w fun e w' => e = .returned (.int .i64 (needI n m)) ∧ w = w' := by
  have k1 := within33 n 0 32
  have k2 := within33 m 0 16
  cases h1 : inB n 0 32 with
  | false =>
    rw [need_bad (.inl h1)]
    rw [h1] at k1
    have K1 := Lib.hid k1; have K2 := Lib.hid k2
    clear k1 k2 h1
    go_enter Try.func17, Try.ntmps17
    go_wp2_with (go_at_call 33; (first | (with_reducible refine (K1.out _).mono ?_) | (with_reducible refine (K2.out _).mono ?_)); rintro e w' ⟨rfl, rfl⟩)
    go_ret
    exact ⟨rfl, rfl⟩
  | true =>
    cases h2 : inB m 0 16 with
    | false =>
      rw [need_bad (.inr h2)]
      rw [h1] at k1; rw [h2] at k2
      have K1 := Lib.hid k1; have K2 := Lib.hid k2
      clear k1 k2 h1 h2
      go_enter Try.func17, Try.ntmps17
      go_wp2_with (go_at_call 33; (first | (with_reducible refine (K1.out _).mono ?_) | (with_reducible refine (K2.out _).mono ?_)); rintro e w' ⟨rfl, rfl⟩)
      go_ret
      exact ⟨rfl, rfl⟩
    | true =>
      obtain ⟨n0, n1, m0, m1, he⟩ := need_ok h1 h2
      rw [he]
      rw [h1] at k1; rw [h2] at k2
      have K1 := Lib.hid k1; have K2 := Lib.hid k2
      have e1 : wrap64 (n + m) = n + m := IntWalk.wrap64_in _ ⟨by omega, by omega⟩
      clear k1 k2 h1 h2 he
      go_enter Try.func17, Try.ntmps17
      go_wp2_with (go_at_call 33; (first | (with_reducible refine (K1.out _).mono ?_) | (with_reducible refine (K2.out _).mono ?_)); rintro e w' ⟨rfl, rfl⟩)
      go_loop [5] (fun i => ∃ k : Int, 0 ≤ k ∧ k ≤ 6 ∧ i = .int .i64 k ∧ RowKit.Hid (k = 0 ∨ pw (k - 1) ≤ n + m)) (fun i => (6 - intOf i).toNat)
      case atStart => exact ⟨0, by omega, by omega, rfl, Lib.hid (.inl rfl)⟩
      case round =>
        obtain ⟨k, h0, h6, rfl, HL⟩ := hrel
        by_cases hlt : pw k ≤ n + m
        · have hk : k < 6 := by
            by_cases h : k = 6
            · subst h; rw [show pw 6 = 64 by decide] at hlt; omega
            · omega
          have e2 : decide (pw k ≤ n + m) = true := decide_eq_true hlt
          have e3 : wrap64 (k + 1) = k + 1 := IntWalk.wrap64_in _ ⟨by omega, by omega⟩
          have HLT := Lib.hid hlt
          clear hlt
          go_wp2_with (go_at_call 30; (with_reducible refine (words30 _ (by omega) (by omega) _).mono ?_); rintro e w' ⟨rfl, rfl⟩)
          go_round
          case rel => exact ⟨k + 1, by omega, by omega, rfl, Lib.hid (.inr (by rw [Int.add_sub_cancel]; exact HLT.out))⟩
          case measure => simp [intOf]; omega
        · have e2 : decide (pw k ≤ n + m) = false := decide_eq_false hlt
          have HLT := Lib.hid hlt
          clear hlt
          go_wp2_with (go_at_call 30; (with_reducible refine (words30 _ (by omega) (by omega) _).mono ?_); rintro e w' ⟨rfl, rfl⟩)
          go_ret
          exact ⟨ret_int (needN_is h0 h6 (by omega) HL.out (by have := HLT.out; omega)).symm, rfl⟩
set_option maxRecDepth 100000 in
set_option maxHeartbeats 4000000 in
theorem need18 (n m : Int) (w : World) : Calls Try.prog 18 #[.int .i64 n, .int .i64 m] w fun e w' => e = .returned (.int .i64 (needI n m)) ∧ w = w' := by
  by_cases hb : 0 ≤ n ∧ n ≤ 32 ∧ 0 ≤ m ∧ m ≤ 16
  · have he : needI n m = needN (n + m) := by unfold needI; rw [if_pos hb]
    rw [he]
    obtain ⟨n0, n1, m0, m1⟩ := hb
    have e0 : wrap64 (1 + n) = 1 + n := IntWalk.wrap64_in _ ⟨by omega, by omega⟩
    have e1 : wrap64 (1 + n + m) = 1 + n + m := IntWalk.wrap64_in _ ⟨by omega, by omega⟩
    clear he
    go_enter Try.func18, Try.ntmps18
    go_wp2
    go_loop [5] (fun i => ∃ k : Int, 0 ≤ k ∧ k ≤ 6 ∧ i = .int .i64 k ∧ RowKit.Hid (k = 0 ∨ pw (k - 1) ≤ n + m)) (fun i => (6 - intOf i).toNat)
    case atStart => exact ⟨0, by omega, by omega, rfl, Lib.hid (.inl rfl)⟩
    case round =>
      obtain ⟨k, h0, h6, rfl, HL⟩ := hrel
      by_cases hlt : pw k < 1 + n + m
      · have hk : k < 6 := by
          by_cases h : k = 6
          · subst h; rw [show pw 6 = 64 by decide] at hlt; omega
          · omega
        have e2 : decide (pw k < 1 + n + m) = true := decide_eq_true hlt
        have e3 : wrap64 (k + 1) = k + 1 := IntWalk.wrap64_in _ ⟨by omega, by omega⟩
        have HLT := Lib.hid hlt
        clear hlt
        go_wp2_with (go_at_call 47; (with_reducible refine (size47 _ (by omega) _).mono ?_); rintro e w' ⟨rfl, rfl⟩)
        go_round
        case rel => exact ⟨k + 1, by omega, by omega, rfl, Lib.hid (.inr (by rw [Int.add_sub_cancel]; have := HLT.out; omega))⟩
        case measure => simp [intOf]; omega
      · have e2 : decide (pw k < 1 + n + m) = false := decide_eq_false hlt
        have HLT := Lib.hid hlt
        clear hlt
        go_wp2_with (go_at_call 47; (with_reducible refine (size47 _ (by omega) _).mono ?_); rintro e w' ⟨rfl, rfl⟩)
        go_ret
        exact ⟨ret_int (needN_is h0 h6 (by omega) HL.out (by have := HLT.out; omega)).symm, rfl⟩
  · have he : needI n m = -1 := by unfold needI; rw [if_neg hb]
    rw [he]
    have hw : n < 0 ∨ (¬ n < 0 ∧ 32 < n) ∨ (¬ n < 0 ∧ ¬ 32 < n ∧ m < 0) ∨ (¬ n < 0 ∧ ¬ 32 < n ∧ ¬ m < 0 ∧ 16 < m) := by omega
    clear he hb
    rcases hw with h1 | ⟨h1, h2⟩ | ⟨h1, h2, h3⟩ | ⟨h1, h2, h3, h4⟩
    all_goals
      go_enter Try.func18, Try.ntmps18
      go_wp2
      go_ret
      exact ⟨rfl, rfl⟩
end Go.Proofs.Ytinlmcdphhmhjaa
