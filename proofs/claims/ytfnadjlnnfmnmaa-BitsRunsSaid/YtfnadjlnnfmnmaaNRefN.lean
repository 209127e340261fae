/- The walks of the document's is and Run. -/
import Derived.Test.YtfnadjlnnfmnmaaNRefP
import Derived.Test.YtfnadjlnnfmnmaaNRun
set_option linter.unusedSimpArgs false
set_option linter.unusedVariables false
namespace Go.Proofs.Ytfnadjlnnfmnmaa
open Go.RowKit
def isOn (f : Nat → Bool) (n k : Nat) (m : Int) (on : Bool) : Prop := putOk n k m = true ∧ AllOn f k m.toNat on
set_option maxRecDepth 100000 in
set_option maxHeartbeats 1000000 in
theorem is29_out (n : Nat) (hn : n ≤ 4096) (A : Option Addr) (c : Nat) (k : Nat) (m : Int) (on : Bool) (ho : putOk n k m = false) (w : World) : Calls Try.prog 29 #[.slice A n c, .int .i64 k, .int .i64 m, .bool on] w fun e w' => e = .returned (.bool false) ∧ w = w' := by
  go_enter Try.func29, Try.ntmps29
  go_wp2_with (go_at_call 28; refine (places28 n hn _ _ _ _ _).mono ?_; rintro e w' ⟨rfl, rfl⟩; rw [ho])
  go_ret
  exact ⟨rfl, rfl⟩
def IsPost (p : Prop) (w : World) (e : Ending) (w' : World) : Prop := ∃ r : Bool, e = .returned (.bool r) ∧ (r = true ↔ p) ∧ w = w'
set_option maxRecDepth 100000 in
set_option maxHeartbeats 4000000 in
theorem is29_in (f : Nat → Bool) (n : Nat) (hn : n ≤ 4096) (A : Option Addr) (c : Nat) (k m : Nat) (on : Bool) (ho : putOk n k m = true) (w : World) (ha : RowIs w A ((bl f n).flatMap boV)) :
    Calls Try.prog 29 #[.slice A n c, .int .i64 k, .int .i64 m, .bool on] w (IsPost (AllOn f k m on) w) := by
  have HA := Lib.hid ha
  have h1 := ho
  simp only [putOk, decide_eq_true_eq] at h1
  have hkm : k + m ≤ n := by omega
  clear ha h1
  go_enter Try.func29, Try.ntmps29
  go_wp2_with (go_at_call 28; refine (places28 n hn _ _ _ _ _).mono ?_; rintro e w' ⟨rfl, rfl⟩; rw [ho])
  clear ho
  go_loop [9] (fun i => ∃ q : Nat, q ≤ m ∧ i = .int .i64 (k + q : Nat) ∧ AllOn f k q on) (fun i => k + m - (intOf i).toNat)
  case atStart => exact ⟨0, by omega, rfl, fun j hj => by omega⟩
  case round =>
    obtain ⟨q, hq, rfl, hall⟩ := hrel
    have HALL := Lib.hid hall
    clear hall
    by_cases hlt : q < m
    · obtain ⟨bq, off, rfl, hx⟩ := HA.out.elems 1 boV_len (by rw [bl_len]; omega) (by omega)
      replace hx := hx (k + q) _ (bl_get f n (k + q) (by omega))
      have hcell := hx 0 _ rfl
      simp only [Nat.mul_one, Nat.add_zero] at hcell
      clear hx
      have HX2 : RowKit.Hid (k + (q + 1) = k + q + 1) := Lib.hid (by omega)
      have hxn : k + q < n := by omega
      have hxm : k + q < k + m := by omega
      by_cases hf : f (k + q) = on
      · have HN : RowKit.Hid (AllOn f k (q + 1) on) := Lib.hid (fun j hj => by
          by_cases hjq : j = q
          · rw [hjq]; exact hf
          · exact HALL.out j (by omega))
        have hb : (f (k + q) == on) = true := by simp [hf]
        clear hf
        generalize f (k + q) = u at hcell hb
        generalize k + q = x at *
        have e1 : (0 : Int) ≤ (x : Int) := by omega
        have e2 : (x : Int) < (n : Int) := by omega
        have e3 : (x : Int) < (k : Int) + (m : Int) := by omega
        obtain rfl : u = on := by simpa using hb
        clear hb
        go_wp2
        go_round
        case rel => exact ⟨q + 1, by omega, by rw [HX2.out]; go_num, HN.out⟩
        case measure => simp [intOf]; omega
      · have HN : RowKit.Hid (¬ AllOn f k m on) := Lib.hid (fun h => hf (h q hlt))
        have hb : (f (k + q) == on) = false := by simp [hf]
        clear hf
        generalize f (k + q) = u at hcell hb
        generalize k + q = x at *
        have e1 : (0 : Int) ≤ (x : Int) := by omega
        have e2 : (x : Int) < (n : Int) := by omega
        have e3 : (x : Int) < (k : Int) + (m : Int) := by omega
        obtain rfl : u = !on := by cases u <;> cases on <;> simp_all
        clear hb
        cases on
        all_goals
          go_wp2
          go_ret
          exact ⟨false, rfl, ⟨fun h => (by cases h), fun h => absurd h HN.out⟩, rfl⟩
    · have hqm : q = m := by omega
      rw [hqm] at HALL
      have e3 : decide (((k + q : Nat) : Int) < (k : Int) + (m : Int)) = false := by simp; omega
      clear hqm
      go_wp2
      go_ret
      exact ⟨true, rfl, ⟨fun _ => HALL.out, fun _ => rfl⟩, rfl⟩
theorem is29 (f : Nat → Bool) (n : Nat) (hn : n ≤ 4096) (A : Option Addr) (c : Nat) (k : Nat) (m : Int) (on : Bool) (w : World) (ha : RowIs w A ((bl f n).flatMap boV)) :
    Calls Try.prog 29 #[.slice A n c, .int .i64 k, .int .i64 m, .bool on] w (IsPost (isOn f n k m on) w) := by
  cases ho : putOk n k m
  · exact (is29_out n hn A c k m on ho w).mono fun e w' ⟨he, hw⟩ => ⟨false, he, ⟨fun h => (by cases h), fun h => by rw [isOn, ho] at h; cases h.1⟩, hw⟩
  · have h1 := ho
    simp only [putOk, decide_eq_true_eq] at h1
    obtain ⟨mm, rfl⟩ := Int.eq_ofNat_of_zero_le h1.2.1
    exact (is29_in f n hn A c k mm on ho w ha).mono fun e w' ⟨r, he, hr, hw⟩ => ⟨r, he, ⟨fun h => ⟨ho, hr.1 h⟩, fun h => hr.2 h.2⟩, hw⟩
set_option maxRecDepth 100000 in
set_option maxHeartbeats 4000000 in
theorem rrun17 (f : Nat → Bool) (n : Nat) (hn : n ≤ 4096) (A : Option Addr) (c : Nat) (a m : Int) (on : Bool) (w : World) (ha : RowIs w A ((bl f n).flatMap boV)) :
    Calls Try.prog 17 #[.slice A n c, .int .i64 a, .int .i64 m, .bool on] w (RunIPost f n a m on w) := by
  have HA := Lib.hid ha
  clear ha
  by_cases hm : m < 1
  · have d1 : decide (1 ≤ m) = false := by simp; omega
    go_enter Try.func17, Try.ntmps17
    go_wp2
    go_loop [9] (fun i => i = .int .i64 0) (fun _ => 0)
    case atStart => rfl
    case round =>
      obtain rfl := hrel
      by_cases h0 : 0 < n
      all_goals
        go_wp2
        all_goals
          go_ret
          exact ⟨-1, rfl, .inl ⟨hm, rfl⟩, rfl⟩
  · have d1 : (1 : Int) ≤ m := by omega
    go_enter Try.func17, Try.ntmps17
    go_wp2
    go_loop [9] (fun i => ∃ q : Nat, q ≤ n ∧ i = .int .i64 q ∧ ∀ b, a.toNat ≤ b → b < q → b + m.toNat ≤ n → ¬ AllOn f b m.toNat on) (fun i => n - (intOf i).toNat)
    case atStart => exact ⟨0, by omega, rfl, fun b _ _ => by omega⟩
    case round =>
      obtain ⟨i, hi, rfl, hno⟩ := hrel
      have HNO := Lib.hid hno
      clear hno
      by_cases hlt : i < n
      · have e1 : (i : Int) < (n : Int) := by omega
        by_cases hia : a ≤ (i : Int)
        · by_cases hy : isOn f n i m on
          · have HY := Lib.hid hy
            clear hy
            go_wp2_with (go_at_call 29; refine (is29 f n hn A c i m on _ HA.out).mono ?_; rintro e w' ⟨r, rfl, hr, rfl⟩; obtain rfl : r = true := hr.2 HY.out; clear hr)
            go_ret
            refine ⟨i, rfl, .inr ⟨by omega, .inr ⟨i, rfl, by omega, ?_, HY.out.2, fun b hb hbi => HNO.out b hb hbi ?_⟩⟩, rfl⟩
            · have := HY.out.1; simp only [putOk, decide_eq_true_eq] at this; omega
            · have := HY.out.1; simp only [putOk, decide_eq_true_eq] at this; omega
          · have HY := Lib.hid hy
            clear hy
            go_wp2_with (go_at_call 29; refine (is29 f n hn A c i m on _ HA.out).mono ?_; rintro e w' ⟨r, rfl, hr, rfl⟩; obtain rfl : r = false := (by cases r; rfl; exact absurd (hr.1 rfl) HY.out); clear hr)
            go_round
            case rel =>
              refine ⟨i + 1, by omega, by go_num, fun b hb hbi hbn => ?_⟩
              by_cases hbe : b = i
              · rw [hbe] at hbn ⊢
                intro ha
                exact HY.out ⟨by simp only [putOk, decide_eq_true_eq]; omega, ha⟩
              · exact HNO.out b hb (by omega) hbn
            case measure => simp [intOf]; omega
        · have d2 : decide (a ≤ (i : Int)) = false := by simp [hia]
          go_wp2
          go_round
          case rel => exact ⟨i + 1, by omega, by go_num, fun b hb hbi => HNO.out b hb (by omega)⟩
          case measure => simp [intOf]; omega
      · have e1 : decide (i < n) = false := by simp; omega
        go_wp2
        go_ret
        exact ⟨-1, rfl, .inr ⟨by omega, .inl ⟨rfl, fun b hb hbn => HNO.out b hb (by omega) hbn⟩⟩, rfl⟩
end Go.Proofs.Ytfnadjlnnfmnmaa
