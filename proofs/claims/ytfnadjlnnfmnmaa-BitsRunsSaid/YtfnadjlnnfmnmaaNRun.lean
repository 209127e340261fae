/- The walk of Run. -/
import Derived.Test.YtfnadjlnnfmnmaaNPut
set_option linter.unusedSimpArgs false
set_option linter.unusedVariables false
namespace Go.Proofs.Ytfnadjlnnfmnmaa
open Go.RowKit

/-- From b on m bits are so. -/
def AllOn (f : Nat → Bool) (b m : Nat) (on : Bool) : Prop := ∀ j, j < m → f (b + j) = on
/-- The first run from s on. -/
def RunIs (f : Nat → Bool) (N s m : Nat) (on : Bool) (r : Int) : Prop :=
  (r = -1 ∧ ∀ b, s ≤ b → b + m ≤ N → ¬ AllOn f b m on) ∨ ∃ b : Nat, r = b ∧ s ≤ b ∧ b + m ≤ N ∧ AllOn f b m on ∧ ∀ b', s ≤ b' → b' < b → ¬ AllOn f b' m on
theorem RunIs.eq {f : Nat → Bool} {N s m : Nat} {on : Bool} {r r' : Int} (h : RunIs f N s m on r) (h' : RunIs f N s m on r') : r = r' := by
  rcases h with ⟨rfl, h⟩ | ⟨b, rfl, hb, hN, ha, h⟩
  · rcases h' with ⟨rfl, _⟩ | ⟨b, rfl, hb, hN, ha, _⟩
    · rfl
    · exact absurd ha (h b hb hN)
  · rcases h' with ⟨rfl, h'⟩ | ⟨b', rfl, hb', hN', ha', h'⟩
    · exact absurd ha (h' b hb hN)
    · rcases Nat.lt_trichotomy b b' with hl | hl | hl
      · exact absurd ha (h' b hb hl)
      · rw [hl]
      · exact absurd ha' (h b' hb' hl)
/-- Where Run stands: it looks at i, the run has begun at b. -/
structure RunAt (f : Nat → Bool) (s m : Nat) (on : Bool) (b i : Nat) : Prop where
  sb : s ≤ b
  bi : b ≤ i
  lt : i < b + m
  on_ : ∀ j, b ≤ j → j < i → f j = on
  no : ∀ b', s ≤ b' → b' < b → ¬ AllOn f b' m on
theorem RunAt.start (f : Nat → Bool) (s m : Nat) (on : Bool) (hm : 0 < m) : RunAt f s m on s s := ⟨Nat.le_refl _, Nat.le_refl _, by omega, fun j _ _ => by omega, fun b' _ _ => by omega⟩
theorem RunAt.off {f : Nat → Bool} {s m : Nat} {on : Bool} {b i : Nat} (h : RunAt f s m on b i) (hm : 0 < m) (hf : f i ≠ on) : RunAt f s m on (i + 1) (i + 1) := by
  have h1 := h.sb
  have h2 := h.bi
  have h3 := h.lt
  refine ⟨by omega, Nat.le_refl _, by omega, fun j _ _ => by omega, fun b' hs hb ha => ?_⟩
  by_cases hbb : b' < b
  · exact h.no b' hs hbb ha
  · have := ha (i - b') (by omega)
    rw [show b' + (i - b') = i by omega] at this
    exact hf this
theorem RunAt.next {f : Nat → Bool} {s m : Nat} {on : Bool} {b i : Nat} (h : RunAt f s m on b i) (hf : f i = on) (hne : i + 1 ≠ b + m) : RunAt f s m on b (i + 1) := by
  have h2 := h.bi
  have h3 := h.lt
  refine ⟨h.sb, by omega, by omega, fun j hj hji => ?_, h.no⟩
  by_cases hj2 : j = i
  · rw [hj2]; exact hf
  · exact h.on_ j hj (by omega)
theorem RunAt.found {f : Nat → Bool} {N s m : Nat} {on : Bool} {b i : Nat} (h : RunAt f s m on b i) (hf : f i = on) (he : i + 1 = b + m) (hN : i < N) : RunIs f N s m on b := by
  refine .inr ⟨b, rfl, h.sb, by omega, fun j hj => ?_, h.no⟩
  by_cases hj2 : b + j = i
  · rw [hj2]; exact hf
  · exact h.on_ _ (by omega) (by omega)
theorem RunAt.end_ {f : Nat → Bool} {N s m : Nat} {on : Bool} {b i : Nat} (h : RunAt f s m on b i) (hN : N ≤ i) : RunIs f N s m on (-1) := by
  refine .inl ⟨rfl, fun b' hs hb ha => ?_⟩
  have h3 := h.lt
  exact h.no b' hs (by omega) ha

def RunPost (f : Nat → Bool) (N s m : Nat) (on : Bool) (w : World) (e : Ending) (w' : World) : Prop := ∃ r : Int, e = .returned (.int .i64 r) ∧ RunIs f N s m on r ∧ w = w'
set_option maxRecDepth 100000 in
set_option maxHeartbeats 4000000 in
theorem run16_on (bm bw n : Nat) (f : Nat → Bool) (hn : n ≤ 4096) (s : Nat) (m : Nat) (hm0 : 0 < m) (hm63 : m ≤ 9223372036854775807) (a : Int) (has : (a < 0 ∧ s = 0) ∨ (0 ≤ a ∧ a = s)) (w : World) (hm : MapAt w bm bw n f) :
    Calls Try.prog 16 #[.pointer (some ⟨bm, 0, none⟩), .int .i64 a, .int .i64 m, .bool true] w (RunPost f n s m true w) := by
  have HM := Lib.hid hm
  have h0 := hm.len
  clear hm
  have d1 : decide ((m : Int) < 1) = false := by simp; omega
  have HS := Lib.hid has
  clear has
  go_enter Try.func16, Try.ntmps16
  go_wp2
  all_goals
    go_loop [9, 10] (fun b i => ∃ bb ii : Nat, b = .int .i64 bb ∧ i = .int .i64 ii ∧ RunAt f s m true bb ii) (fun _ i => n - (intOf i).toNat)
    case atStart => exact ⟨s, s, by have := HS.out; congr 1; omega, by have := HS.out; congr 1; omega, RunAt.start f s m _ hm0⟩
    case round =>
      obtain ⟨b, i, rfl, rfl, hr⟩ := hrel
      have r1 := hr.bi
      have r2 := hr.lt
      have HR := Lib.hid hr
      clear hr
      by_cases hlt : i < n
      · have e1 : (i : Int) < n := by omega
        have e2 : (0 : Int) ≤ (b : Int) := by omega
        have e3 : (b : Int) ≤ i := by omega
        have e4 : (i : Int) ≤ 4096 := by omega
        have K0 := get27 bm bw n f i hlt hn w HM.out
        by_cases hf : f i = true
        · have hf2 := hf
          rw [hf] at K0
          have K := Lib.hid K0
          have HF := Lib.hid hf2
          clear K0 hf hf2
          by_cases hq : (i : Int) - b + 1 = m
          · have HQ := Lib.hid hq
            have e5 : ((i : Int) - b + 1 == (m : Int)) = true := by simp [hq]
            clear hq
            go_wp2_with (go_at_call 27; refine (K.out).mono ?_; rintro e w' ⟨rfl, rfl⟩)
            go_ret
            exact ⟨b, rfl, HR.out.found HF.out (by have := HQ.out; omega) hlt, rfl⟩
          · have HQ := Lib.hid hq
            go_wp2_with (go_at_call 27; refine (K.out).mono ?_; rintro e w' ⟨rfl, rfl⟩)
            go_round
            case rel => exact ⟨b, i + 1, rfl, by go_num, HR.out.next HF.out (by have := HQ.out; omega)⟩
            case measure => simp [intOf]; omega
        · have hf2 : f i = false := by cases h : f i <;> simp_all
          rw [hf2] at K0
          have K := Lib.hid K0
          have HF := Lib.hid hf
          clear K0 hf hf2
          go_wp2_with (go_at_call 27; refine (K.out).mono ?_; rintro e w' ⟨rfl, rfl⟩)
          go_round
          case rel => exact ⟨i + 1, i + 1, by go_num, by go_num, HR.out.off hm0 HF.out⟩
          case measure => simp [intOf]; omega
      · have e1 : decide (i < n) = false := by simp; omega
        go_wp2
        go_ret
        exact ⟨-1, rfl, HR.out.end_ (by omega), rfl⟩

set_option maxRecDepth 100000 in
set_option maxHeartbeats 4000000 in
theorem run16_off (bm bw n : Nat) (f : Nat → Bool) (hn : n ≤ 4096) (s : Nat) (m : Nat) (hm0 : 0 < m) (hm63 : m ≤ 9223372036854775807) (a : Int) (has : (a < 0 ∧ s = 0) ∨ (0 ≤ a ∧ a = s)) (w : World) (hm : MapAt w bm bw n f) :
    Calls Try.prog 16 #[.pointer (some ⟨bm, 0, none⟩), .int .i64 a, .int .i64 m, .bool false] w (RunPost f n s m false w) := by
  have HM := Lib.hid hm
  have h0 := hm.len
  clear hm
  have d1 : decide ((m : Int) < 1) = false := by simp; omega
  have HS := Lib.hid has
  clear has
  go_enter Try.func16, Try.ntmps16
  go_wp2
  all_goals
    go_loop [9, 10] (fun b i => ∃ bb ii : Nat, b = .int .i64 bb ∧ i = .int .i64 ii ∧ RunAt f s m false bb ii) (fun _ i => n - (intOf i).toNat)
    case atStart => exact ⟨s, s, by have := HS.out; congr 1; omega, by have := HS.out; congr 1; omega, RunAt.start f s m _ hm0⟩
    case round =>
      obtain ⟨b, i, rfl, rfl, hr⟩ := hrel
      have r1 := hr.bi
      have r2 := hr.lt
      have HR := Lib.hid hr
      clear hr
      by_cases hlt : i < n
      · have e1 : (i : Int) < n := by omega
        have e2 : (0 : Int) ≤ (b : Int) := by omega
        have e3 : (b : Int) ≤ i := by omega
        have e4 : (i : Int) ≤ 4096 := by omega
        have K0 := get27 bm bw n f i hlt hn w HM.out
        by_cases hf : f i = false
        · have hf2 := hf
          rw [hf] at K0
          have K := Lib.hid K0
          have HF := Lib.hid hf2
          clear K0 hf hf2
          by_cases hq : (i : Int) - b + 1 = m
          · have HQ := Lib.hid hq
            have e5 : ((i : Int) - b + 1 == (m : Int)) = true := by simp [hq]
            clear hq
            go_wp2_with (go_at_call 27; refine (K.out).mono ?_; rintro e w' ⟨rfl, rfl⟩)
            go_ret
            exact ⟨b, rfl, HR.out.found HF.out (by have := HQ.out; omega) hlt, rfl⟩
          · have HQ := Lib.hid hq
            go_wp2_with (go_at_call 27; refine (K.out).mono ?_; rintro e w' ⟨rfl, rfl⟩)
            go_round
            case rel => exact ⟨b, i + 1, rfl, by go_num, HR.out.next HF.out (by have := HQ.out; omega)⟩
            case measure => simp [intOf]; omega
        · have hf2 : f i = true := by cases h : f i <;> simp_all
          rw [hf2] at K0
          have K := Lib.hid K0
          have HF := Lib.hid hf
          clear K0 hf hf2
          go_wp2_with (go_at_call 27; refine (K.out).mono ?_; rintro e w' ⟨rfl, rfl⟩)
          go_round
          case rel => exact ⟨i + 1, i + 1, by go_num, by go_num, HR.out.off hm0 HF.out⟩
          case measure => simp [intOf]; omega
      · have e1 : decide (i < n) = false := by simp; omega
        go_wp2
        go_ret
        exact ⟨-1, rfl, HR.out.end_ (by omega), rfl⟩


set_option maxRecDepth 100000 in
set_option maxHeartbeats 1000000 in
theorem run16_low (bm : Nat) (a m : Int) (on : Bool) (hm : m < 1) (w : World) : Calls Try.prog 16 #[.pointer (some ⟨bm, 0, none⟩), .int .i64 a, .int .i64 m, .bool on] w fun e w' => e = .returned (.int .i64 (-1)) ∧ w = w' := by
  go_enter Try.func16, Try.ntmps16
  go_wp2
  go_ret
  exact ⟨rfl, rfl⟩
/-- What Run tells: any numbers. -/
def RunI (f : Nat → Bool) (N : Nat) (a m : Int) (on : Bool) (r : Int) : Prop := (m < 1 ∧ r = -1) ∨ (1 ≤ m ∧ RunIs f N a.toNat m.toNat on r)
theorem RunI.eq {f : Nat → Bool} {N : Nat} {a m : Int} {on : Bool} {r r' : Int} (h : RunI f N a m on r) (h' : RunI f N a m on r') : r = r' := by
  rcases h with ⟨h1, rfl⟩ | ⟨h1, h2⟩
  · rcases h' with ⟨_, rfl⟩ | ⟨h3, _⟩
    · rfl
    · omega
  · rcases h' with ⟨h3, _⟩ | ⟨_, h4⟩
    · omega
    · exact h2.eq h4
def RunIPost (f : Nat → Bool) (N : Nat) (a m : Int) (on : Bool) (w : World) (e : Ending) (w' : World) : Prop := ∃ r : Int, e = .returned (.int .i64 r) ∧ RunI f N a m on r ∧ w = w'
theorem run16 (bm bw n : Nat) (f : Nat → Bool) (hn : n ≤ 4096) (a m : Int) (on : Bool) (hm63 : m ≤ 9223372036854775807) (w : World) (hm : MapAt w bm bw n f) :
    Calls Try.prog 16 #[.pointer (some ⟨bm, 0, none⟩), .int .i64 a, .int .i64 m, .bool on] w (RunIPost f n a m on w) := by
  by_cases h : m < 1
  · exact (run16_low bm a m on h w).mono fun e w' ⟨he, hw⟩ => ⟨-1, he, .inl ⟨h, rfl⟩, hw⟩
  · obtain ⟨k, rfl⟩ := Int.eq_ofNat_of_zero_le (show 0 ≤ m by omega)
    have hs : (a < 0 ∧ a.toNat = 0) ∨ (0 ≤ a ∧ a = a.toNat) := by omega
    cases on
    · exact (run16_off bm bw n f hn a.toNat k (by omega) (by omega) a hs w hm).mono fun e w' ⟨r, he, hr, hw⟩ => ⟨r, he, .inr ⟨by omega, hr⟩, hw⟩
    · exact (run16_on bm bw n f hn a.toNat k (by omega) (by omega) a hs w hm).mono fun e w' ⟨r, he, hr, hw⟩ => ⟨r, he, .inr ⟨by omega, hr⟩, hw⟩
end Go.Proofs.Ytfnadjlnnfmnmaa
