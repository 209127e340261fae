/- The walk of Count. -/
import Derived.Test.YtfnadjlnnfmnmaaNOnes
set_option linter.unusedSimpArgs false
set_option linter.unusedVariables false
namespace Go.Proofs.Ytfnadjlnnfmnmaa
open Go.RowKit

/-- How many of the first n bits are on. -/
def cb (g : Nat → Bool) : Nat → Nat
  | 0 => 0
  | n + 1 => cb g n + (g n).toNat
theorem cb_congr {g h : Nat → Bool} : ∀ n, (∀ i, i < n → g i = h i) → cb g n = cb h n
  | 0, _ => rfl
  | n + 1, e => by simp only [cb]; rw [cb_congr n (fun i hi => e i (by omega)), e n (by omega)]
theorem cb_add (g : Nat → Bool) (a : Nat) : ∀ b, cb g (a + b) = cb g a + cb (fun i => g (a + i)) b
  | 0 => by simp [cb]
  | b + 1 => by rw [← Nat.add_assoc]; simp only [cb]; rw [cb_add g a b]; omega
theorem cb_le (g : Nat → Bool) : ∀ n, cb g n ≤ n
  | 0 => by simp [cb]
  | n + 1 => by have := cb_le g n; have : (g n).toNat ≤ 1 := Bool.toNat_le _; simp only [cb]; omega
theorem p1_bits : ∀ (c : Fin 256), p1 c.val = cb c.val.testBit 8 := by decide +kernel
theorem pcn_bits : ∀ n x, pcn n x = cb x.testBit (8 * n)
  | 0, _ => rfl
  | n + 1, x => by
    have h := p1_bits ⟨x % 256, by omega⟩
    simp only at h
    rw [show 8 * (n + 1) = 8 + 8 * n by omega, cb_add, pcn, h, pcn_bits n]
    congr 1
    · refine cb_congr 8 fun i hi => ?_
      rw [show (256 : Nat) = 2 ^ 8 from rfl, Nat.testBit_mod_two_pow]; simp [hi]
    · refine cb_congr _ fun i _ => ?_
      rw [show (256 : Nat) = 2 ^ 8 from rfl, Nat.testBit_div_two_pow, Nat.add_comm]
/-- The words of a map together. -/
def cW (f : Nat → Bool) (k : Nat) : Nat := cb f (64 * k)
theorem cW_succ (f : Nat → Bool) (k : Nat) : cW f (k + 1) = cW f k + pcn 8 (wordOf f k) := by
  unfold cW
  rw [show 64 * (k + 1) = 64 * k + 64 by omega, cb_add, pcn_bits]
  congr 1
  refine cb_congr 64 fun i hi => ?_
  rw [testBit_wordOf]; simp [hi]
/-- Beyond n there is nothing. -/
theorem cb_end {f : Nat → Bool} {n : Nat} (h : ∀ i, n ≤ i → f i = false) (b : Nat) : cb f (n + b) = cb f n := by
  rw [cb_add]
  have : ∀ b, cb (fun i => f (n + i)) b = 0 := by
    intro b
    induction b with
    | zero => rfl
    | succ b ih => simp only [cb]; rw [ih, h (n + b) (by omega)]; rfl
  rw [this]; rfl
theorem cW_all {f : Nat → Bool} {n : Nat} (h : ∀ i, n ≤ i → f i = false) : cW f (wN n) = cb f n := by
  unfold cW
  rw [show 64 * wN n = n + (64 * wN n - n) by unfold wN; omega]
  exact cb_end h _
set_option maxRecDepth 100000 in
set_option maxHeartbeats 1000000 in
theorem count20 (bm bw n : Nat) (f : Nat → Bool) (hn : n ≤ 4096) (hz : ∀ i, n ≤ i → f i = false) (w : World) (hm : MapAt w bm bw n f) :
    Calls Try.prog 20 #[.pointer (some ⟨bm, 0, none⟩)] w fun e w' => e = .returned (.int .i64 (cb f n : Nat)) ∧ w = w' := by
  have HZ := Lib.hid hz
  have h0 := hm.len
  have h1 := hm.row
  have HM := Lib.hid hm
  clear hm hz
  go_enter Try.func20, Try.ntmps20
  go_wp2
  clear h0 h1
  go_loop [3, 13] (fun c i => ∃ q : Nat, q ≤ wN n ∧ i = .int .i64 q ∧ c = .int .i64 (cW f q : Nat)) (fun _ i => wN n - (intOf i).toNat)
  case atStart => exact ⟨0, by omega, rfl, rfl⟩
  case round =>
    obtain ⟨q, hq, rfl, rfl⟩ := hrel
    have h64 : wN n ≤ 64 := by unfold wN; omega
    by_cases hlt : q < wN n
    · have hc := HM.out.word q hlt
      have h2 : cW f q ≤ 4096 := by have := cb_le f (64 * q); unfold cW; omega
      have h3 := pcn_le 8 (wordOf f q)
      have HS := Lib.hid (cW_succ f q)
      have K := Lib.hid (ones30 (wordOf f q) (wordOf_lt f q))
      have e1 : (0 : Int) ≤ (q : Int) := by omega
      have e2 : (q : Int) < (wN n : Int) := by omega
      go_wp2_with (go_at_call 30; refine (K.out _).mono ?_; rintro e w' ⟨rfl, rfl⟩)
      go_round
      case rel => exact ⟨q + 1, by omega, by go_num, by rw [HS.out]; go_num⟩
      case measure => simp [intOf]; omega
    · have e2 : decide (q < wN n) = false := by simp; omega
      have hqe : q = wN n := by omega
      have HQ := Lib.hid hqe
      clear hqe
      go_wp2
      go_ret
      refine ⟨ret_int ?_, rfl⟩
      rw [HQ.out, cW_all HZ.out]
end Go.Proofs.Ytfnadjlnnfmnmaa
