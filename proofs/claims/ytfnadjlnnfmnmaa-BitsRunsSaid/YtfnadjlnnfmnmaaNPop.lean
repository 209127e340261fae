/- The sum of a word's bits as math/bits reckons it. No program in sight. -/
import Derived.Test.YtfnadjlnnfmnmaaNSpec
set_option linter.unusedSimpArgs false
set_option linter.unusedVariables false
namespace Go.Proofs.Ytfnadjlnnfmnmaa

theorem and_split (a b : Nat) : (a &&& b) = (a % 256 &&& b % 256) + 256 * (a / 256 &&& b / 256) := by
  have h1 : (a &&& b) % 2 ^ 8 = a % 2 ^ 8 &&& b % 2 ^ 8 := Nat.and_mod_two_pow
  have h2 : (a &&& b) / 2 ^ 8 = a / 2 ^ 8 &&& b / 2 ^ 8 := Nat.and_div_two_pow
  have h3 := Nat.mod_add_div (a &&& b) 256
  simp only [Nat.reducePow] at h1 h2
  rw [h1, h2] at h3
  exact h3.symm
/-- A mask of n bytes v. -/
def mm (v : Nat) : Nat → Nat
  | 0 => 0
  | n + 1 => v + 256 * mm v n
theorem and_mm (a v n : Nat) (hv : v < 256) : (a &&& mm v (n + 1)) = (a % 256 &&& v) + 256 * (a / 256 &&& mm v n) := by
  rw [and_split]
  have h1 : mm v (n + 1) % 256 = v := by simp only [mm]; omega
  have h2 : mm v (n + 1) / 256 = mm v n := by simp only [mm]; omega
  rw [h1, h2]
def a1 (c : Nat) : Nat := (c / 2 &&& 85) + (c &&& 85)
def b1 (c : Nat) : Nat := (c / 4 &&& 51) + (c &&& 51)
def p1 (b : Nat) : Nat := (b1 (a1 b) / 16 + b1 (a1 b)) &&& 15
def fA (n x : Nat) : Nat := (x / 2 &&& mm 85 n) + (x &&& mm 85 n)
def fB (n x : Nat) : Nat := (x / 4 &&& mm 51 n) + (x &&& mm 51 n)
def fC (n x : Nat) : Nat := (x / 16 + x) &&& mm 15 n
theorem fin_a : ∀ (c : Fin 256) (e : Fin 2), (c.val / 2 + 128 * e.val) &&& 85 = c.val / 2 &&& 85 := by decide +kernel
theorem fin_b : ∀ (c : Fin 256) (e : Fin 4), (c.val / 4 + 64 * e.val) &&& 51 = c.val / 4 &&& 51 := by decide +kernel
theorem fin_c : ∀ (c : Fin 256) (e : Fin 5), (b1 (a1 c.val) / 16 + 16 * e.val + b1 (a1 c.val)) &&& 15 = p1 c.val := by decide +kernel
theorem fin_bd : ∀ (c : Fin 256), a1 c.val < 256 ∧ b1 (a1 c.val) < 69 ∧ b1 (a1 c.val) % 16 ≤ 4 ∧ p1 c.val ≤ 8 := by decide +kernel
theorem fA_succ (n x : Nat) : fA (n + 1) x = a1 (x % 256) + 256 * fA n (x / 256) := by
  unfold fA
  rw [and_mm _ _ _ (by decide), and_mm _ _ _ (by decide)]
  have h1 : x / 2 / 256 = x / 256 / 2 := by omega
  have h2 : x / 2 % 256 = x % 256 / 2 + 128 * (x / 256 % 2) := by omega
  have h3 := fin_a ⟨x % 256, by omega⟩ ⟨x / 256 % 2, by omega⟩
  simp only at h3
  rw [h1, h2, h3]
  unfold a1
  omega
theorem fB_succ (n x : Nat) : fB (n + 1) x = b1 (x % 256) + 256 * fB n (x / 256) := by
  unfold fB
  rw [and_mm _ _ _ (by decide), and_mm _ _ _ (by decide)]
  have h1 : x / 4 / 256 = x / 256 / 4 := by omega
  have h2 : x / 4 % 256 = x % 256 / 4 + 64 * (x / 256 % 4) := by omega
  have h3 := fin_b ⟨x % 256, by omega⟩ ⟨x / 256 % 4, by omega⟩
  simp only at h3
  rw [h1, h2, h3]
  unfold b1
  omega
theorem fA_zero (x : Nat) : fA 0 x = 0 := by simp [fA, mm]
theorem fB_zero (x : Nat) : fB 0 x = 0 := by simp [fB, mm]
theorem ab_low (n x : Nat) : fB n (fA n x) % 16 ≤ 4 := by
  cases n with
  | zero => rw [fB_zero]; omega
  | succ n =>
    have h := (fin_bd ⟨x % 256, by omega⟩)
    simp only at h
    have e1 : fA (n + 1) x % 256 = a1 (x % 256) := by rw [fA_succ]; omega
    rw [fB_succ, e1]
    omega
/-- The three steps inside the bytes. -/
def fS (n x : Nat) : Nat := fC n (fB n (fA n x))
theorem fS_succ (n x : Nat) : fS (n + 1) x = p1 (x % 256) + 256 * fS n (x / 256) := by
  have h := (fin_bd ⟨x % 256, by omega⟩)
  simp only at h
  have e1 : fA (n + 1) x % 256 = a1 (x % 256) := by rw [fA_succ]; omega
  have e2 : fA (n + 1) x / 256 = fA n (x / 256) := by rw [fA_succ]; omega
  unfold fS
  have e3 : fB (n + 1) (fA (n + 1) x) = b1 (a1 (x % 256)) + 256 * fB n (fA n (x / 256)) := by rw [fB_succ, e1, e2]
  rw [e3]
  have hw := ab_low n (x / 256)
  generalize fB n (fA n (x / 256)) = w at hw
  unfold fC
  rw [and_mm _ _ _ (by decide)]
  have e4 : ((b1 (a1 (x % 256)) + 256 * w) / 16 + (b1 (a1 (x % 256)) + 256 * w)) % 256 = b1 (a1 (x % 256)) / 16 + 16 * (w % 16) + b1 (a1 (x % 256)) := by omega
  have e5 : ((b1 (a1 (x % 256)) + 256 * w) / 16 + (b1 (a1 (x % 256)) + 256 * w)) / 256 = w / 16 + w := by omega
  have h3 := fin_c ⟨x % 256, by omega⟩ ⟨w % 16, by omega⟩
  simp only at h3
  rw [e4, e5, h3]
theorem fS_zero (x : Nat) : fS 0 x = 0 := by simp [fS, fC, mm]
/-- How many bits are on in n bytes. -/
def pcn : Nat → Nat → Nat
  | 0, _ => 0
  | n + 1, x => p1 (x % 256) + pcn n (x / 256)
theorem pcn_le : ∀ n x, pcn n x ≤ 8 * n
  | 0, _ => by simp [pcn]
  | n + 1, x => by
    have := pcn_le n (x / 256)
    have h := (fin_bd ⟨x % 256, by omega⟩).2.2.2
    simp only [pcn] at *
    omega
theorem nest_add (a b A B : Nat) : (a + 256 * A) + (b + 256 * B) = (a + b) + 256 * (A + B) := by omega
theorem nest_add1 (a b A : Nat) : (a + 256 * A) + b = (a + b) + 256 * A := by omega
theorem nest_d1 (a R : Nat) (h : a < 256) : (a + 256 * R) / 256 = R := by omega
theorem nest_d2 (a b R : Nat) (h : a < 256) (h' : b < 256) : (a + 256 * (b + 256 * R)) / 65536 = R := by omega
theorem nest_d4 (a b c d R : Nat) (h : a < 256) (h' : b < 256) (h2 : c < 256) (h3 : d < 256) : (a + 256 * (b + 256 * (c + 256 * (d + 256 * R)))) / 4294967296 = R := by omega
theorem nest_m (c S : Nat) (h : c < 128) : (c + 256 * S) % 128 = c := by omega
theorem nest_lt (a R M : Nat) (h : a < 256) (hR : R < M) : a + 256 * R < 256 * M := by omega
theorem nest8 (c0 c1 c2 c3 c4 c5 c6 c7 : Nat) (h0 : c0 < 256) (h1 : c1 < 256) (h2 : c2 < 256) (h3 : c3 < 256) (h4 : c4 < 256) (h5 : c5 < 256) (h6 : c6 < 256) (h7 : c7 < 256) :
    c0 + 256 * (c1 + 256 * (c2 + 256 * (c3 + 256 * (c4 + 256 * (c5 + 256 * (c6 + 256 * (c7 + 256 * 0))))))) < 18446744073709551616 :=
  nest_lt _ _ 72057594037927936 h0 (nest_lt _ _ 281474976710656 h1 (nest_lt _ _ 1099511627776 h2 (nest_lt _ _ 4294967296 h3 (nest_lt _ _ 16777216 h4 (nest_lt _ _ 65536 h5 (nest_lt _ _ 256 h6 (by omega)))))))
theorem bytes_sum (q0 q1 q2 q3 q4 q5 q6 q7 : Nat) (h0 : q0 ≤ 8) (h1 : q1 ≤ 8) (h2 : q2 ≤ 8) (h3 : q3 ≤ 8) (h4 : q4 ≤ 8) (h5 : q5 ≤ 8) (h6 : q6 ≤ 8) (h7 : q7 ≤ 8) (x u v s : Nat)
    (hx : x = q0 + 256 * (q1 + 256 * (q2 + 256 * (q3 + 256 * (q4 + 256 * (q5 + 256 * (q6 + 256 * (q7 + 256 * 0)))))))) (hu : u = x + x / 256) (hv : v = u + u / 65536) (hs : s = v + v / 4294967296) :
    u < 18446744073709551616 ∧ v < 18446744073709551616 ∧ s < 18446744073709551616 ∧ s % 128 = q0 + (q1 + (q2 + (q3 + (q4 + (q5 + (q6 + (q7 + 0))))))) := by
  have u0 : u = (q0 + q1) + 256 * ((q1 + q2) + 256 * ((q2 + q3) + 256 * ((q3 + q4) + 256 * ((q4 + q5) + 256 * ((q5 + q6) + 256 * ((q6 + q7) + 256 * (q7 + 256 * 0))))))) := by
    rw [hu, hx, nest_d1 _ _ (by omega)]
    simp only [nest_add, Nat.mul_zero, Nat.add_zero]; try simp only [nest_add1]
  clear hu hx
  have v0 : v = (q0 + q1 + (q2 + q3)) + 256 * ((q1 + q2 + (q3 + q4)) + 256 * ((q2 + q3 + (q4 + q5)) + 256 * ((q3 + q4 + (q5 + q6)) + 256 * ((q4 + q5 + (q6 + q7)) + 256 * ((q5 + q6 + q7) + 256 * ((q6 + q7) + 256 * (q7 + 256 * 0))))))) := by
    rw [hv, u0, nest_d2 _ _ _ (by omega) (by omega)]
    simp only [nest_add, Nat.mul_zero, Nat.add_zero]; try simp only [nest_add1]
  have s0 : s = (q0 + q1 + (q2 + q3) + (q4 + q5 + (q6 + q7))) + 256 * ((q1 + q2 + (q3 + q4) + (q5 + q6 + q7)) + 256 * ((q2 + q3 + (q4 + q5) + (q6 + q7)) + 256 * ((q3 + q4 + (q5 + q6) + q7) + 256 * ((q4 + q5 + (q6 + q7)) + 256 * ((q5 + q6 + q7) + 256 * ((q6 + q7) + 256 * (q7 + 256 * 0))))))) := by
    rw [hs, v0, nest_d4 _ _ _ _ _ (by omega) (by omega) (by omega) (by omega)]
    simp only [nest_add, Nat.mul_zero, Nat.add_zero]; try simp only [nest_add1]
  clear hv hs
  refine ⟨?_, ?_, ?_, ?_⟩
  · rw [u0]; clear u0 v0 s0; apply nest8 <;> omega
  · rw [v0]; clear u0 v0 s0; apply nest8 <;> omega
  · rw [s0]; clear u0 v0 s0; apply nest8 <;> omega
  · rw [s0]; clear u0 v0 s0; rw [nest_m _ _ (by omega)]; omega
theorem sum_bytes (x : Nat) : ∃ u v s, u = fS 8 x + fS 8 x / 256 ∧ v = u + u / 65536 ∧ s = v + v / 4294967296 ∧ u < 18446744073709551616 ∧ v < 18446744073709551616 ∧ s < 18446744073709551616 ∧ s % 128 = pcn 8 x := by
  refine ⟨_, _, _, rfl, rfl, rfl, ?_⟩
  simp only [fS_succ, fS_zero, pcn]
  have h0 := (fin_bd ⟨x % 256, by omega⟩).2.2.2
  have h1 := (fin_bd ⟨x / 256 % 256, by omega⟩).2.2.2
  have h2 := (fin_bd ⟨x / 256 / 256 % 256, by omega⟩).2.2.2
  have h3 := (fin_bd ⟨x / 256 / 256 / 256 % 256, by omega⟩).2.2.2
  have h4 := (fin_bd ⟨x / 256 / 256 / 256 / 256 % 256, by omega⟩).2.2.2
  have h5 := (fin_bd ⟨x / 256 / 256 / 256 / 256 / 256 % 256, by omega⟩).2.2.2
  have h6 := (fin_bd ⟨x / 256 / 256 / 256 / 256 / 256 / 256 % 256, by omega⟩).2.2.2
  have h7 := (fin_bd ⟨x / 256 / 256 / 256 / 256 / 256 / 256 / 256 % 256, by omega⟩).2.2.2
  simp only at h0 h1 h2 h3 h4 h5 h6 h7
  generalize p1 (x % 256) = q0 at *
  generalize p1 (x / 256 % 256) = q1 at *
  generalize p1 (x / 256 / 256 % 256) = q2 at *
  generalize p1 (x / 256 / 256 / 256 % 256) = q3 at *
  generalize p1 (x / 256 / 256 / 256 / 256 % 256) = q4 at *
  generalize p1 (x / 256 / 256 / 256 / 256 / 256 % 256) = q5 at *
  generalize p1 (x / 256 / 256 / 256 / 256 / 256 / 256 % 256) = q6 at *
  generalize p1 (x / 256 / 256 / 256 / 256 / 256 / 256 / 256 % 256) = q7 at *
  exact bytes_sum q0 q1 q2 q3 q4 q5 q6 q7 h0 h1 h2 h3 h4 h5 h6 h7 _ _ _ _ rfl rfl rfl rfl
end Go.Proofs.Ytfnadjlnnfmnmaa
