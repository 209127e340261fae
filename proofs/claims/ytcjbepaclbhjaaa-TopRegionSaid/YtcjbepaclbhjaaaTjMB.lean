import Derived.Test.YtcjbepaclbhjaaaTjQA
import Derived.Test.YtcjbepaclbhjaaaTjQC
import Derived.Test.YtcjbepaclbhjaaaTjQB
import Derived.Laws.BitsAllLaws
import Derived.Laws.Bits64
import Derived.Laws.Bits128
import Derived.LoopTactic
import Derived.Lib.Hide
import Derived.Deep.LoopGhost
/- Maps of bits: what New, Put, Run and Count do. -/
set_option linter.unusedSimpArgs false
set_option linter.unusedVariables false
namespace Go.Proofs.Ytcjbepaclbhjaaa
open Go.RowKit
def wB (g : Nat → Bool) : Nat → Nat
  | 0 => 0
  | n + 1 => (if g n then 2 ^ n else 0) ||| wB g n
theorem wB_lt (g : Nat → Bool) : ∀ n, wB g n < 2 ^ n
  | 0 => by simp [wB]
  | n + 1 => by
    unfold wB
    have h := wB_lt g n
    refine Nat.or_lt_two_pow ?_ (Nat.lt_trans h (Nat.pow_lt_pow_right (by decide) (by omega)))
    split
    · exact Nat.pow_lt_pow_right (by decide) (by omega)
    · exact Nat.two_pow_pos _
theorem testBit_wB (g : Nat → Bool) (j : Nat) : ∀ n, (wB g n).testBit j = (decide (j < n) && g j)
  | 0 => by simp [wB]
  | n + 1 => by
    unfold wB
    rw [Nat.testBit_or, testBit_wB g j n]
    by_cases hj : j = n
    · subst hj
      cases hg : g j <;> simp [Nat.testBit_two_pow_self]
    · have h1 : (if g n then 2 ^ n else 0).testBit j = false := by
        split
        · rw [Nat.testBit_two_pow]; simp; omega
        · simp
      rw [h1, Bool.false_or]
      have : decide (j < n) = decide (j < n + 1) := by simp; omega
      rw [this]
def wordOf (f : Nat → Bool) (k : Nat) : Nat := wB (fun j => f (64 * k + j)) 64
theorem wordOf_lt (f : Nat → Bool) (k : Nat) : wordOf f k < 18446744073709551616 := wB_lt _ 64
theorem testBit_wordOf (f : Nat → Bool) (k j : Nat) : (wordOf f k).testBit j = (decide (j < 64) && f (64 * k + j)) := testBit_wB _ _ _
theorem wordOf_ext {f : Nat → Bool} {k x : Nat} (hx : x < 2 ^ 64) (h : ∀ j, j < 64 → x.testBit j = f (64 * k + j)) : x = wordOf f k := by
  apply Nat.eq_of_testBit_eq
  intro j
  rw [testBit_wordOf]
  by_cases hj : j < 64
  · simp [hj, h j hj]
  · simp [hj]
    exact Nat.testBit_lt_two_pow (Nat.lt_of_lt_of_le hx (Nat.pow_le_pow_right (by decide) (by omega)))
theorem wordOf_congr {f g : Nat → Bool} {k : Nat} (h : ∀ j, j < 64 → f (64 * k + j) = g (64 * k + j)) : wordOf f k = wordOf g k := by
  apply wordOf_ext (wordOf_lt f k)
  intro j hj
  rw [testBit_wordOf]; simp [hj, h j hj]
def upd (f : Nat → Bool) (a b : Nat) (on : Bool) : Nat → Bool := fun i => if a ≤ i ∧ i < b then on else f i
theorem upd_zero (f : Nat → Bool) (a : Nat) (on : Bool) : upd f a a on = f := by funext i; unfold upd; rw [if_neg (by omega)]
theorem upd_succ (f : Nat → Bool) (a b : Nat) (on : Bool) (h : a ≤ b) : upd f a (b + 1) on = upd (upd f a b on) b (b + 1) on := by
  funext i; unfold upd
  by_cases h1 : b ≤ i ∧ i < b + 1
  · rw [if_pos h1, if_pos (by omega)]
  · rw [if_neg h1]
    by_cases h2 : a ≤ i ∧ i < b
    · rw [if_pos h2, if_pos (by omega)]
    · rw [if_neg h2, if_neg (by omega)]
theorem set_word (f : Nat → Bool) (i : Nat) : (wordOf f (i / 64) ||| 2 ^ (i % 64)) = wordOf (upd f i (i + 1) true) (i / 64) := by
  refine wordOf_ext (Nat.or_lt_two_pow (wordOf_lt _ _) (Nat.pow_lt_pow_right (by decide) (Nat.mod_lt _ (by decide)))) fun j hj => ?_
  rw [Nat.testBit_or, testBit_wordOf, Nat.testBit_two_pow]
  unfold upd
  by_cases h : j = i % 64
  · rw [if_pos (by omega)]; simp [h]
  · rw [if_neg (by omega)]; simp [hj]; omega
theorem other_word (f : Nat → Bool) (i k : Nat) (on : Bool) (h : k ≠ i / 64) : wordOf (upd f i (i + 1) on) k = wordOf f k := wordOf_congr fun j hj => by
  unfold upd; rw [if_neg (by omega)]
def words (f : Nat → Bool) (W : Nat) : List Value := (List.range W).map fun k => .int .u64 (wordOf f k : Nat)
theorem words_len (f : Nat → Bool) (W : Nat) : (words f W).length = W := by simp [words]
theorem words_get (f : Nat → Bool) (W k : Nat) (h : k < W) : (words f W)[k]? = some (.int .u64 (wordOf f k : Nat)) := by simp [words, h]
theorem words_set (f : Nat → Bool) (W i : Nat) (on : Bool) (h : i / 64 < W) : (words f W).set (i / 64) (.int .u64 (wordOf (upd f i (i + 1) on) (i / 64) : Nat)) = words (upd f i (i + 1) on) W := by
  apply List.ext_getElem?
  intro k
  rw [List.getElem?_set, words_len]
  by_cases hk : i / 64 = k
  · rw [if_pos hk, if_pos h, ← hk, words_get _ _ _ h]
  · rw [if_neg hk]
    by_cases hkW : k < W
    · rw [words_get _ _ _ hkW, words_get _ _ _ hkW, other_word f i k on (fun e => hk e.symm)]
    · rw [List.getElem?_eq_none (by rw [words_len]; omega), List.getElem?_eq_none (by rw [words_len]; omega)]
theorem get_bit (f : Nat → Bool) (i : Nat) : (bits .and .u64 ((wordOf f (i / 64) : Nat) / 2 ^ (i % 64) : Int) 1 == 1) = f i := by
  have e : (((wordOf f (i / 64) : Nat) : Int) / 2 ^ (i % 64)) = ((wordOf f (i / 64) / 2 ^ (i % 64) : Nat) : Int) := by simp
  have hlt : wordOf f (i / 64) / 2 ^ (i % 64) < 18446744073709551616 := Nat.lt_of_le_of_lt (Nat.div_le_self _ _) (wordOf_lt _ _)
  have h := Go.u64_and_nat (wordOf f (i / 64) / 2 ^ (i % 64)) 1 hlt (by decide)
  rw [e]
  have h' : bits .and .u64 ((wordOf f (i / 64) / 2 ^ (i % 64) : Nat) : Int) 1 = (((wordOf f (i / 64) / 2 ^ (i % 64)) &&& 1 : Nat) : Int) := h
  rw [h', Nat.and_one_is_mod]
  have ht := testBit_wordOf f (i / 64) (i % 64)
  rw [show 64 * (i / 64) + i % 64 = i by omega, show decide (i % 64 < 64) = true by simp; omega, Bool.true_and] at ht
  rw [← ht, Nat.testBit_eq_decide_div_mod_eq]
  rw [Bool.eq_iff_iff]; simp; omega
theorem one_shl {i : Nat} (h : i < 64) : IntKind.u64.wrap (1 * 2 ^ i) = ((2 ^ i : Nat) : Int) := by
  have hp : 2 ^ i < 2 ^ 64 := Nat.pow_lt_pow_right (by decide) h
  have e : (1 * 2 ^ i : Int) = ((2 ^ i : Nat) : Int) := by rw [Int.one_mul]; exact (Int.natCast_pow 2 i).symm
  rw [e, Go.IntKind.wrap_u64]
  generalize 2 ^ i = x at hp
  omega
theorem or_bit (f : Nat → Bool) (i : Nat) : bits .or .u64 (wordOf f (i / 64) : Nat) (IntKind.u64.wrap (1 * 2 ^ (i % 64))) = (wordOf (upd f i (i + 1) true) (i / 64) : Nat) := by
  rw [one_shl (Nat.mod_lt _ (by decide)), Go.u64_or_nat _ _ (wordOf_lt _ _) (Nat.pow_lt_pow_right (by decide) (Nat.mod_lt _ (by decide))), set_word]
theorem div_nat (x : Nat) : ((x : Int) / 64).toNat = x / 64 := by omega
theorem mod_nat (x : Nat) : ((x : Int) % 64).toNat = x % 64 := by omega
theorem or_store (f : Nat → Bool) (W x : Nat) (h : x / 64 < W) : (words f W).set ((x : Int) / 64).toNat (.int .u64 (bits .or .u64 (wordOf f (x / 64) : Nat) (IntKind.u64.wrap (2 ^ ((x : Int) % 64).toNat)))) = words (upd f x (x + 1) true) W := by
  have := or_bit f x
  rw [Int.one_mul] at this
  rw [div_nat, mod_nat, this, words_set f W x true h]
theorem and_split (a b : Nat) : (a &&& b) = (a % 256 &&& b % 256) + 256 * (a / 256 &&& b / 256) := by
  have h1 : (a &&& b) % 2 ^ 8 = a % 2 ^ 8 &&& b % 2 ^ 8 := Nat.and_mod_two_pow
  have h2 : (a &&& b) / 2 ^ 8 = a / 2 ^ 8 &&& b / 2 ^ 8 := Nat.and_div_two_pow
  have h3 := Nat.mod_add_div (a &&& b) 256
  simp only [Nat.reducePow] at h1 h2
  rw [h1, h2] at h3
  exact h3.symm
def mm (v : Nat) : Nat → Nat
  | 0 => 0
  | n + 1 => v + 256 * mm v n
theorem and_mm (a v n : Nat) (hv : v < 256) : (a &&& mm v (n + 1)) = (a % 256 &&& v) + 256 * (a / 256 &&& mm v n) := by
  rw [and_split]
  have h1 : mm v (n + 1) % 256 = v := by simp only [mm]; omega
  have h2 : mm v (n + 1) / 256 = mm v n := by simp only [mm]; omega
  rw [h1, h2]
def a1 (c : Nat) : Nat := (c / 2 &&& 85) + (c &&& 85)
def b1 (c : Nat) : Nat := (c / 4 &&& 51) + (c &&& 51)
def p1 (b : Nat) : Nat := (b1 (a1 b) / 16 + b1 (a1 b)) &&& 15
def fA (n x : Nat) : Nat := (x / 2 &&& mm 85 n) + (x &&& mm 85 n)
def fB (n x : Nat) : Nat := (x / 4 &&& mm 51 n) + (x &&& mm 51 n)
def fC (n x : Nat) : Nat := (x / 16 + x) &&& mm 15 n
theorem fin_a : ∀ (c : Fin 256) (e : Fin 2), (c.val / 2 + 128 * e.val) &&& 85 = c.val / 2 &&& 85 := by decide +kernel
theorem fin_b : ∀ (c : Fin 256) (e : Fin 4), (c.val / 4 + 64 * e.val) &&& 51 = c.val / 4 &&& 51 := by decide +kernel
theorem fin_c : ∀ (c : Fin 256) (e : Fin 5), (b1 (a1 c.val) / 16 + 16 * e.val + b1 (a1 c.val)) &&& 15 = p1 c.val := by decide +kernel
theorem fin_bd : ∀ (c : Fin 256), a1 c.val < 256 ∧ b1 (a1 c.val) < 69 ∧ b1 (a1 c.val) % 16 ≤ 4 ∧ p1 c.val ≤ 8 := by decide +kernel
theorem fA_succ (n x : Nat) : fA (n + 1) x = a1 (x % 256) + 256 * fA n (x / 256) := by
  unfold fA
  rw [and_mm _ _ _ (by decide), and_mm _ _ _ (by decide)]
  have h1 : x / 2 / 256 = x / 256 / 2 := by omega
  have h2 : x / 2 % 256 = x % 256 / 2 + 128 * (x / 256 % 2) := by omega
  have h3 := fin_a ⟨x % 256, by omega⟩ ⟨x / 256 % 2, by omega⟩
  simp only at h3
  rw [h1, h2, h3]
  unfold a1
  omega
theorem fB_succ (n x : Nat) : fB (n + 1) x = b1 (x % 256) + 256 * fB n (x / 256) := by
  unfold fB
  rw [and_mm _ _ _ (by decide), and_mm _ _ _ (by decide)]
  have h1 : x / 4 / 256 = x / 256 / 4 := by omega
  have h2 : x / 4 % 256 = x % 256 / 4 + 64 * (x / 256 % 4) := by omega
  have h3 := fin_b ⟨x % 256, by omega⟩ ⟨x / 256 % 4, by omega⟩
  simp only at h3
  rw [h1, h2, h3]
  unfold b1
  omega
theorem fA_zero (x : Nat) : fA 0 x = 0 := by simp [fA, mm]
theorem fB_zero (x : Nat) : fB 0 x = 0 := by simp [fB, mm]
theorem ab_low (n x : Nat) : fB n (fA n x) % 16 ≤ 4 := by
  cases n with
  | zero => rw [fB_zero]; omega
  | succ n =>
    have h := (fin_bd ⟨x % 256, by omega⟩)
    simp only at h
    have e1 : fA (n + 1) x % 256 = a1 (x % 256) := by rw [fA_succ]; omega
    rw [fB_succ, e1]
    omega
def fS (n x : Nat) : Nat := fC n (fB n (fA n x))
theorem fS_succ (n x : Nat) : fS (n + 1) x = p1 (x % 256) + 256 * fS n (x / 256) := by
  have h := (fin_bd ⟨x % 256, by omega⟩)
  simp only at h
  have e1 : fA (n + 1) x % 256 = a1 (x % 256) := by rw [fA_succ]; omega
  have e2 : fA (n + 1) x / 256 = fA n (x / 256) := by rw [fA_succ]; omega
  unfold fS
  have e3 : fB (n + 1) (fA (n + 1) x) = b1 (a1 (x % 256)) + 256 * fB n (fA n (x / 256)) := by rw [fB_succ, e1, e2]
  rw [e3]
  have hw := ab_low n (x / 256)
  generalize fB n (fA n (x / 256)) = w at hw
  unfold fC
  rw [and_mm _ _ _ (by decide)]
  have e4 : ((b1 (a1 (x % 256)) + 256 * w) / 16 + (b1 (a1 (x % 256)) + 256 * w)) % 256 = b1 (a1 (x % 256)) / 16 + 16 * (w % 16) + b1 (a1 (x % 256)) := by omega
  have e5 : ((b1 (a1 (x % 256)) + 256 * w) / 16 + (b1 (a1 (x % 256)) + 256 * w)) / 256 = w / 16 + w := by omega
  have h3 := fin_c ⟨x % 256, by omega⟩ ⟨w % 16, by omega⟩
  simp only at h3
  rw [e4, e5, h3]
theorem fS_zero (x : Nat) : fS 0 x = 0 := by simp [fS, fC, mm]
def pcn : Nat → Nat → Nat
  | 0, _ => 0
  | n + 1, x => p1 (x % 256) + pcn n (x / 256)
theorem pcn_le : ∀ n x, pcn n x ≤ 8 * n
  | 0, _ => by simp [pcn]
  | n + 1, x => by
    have := pcn_le n (x / 256)
    have h := (fin_bd ⟨x % 256, by omega⟩).2.2.2
    simp only [pcn] at *
    omega
theorem nest_add (a b A B : Nat) : (a + 256 * A) + (b + 256 * B) = (a + b) + 256 * (A + B) := by omega
theorem nest_add1 (a b A : Nat) : (a + 256 * A) + b = (a + b) + 256 * A := by omega
theorem nest_d1 (a R : Nat) (h : a < 256) : (a + 256 * R) / 256 = R := by omega
theorem nest_d2 (a b R : Nat) (h : a < 256) (h' : b < 256) : (a + 256 * (b + 256 * R)) / 65536 = R := by omega
theorem nest_d4 (a b c d R : Nat) (h : a < 256) (h' : b < 256) (h2 : c < 256) (h3 : d < 256) : (a + 256 * (b + 256 * (c + 256 * (d + 256 * R)))) / 4294967296 = R := by omega
theorem nest_m (c S : Nat) (h : c < 128) : (c + 256 * S) % 128 = c := by omega
theorem nest_lt (a R M : Nat) (h : a < 256) (hR : R < M) : a + 256 * R < 256 * M := by omega
theorem nest8 (c0 c1 c2 c3 c4 c5 c6 c7 : Nat) (h0 : c0 < 256) (h1 : c1 < 256) (h2 : c2 < 256) (h3 : c3 < 256) (h4 : c4 < 256) (h5 : c5 < 256) (h6 : c6 < 256) (h7 : c7 < 256) :
    c0 + 256 * (c1 + 256 * (c2 + 256 * (c3 + 256 * (c4 + 256 * (c5 + 256 * (c6 + 256 * (c7 + 256 * 0))))))) < 18446744073709551616 :=
  nest_lt _ _ 72057594037927936 h0 (nest_lt _ _ 281474976710656 h1 (nest_lt _ _ 1099511627776 h2 (nest_lt _ _ 4294967296 h3 (nest_lt _ _ 16777216 h4 (nest_lt _ _ 65536 h5 (nest_lt _ _ 256 h6 (by omega)))))))
theorem bytes_sum (q0 q1 q2 q3 q4 q5 q6 q7 : Nat) (h0 : q0 ≤ 8) (h1 : q1 ≤ 8) (h2 : q2 ≤ 8) (h3 : q3 ≤ 8) (h4 : q4 ≤ 8) (h5 : q5 ≤ 8) (h6 : q6 ≤ 8) (h7 : q7 ≤ 8) (x u v s : Nat)
    (hx : x = q0 + 256 * (q1 + 256 * (q2 + 256 * (q3 + 256 * (q4 + 256 * (q5 + 256 * (q6 + 256 * (q7 + 256 * 0)))))))) (hu : u = x + x / 256) (hv : v = u + u / 65536) (hs : s = v + v / 4294967296) :
    u < 18446744073709551616 ∧ v < 18446744073709551616 ∧ s < 18446744073709551616 ∧ s % 128 = q0 + (q1 + (q2 + (q3 + (q4 + (q5 + (q6 + (q7 + 0))))))) := by
  have u0 : u = (q0 + q1) + 256 * ((q1 + q2) + 256 * ((q2 + q3) + 256 * ((q3 + q4) + 256 * ((q4 + q5) + 256 * ((q5 + q6) + 256 * ((q6 + q7) + 256 * (q7 + 256 * 0))))))) := by
    rw [hu, hx, nest_d1 _ _ (by omega)]
    simp only [nest_add, Nat.mul_zero, Nat.add_zero]; try simp only [nest_add1]
  clear hu hx
  have v0 : v = (q0 + q1 + (q2 + q3)) + 256 * ((q1 + q2 + (q3 + q4)) + 256 * ((q2 + q3 + (q4 + q5)) + 256 * ((q3 + q4 + (q5 + q6)) + 256 * ((q4 + q5 + (q6 + q7)) + 256 * ((q5 + q6 + q7) + 256 * ((q6 + q7) + 256 * (q7 + 256 * 0))))))) := by
    rw [hv, u0, nest_d2 _ _ _ (by omega) (by omega)]
    simp only [nest_add, Nat.mul_zero, Nat.add_zero]; try simp only [nest_add1]
  have s0 : s = (q0 + q1 + (q2 + q3) + (q4 + q5 + (q6 + q7))) + 256 * ((q1 + q2 + (q3 + q4) + (q5 + q6 + q7)) + 256 * ((q2 + q3 + (q4 + q5) + (q6 + q7)) + 256 * ((q3 + q4 + (q5 + q6) + q7) + 256 * ((q4 + q5 + (q6 + q7)) + 256 * ((q5 + q6 + q7) + 256 * ((q6 + q7) + 256 * (q7 + 256 * 0))))))) := by
    rw [hs, v0, nest_d4 _ _ _ _ _ (by omega) (by omega) (by omega) (by omega)]
    simp only [nest_add, Nat.mul_zero, Nat.add_zero]; try simp only [nest_add1]
  clear hv hs
  refine ⟨?_, ?_, ?_, ?_⟩
  · rw [u0]; clear u0 v0 s0; apply nest8 <;> omega
  · rw [v0]; clear u0 v0 s0; apply nest8 <;> omega
  · rw [s0]; clear u0 v0 s0; apply nest8 <;> omega
  · rw [s0]; clear u0 v0 s0; rw [nest_m _ _ (by omega)]; omega
theorem sum_bytes (x : Nat) : ∃ u v s, u = fS 8 x + fS 8 x / 256 ∧ v = u + u / 65536 ∧ s = v + v / 4294967296 ∧ u < 18446744073709551616 ∧ v < 18446744073709551616 ∧ s < 18446744073709551616 ∧ s % 128 = pcn 8 x := by
  refine ⟨_, _, _, rfl, rfl, rfl, ?_⟩
  simp only [fS_succ, fS_zero, pcn]
  have h0 := (fin_bd ⟨x % 256, by omega⟩).2.2.2
  have h1 := (fin_bd ⟨x / 256 % 256, by omega⟩).2.2.2
  have h2 := (fin_bd ⟨x / 256 / 256 % 256, by omega⟩).2.2.2
  have h3 := (fin_bd ⟨x / 256 / 256 / 256 % 256, by omega⟩).2.2.2
  have h4 := (fin_bd ⟨x / 256 / 256 / 256 / 256 % 256, by omega⟩).2.2.2
  have h5 := (fin_bd ⟨x / 256 / 256 / 256 / 256 / 256 % 256, by omega⟩).2.2.2
  have h6 := (fin_bd ⟨x / 256 / 256 / 256 / 256 / 256 / 256 % 256, by omega⟩).2.2.2
  have h7 := (fin_bd ⟨x / 256 / 256 / 256 / 256 / 256 / 256 / 256 % 256, by omega⟩).2.2.2
  simp only at h0 h1 h2 h3 h4 h5 h6 h7
  generalize p1 (x % 256) = q0 at *
  generalize p1 (x / 256 % 256) = q1 at *
  generalize p1 (x / 256 / 256 % 256) = q2 at *
  generalize p1 (x / 256 / 256 / 256 % 256) = q3 at *
  generalize p1 (x / 256 / 256 / 256 / 256 % 256) = q4 at *
  generalize p1 (x / 256 / 256 / 256 / 256 / 256 % 256) = q5 at *
  generalize p1 (x / 256 / 256 / 256 / 256 / 256 / 256 % 256) = q6 at *
  generalize p1 (x / 256 / 256 / 256 / 256 / 256 / 256 / 256 % 256) = q7 at *
  exact bytes_sum q0 q1 q2 q3 q4 q5 q6 q7 h0 h1 h2 h3 h4 h5 h6 h7 _ _ _ _ rfl rfl rfl rfl
set_option linter.unusedVariables false
theorem agg65 : aggB Try.prog 65 2 = true := by kernel_rfl
theorem cell63 : cellB Try.prog 63 = true := by kernel_rfl
theorem cell66 : cellB Try.prog 66 = true := by kernel_rfl
def wN (n : Nat) : Nat := (n + 63) / 64
structure MapAt (w : World) (bm bw n : Nat) (f : Nat → Bool) : Prop where
  len : w.cell? ⟨bm, 0, none⟩ = some (.int .i64 n)
  row : w.cell? ⟨bm, 1, none⟩ = some (.slice (some ⟨bw, 0, none⟩) (wN n) (wN n))
  word : ∀ k, k < wN n → w.cell? ⟨bw, k, none⟩ = some (.int .u64 (wordOf f k : Nat))
set_option maxRecDepth 100000 in
set_option maxHeartbeats 1000000 in
theorem get27 (bm bw n : Nat) (f : Nat → Bool) (i : Nat) (hi : i < n) (hn : n ≤ 4096) (w : World) (hm : MapAt w bm bw n f) :
    Calls Try.prog 21 #[.pointer (some ⟨bm, 0, none⟩), .int .i64 i] w fun e w' => e = .returned (.bool (f i)) ∧ w = w' := by
  obtain ⟨h0, h1, h2⟩ := hm
  have hq : i / 64 < wN n := by unfold wN; omega
  have hw : wN n ≤ 64 := by unfold wN; omega
  have h3 := h2 _ hq
  have e1 : (0 : Int) ≤ (i : Int) := by omega
  have hb := Lib.hid (get_bit f i)
  clear h2
  go_enter Try.func21, Try.ntmps21
  go_wp2
  go_ret
  exact ⟨ret_bool hb.out, rfl⟩
theorem fA_lt : ∀ n x, fA n x < 256 ^ n
  | 0, x => by rw [fA_zero]; decide
  | n + 1, x => by
    have h := (fin_bd ⟨x % 256, by omega⟩).1
    simp only at h
    have ih := fA_lt n (x / 256)
    rw [fA_succ, Nat.pow_succ]
    generalize 256 ^ n = M at ih ⊢
    omega
theorem fBA_lt : ∀ n x, fB n (fA n x) * 3 < 256 ^ n
  | 0, x => by rw [fB_zero]; decide
  | n + 1, x => by
    have h := (fin_bd ⟨x % 256, by omega⟩)
    simp only at h
    have e1 : fA (n + 1) x % 256 = a1 (x % 256) := by rw [fA_succ]; omega
    have e2 : fA (n + 1) x / 256 = fA n (x / 256) := by rw [fA_succ]; omega
    have ih := fBA_lt n (x / 256)
    rw [fB_succ, e1, e2, Nat.pow_succ]
    generalize 256 ^ n = M at ih ⊢
    omega
theorem mm85 : mm 85 8 = 6148914691236517205 := by decide
theorem mm51 : mm 51 8 = 3689348814741910323 := by decide
theorem mm15 : mm 15 8 = 1085102592571150095 := by decide
theorem and85 (y : Nat) (hy : y < 18446744073709551616) : bits .and .u64 (y : Int) 6148914691236517205 = ((y &&& mm 85 8 : Nat) : Int) := by
  rw [mm85]; exact Go.u64_and_nat y 6148914691236517205 hy (by decide)
theorem and51 (y : Nat) (hy : y < 18446744073709551616) : bits .and .u64 (y : Int) 3689348814741910323 = ((y &&& mm 51 8 : Nat) : Int) := by
  rw [mm51]; exact Go.u64_and_nat y 3689348814741910323 hy (by decide)
theorem and15 (y : Nat) (hy : y < 18446744073709551616) : bits .and .u64 (y : Int) 1085102592571150095 = ((y &&& mm 15 8 : Nat) : Int) := by
  rw [mm15]; exact Go.u64_and_nat y 1085102592571150095 hy (by decide)
theorem wrapu (y : Nat) (hy : y < 18446744073709551616) : IntKind.u64.wrap (y : Int) = (y : Int) := by rw [Go.IntKind.wrap_u64]; omega
theorem stepA (x : Nat) (hx : x < 18446744073709551616) : IntKind.u64.wrap (bits .and .u64 ((x : Int) / 2) 6148914691236517205 + bits .and .u64 (x : Int) 6148914691236517205) = ((fA 8 x : Nat) : Int) := by
  have e : ((x : Int) / 2) = ((x / 2 : Nat) : Int) := by omega
  have h := fA_lt 8 x
  rw [e, and85 _ (by omega), and85 _ hx, ← Int.natCast_add]
  exact wrapu _ h
theorem stepB (x : Nat) (hx : x < 18446744073709551616) (hz : fB 8 x < 18446744073709551616) : IntKind.u64.wrap (bits .and .u64 ((x : Int) / 4) 3689348814741910323 + bits .and .u64 (x : Int) 3689348814741910323) = ((fB 8 x : Nat) : Int) := by
  have e : ((x : Int) / 4) = ((x / 4 : Nat) : Int) := by omega
  rw [e, and51 _ (by omega), and51 _ hx, ← Int.natCast_add]
  exact wrapu _ hz
theorem stepC (x : Nat) (hx : x * 3 < 18446744073709551616) : bits .and .u64 (IntKind.u64.wrap ((x : Int) / 16 + (x : Int))) 1085102592571150095 = ((fC 8 x : Nat) : Int) := by
  have e : ((x : Int) / 16 + (x : Int)) = ((x / 16 + x : Nat) : Int) := by omega
  rw [e, wrapu _ (by omega), and15 _ (by omega)]; rfl
theorem stepD (x y k : Nat) (hy : y = x + x / k) (hl : y < 18446744073709551616) : IntKind.u64.wrap ((x : Int) + (x : Int) / (k : Int)) = (y : Int) := by
  have e : ((x : Int) + (x : Int) / (k : Int)) = (y : Int) := by subst hy; rw [Int.natCast_add, Int.natCast_ediv]
  rw [e, wrapu _ hl]
theorem stepD1 (x y : Nat) (hy : y = x + x / 256) (hl : y < 18446744073709551616) : IntKind.u64.wrap ((x : Int) + (x : Int) / 256) = (y : Int) := stepD x y 256 hy hl
theorem stepD2 (x y : Nat) (hy : y = x + x / 65536) (hl : y < 18446744073709551616) : IntKind.u64.wrap ((x : Int) + (x : Int) / 65536) = (y : Int) := stepD x y 65536 hy hl
theorem stepD3 (x y : Nat) (hy : y = x + x / 4294967296) (hl : y < 18446744073709551616) : IntKind.u64.wrap ((x : Int) + (x : Int) / 4294967296) = (y : Int) := stepD x y 4294967296 hy hl
theorem stepF (s : Nat) : bits .and .i64 (wrap64 (s : Int)) 127 = ((s % 128 : Nat) : Int) := by
  rw [Go.i64_and127]; unfold wrap64; omega
set_option maxRecDepth 100000 in
set_option maxHeartbeats 1000000 in
theorem ones30 (x : Nat) (hx : x < 18446744073709551616) (w : World) : Calls Try.prog 20 #[.int .u64 x] w fun e w' => e = .returned (.int .i64 (pcn 8 x : Nat)) ∧ w = w' := by
  have hx' : (x : Int) < 18446744073709551616 := by omega
  have hx0 := Lib.hid hx
  clear hx
  have h0 : (0 : Int) ≤ (x : Int) := by omega
  go_enter Try.func20, Try.ntmps20
  go_wp2
  go_ret
  refine ⟨ret_int ?_, rfl⟩
  obtain ⟨u, v, s, hu, hv, hs, lu, lv, ls, hp⟩ := sum_bytes x
  have hA := fA_lt 8 x
  have hB := fBA_lt 8 x
  have e256 : (256 : Nat) ^ 8 = 18446744073709551616 := by decide
  rw [e256] at hA hB
  rw [stepA x hx0.out]
  have hB' : fB 8 (fA 8 x) < 18446744073709551616 := by omega
  rw [stepB _ hA hB', stepC _ hB]
  rw [show fC 8 (fB 8 (fA 8 x)) = fS 8 x from rfl]
  rw [stepD1 (fS 8 x) u hu lu]
  rw [stepD2 u v hv lv]
  rw [stepD3 v s hs ls]
  rw [stepF, hp]
structure IsMap (L : List Blk) (i j bm bw n : Nat) (f : Nat → Bool) : Prop where
  hi : L[i]? = some ⟨bm, [.int .i64 n, .slice (some ⟨bw, 0, none⟩) (wN n) (wN n)], 65, 2⟩
  hj : L[j]? = some ⟨bw, words f (wN n), 66, wN n⟩
theorem IsMap.at_ {B : Nat} {w0 w : World} {L : List Blk} {i j bm bw n : Nat} {f : Nat → Bool} (h : IsMap L i j bm bw n f) (hp : Hp B w0 w L) : MapAt w bm bw n f :=
  ⟨hp.cell h.hi rfl, hp.cell h.hi rfl, fun k hk => hp.cell h.hj (words_get f _ k hk)⟩
theorem IsMap.ne {L : List Blk} {i j bm bw n : Nat} {f : Nat → Bool} (h : IsMap L i j bm bw n f) : i ≠ j := by
  rintro rfl
  have := h.hi.symm.trans h.hj
  injection this with this
  injection this with _ _ ht
  exact absurd ht (by decide)
abbrev wBlk (bw n : Nat) (f : Nat → Bool) : Blk := ⟨bw, words f (wN n), 66, wN n⟩
theorem IsMap.set {L : List Blk} {i j bm bw n : Nat} {f : Nat → Bool} (h : IsMap L i j bm bw n f) (g : Nat → Bool) : IsMap (L.set j (wBlk bw n g)) i j bm bw n g :=
  ⟨by rw [List.getElem?_set_ne (Ne.symm h.ne)]; exact h.hi, by rw [List.getElem?_set_self (List.getElem?_eq_some_iff.1 h.hj).1]⟩
theorem IsMap.self {L : List Blk} {i j bm bw n : Nat} {f : Nat → Bool} (h : IsMap L i j bm bw n f) : L.set j (wBlk bw n f) = L := set_same h.hj
set_option maxRecDepth 100000 in
set_option maxHeartbeats 4000000 in
theorem put12_on (L : List Blk) (i j bm bw n : Nat) (f : Nat → Bool) (a m : Nat) (hn : n ≤ 4096) (ha : a + m ≤ n) (B : Nat) (w0 w : World) (hp : Hp B w0 w L) (hm : IsMap L i j bm bw n f) :
    Calls Try.prog 10 #[.pointer (some ⟨bm, 0, none⟩), .int .i64 a, .int .i64 m, .bool true] w fun e w' => e = .returned (.int .i64 0) ∧ Hp B w0 w' (L.set j (wBlk bw n (upd f a (a + m) true))) := by
  have HM := Lib.hid hm
  have HP := Lib.hid (show Hp B w0 w (L.set j (wBlk bw n f)) by rw [hm.self]; exact hp)
  clear hm
  have d1 : decide ((a : Int) < 0) = false := by simp
  have d2 : decide ((m : Int) < 0) = false := by simp
  have d3 : decide (n < a) = false := by simp; omega
  have d4 : decide ((n : Int) - (a : Int) < (m : Int)) = false := by simp; omega
  have d5 : (0 : Int) ≤ (a : Int) := by omega
  have d6 : (a : Int) ≤ n := by omega
  have d7 : (a : Int) + m ≤ n := by omega
  rcases Bool.eq_false_or_eq_true ((m : Int) == (n : Int)) with d8 | d8
  all_goals
    go_enter Try.func10, Try.ntmps10
    go_wp2_with (first | (refine wpList_loadOne_hp hp _ _ rfl wy _ _ (slot_tmp rfl) (by first | exact cell3 | exact cell63) _ _ _ _ HM.out.hi _ (by rfl) ?_; simp only [put_some, put_none, List.set_cons_succ, List.set_cons_zero]))
    clear hp d1 d2 d3 d4 d8
    go_loopg [9] m (fun k i wr => ∃ q : Nat, k + q = m ∧ i = .int .i64 (a + q : Nat) ∧ Hp B w0 wr (L.set j (wBlk bw n (upd f a (a + q) true))))
    case atStart => exact ⟨0, by omega, rfl, by rw [Nat.add_zero, upd_zero]; exact HP.out⟩
    case round =>
      obtain ⟨q, hkq, rfl, hp⟩ := hrel
      by_cases hlt : q < m
      · have HM2 := Lib.hid (HM.out.set (upd f a (a + q) true))
        have HU := Lib.hid (upd_succ f a (a + q) true (by omega))
        have hwd := words_get (upd f a (a + q) true) (wN n) ((a + q) / 64) (by unfold wN; omega)
        have hst := Lib.hid (or_store (upd f a (a + q) true) (wN n) (a + q) (by unfold wN; omega))
        have hq : (a + q) / 64 < wN n := by unfold wN; omega
        have hwn : wN n ≤ 64 := by unfold wN; omega
        have hlt2 : a + q < a + m := by omega
        have hx1 : a + q < n := by omega
        have hx2 : a + (q + 1) = a + q + 1 := by omega
        have HX2 := Lib.hid hx2
        clear hx2
        generalize a + q = x at *
        have e1 : (0 : Int) ≤ (x : Int) := by omega
        have E2 : RowKit.Hid (wrap64 ((x : Int) / 64) = (x : Int) / 64) := Lib.hid (by unfold wrap64; omega)
        have e3 : (x : Int).tmod 64 = (x : Int) % 64 := Int.tmod_eq_emod_of_nonneg e1
        have e4 : (0 : Int) ≤ (x : Int) / 64 := by omega
        have e5 : (x : Int) / 64 < (wN n : Int) := by omega
        have e6 : (0 : Int) ≤ (x : Int) % 64 := by omega
        have e7 : (x : Int) % 64 ≤ 64 := by omega
        have e8 : (x : Int) < (a : Int) + m := by omega
        go_wp2_with fail
        refine wp_region_keeps [_, _] (Keeps.two hp.drew HM2.out.hi HM2.out.hj) [13] [(0, true), (1, true), (2, true), (3, true), (4, true), (5, true), (6, true), (7, true), (8, true), (9, true), (10, true), (11, true), (12, true), (13, false)] (by kernel_rfl) (by kernel_rfl) rfl (by kernel_rfl) (fun _ _ d _ _ h => by cases d <;> exact h) ?_
        replace hp := hp.drew
        repeat' (with_reducible refine plan_is ?_); first | (with_reducible refine plan_nil ?_) | ((with_reducible refine plan_t ?_); refine plan_tk rfl ?_; (first | ((with_reducible refine tk_mv _ rfl ?_); refine tM rfl ?_) | ((with_reducible refine tk_ld _ _ rfl ?_); first | refine tL rfl (slot_tmp rfl) (fun w hS => hS.loadOne cell63 at0 _ _ (by rfl)) ?_ | refine tL rfl (slot_tmp rfl) (fun w hS => hS.loadOne cell66 at1 _ _ hwd) ?_ | refine tO rfl (slot_tmp rfl) cell63 aa14 ?_) | refine tG (fun w _ => (by go_simp; try rfl)) ?_); try simp only [put_some, put_none, eval_tmp, eval_const, List.set_cons_succ, List.set_cons_zero, List.getD_cons_succ, List.getD_cons_zero, wrap_eq, E2.out]) | (refine plan_do rfl (fun K hK => ?_); go_wp2_with (first | (refine wpList_storeOne_hp hp _ _ _ rfl wy _ _ (slot_tmp rfl) _ (slot_tmp rfl) cell66 _ _ _ _ HM2.out.hj (by rw [words_len]; exact hq) rfl ?_; clear hp; intro w1 hp; simp only [put_some, put_none, List.set_cons_succ, List.set_cons_zero])); (first | refine hK.out _ _ (.inl rfl) ?_ | refine hK.out _ _ (.inr (Keeps.two hp aa14 aa14)) ?_); clear hK K; try simp only [put_some, put_none, eval_tmp, eval_const, List.set_cons_succ, List.set_cons_zero, List.getD_cons_succ, List.getD_cons_zero, wrap_eq, E2.out])
        have h := hp
        rw [List.set_set, hst.out, ← HU.out, ← HX2.out] at h
        go_wp2_with fail
        clear hp
        go_roundg (gk - 1)
        case measure => omega
        case rel => exact ⟨q + 1, by omega, by rw [HX2.out]; go_num, h⟩
      · have hq : q = m := by omega
        rw [hq] at hp
        have e8 : decide (((a + q : Nat) : Int) < (a : Int) + m) = false := by simp; omega
        clear hq
        go_wp2_with fail
        go_ret
        exact ⟨rfl, hp⟩
theorem info66 : (Try.prog.info? 66).map (fun i => (i.zero, i.size, i.bytes)) = some (some (.int .u64 0), 1, 8) := by kernel_rfl
def noBit : Nat → Bool := fun _ => false
theorem word_no (k : Nat) : wordOf noBit k = 0 := by
  apply Eq.symm
  exact wordOf_ext (by decide) fun j _ => by simp [noBit]
theorem words_no (W : Nat) : words noBit W = List.replicate W (.int .u64 0) := by
  unfold words
  apply List.ext_getElem?
  intro k
  by_cases h : k < W
  · simp [h, word_no]
  · simp [h]
def NewPost (w : World) (n : Nat) (e : Ending) (w' : World) : Prop := ∃ bm bw, e = .returned (.tuple #[.pointer (some ⟨bm, 0, none⟩), .int .i64 0]) ∧ bm ≠ bw ∧ Fresh w w' ⟨bm, [.int .i64 n, .slice (some ⟨bw, 0, none⟩) (wN n) (wN n)], 65, 2⟩ ∧ Fresh w w' (wBlk bw n noBit) ∧ Below w.heap.size w w'
set_option maxRecDepth 100000 in
set_option maxHeartbeats 1000000 in
theorem new10_yes (n : Nat) (h : n ≤ 4096) (w : World) : Calls Try.prog 8 #[.int .i64 n] w (NewPost w n) := by
  obtain ⟨i0, hi0, hz0, hz1, hz2⟩ := info_parts info66
  have hp := Hp.start w
  have d1 : decide ((n : Int) < 0) = false := by simp
  have d2 : decide ((4096 : Int) < (n : Int)) = false := by simp; omega
  go_enter Try.func8, Try.ntmps8
  go_wp2_with (first | (refine wpList_makeSlice_hp hp _ _ _ rfl wy 66 i0 _ Try.underlying63 hi0 hz0 hz1 rfl _ (slot_tmp rfl) (slot_tmp rfl) (wN n) (by unfold wN; omega) (by rw [hz2]; unfold wN; omega) (by unfold wN; omega) ?_; clear hp; intro bw w1 hp; rw [← words_no] at hp; simp only [put_some, put_none, List.set_cons_succ, List.set_cons_zero]) | go_skip | ((first | ((with_reducible refine pre_box _ _ rfl ?_); refine lB hp rfl (slot_tmp rfl) rfl ?_; clear hp; intro b w1 hp) | ((with_reducible refine pre_load _ _ rfl ?_); first | refine lO hp rfl (slot_tmp rfl) cell3 aa14 ?_ | refine lA hp rfl (slot_tmp rfl) agg65 aa14 ?_) | ((with_reducible refine pre_store _ _ _ rfl ?_); (first | refine sO hp rfl (slot_tmp rfl) cell3 aa14 ?_ | refine sA hp rfl (slot_tmp rfl) (slot_tmp rfl) agg65 aa14 ?_ | refine sG hp rfl (slot_tmp rfl) (slot_tmp rfl) agg65 aa14 ?_); clear hp; intro w1 hp; simp only [spl, List.set_cons_zero, List.set_cons_succ] at hp)); simp only [put_some, put_none, List.set_cons_succ, List.set_cons_zero]))
  go_ret2
  refine ⟨b, bw, rfl, ?_, hp.fresh at0, hp.fresh at1, hp.below⟩
  intro h
  have := hp.nodup
  simp [h] at this
def cb (g : Nat → Bool) : Nat → Nat
  | 0 => 0
  | n + 1 => cb g n + (g n).toNat
theorem cb_congr {g h : Nat → Bool} : ∀ n, (∀ i, i < n → g i = h i) → cb g n = cb h n
  | 0, _ => rfl
  | n + 1, e => by simp only [cb]; rw [cb_congr n (fun i hi => e i (by omega)), e n (by omega)]
theorem cb_add (g : Nat → Bool) (a : Nat) : ∀ b, cb g (a + b) = cb g a + cb (fun i => g (a + i)) b
  | 0 => by simp [cb]
  | b + 1 => by rw [← Nat.add_assoc]; simp only [cb]; rw [cb_add g a b]; omega
theorem cb_le (g : Nat → Bool) : ∀ n, cb g n ≤ n
  | 0 => by simp [cb]
  | n + 1 => by have := cb_le g n; have : (g n).toNat ≤ 1 := Bool.toNat_le _; simp only [cb]; omega
theorem p1_bits : ∀ (c : Fin 256), p1 c.val = cb c.val.testBit 8 := by decide +kernel
theorem pcn_bits : ∀ n x, pcn n x = cb x.testBit (8 * n)
  | 0, _ => rfl
  | n + 1, x => by
    have h := p1_bits ⟨x % 256, by omega⟩
    simp only at h
    rw [show 8 * (n + 1) = 8 + 8 * n by omega, cb_add, pcn, h, pcn_bits n]
    congr 1
    · refine cb_congr 8 fun i hi => ?_
      rw [show (256 : Nat) = 2 ^ 8 from rfl, Nat.testBit_mod_two_pow]; simp [hi]
    · refine cb_congr _ fun i _ => ?_
      rw [show (256 : Nat) = 2 ^ 8 from rfl, Nat.testBit_div_two_pow, Nat.add_comm]
def cW (f : Nat → Bool) (k : Nat) : Nat := cb f (64 * k)
theorem cW_succ (f : Nat → Bool) (k : Nat) : cW f (k + 1) = cW f k + pcn 8 (wordOf f k) := by
  unfold cW
  rw [show 64 * (k + 1) = 64 * k + 64 by omega, cb_add, pcn_bits]
  congr 1
  refine cb_congr 64 fun i hi => ?_
  rw [testBit_wordOf]; simp [hi]
theorem cb_end {f : Nat → Bool} {n : Nat} (h : ∀ i, n ≤ i → f i = false) (b : Nat) : cb f (n + b) = cb f n := by
  rw [cb_add]
  have : ∀ b, cb (fun i => f (n + i)) b = 0 := by
    intro b
    induction b with
    | zero => rfl
    | succ b ih => simp only [cb]; rw [ih, h (n + b) (by omega)]; rfl
  rw [this]; rfl
theorem cW_all {f : Nat → Bool} {n : Nat} (h : ∀ i, n ≤ i → f i = false) : cW f (wN n) = cb f n := by
  unfold cW
  rw [show 64 * wN n = n + (64 * wN n - n) by unfold wN; omega]
  exact cb_end h _
set_option maxRecDepth 100000 in
set_option maxHeartbeats 1000000 in
theorem count20 (bm bw n : Nat) (f : Nat → Bool) (hn : n ≤ 4096) (hz : ∀ i, n ≤ i → f i = false) (w : World) (hm : MapAt w bm bw n f) :
    Calls Try.prog 12 #[.pointer (some ⟨bm, 0, none⟩)] w fun e w' => e = .returned (.int .i64 (cb f n : Nat)) ∧ w = w' := by
  have HZ := Lib.hid hz
  have h0 := hm.len
  have h1 := hm.row
  have HM := Lib.hid hm
  clear hm hz
  go_enter Try.func12, Try.ntmps12
  go_wp2
  clear h0 h1
  go_loop [3, 13] (fun c i => ∃ q : Nat, q ≤ wN n ∧ i = .int .i64 q ∧ c = .int .i64 (cW f q : Nat)) (fun _ i => wN n - (intOf i).toNat)
  case atStart => exact ⟨0, by omega, rfl, rfl⟩
  case round =>
    obtain ⟨q, hq, rfl, rfl⟩ := hrel
    have h64 : wN n ≤ 64 := by unfold wN; omega
    by_cases hlt : q < wN n
    · have hc := HM.out.word q hlt
      have h2 : cW f q ≤ 4096 := by have := cb_le f (64 * q); unfold cW; omega
      have h3 := pcn_le 8 (wordOf f q)
      have HS := Lib.hid (cW_succ f q)
      have K := Lib.hid (ones30 (wordOf f q) (wordOf_lt f q))
      have e1 : (0 : Int) ≤ (q : Int) := by omega
      have e2 : (q : Int) < (wN n : Int) := by omega
      go_wp2_with (go_at_call 20; refine (K.out _).mono ?_; rintro e w' ⟨rfl, rfl⟩)
      go_round
      case rel => exact ⟨q + 1, by omega, by go_num, by rw [HS.out]; go_num⟩
      case measure => simp [intOf]; omega
    · have e2 : decide (q < wN n) = false := by simp; omega
      have hqe : q = wN n := by omega
      have HQ := Lib.hid hqe
      clear hqe
      go_wp2
      go_ret
      refine ⟨ret_int ?_, rfl⟩
      rw [HQ.out, cW_all HZ.out]
def AllOn (f : Nat → Bool) (b m : Nat) (on : Bool) : Prop := ∀ j, j < m → f (b + j) = on
def RunIs (f : Nat → Bool) (N s m : Nat) (on : Bool) (r : Int) : Prop :=
  (r = -1 ∧ ∀ b, s ≤ b → b + m ≤ N → ¬ AllOn f b m on) ∨ ∃ b : Nat, r = b ∧ s ≤ b ∧ b + m ≤ N ∧ AllOn f b m on ∧ ∀ b', s ≤ b' → b' < b → ¬ AllOn f b' m on
theorem RunIs.eq {f : Nat → Bool} {N s m : Nat} {on : Bool} {r r' : Int} (h : RunIs f N s m on r) (h' : RunIs f N s m on r') : r = r' := by
  rcases h with ⟨rfl, h⟩ | ⟨b, rfl, hb, hN, ha, h⟩
  · rcases h' with ⟨rfl, _⟩ | ⟨b, rfl, hb, hN, ha, _⟩
    · rfl
    · exact absurd ha (h b hb hN)
  · rcases h' with ⟨rfl, h'⟩ | ⟨b', rfl, hb', hN', ha', h'⟩
    · exact absurd ha (h' b hb hN)
    · rcases Nat.lt_trichotomy b b' with hl | hl | hl
      · exact absurd ha (h' b hb hl)
      · rw [hl]
      · exact absurd ha' (h b' hb' hl)
structure RunAt (f : Nat → Bool) (s m : Nat) (on : Bool) (b i : Nat) : Prop where
  sb : s ≤ b
  bi : b ≤ i
  lt : i < b + m
  on_ : ∀ j, b ≤ j → j < i → f j = on
  no : ∀ b', s ≤ b' → b' < b → ¬ AllOn f b' m on
theorem RunAt.start (f : Nat → Bool) (s m : Nat) (on : Bool) (hm : 0 < m) : RunAt f s m on s s := ⟨Nat.le_refl _, Nat.le_refl _, by omega, fun j _ _ => by omega, fun b' _ _ => by omega⟩
theorem RunAt.off {f : Nat → Bool} {s m : Nat} {on : Bool} {b i : Nat} (h : RunAt f s m on b i) (hm : 0 < m) (hf : f i ≠ on) : RunAt f s m on (i + 1) (i + 1) := by
  have h1 := h.sb
  have h2 := h.bi
  have h3 := h.lt
  refine ⟨by omega, Nat.le_refl _, by omega, fun j _ _ => by omega, fun b' hs hb ha => ?_⟩
  by_cases hbb : b' < b
  · exact h.no b' hs hbb ha
  · have := ha (i - b') (by omega)
    rw [show b' + (i - b') = i by omega] at this
    exact hf this
theorem RunAt.next {f : Nat → Bool} {s m : Nat} {on : Bool} {b i : Nat} (h : RunAt f s m on b i) (hf : f i = on) (hne : i + 1 ≠ b + m) : RunAt f s m on b (i + 1) := by
  have h2 := h.bi
  have h3 := h.lt
  refine ⟨h.sb, by omega, by omega, fun j hj hji => ?_, h.no⟩
  by_cases hj2 : j = i
  · rw [hj2]; exact hf
  · exact h.on_ j hj (by omega)
theorem RunAt.found {f : Nat → Bool} {N s m : Nat} {on : Bool} {b i : Nat} (h : RunAt f s m on b i) (hf : f i = on) (he : i + 1 = b + m) (hN : i < N) : RunIs f N s m on b := by
  refine .inr ⟨b, rfl, h.sb, by omega, fun j hj => ?_, h.no⟩
  by_cases hj2 : b + j = i
  · rw [hj2]; exact hf
  · exact h.on_ _ (by omega) (by omega)
theorem RunAt.end_ {f : Nat → Bool} {N s m : Nat} {on : Bool} {b i : Nat} (h : RunAt f s m on b i) (hN : N ≤ i) : RunIs f N s m on (-1) := by
  refine .inl ⟨rfl, fun b' hs hb ha => ?_⟩
  have h3 := h.lt
  exact h.no b' hs (by omega) ha
def RunPost (f : Nat → Bool) (N s m : Nat) (on : Bool) (w : World) (e : Ending) (w' : World) : Prop := ∃ r : Int, e = .returned (.int .i64 r) ∧ RunIs f N s m on r ∧ w = w'
set_option maxRecDepth 100000 in
set_option maxHeartbeats 4000000 in
theorem run16_on (bm bw n : Nat) (f : Nat → Bool) (hn : n ≤ 4096) (s : Nat) (m : Nat) (hm0 : 0 < m) (hm63 : m ≤ 9223372036854775807) (a : Int) (has : (a < 0 ∧ s = 0) ∨ (0 ≤ a ∧ a = s)) (w : World) (hm : MapAt w bm bw n f) :
    Calls Try.prog 13 #[.pointer (some ⟨bm, 0, none⟩), .int .i64 a, .int .i64 m, .bool true] w (RunPost f n s m true w) := by
  have HM := Lib.hid hm
  have h0 := hm.len
  clear hm
  have d1 : decide ((m : Int) < 1) = false := by simp; omega
  have HS := Lib.hid has
  clear has
  go_enter Try.func13, Try.ntmps13
  go_wp2
  all_goals
    go_loop [9, 10] (fun b i => ∃ bb ii : Nat, b = .int .i64 bb ∧ i = .int .i64 ii ∧ RunAt f s m true bb ii) (fun _ i => n - (intOf i).toNat)
    case atStart => exact ⟨s, s, by have := HS.out; congr 1; omega, by have := HS.out; congr 1; omega, RunAt.start f s m _ hm0⟩
    case round =>
      obtain ⟨b, i, rfl, rfl, hr⟩ := hrel
      have r1 := hr.bi
      have r2 := hr.lt
      have HR := Lib.hid hr
      clear hr
      by_cases hlt : i < n
      · have e1 : (i : Int) < n := by omega
        have e2 : (0 : Int) ≤ (b : Int) := by omega
        have e3 : (b : Int) ≤ i := by omega
        have e4 : (i : Int) ≤ 4096 := by omega
        have K0 := get27 bm bw n f i hlt hn w HM.out
        by_cases hf : f i = true
        · have hf2 := hf
          rw [hf] at K0
          have K := Lib.hid K0
          have HF := Lib.hid hf2
          clear K0 hf hf2
          by_cases hq : (i : Int) - b + 1 = m
          · have HQ := Lib.hid hq
            have e5 : ((i : Int) - b + 1 == (m : Int)) = true := by simp [hq]
            clear hq
            go_wp2_with (go_at_call 21; refine (K.out).mono ?_; rintro e w' ⟨rfl, rfl⟩)
            go_ret
            exact ⟨b, rfl, HR.out.found HF.out (by have := HQ.out; omega) hlt, rfl⟩
          · have HQ := Lib.hid hq
            go_wp2_with (go_at_call 21; refine (K.out).mono ?_; rintro e w' ⟨rfl, rfl⟩)
            go_round
            case rel => exact ⟨b, i + 1, rfl, by go_num, HR.out.next HF.out (by have := HQ.out; omega)⟩
            case measure => simp [intOf]; omega
        · have hf2 : f i = false := by cases h : f i <;> simp_all
          rw [hf2] at K0
          have K := Lib.hid K0
          have HF := Lib.hid hf
          clear K0 hf hf2
          go_wp2_with (go_at_call 21; refine (K.out).mono ?_; rintro e w' ⟨rfl, rfl⟩)
          go_round
          case rel => exact ⟨i + 1, i + 1, by go_num, by go_num, HR.out.off hm0 HF.out⟩
          case measure => simp [intOf]; omega
      · have e1 : decide (i < n) = false := by simp; omega
        go_wp2
        go_ret
        exact ⟨-1, rfl, HR.out.end_ (by omega), rfl⟩
set_option maxRecDepth 100000 in
set_option maxHeartbeats 4000000 in
theorem run16_off (bm bw n : Nat) (f : Nat → Bool) (hn : n ≤ 4096) (s : Nat) (m : Nat) (hm0 : 0 < m) (hm63 : m ≤ 9223372036854775807) (a : Int) (has : (a < 0 ∧ s = 0) ∨ (0 ≤ a ∧ a = s)) (w : World) (hm : MapAt w bm bw n f) :
    Calls Try.prog 13 #[.pointer (some ⟨bm, 0, none⟩), .int .i64 a, .int .i64 m, .bool false] w (RunPost f n s m false w) := by
  have HM := Lib.hid hm
  have h0 := hm.len
  clear hm
  have d1 : decide ((m : Int) < 1) = false := by simp; omega
  have HS := Lib.hid has
  clear has
  go_enter Try.func13, Try.ntmps13
  go_wp2
  all_goals
    go_loop [9, 10] (fun b i => ∃ bb ii : Nat, b = .int .i64 bb ∧ i = .int .i64 ii ∧ RunAt f s m false bb ii) (fun _ i => n - (intOf i).toNat)
    case atStart => exact ⟨s, s, by have := HS.out; congr 1; omega, by have := HS.out; congr 1; omega, RunAt.start f s m _ hm0⟩
    case round =>
      obtain ⟨b, i, rfl, rfl, hr⟩ := hrel
      have r1 := hr.bi
      have r2 := hr.lt
      have HR := Lib.hid hr
      clear hr
      by_cases hlt : i < n
      · have e1 : (i : Int) < n := by omega
        have e2 : (0 : Int) ≤ (b : Int) := by omega
        have e3 : (b : Int) ≤ i := by omega
        have e4 : (i : Int) ≤ 4096 := by omega
        have K0 := get27 bm bw n f i hlt hn w HM.out
        by_cases hf : f i = false
        · have hf2 := hf
          rw [hf] at K0
          have K := Lib.hid K0
          have HF := Lib.hid hf2
          clear K0 hf hf2
          by_cases hq : (i : Int) - b + 1 = m
          · have HQ := Lib.hid hq
            have e5 : ((i : Int) - b + 1 == (m : Int)) = true := by simp [hq]
            clear hq
            go_wp2_with (go_at_call 21; refine (K.out).mono ?_; rintro e w' ⟨rfl, rfl⟩)
            go_ret
            exact ⟨b, rfl, HR.out.found HF.out (by have := HQ.out; omega) hlt, rfl⟩
          · have HQ := Lib.hid hq
            go_wp2_with (go_at_call 21; refine (K.out).mono ?_; rintro e w' ⟨rfl, rfl⟩)
            go_round
            case rel => exact ⟨b, i + 1, rfl, by go_num, HR.out.next HF.out (by have := HQ.out; omega)⟩
            case measure => simp [intOf]; omega
        · have hf2 : f i = true := by cases h : f i <;> simp_all
          rw [hf2] at K0
          have K := Lib.hid K0
          have HF := Lib.hid hf
          clear K0 hf hf2
          go_wp2_with (go_at_call 21; refine (K.out).mono ?_; rintro e w' ⟨rfl, rfl⟩)
          go_round
          case rel => exact ⟨i + 1, i + 1, by go_num, by go_num, HR.out.off hm0 HF.out⟩
          case measure => simp [intOf]; omega
      · have e1 : decide (i < n) = false := by simp; omega
        go_wp2
        go_ret
        exact ⟨-1, rfl, HR.out.end_ (by omega), rfl⟩
set_option maxRecDepth 100000 in
set_option maxHeartbeats 1000000 in
theorem run16_low (bm : Nat) (a m : Int) (on : Bool) (hm : m < 1) (w : World) : Calls Try.prog 13 #[.pointer (some ⟨bm, 0, none⟩), .int .i64 a, .int .i64 m, .bool on] w fun e w' => e = .returned (.int .i64 (-1)) ∧ w = w' := by
  go_enter Try.func13, Try.ntmps13
  go_wp2
  go_ret
  exact ⟨rfl, rfl⟩
def RunI (f : Nat → Bool) (N : Nat) (a m : Int) (on : Bool) (r : Int) : Prop := (m < 1 ∧ r = -1) ∨ (1 ≤ m ∧ RunIs f N a.toNat m.toNat on r)
theorem RunI.eq {f : Nat → Bool} {N : Nat} {a m : Int} {on : Bool} {r r' : Int} (h : RunI f N a m on r) (h' : RunI f N a m on r') : r = r' := by
  rcases h with ⟨h1, rfl⟩ | ⟨h1, h2⟩
  · rcases h' with ⟨_, rfl⟩ | ⟨h3, _⟩
    · rfl
    · omega
  · rcases h' with ⟨h3, _⟩ | ⟨_, h4⟩
    · omega
    · exact h2.eq h4
def RunIPost (f : Nat → Bool) (N : Nat) (a m : Int) (on : Bool) (w : World) (e : Ending) (w' : World) : Prop := ∃ r : Int, e = .returned (.int .i64 r) ∧ RunI f N a m on r ∧ w = w'
theorem run16 (bm bw n : Nat) (f : Nat → Bool) (hn : n ≤ 4096) (a m : Int) (on : Bool) (hm63 : m ≤ 9223372036854775807) (w : World) (hm : MapAt w bm bw n f) :
    Calls Try.prog 13 #[.pointer (some ⟨bm, 0, none⟩), .int .i64 a, .int .i64 m, .bool on] w (RunIPost f n a m on w) := by
  by_cases h : m < 1
  · exact (run16_low bm a m on h w).mono fun e w' ⟨he, hw⟩ => ⟨-1, he, .inl ⟨h, rfl⟩, hw⟩
  · obtain ⟨k, rfl⟩ := Int.eq_ofNat_of_zero_le (show 0 ≤ m by omega)
    have hs : (a < 0 ∧ a.toNat = 0) ∨ (0 ≤ a ∧ a = a.toNat) := by omega
    cases on
    · exact (run16_off bm bw n f hn a.toNat k (by omega) (by omega) a hs w hm).mono fun e w' ⟨r, he, hr, hw⟩ => ⟨r, he, .inr ⟨by omega, hr⟩, hw⟩
    · exact (run16_on bm bw n f hn a.toNat k (by omega) (by omega) a hs w hm).mono fun e w' ⟨r, he, hr, hw⟩ => ⟨r, he, .inr ⟨by omega, hr⟩, hw⟩
section
variable {w : World} {w0 : World} {L : List Blk}
theorem Hp.adopt2 {B : Nat} {w' : World} {p q : Blk} (hp : Hp B w0 w L) (hb : Below w.heap.size w w') (hf : Fresh w w' p) (hg : Fresh w w' q) (hne : p.id ≠ q.id) : Hp B w0 w' (p :: q :: L) := by
  have h := hp.adopt hb hg
  refine ⟨h.below, h.size, ?_, ?_⟩
  · simp only [List.map_cons, List.nodup_cons, List.mem_cons]
    refine ⟨?_, by simpa using h.nodup⟩
    rintro (h1 | h1)
    · exact hne h1
    · obtain ⟨r, hr, he⟩ := List.mem_map.1 h1
      have := (hp.lt hr).2
      have := hf.1
      omega
  · intro r hr
    rcases List.mem_cons.1 hr with rfl | hr
    · exact ⟨Nat.le_trans hp.size hf.1, hf.2⟩
    · exact h.own r hr
end
abbrev mBlk (bm bw n : Nat) : Blk := ⟨bm, [.int .i64 n, .slice (some ⟨bw, 0, none⟩) (wN n) (wN n)], 65, 2⟩
theorem isMap0 (bm bw n : Nat) (f : Nat → Bool) (L : List Blk) : IsMap (mBlk bm bw n :: wBlk bw n f :: L) 0 1 bm bw n f := ⟨rfl, rfl⟩
section
variable {P : Program} {ops : Array Oper} {rest : List Oper} {o : Oper} {a : Act} {w : World} {Q : Exit → Act → World → Prop} {w0 : World} {L : List Blk}
end
end Go.Proofs.Ytcjbepaclbhjaaa
