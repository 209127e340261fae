/- Bytes read as a map: the plain law. No program in sight. -/
import Derived.Test.YtfnadjlnnfmnmaaNCopy
set_option linter.unusedSimpArgs false
set_option linter.unusedVariables false
namespace Go.Proofs.Ytfnadjlnnfmnmaa
open Go.RowKit

/-- The bits of bytes. -/
def rawB (bs : List Nat) : Nat → Bool := fun i => (bs.getD (i / 8) 0).testBit (i % 8)
/-- The first n of them. -/
def cutB (bs : List Nat) (n : Nat) : Nat → Bool := fun i => decide (i < n) && rawB bs i
theorem cutB_out (bs : List Nat) (n : Nat) : ∀ i, n ≤ i → cutB bs n i = false := by
  intro i hi
  have : decide (i < n) = false := by simp; omega
  simp only [cutB, this, Bool.false_and]
theorem cutB_zero (bs : List Nat) : cutB bs 0 = noBit := by funext i; simp [cutB, noBit]
theorem getD_lt {bs : List Nat} (h : ∀ x ∈ bs, x < 256) (q : Nat) : bs.getD q 0 < 256 := by
  rw [List.getD_eq_getElem?_getD]
  rcases Nat.lt_or_ge q bs.length with hq | hq
  · rw [List.getElem?_eq_getElem hq]; exact h _ (List.getElem_mem hq)
  · rw [List.getElem?_eq_none hq]; decide
theorem or_byte {bs : List Nat} (h : ∀ x ∈ bs, x < 256) (q : Nat) : (wordOf (cutB bs (8 * q)) (q / 8) ||| bs.getD q 0 * 2 ^ (8 * (q % 8))) = wordOf (cutB bs (8 * (q + 1))) (q / 8) := by
  have hb := getD_lt h q
  have hsh : bs.getD q 0 * 2 ^ (8 * (q % 8)) < 2 ^ 64 := by
    have h1 : bs.getD q 0 * 2 ^ (8 * (q % 8)) < 2 ^ 8 * 2 ^ (8 * (q % 8)) := Nat.mul_lt_mul_of_pos_right hb (Nat.two_pow_pos _)
    rw [← Nat.pow_add] at h1
    exact Nat.lt_of_lt_of_le h1 (Nat.pow_le_pow_right (by decide) (by omega))
  refine wordOf_ext (Nat.or_lt_two_pow (wordOf_lt _ _) hsh) fun j hj => ?_
  rw [Nat.testBit_or, testBit_wordOf, Nat.testBit_mul_two_pow]
  simp only [hj, decide_true, Bool.true_and]
  unfold cutB rawB
  have e1 : (64 * (q / 8) + j) / 8 = 8 * (q / 8) + j / 8 := by omega
  have e2 : (64 * (q / 8) + j) % 8 = j % 8 := by omega
  rw [e1, e2]
  by_cases h1 : 64 * (q / 8) + j < 8 * q
  · have h2 : decide (64 * (q / 8) + j < 8 * q) = true := by simp [h1]
    have h3 : decide (64 * (q / 8) + j < 8 * (q + 1)) = true := by simp; omega
    have h4 : decide (8 * (q % 8) ≤ j) = false := by simp; omega
    rw [h2, h3, h4]; simp
  · have h2 : decide (64 * (q / 8) + j < 8 * q) = false := by simp; omega
    have h4 : decide (8 * (q % 8) ≤ j) = true := by simp; omega
    rw [h2, h4]
    simp only [Bool.false_and, Bool.false_or, Bool.true_and]
    by_cases h5 : 64 * (q / 8) + j < 8 * (q + 1)
    · have h6 : decide (64 * (q / 8) + j < 8 * (q + 1)) = true := by simp [h5]
      rw [h6, Bool.true_and, show 8 * (q / 8) + j / 8 = q by omega, show j - 8 * (q % 8) = j % 8 by omega]
    · have h6 : decide (64 * (q / 8) + j < 8 * (q + 1)) = false := by simp; omega
      rw [h6, Bool.false_and]
      exact Nat.testBit_lt_two_pow (Nat.lt_of_lt_of_le hb (Nat.pow_le_pow_right (n := 2) (by decide) (show 8 ≤ j - 8 * (q % 8) by omega)))
theorem other_byte (bs : List Nat) (q k : Nat) (h : k ≠ q / 8) : wordOf (cutB bs (8 * (q + 1))) k = wordOf (cutB bs (8 * q)) k := wordOf_congr fun j hj => by
  unfold cutB
  have : decide (64 * k + j < 8 * (q + 1)) = decide (64 * k + j < 8 * q) := by
    by_cases h1 : 64 * k + j < 8 * q
    · have : 64 * k + j < 8 * (q + 1) := by omega
      simp [h1, this]
    · have : ¬ 64 * k + j < 8 * (q + 1) := by omega
      simp [h1, this]
  rw [this]
theorem words_byte {bs : List Nat} (W q : Nat) (h : q / 8 < W) : (words (cutB bs (8 * q)) W).set (q / 8) (.int .u64 (wordOf (cutB bs (8 * (q + 1))) (q / 8) : Nat)) = words (cutB bs (8 * (q + 1))) W := by
  apply List.ext_getElem?
  intro k
  rw [List.getElem?_set, words_len]
  by_cases hk : q / 8 = k
  · rw [if_pos hk, if_pos h, ← hk, words_get _ _ _ h]
  · rw [if_neg hk]
    by_cases hkW : k < W
    · rw [words_get _ _ _ hkW, words_get _ _ _ hkW, other_byte bs q k (fun e => hk e.symm)]
    · rw [List.getElem?_eq_none (by rw [words_len]; omega), List.getElem?_eq_none (by rw [words_len]; omega)]
theorem div8_nat (x : Nat) : ((x : Int) / 8).toNat = x / 8 := by omega
theorem byte_or_store {bs : List Nat} (h : ∀ x ∈ bs, x < 256) (W q : Nat) (hq : q / 8 < W) :
    (words (cutB bs (8 * q)) W).set ((q : Int) / 8).toNat (.int .u64 (bits .or .u64 (wordOf (cutB bs (8 * q)) (q / 8) : Nat) (IntKind.u64.wrap ((bs.getD q 0 : Nat) * 2 ^ (8 * ((q : Int) % 8)).toNat)))) = words (cutB bs (8 * (q + 1))) W := by
  have hb := getD_lt h q
  have e1 : (8 * ((q : Int) % 8)).toNat = 8 * (q % 8) := by omega
  have hsh : bs.getD q 0 * 2 ^ (8 * (q % 8)) < 2 ^ 64 := by
    have h1 : bs.getD q 0 * 2 ^ (8 * (q % 8)) < 2 ^ 8 * 2 ^ (8 * (q % 8)) := Nat.mul_lt_mul_of_pos_right hb (Nat.two_pow_pos _)
    rw [← Nat.pow_add] at h1
    exact Nat.lt_of_lt_of_le h1 (Nat.pow_le_pow_right (by decide) (by omega))
  have e2 : ((bs.getD q 0 : Nat) : Int) * 2 ^ (8 * (q % 8)) = ((bs.getD q 0 * 2 ^ (8 * (q % 8)) : Nat) : Int) := by rw [Int.natCast_mul, Int.natCast_pow]; rfl
  have e3 : IntKind.u64.wrap ((bs.getD q 0 * 2 ^ (8 * (q % 8)) : Nat) : Int) = ((bs.getD q 0 * 2 ^ (8 * (q % 8)) : Nat) : Int) := by
    rw [Go.IntKind.wrap_u64]; generalize bs.getD q 0 * 2 ^ (8 * (q % 8)) = z at hsh; omega
  rw [e1, e2, e3, Go.u64_or_nat _ _ (wordOf_lt _ _) hsh, or_byte h, div8_nat, words_byte W q hq]
/-- The last word cut. -/
theorem mask_word (g : Nat → Bool) (n : Nat) : (wordOf g (n / 64) &&& (2 ^ (n % 64) - 1)) = wordOf (fun i => decide (i < n) && g i) (n / 64) := by
  refine wordOf_ext (Nat.lt_of_le_of_lt Nat.and_le_left (wordOf_lt _ _)) fun j hj => ?_
  rw [Nat.testBit_and, testBit_wordOf, Nat.testBit_two_pow_sub_one]
  simp only [hj, decide_true, Bool.true_and]
  have : decide (j < n % 64) = decide (64 * (n / 64) + j < n) := by
    by_cases h1 : j < n % 64
    · have : 64 * (n / 64) + j < n := by omega
      simp [h1, this]
    · have : ¬ 64 * (n / 64) + j < n := by omega
      simp [h1, this]
  rw [this, Bool.and_comm]
theorem cutB_cut (bs : List Nat) (n m : Nat) (h : n ≤ m) : (fun i => decide (i < n) && cutB bs m i) = cutB bs n := by
  funext i
  unfold cutB
  by_cases hi : i < n
  · have : i < m := by omega
    simp [hi, this]
  · simp [hi]
theorem mask_store (bs : List Nat) (n : Nat) (h : n % 64 ≠ 0) :
    (words (cutB bs (64 * wN n)) (wN n)).set ((n : Int) / 64).toNat (.int .u64 (bits .and .u64 (wordOf (cutB bs (64 * wN n)) (n / 64) : Nat) (IntKind.u64.wrap (IntKind.u64.wrap (2 ^ ((n : Int) % 64).toNat) - 1)))) = words (cutB bs n) (wN n) := by
  have hlt : n % 64 < 64 := Nat.mod_lt _ (by decide)
  have hp1 : 1 ≤ 2 ^ (n % 64) := Nat.two_pow_pos _
  have hp2 : 2 ^ (n % 64) < 2 ^ 64 := Nat.pow_lt_pow_right (by decide) hlt
  have e1 := one_shl hlt
  rw [Int.one_mul] at e1
  have e2 : (((2 ^ (n % 64) : Nat) : Int) - 1) = ((2 ^ (n % 64) - 1 : Nat) : Int) := by omega
  have e3 : IntKind.u64.wrap ((2 ^ (n % 64) - 1 : Nat) : Int) = ((2 ^ (n % 64) - 1 : Nat) : Int) := by
    rw [Go.IntKind.wrap_u64]; generalize 2 ^ (n % 64) = z at hp1 hp2; omega
  rw [div_nat, mod_nat, e1, e2, e3, Go.u64_and_nat _ _ (wordOf_lt _ _) (by omega), mask_word, cutB_cut bs n _ (by unfold wN; omega)]
  apply List.ext_getElem?
  intro k
  rw [List.getElem?_set, words_len]
  by_cases hk : n / 64 = k
  · rw [if_pos hk, if_pos (by unfold wN; omega), ← hk, words_get _ _ _ (by unfold wN; omega)]
  · rw [if_neg hk]
    by_cases hkW : k < wN n
    · rw [words_get _ _ _ hkW, words_get _ _ _ hkW]
      have : wordOf (cutB bs (64 * wN n)) k = wordOf (cutB bs n) k := wordOf_congr fun j hj => by
        unfold cutB
        have h1 : 64 * k + j < n := by unfold wN at hkW; omega
        have h2 : 64 * k + j < 64 * wN n := by unfold wN; omega
        simp [h1, h2]
      rw [this]
    · rw [List.getElem?_eq_none (by rw [words_len]; omega), List.getElem?_eq_none (by rw [words_len]; omega)]
theorem whole_words (n : Nat) (h : n % 64 = 0) : 64 * wN n = n := by unfold wN; omega

def byL (f : Nat → Bool) (K : Nat) : List Nat := (List.range K).map (byteOf f)
theorem byL_len (f : Nat → Bool) (K : Nat) : (byL f K).length = K := by simp [byL]
theorem byL_cells (f : Nat → Bool) (K : Nat) : (byL f K).flatMap byV = bytesOf f K := by
  rw [fl_by]; simp [byL, bytesOf]
/-- The row that copy makes. -/
def allV (bs : List Nat) (N : Nat) : List Value := (List.range N).map fun i => .int .u8 ((bs.getD i 0 : Nat) : Int)
theorem allV_len (bs : List Nat) (N : Nat) : (allV bs N).length = N := by simp [allV]
theorem allV_get (bs : List Nat) (N q : Nat) (h : q < N) : (allV bs N)[q]? = some (.int .u8 ((bs.getD q 0 : Nat) : Int)) := by simp [allV, h]
theorem allV_copy (bs : List Nat) (N : Nat) (h : bs.length ≤ N) : bs.flatMap byV ++ (List.replicate N (Value.int .u8 0)).drop bs.length = allV bs N := by
  rw [fl_by]
  apply List.ext_getElem?
  intro i
  rw [List.getElem?_append, List.length_map]
  by_cases hi : i < bs.length
  · rw [if_pos hi, allV_get _ _ _ (by omega), List.getElem?_map, List.getElem?_eq_getElem hi]
    simp [List.getD, List.getElem?_eq_getElem hi]
  · rw [if_neg hi, List.getElem?_drop]
    by_cases hN : i < N
    · rw [allV_get _ _ _ hN, show bs.length + (i - bs.length) = i by omega]
      simp [hN, List.getD, List.getElem?_eq_none (show bs.length ≤ i by omega)]
    · rw [List.getElem?_eq_none (by rw [List.length_replicate]; omega), List.getElem?_eq_none (by rw [allV_len]; omega)]
/-- Bytes that came out of a map give that map. -/
theorem cut_back {f : Nat → Bool} {n : Nat} (hz : ∀ i, n ≤ i → f i = false) : cutB (byL f (bN n)) n = f := by
  funext i
  unfold cutB
  by_cases hi : i < n
  · have hk : i / 8 < bN n := by unfold bN; omega
    have : (byL f (bN n)).getD (i / 8) 0 = byteOf f (i / 8) := by simp [byL, List.getD, hk]
    simp only [rawB, this, testBit_byteOf]
    have h8 : i % 8 < 8 := Nat.mod_lt _ (by decide)
    rw [show 8 * (i / 8) + i % 8 = i by omega]
    simp [hi, h8]
  · rw [hz i (by omega)]; simp [hi]
end Go.Proofs.Ytfnadjlnnfmnmaa
