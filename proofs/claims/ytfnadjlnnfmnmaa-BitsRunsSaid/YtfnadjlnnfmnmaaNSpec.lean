/- Maps of bits: the words of a map, and what get and put do to them. No program in sight. -/
import Derived.Test.YtfnadjlnnfmnmaaSl
import Derived.Laws.BitsAllLaws
import Derived.Laws.Bits64
set_option linter.unusedSimpArgs false
set_option linter.unusedVariables false
namespace Go.Proofs.Ytfnadjlnnfmnmaa
open Go.RowKit

def wB (g : Nat → Bool) : Nat → Nat
  | 0 => 0
  | n + 1 => (if g n then 2 ^ n else 0) ||| wB g n
theorem wB_lt (g : Nat → Bool) : ∀ n, wB g n < 2 ^ n
  | 0 => by simp [wB]
  | n + 1 => by
    unfold wB
    have h := wB_lt g n
    refine Nat.or_lt_two_pow ?_ (Nat.lt_trans h (Nat.pow_lt_pow_right (by decide) (by omega)))
    split
    · exact Nat.pow_lt_pow_right (by decide) (by omega)
    · exact Nat.two_pow_pos _
theorem testBit_wB (g : Nat → Bool) (j : Nat) : ∀ n, (wB g n).testBit j = (decide (j < n) && g j)
  | 0 => by simp [wB]
  | n + 1 => by
    unfold wB
    rw [Nat.testBit_or, testBit_wB g j n]
    by_cases hj : j = n
    · subst hj
      cases hg : g j <;> simp [Nat.testBit_two_pow_self]
    · have h1 : (if g n then 2 ^ n else 0).testBit j = false := by
        split
        · rw [Nat.testBit_two_pow]; simp; omega
        · simp
      rw [h1, Bool.false_or]
      have : decide (j < n) = decide (j < n + 1) := by simp; omega
      rw [this]

/-- Word k of a map. -/
def wordOf (f : Nat → Bool) (k : Nat) : Nat := wB (fun j => f (64 * k + j)) 64
theorem wordOf_lt (f : Nat → Bool) (k : Nat) : wordOf f k < 18446744073709551616 := wB_lt _ 64
theorem testBit_wordOf (f : Nat → Bool) (k j : Nat) : (wordOf f k).testBit j = (decide (j < 64) && f (64 * k + j)) := testBit_wB _ _ _
theorem wordOf_ext {f : Nat → Bool} {k x : Nat} (hx : x < 2 ^ 64) (h : ∀ j, j < 64 → x.testBit j = f (64 * k + j)) : x = wordOf f k := by
  apply Nat.eq_of_testBit_eq
  intro j
  rw [testBit_wordOf]
  by_cases hj : j < 64
  · simp [hj, h j hj]
  · simp [hj]
    exact Nat.testBit_lt_two_pow (Nat.lt_of_lt_of_le hx (Nat.pow_le_pow_right (by decide) (by omega)))
theorem wordOf_congr {f g : Nat → Bool} {k : Nat} (h : ∀ j, j < 64 → f (64 * k + j) = g (64 * k + j)) : wordOf f k = wordOf g k := by
  apply wordOf_ext (wordOf_lt f k)
  intro j hj
  rw [testBit_wordOf]; simp [hj, h j hj]

/-- From a to b put on. -/
def upd (f : Nat → Bool) (a b : Nat) (on : Bool) : Nat → Bool := fun i => if a ≤ i ∧ i < b then on else f i
theorem upd_zero (f : Nat → Bool) (a : Nat) (on : Bool) : upd f a a on = f := by funext i; unfold upd; rw [if_neg (by omega)]
theorem upd_succ (f : Nat → Bool) (a b : Nat) (on : Bool) (h : a ≤ b) : upd f a (b + 1) on = upd (upd f a b on) b (b + 1) on := by
  funext i; unfold upd
  by_cases h1 : b ≤ i ∧ i < b + 1
  · rw [if_pos h1, if_pos (by omega)]
  · rw [if_neg h1]
    by_cases h2 : a ≤ i ∧ i < b
    · rw [if_pos h2, if_pos (by omega)]
    · rw [if_neg h2, if_neg (by omega)]

theorem set_word (f : Nat → Bool) (i : Nat) : (wordOf f (i / 64) ||| 2 ^ (i % 64)) = wordOf (upd f i (i + 1) true) (i / 64) := by
  refine wordOf_ext (Nat.or_lt_two_pow (wordOf_lt _ _) (Nat.pow_lt_pow_right (by decide) (Nat.mod_lt _ (by decide)))) fun j hj => ?_
  rw [Nat.testBit_or, testBit_wordOf, Nat.testBit_two_pow]
  unfold upd
  by_cases h : j = i % 64
  · rw [if_pos (by omega)]; simp [h]
  · rw [if_neg (by omega)]; simp [hj]; omega
theorem clr_word (f : Nat → Bool) (i : Nat) : (wordOf f (i / 64) &&& (18446744073709551615 - 2 ^ (i % 64))) = wordOf (upd f i (i + 1) false) (i / 64) := by
  refine wordOf_ext (Nat.lt_of_le_of_lt Nat.and_le_left (wordOf_lt _ _)) fun j hj => ?_
  have hp : 2 ^ (i % 64) < 2 ^ 64 := Nat.pow_lt_pow_right (by decide) (Nat.mod_lt _ (by decide))
  have : (18446744073709551615 - 2 ^ (i % 64)) = 2 ^ 64 - (2 ^ (i % 64) + 1) := by omega
  rw [Nat.testBit_and, testBit_wordOf, this, Nat.testBit_two_pow_sub_succ hp, Nat.testBit_two_pow]
  unfold upd
  by_cases h : j = i % 64
  · rw [if_pos (by omega)]; simp [h]
  · rw [if_neg (by omega)]; simp [hj]; intro; omega
theorem other_word (f : Nat → Bool) (i k : Nat) (on : Bool) (h : k ≠ i / 64) : wordOf (upd f i (i + 1) on) k = wordOf f k := wordOf_congr fun j hj => by
  unfold upd; rw [if_neg (by omega)]

def words (f : Nat → Bool) (W : Nat) : List Value := (List.range W).map fun k => .int .u64 (wordOf f k : Nat)
theorem words_len (f : Nat → Bool) (W : Nat) : (words f W).length = W := by simp [words]
theorem words_get (f : Nat → Bool) (W k : Nat) (h : k < W) : (words f W)[k]? = some (.int .u64 (wordOf f k : Nat)) := by simp [words, h]
theorem words_set (f : Nat → Bool) (W i : Nat) (on : Bool) (h : i / 64 < W) : (words f W).set (i / 64) (.int .u64 (wordOf (upd f i (i + 1) on) (i / 64) : Nat)) = words (upd f i (i + 1) on) W := by
  apply List.ext_getElem?
  intro k
  rw [List.getElem?_set, words_len]
  by_cases hk : i / 64 = k
  · rw [if_pos hk, if_pos h, ← hk, words_get _ _ _ h]
  · rw [if_neg hk]
    by_cases hkW : k < W
    · rw [words_get _ _ _ hkW, words_get _ _ _ hkW, other_word f i k on (fun e => hk e.symm)]
    · rw [List.getElem?_eq_none (by rw [words_len]; omega), List.getElem?_eq_none (by rw [words_len]; omega)]

/-! The model's own operations on words. -/
theorem get_bit (f : Nat → Bool) (i : Nat) : (bits .and .u64 ((wordOf f (i / 64) : Nat) / 2 ^ (i % 64) : Int) 1 == 1) = f i := by
  have e : (((wordOf f (i / 64) : Nat) : Int) / 2 ^ (i % 64)) = ((wordOf f (i / 64) / 2 ^ (i % 64) : Nat) : Int) := by simp
  have hlt : wordOf f (i / 64) / 2 ^ (i % 64) < 18446744073709551616 := Nat.lt_of_le_of_lt (Nat.div_le_self _ _) (wordOf_lt _ _)
  have h := Go.u64_and_nat (wordOf f (i / 64) / 2 ^ (i % 64)) 1 hlt (by decide)
  rw [e]
  have h' : bits .and .u64 ((wordOf f (i / 64) / 2 ^ (i % 64) : Nat) : Int) 1 = (((wordOf f (i / 64) / 2 ^ (i % 64)) &&& 1 : Nat) : Int) := h
  rw [h', Nat.and_one_is_mod]
  have ht := testBit_wordOf f (i / 64) (i % 64)
  rw [show 64 * (i / 64) + i % 64 = i by omega, show decide (i % 64 < 64) = true by simp; omega, Bool.true_and] at ht
  rw [← ht, Nat.testBit_eq_decide_div_mod_eq]
  rw [Bool.eq_iff_iff]; simp; omega
theorem one_shl {i : Nat} (h : i < 64) : IntKind.u64.wrap (1 * 2 ^ i) = ((2 ^ i : Nat) : Int) := by
  have hp : 2 ^ i < 2 ^ 64 := Nat.pow_lt_pow_right (by decide) h
  have e : (1 * 2 ^ i : Int) = ((2 ^ i : Nat) : Int) := by rw [Int.one_mul]; exact (Int.natCast_pow 2 i).symm
  rw [e, Go.IntKind.wrap_u64]
  generalize 2 ^ i = x at hp
  omega
theorem or_bit (f : Nat → Bool) (i : Nat) : bits .or .u64 (wordOf f (i / 64) : Nat) (IntKind.u64.wrap (1 * 2 ^ (i % 64))) = (wordOf (upd f i (i + 1) true) (i / 64) : Nat) := by
  rw [one_shl (Nat.mod_lt _ (by decide)), Go.u64_or_nat _ _ (wordOf_lt _ _) (Nat.pow_lt_pow_right (by decide) (Nat.mod_lt _ (by decide))), set_word]
theorem andNot_bit (f : Nat → Bool) (i : Nat) : bits .andNot .u64 (wordOf f (i / 64) : Nat) (IntKind.u64.wrap (1 * 2 ^ (i % 64))) = (wordOf (upd f i (i + 1) false) (i / 64) : Nat) := by
  rw [one_shl (Nat.mod_lt _ (by decide)), Go.u64_andNot_nat _ _ (wordOf_lt _ _) (Nat.pow_lt_pow_right (by decide) (Nat.mod_lt _ (by decide))), clr_word]
theorem div_nat (x : Nat) : ((x : Int) / 64).toNat = x / 64 := by omega
theorem mod_nat (x : Nat) : ((x : Int) % 64).toNat = x % 64 := by omega
theorem or_store (f : Nat → Bool) (W x : Nat) (h : x / 64 < W) : (words f W).set ((x : Int) / 64).toNat (.int .u64 (bits .or .u64 (wordOf f (x / 64) : Nat) (IntKind.u64.wrap (2 ^ ((x : Int) % 64).toNat)))) = words (upd f x (x + 1) true) W := by
  have := or_bit f x
  rw [Int.one_mul] at this
  rw [div_nat, mod_nat, this, words_set f W x true h]
theorem andNot_store (f : Nat → Bool) (W x : Nat) (h : x / 64 < W) : (words f W).set ((x : Int) / 64).toNat (.int .u64 (bits .andNot .u64 (wordOf f (x / 64) : Nat) (IntKind.u64.wrap (2 ^ ((x : Int) % 64).toNat)))) = words (upd f x (x + 1) false) W := by
  have := andNot_bit f x
  rw [Int.one_mul] at this
  rw [div_nat, mod_nat, this, words_set f W x false h]
end Go.Proofs.Ytfnadjlnnfmnmaa
