/- The walk of Bytes. -/
import Derived.Test.YtfnadjlnnfmnmaaNNew
import Derived.Deep.LoopGhost
set_option linter.unusedSimpArgs false
set_option linter.unusedVariables false
namespace Go.Proofs.Ytfnadjlnnfmnmaa
open Go.RowKit

/-- Byte k of a map. -/
def byteOf (f : Nat → Bool) (k : Nat) : Nat := wB (fun j => f (8 * k + j)) 8
theorem byteOf_lt (f : Nat → Bool) (k : Nat) : byteOf f k < 256 := wB_lt _ 8
theorem testBit_byteOf (f : Nat → Bool) (k j : Nat) : (byteOf f k).testBit j = (decide (j < 8) && f (8 * k + j)) := testBit_wB _ _ _
theorem byteOf_ext {f : Nat → Bool} {k x : Nat} (hx : x < 2 ^ 8) (h : ∀ j, j < 8 → x.testBit j = f (8 * k + j)) : x = byteOf f k := by
  apply Nat.eq_of_testBit_eq
  intro j
  rw [testBit_byteOf]
  by_cases hj : j < 8
  · simp [hj, h j hj]
  · simp [hj]
    exact Nat.testBit_lt_two_pow (Nat.lt_of_lt_of_le hx (Nat.pow_le_pow_right (by decide) (by omega)))
theorem byte_of_word (f : Nat → Bool) (k : Nat) : (wordOf f (k / 8) / 2 ^ (8 * (k % 8))) % 256 = byteOf f k := by
  apply byteOf_ext (Nat.mod_lt _ (by decide))
  intro j hj
  rw [Nat.testBit_mod_two_pow, Nat.testBit_div_two_pow, testBit_wordOf]
  have h1 : j + 8 * (k % 8) < 64 := by omega
  simp only [hj, decide_true, Bool.true_and, h1]
  congr 1
  omega
def bytesOf (f : Nat → Bool) (K : Nat) : List Value := (List.range K).map fun k => .int .u8 (byteOf f k : Nat)
/-- The bytes so far. -/
def bprog (f : Nat → Bool) (K k : Nat) : List Value := (List.range K).map fun i => .int .u8 ((if i < k then byteOf f i else 0 : Nat) : Int)
theorem bprog_len (f : Nat → Bool) (K k : Nat) : (bprog f K k).length = K := by simp [bprog]
theorem bprog_zero (f : Nat → Bool) (K : Nat) : bprog f K 0 = List.replicate K (.int .u8 0) := by
  unfold bprog
  apply List.ext_getElem?
  intro k
  by_cases h : k < K <;> simp [h]
theorem bprog_all (f : Nat → Bool) (K : Nat) : bprog f K K = bytesOf f K := by
  unfold bprog bytesOf
  apply List.map_congr_left
  intro i hi
  rw [if_pos (List.mem_range.1 hi)]
theorem bprog_set (f : Nat → Bool) (K k : Nat) (h : k < K) : (bprog f K k).set k (.int .u8 (byteOf f k : Nat)) = bprog f K (k + 1) := by
  apply List.ext_getElem?
  intro i
  rw [List.getElem?_set, bprog_len]
  by_cases hik : k = i
  · subst hik; simp [bprog, h]
  · rw [if_neg hik]
    unfold bprog
    by_cases hi : i < K
    · simp only [List.getElem?_map, List.getElem?_range, hi, Option.map_some]
      congr 3
      by_cases h1 : i < k
      · rw [if_pos h1, if_pos (by omega)]
      · rw [if_neg h1, if_neg (by omega)]
    · simp [hi]
theorem byte_store (f : Nat → Bool) (K k : Nat) (h : k < K) : (bprog f K k).set k (.int .u8 ((wordOf f (k / 8) : Nat) / 2 ^ (8 * (k % 8)) % 256 : Int)) = bprog f K (k + 1) := by
  have : ((wordOf f (k / 8) : Nat) / 2 ^ (8 * (k % 8)) % 256 : Int) = ((byteOf f k : Nat) : Int) := by
    rw [← byte_of_word]; simp
  rw [this, bprog_set f K k h]
def bN (n : Nat) : Nat := (n + 7) / 8
def BytesPost (w : World) (n : Nat) (f : Nat → Bool) (e : Ending) (w' : World) : Prop := ∃ b, e = .returned (.slice (some ⟨b, 0, none⟩) (bN n) (bN n)) ∧ Fresh w w' ⟨b, bytesOf f (bN n), 5, bN n⟩ ∧ Below w.heap.size w w'
set_option maxRecDepth 100000 in
set_option maxHeartbeats 4000000 in
theorem bytes18 (bm bw n : Nat) (f : Nat → Bool) (hn : n ≤ 4096) (w : World) (hm : MapAt w bm bw n f) :
    Calls Try.prog 18 #[.pointer (some ⟨bm, 0, none⟩)] w (BytesPost w n f) := by
  obtain ⟨i0, hi0, hz0, hz1, hz2⟩ := info_parts info5
  have hp := Hp.start w
  have H0 := Lib.hid hm.len
  have H1 := Lib.hid hm.row
  have HM := Lib.hid hm
  clear hm
  go_enter Try.func18, Try.ntmps18
  go_wp2_with (first | (refine wpList_makeSlice_hp hp _ _ _ rfl (by first | exact wanted_none rfl | exact wanted_yes rfl rfl rfl rfl) 5 i0 _ Try.underlying40 hi0 hz0 hz1 rfl _ (slot_tmp rfl) (slot_tmp rfl) (bN n) (by unfold bN; omega) (by rw [hz2]; unfold bN; omega) (by unfold bN; omega) ?_; clear hp; intro b w1 hp; rw [← bprog_zero f] at hp; simp only [put_some, put_none, List.set_cons_succ, List.set_cons_zero]) | (refine wpList_loadRowOne_hp hp _ _ rfl (by first | exact wanted_none rfl | exact wanted_yes rfl rfl rfl rfl) _ _ (slot_tmp rfl) (by first | exact cell3 | exact cell55) _ (by first | exact H0.out | exact H1.out) ?_; simp only [put_some, put_none, List.set_cons_succ, List.set_cons_zero]))
  clear hi0 hz0 hz1 hz2
  go_loopg [16] (bN n) (fun k i wr => ∃ q : Nat, k + q = bN n ∧ i = .int .i64 q ∧ Hp w.heap.size w wr [⟨b, bprog f (bN n) q, 5, bN n⟩])
  case atStart => exact ⟨0, by omega, rfl, hp⟩
  case round =>
    clear hp
    obtain ⟨q, hkq, rfl, hp⟩ := hrel
    by_cases hlt : q < bN n
    · have HW := Lib.hid (HM.out.word (q / 8) (by unfold wN; unfold bN at hlt; omega))
      have HB := Lib.hid (byte_of_word f q)
      have hq512 : q < 512 := by unfold bN at hlt; omega
      have e1 : (0 : Int) ≤ (q : Int) := by omega
      have e2 : (q : Int) < (bN n : Int) := by omega
      have e3 : (q : Int) / 8 < (wN n : Int) := by unfold wN; unfold bN at hlt; omega
      go_wp2_with (first | (refine wpList_loadRowOne_hp hp _ _ rfl (by first | exact wanted_none rfl | exact wanted_yes rfl rfl rfl rfl) _ _ (slot_tmp rfl) (by first | exact cell3 | exact cell55 | exact cell58) _ (by first | exact H0.out | exact H1.out | exact HW.out) ?_; simp only [put_some, put_none, List.set_cons_succ, List.set_cons_zero]) | (refine wpList_storeOne_hp hp _ _ _ rfl (by first | exact wanted_none rfl | exact wanted_yes rfl rfl rfl rfl) _ _ (slot_tmp rfl) _ (slot_tmp rfl) cell5 _ _ _ _ at0 (by rw [bprog_len]; exact hlt) rfl ?_; clear hp; intro w1 hp; simp only [List.set_cons_zero] at hp; simp only [put_some, put_none, List.set_cons_succ, List.set_cons_zero]))
      have h := hp
      rw [byte_store f (bN n) q hlt] at h
      clear hp
      go_roundg (gk - 1)
      case measure => omega
      case rel => exact ⟨q + 1, by omega, by go_num, h⟩
    · have e2 : decide ((q : Int) < (bN n : Int)) = false := by simp; omega
      have hq : q = bN n := by omega
      rw [hq, bprog_all] at hp
      clear hq
      go_wp2_with fail
      go_ret
      exact ⟨b, rfl, hp.fresh at0, hp.below⟩
end Go.Proofs.Ytfnadjlnnfmnmaa
