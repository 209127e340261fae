/- The walk of the law BitsRuns: what it leans on. -/
import Derived.Test.YtfnadjlnnfmnmaaNRefN
import Derived.Test.YtfnadjlnnfmnmaaNBack
set_option linter.unusedSimpArgs false
set_option linter.unusedVariables false
namespace Go.Proofs.Ytfnadjlnnfmnmaa
open Go.RowKit
theorem zero23 : zeroL Try.prog 23 = some ([.int .i64 0, .int .i64 0, .int .i64 0, .bool false], 4) := by kernel_rfl
/-- An act of the script. -/
structure Sc where
  k : Int
  a : Int
  n : Int
  on : Bool
def scV (x : Sc) : List Value := [.int .i64 x.k, .int .i64 x.a, .int .i64 x.n, .bool x.on]
theorem scV_len (x : Sc) : (scV x).length = 4 := rfl
theorem Hp.sub {B : Nat} {w0 w : World} {L L' : List Blk} (hp : Hp B w0 w L) (h : L'.Sublist L) : Hp B w0 w L' :=
  ⟨hp.below, hp.size, (h.map _).nodup hp.nodup, fun p hpL => hp.own p (h.subset hpL)⟩
theorem Keeps.rowIs {B : Nat} {w0 w : World} {M : List Blk} (hS : Keeps B w0 M w) {i b : Nat} {l : List Value} {t : TypeId} {n : Nat} (hi : M[i]? = some ⟨b, l, t, n⟩) : RowIs w (some ⟨b, 0, none⟩) l := by
  obtain ⟨L, hp, hm⟩ := hS
  obtain ⟨k, hk, hkl⟩ := List.getElem_of_mem (hm _ (Hp.mem hi))
  exact hp.rowIs (i := k) (by rw [List.getElem?_eq_getElem hk, hkl])
theorem conv_own {B : Nat} {w0 w : World} {M : List Blk} (hS : Keeps B w0 M w) {i b K m c : Nat} {f : Nat → Bool} (hi : M[i]? = some ⟨b, bytesOf f K, 5, m⟩) :
    (convert 40 9 (.slice (some ⟨b, 0, none⟩) K c)).run Try.prog w = .ok (.string (strOfNums (nI (byL f K)))) w :=
  conv_row Try.underlying40 Try.underlying5 Try.underlying9 c (by rw [nI_len, byL_len]) (by rw [nI_cells, byL_cells]; exact hS.rowIs hi)
theorem put_w1 {x : Blk} {L : List Blk} {bm bw n : Nat} {f : Nat → Bool} (hn : n ≤ 4096) (hz : ∀ i, n ≤ i → f i = false) {B : Nat} {w0 w : World} (a m : Int) (on : Bool) (hp : Hp B w0 w (x :: mBlk bm bw n :: wBlk bw n f :: L)) :
    Calls Try.prog 12 #[.pointer (some ⟨bm, 0, none⟩), .int .i64 a, .int .i64 m, .bool on] w fun e w' => e = .returned (.int .i64 (putE n a m)) ∧ Hp B w0 w' (x :: mBlk bm bw n :: wBlk bw n (putF f n a m on) :: L) := by
  cases ho : putOk n a m
  · have h1 : a < 0 ∨ m < 0 ∨ (n : Int) < a ∨ (n : Int) - a < m := by simp only [putOk, decide_eq_false_iff_not] at ho; omega
    refine (put12_out bm bw n f a m on hn h1 w ((isMap1 _ _ _ _ _ _).at_ hp)).mono fun e w' ⟨he, hw⟩ => ?_
    subst hw
    refine ⟨by rw [he]; simp [putE, ho], ?_⟩
    have : putF f n a m on = f := by simp [putF, ho]
    rw [this]; exact hp
  · have h1 := ho
    simp only [putOk, decide_eq_true_eq] at h1
    obtain ⟨y, rfl⟩ := Int.eq_ofNat_of_zero_le h1.1
    obtain ⟨z, rfl⟩ := Int.eq_ofNat_of_zero_le h1.2.1
    have e1 : putE n y z = 0 := by simp [putE, ho]
    have e2 : putF f n y z on = upd f y (y + z) on := by simp [putF, ho]
    rw [e1, e2]
    cases on
    · by_cases hxy : z = n
      · have hx0 : y = 0 := by omega
        subst hxy; subst hx0
        rw [Nat.zero_add, upd_all hz]
        exact put12_clear _ 1 2 bm bw z f hn B w0 w hp (isMap1 _ _ _ _ _ _)
      · exact put12_off _ 1 2 bm bw n f y z hn (by omega) hxy B w0 w hp (isMap1 _ _ _ _ _ _)
    · exact put12_on _ 1 2 bm bw n f y z hn (by omega) B w0 w hp (isMap1 _ _ _ _ _ _)
theorem rb_f (f : Nat → Bool) (n : Nat) (hn : n ≤ 4096) (hz : ∀ i, n ≤ i → f i = false) (a : Option Addr) (c : Nat) (w : World) (ha : RowIs w a ((bl f n).flatMap boV)) :
    Calls Try.prog 22 #[.slice a n c] w fun e w' => ∃ a' c', e = .returned (.slice a' (bN n) c') ∧ RowIs w' a' ((byL f (bN n)).flatMap byV) ∧ Below w.heap.size w w' := by
  have h := rbytes22 (bl f n) (by rw [bl_len]; exact hn) a c w ha
  rw [bl_len] at h
  refine h.mono fun e w' h => ?_
  rw [RBytes, bl_len, lf_bl hz] at h
  rcases h with ⟨h0, he, hb⟩ | ⟨g, cap, he, hf, hb⟩
  · have hn0 : n = 0 := by have := congrArg List.length h0; rw [bl_len] at this; exact this
    subst hn0
    exact ⟨none, 0, he, RowIs.nil _ _, hb⟩
  · refine ⟨some ⟨g, 0, none⟩, cap, he, ?_, hb⟩
    rw [byL_cells]
    obtain ⟨_, cc, hg, hsz, htk⟩ := hf
    intro j v hj
    refine ⟨g, 0, rfl, ?_⟩
    have := take_getElem? htk hj
    simp [World.cell?, hg] at this ⊢
    exact this
theorem rc_f (f : Nat → Bool) (n : Nat) (hn : n ≤ 4096) (hz : ∀ i, n ≤ i → f i = false) (a : Option Addr) (c : Nat) (w : World) (ha : RowIs w a ((bl f n).flatMap boV)) :
    Calls Try.prog 21 #[.slice a n c] w fun e w' => e = .returned (.int .i64 (cb f n : Nat)) ∧ Below w.heap.size w w' := by
  have h := rcount21 (bl f n) (by rw [bl_len]; exact hn) a c w ha
  rw [bl_len, lf_bl hz] at h
  exact h
set_option maxRecDepth 100000 in
set_option maxHeartbeats 1000000 in
theorem runs4_big (n : Int) (k : Nat) (a : Option Addr) (c : Nat) (h : 60 < k) (w : World) : Calls Try.prog 4 #[.int .i64 n, .slice a k c] w fun e w' => e = .returned (.bool true) ∧ Below w.heap.size w w' := by
  have d1 : decide ((60 : Int) < (k : Int)) = true := by simp; omega
  go_enter Try.func4, Try.ntmps4
  go_wp2
  go_ret
  exact ⟨rfl, Below.refl _ _⟩
set_option maxRecDepth 100000 in
set_option maxHeartbeats 4000000 in
theorem runs4_no (n : Int) (hn : n < 0 ∨ 4096 < n) (k : Nat) (a : Option Addr) (c : Nat) (h : k ≤ 60) (w : World) : Calls Try.prog 4 #[.int .i64 n, .slice a k c] w fun e w' => e = .returned (.bool true) ∧ Below w.heap.size w w' := by
  have hp := Hp.start w
  have d1 : decide ((60 : Int) < (k : Int)) = false := by simp; omega
  have K := Lib.hid (new10_no n hn)
  have K14 := Lib.hid (may14 n)
  rw [show decide (0 ≤ n ∧ n ≤ 4096) = false by simp only [decide_eq_false_iff_not]; omega] at K14
  clear hn
  go_enter Try.func4, Try.ntmps4
  go_wp2_with (first | (go_at_call 10; refine (K.out _).mono ?_; rintro e w' ⟨rfl, rfl⟩) | (go_at_call 14; refine (K14.out _).mono ?_; rintro e w' ⟨rfl, rfl⟩) | (go_at_call 11; refine (awake11 _).mono ?_; rintro e w1 ⟨rfl, hb⟩; replace hp := hp.call hb; clear hb))
  go_ret
  exact ⟨rfl, hp.below⟩
end Go.Proofs.Ytfnadjlnnfmnmaa
