/- Parts of the proof. -/
import Derived.Test.YtcjbepaclbhjaaaGreatKe1
import Derived.Test.YtcjbepaclbhjaaaGreatKe38
import Derived.Test.YtcjbepaclbhjaaaGreatKe35
import Derived.Test.YtcjbepaclbhjaaaGreatKe22
import Derived.Test.YtcjbepaclbhjaaaGreatKe32
import Derived.Test.YtcjbepaclbhjaaaGreatKe37
open List renaming set_cons_zero → zSet, set_cons_succ → sSet
/- The walks of Enough of views and of its document's twin. -/
set_option linter.unusedSimpArgs false
set_option linter.unusedVariables false
namespace Go.Proofs.YtcjbepaclbhjaaaGreat
open Go.RowKit Go.Lib
def nodesB (n : Int) : Bool := n == 3 || n == 5 || n == 7
def inNodes (k n : Int) : Bool := decide (1 ≤ k) && decide (k ≤ n)
def maskN (n : Int) (l : List Int) : Nat := l.foldl (fun m k => if inNodes k n = true then m ||| 2 ^ k.toNat else m) 0
def popN (m : Nat) : Nat := (List.range 8).foldl (fun c k => c + (m.testBit k).toNat) 0
def cntN (n : Int) (l : List Int) (j : Nat) : Nat := (List.range j).foldl (fun (c k : Nat) => c + (decide ((k : Int) + 1 ≤ n) && l.contains ((k : Int) + 1)).toNat) 0
def enoughB (n : Int) (l : List Int) : Bool := nodesB n && decide (n < 2 * (popN (maskN n l) : Int))
theorem fin_or : ∀ (m : Fin 256) (k : Fin 8), bits .or .u16 ((m.val : Nat) : Int) (IntKind.u16.wrap (1 * 2 ^ k.val)) = ((m.val ||| 2 ^ k.val : Nat) : Int) ∧ m.val ||| 2 ^ k.val < 256 := by decide +kernel
theorem fin_and : ∀ (m : Fin 256), m.val ≠ 0 → bits .and .u16 ((m.val : Nat) : Int) (IntKind.u16.wrap (((m.val : Nat) : Int) - 1)) = ((m.val &&& (m.val - 1) : Nat) : Int) ∧ popN m.val = popN (m.val &&& (m.val - 1)) + 1 ∧ m.val &&& (m.val - 1) < m.val := by decide +kernel
theorem or_bits {m k : Nat} (hm : m < 256) (hk : k < 8) : bits .or .u16 (m : Int) (IntKind.u16.wrap (1 * 2 ^ k)) = ((m ||| 2 ^ k : Nat) : Int) ∧ m ||| 2 ^ k < 256 := fin_or ⟨m, hm⟩ ⟨k, hk⟩
theorem and_bits {m : Nat} (hm : m < 256) (h0 : m ≠ 0) : bits .and .u16 (m : Int) (IntKind.u16.wrap ((m : Int) - 1)) = ((m &&& (m - 1) : Nat) : Int) ∧ popN m = popN (m &&& (m - 1)) + 1 ∧ m &&& (m - 1) < m := fin_and ⟨m, hm⟩ h0
theorem maskN_snoc (n : Int) (l : List Int) (k : Int) : maskN n (l ++ [k]) = if inNodes k n = true then maskN n l ||| 2 ^ k.toNat else maskN n l := by
  unfold maskN
  rw [List.foldl_append]; rfl
theorem maskN_bits {n : Int} (hn : n ≤ 7) (l : List Int) : maskN n l < 256 ∧ ∀ j : Nat, (maskN n l).testBit j = (inNodes (j : Int) n && l.contains (j : Int)) := by
  have key : ∀ r : List Int, maskN n r.reverse < 256 ∧ ∀ j : Nat, (maskN n r.reverse).testBit j = (inNodes (j : Int) n && r.contains (j : Int)) := fun r => by
    induction r with
    | nil => exact ⟨by show 0 < 256; decide, fun j => by simp [maskN]⟩
    | cons k r ih =>
      rw [List.reverse_cons, maskN_snoc]
      by_cases hk : inNodes k n = true
      · rw [if_pos hk]
        have h2 : 1 ≤ k ∧ k ≤ n := by simpa [inNodes] using hk
        refine ⟨(or_bits ih.1 (show k.toNat < 8 by omega)).2, fun j => ?_⟩
        rw [Nat.testBit_or, ih.2 j, Nat.testBit_two_pow, List.contains_cons]
        by_cases hj : (j : Int) = k
        · have h3 : k.toNat = j := by omega
          subst hj
          simp [hk, h3]
        · have h3 : ¬ k.toNat = j := by omega
          have h4 : ((j : Int) == k) = false := by simpa using hj
          simp [h3, h4]
      · rw [if_neg hk]
        refine ⟨ih.1, fun j => ?_⟩
        rw [ih.2 j, List.contains_cons]
        by_cases hj : (j : Int) = k
        · rw [hj]; simp [hk]
        · have h4 : ((j : Int) == k) = false := by simpa using hj
          simp [h4]
  have h := key l.reverse
  rw [List.reverse_reverse] at h
  refine ⟨h.1, fun j => ?_⟩
  rw [h.2 j]
  congr 1
  rw [Bool.eq_iff_iff]
  simp
theorem pop_cnt {n : Int} (hn : n ≤ 7) (l : List Int) : popN (maskN n l) = cntN n l 7 := by
  have h := (maskN_bits hn l).2
  unfold popN cntN
  simp only [show List.range 8 = [0, 1, 2, 3, 4, 5, 6, 7] from rfl, show List.range 7 = [0, 1, 2, 3, 4, 5, 6] from rfl, List.foldl_cons, List.foldl_nil, h]
  simp [inNodes]
theorem cntN_succ (n : Int) (l : List Int) (j : Nat) : cntN n l (j + 1) = cntN n l j + (decide ((j : Int) + 1 ≤ n) && l.contains ((j : Int) + 1)).toNat := by
  unfold cntN
  rw [List.range_succ, List.foldl_append]; rfl
theorem cntN_le (n : Int) (l : List Int) : ∀ j, cntN n l j ≤ j
  | 0 => Nat.le_refl 0
  | j + 1 => by
    rw [cntN_succ]
    have := cntN_le n l j
    have h : (decide ((j : Int) + 1 ≤ n) && l.contains ((j : Int) + 1)).toNat ≤ 1 := Bool.toNat_le _
    omega
theorem nodes_rem (n : Int) : nodesB n = ((n.tmod 2 == 1) && (decide (3 ≤ n) && decide (n ≤ 7))) := by
  by_cases h : 3 ≤ n ∧ n ≤ 7
  · rcases (by omega : n = 3 ∨ n = 4 ∨ n = 5 ∨ n = 6 ∨ n = 7) with rfl | rfl | rfl | rfl | rfl <;> rfl
  · have h1 : nodesB n = false := by
      unfold nodesB
      have a1 : (n == 3) = false := by simp; omega
      have a2 : (n == 5) = false := by simp; omega
      have a3 : (n == 7) = false := by simp; omega
      rw [a1, a2, a3]; rfl
    have h2 : (decide (3 ≤ n) && decide (n ≤ 7)) = false := by
      rw [Bool.and_eq_false_iff]; simp only [decide_eq_false_iff_not]; omega
    rw [h1, h2, Bool.and_false]
theorem rnodes79 (n : Int) (w : World) : Calls Tryz.prog 79 #[.int .i64 n] w fun e w' => e = .returned (.bool (nodesB n)) ∧ w = w' := by
  go_enter Tryz.func79, Tryz.ntmps79
  go_wp2
  all_goals go_ret
  all_goals refine ⟨ret_bool ?_, rfl⟩
  all_goals (simp [nodesB, *]; try omega)
theorem nodes70 (n : Int) (w : World) : Calls Tryz.prog 70 #[.int .i64 n] w fun e w' => e = .returned (.bool (nodesB n)) ∧ w = w' := by
  rw [nodes_rem]
  go_enter Tryz.func70, Tryz.ntmps70
  go_wp2
  all_goals go_ret
  all_goals refine ⟨ret_bool ?_, rfl⟩
  all_goals (simp [*]; try omega)
theorem with71 (m : Nat) (hm : m < 256) (k n : Int) (hn : n ≤ 7) (w : World) : Calls Tryz.prog 71 #[.int .u16 (m : Int), .int .i64 k, .int .i64 n] w fun e w' => e = .returned (.int .u16 ((if inNodes k n = true then m ||| 2 ^ k.toNat else m : Nat) : Int)) ∧ w = w' := by
  by_cases h1 : k < 1
  · have e1 : decide (k < 1) = true := by simpa using h1
    have e2 : inNodes k n = false := by simp [inNodes]; omega
    rw [e2, if_neg (by decide)]
    go_enter Tryz.func71, Tryz.ntmps71
    go_wp2
    all_goals go_ret
    exact ⟨rfl, rfl⟩
  · have e1 : decide (k < 1) = false := by simpa using h1
    by_cases h2 : n < k
    · have e2 : decide (n < k) = true := by simpa using h2
      have e3 : inNodes k n = false := by simp [inNodes]; omega
      rw [e3, if_neg (by decide)]
      go_enter Tryz.func71, Tryz.ntmps71
      go_wp2
      all_goals go_ret
      exact ⟨rfl, rfl⟩
    · have e2 : decide (n < k) = false := by simpa using h2
      have e3 : inNodes k n = true := by simp [inNodes]; omega
      rw [e3, if_pos rfl]
      have hor := (or_bits hm (show k.toNat < 8 by omega)).1
      have HOR := Lib.hid hor
      have f1 : (0 : Int) ≤ k := by omega
      have f2 : k < 16 := by omega
      clear hor
      go_enter Tryz.func71, Tryz.ntmps71
      go_wp2
      all_goals go_ret
      refine ⟨?_, rfl⟩
      rw [← HOR.out, Int.one_mul]; rfl
end Go.Proofs.YtcjbepaclbhjaaaGreat
/- The walks of Enough, of its document's twin, of slices.Max. -/
namespace Go.Proofs.YtcjbepaclbhjaaaGreat
open Go.RowKit Go.Lib
set_option maxRecDepth 100000 in
set_option maxHeartbeats 4000000 in
theorem count72 (m : Nat) (hm : m < 256) (w : World) : Calls Tryz.prog 72 #[.int .u16 (m : Int)] w fun e w' => e = .returned (.int .i64 (popN m : Int)) ∧ Below w.heap.size w w' := by
  have hp := Hp.start w
  have hp8 : popN m ≤ 8 := by have : ∀ m : Fin 256, popN m.val ≤ 8 := by decide +kernel
                              exact this ⟨m, hm⟩
  have HP8 := Lib.hid hp8
  have HM := Lib.hid hm
  clear hp8 hm
  go_enter Tryz.func72, Tryz.ntmps72
  go_wp2_with (first | go_skip | (first | (refine hA2 ?_; clear hp; intro b w1 hp) | refine hL21 ?_ | (refine hS3 ?_; clear hp; intro w1 hp)))
  go_loopg [0, 3] 256 (fun k s v wr => ∃ c j : Nat, c ≤ k ∧ c < 256 ∧ s = .int .u16 (c : Int) ∧ v = .int .i64 (j : Int) ∧ RowKit.Hid (popN m = j + popN c) ∧ Hp w.heap.size w wr [])
  case atStart => exact ⟨m, 0, by have := HM.out; omega, HM.out, rfl, rfl, Lib.hid (by omega), hp⟩
  case round =>
    clear hp
    obtain ⟨c, j, hck, hc, rfl, rfl, HJ, hp⟩ := hrel
    by_cases h0 : c = 0
    · subst h0
      have hj : popN m = j := HJ.out
      go_wp2_with (first | go_skip | (first | (refine hA2 ?_; clear hp; intro b w1 hp) | refine hL21 ?_ | (refine hS3 ?_; clear hp; intro w1 hp)))
      go_ret
      exact ⟨by rw [hj]; rfl, hp.below⟩
    · have hb := and_bits hc h0
      have HB := Lib.hid hb
      have e0 : ((c : Int) == 0) = false := by simp; omega
      have e1 : ((c : Int) != 0) = true := by simp; omega
      have e2 : ¬ (c : Int) = 0 := by omega
      have f1 : (0 : Int) ≤ (j : Int) := by omega
      have f2 : (j : Int) + 1 ≤ 100 := by have := HJ.out; have := HB.out.2.1; have := HP8.out; omega
      have HK : RowKit.Hid (c ≤ gk) := Lib.hid hck
      have HC := Lib.hid hc
      clear hb h0 hck hc
      go_wp2_with (first | go_skip | (first | (refine hA2 ?_; clear hp; intro b w1 hp) | refine hL21 ?_ | (refine hS3 ?_; clear hp; intro w1 hp)))
      go_roundg (gk - 1)
      case measure => have := HB.out.2.2; have := HK.out; omega
      case rel => exact ⟨c &&& (c - 1), j + 1, by have := HB.out.2.2; have := HK.out; omega, by have := HB.out.2.2; have := HC.out; omega, by rw [← HB.out.1], by go_num, Lib.hid (by rw [HJ.out, HB.out.2.1]; omega), hp⟩
set_option maxRecDepth 100000 in
set_option maxHeartbeats 4000000 in
theorem rin78 (l : List Int) (a : Option Addr) (q c : Nat) (hq : l.length = q) (k : Int) (hl : q ≤ 1000) (b : Bool) (hb : l.contains k = b) (w : World) (ha : RowIs w a (l.flatMap iV)) : Calls Tryz.prog 78 #[.slice a q c, .int .i64 k] w fun e w' => e = .returned (.bool b) ∧ Below w.heap.size w w' := by
  subst hq hb
  have hp := Hp.start w
  have HA := Lib.hid ha
  clear ha
  go_enter Tryz.func78, Tryz.ntmps78
  go_wp2_with (first | go_skip | (first | (refine hA2 ?_; clear hp; intro b w1 hp) | refine hL21 ?_ | (refine hS3 ?_; clear hp; intro w1 hp)))
  go_loopg [5] l.length (fun gk i wr => ∃ j : Nat, gk + j = l.length ∧ i = .int .i64 j ∧ RowKit.Hid ((l.take j).contains k = false) ∧ Hp w.heap.size w wr [])
  case atStart => exact ⟨0, by omega, rfl, Lib.hid (by simp), hp⟩
  case round =>
    clear hp
    obtain ⟨j, hkj, rfl, HNO, hp⟩ := hrel
    by_cases hlt : j < l.length
    · obtain ⟨bq, off, rfl, hx⟩ := HA.out.elems 1 iV_len (by omega) (by omega)
      have hj := List.getElem?_eq_getElem hlt
      replace hx := hx j _ hj
      have htk : l.take (j + 1) = l.take j ++ [l[j]] := by rw [List.take_add_one, hj]; rfl
      have hmem := List.getElem_mem hlt
      clear hj
      generalize l[j] = y at hx htk hmem
      simp only [iV, Nat.mul_one] at hx
      have HX := Lib.hid hx
      have HTK := Lib.hid htk
      have HME := Lib.hid hmem
      have e1 : (0 : Int) ≤ (j : Int) := by omega
      have e2 : (j : Int) < (l.length : Int) := by omega
      clear hx htk hmem
      by_cases hy : y = k
      · have e3 : (y == k) = true := by simpa using hy
        have HY : RowKit.Hid (l.contains k = true) := Lib.hid (by rw [← hy]; simpa using HME.out)
        clear hy
        go_wp2_with (first | go_skip | (first | (refine hA2 ?_; clear hp; intro b w1 hp) | refine hL23 ?_ | (refine hS3 ?_; clear hp; intro w1 hp)))
        go_ret
        exact ⟨by rw [HY.out]; rfl, hp.below⟩
      · have e3 : (y == k) = false := by simpa using hy
        have HY : RowKit.Hid ((l.take (j + 1)).contains k = false) := Lib.hid (by
          have h1 := HNO.out
          rw [HTK.out]
          simp only [List.contains_eq_mem, decide_eq_false_iff_not, List.mem_append, List.mem_singleton] at h1 ⊢
          rintro (h | h)
          · exact h1 h
          · exact hy h.symm)
        clear hy
        go_wp2_with (first | go_skip | (first | (refine hA2 ?_; clear hp; intro b w1 hp) | refine hL23 ?_ | (refine hS3 ?_; clear hp; intro w1 hp)))
        go_roundg (gk - 1)
        case measure => omega
        case rel => exact ⟨j + 1, by omega, by go_num, HY, hp⟩
    · have e2 : decide ((j : Int) < (l.length : Int)) = false := by simp; omega
      obtain rfl : j = l.length := by omega
      have hno := HNO.out
      rw [List.take_length] at hno
      have HN2 := Lib.hid hno
      clear hno
      go_wp2_with (first | go_skip | (first | (refine hA2 ?_; clear hp; intro b w1 hp) | refine hL21 ?_ | (refine hS3 ?_; clear hp; intro w1 hp)))
      go_ret
      exact ⟨by rw [HN2.out]; rfl, hp.below⟩
theorem nodes_lit (n : Int) (b : Bool) (hb : nodesB n = b) (w : World) : Calls Tryz.prog 70 #[.int .i64 n] w fun e w' => e = .returned (.bool b) ∧ w = w' := hb ▸ nodes70 n w
theorem rnodes_lit (n : Int) (b : Bool) (hb : nodesB n = b) (w : World) : Calls Tryz.prog 79 #[.int .i64 n] w fun e w' => e = .returned (.bool b) ∧ w = w' := hb ▸ rnodes79 n w
theorem with_lit (s : Int) (m : Nat) (hm : s = (m : Int) ∧ m < 256) (k n : Int) (hn : n ≤ 7) (m2 : Nat) (h2 : (if inNodes k n = true then m ||| 2 ^ k.toNat else m) = m2) (w : World) : Calls Tryz.prog 71 #[.int .u16 s, .int .i64 k, .int .i64 n] w fun e w' => e = .returned (.int .u16 (m2 : Int)) ∧ w = w' := by
  obtain ⟨rfl, hm⟩ := hm
  exact h2 ▸ with71 m hm k n hn w
theorem count_lit (s : Int) {m : Nat} (hm : s = (m : Int) ∧ m < 256) (p : Nat) (hp : popN m = p) (w : World) : Calls Tryz.prog 72 #[.int .u16 s] w fun e w' => e = .returned (.int .i64 (p : Int)) ∧ Below w.heap.size w w' := by
  obtain ⟨rfl, hm⟩ := hm
  exact hp ▸ count72 m hm w
set_option maxRecDepth 100000 in
set_option maxHeartbeats 4000000 in
theorem enough47 (n : Int) (l : List Int) (a : Option Addr) (q c : Nat) (hq : l.length = q) (hl : q ≤ 1000) (b : Bool) (hb : enoughB n l = b) (w : World) (ha : RowIs w a (l.flatMap iV)) :
    Calls Tryz.prog 47 #[.int .i64 n, .slice a q c] w fun e w' => e = .returned (.bool b) ∧ Below w.heap.size w w' := by
  subst hq hb
  have hp := Hp.start w
  have HA := Lib.hid ha
  clear ha
  cases hn : nodesB n with
  | false =>
    have HND := Lib.hid hn
    have HR : RowKit.Hid (enoughB n l = false) := Lib.hid (by unfold enoughB; rw [hn]; rfl)
    clear hn
    go_enter Tryz.func47, Tryz.ntmps47
    go_wp2_with (first | (go_at_call 70; (with_reducible refine (nodes_lit n _ HND.out _).mono ?_); rintro e w' ⟨rfl, rfl⟩) | go_skip | (first | (refine hA2 ?_; clear hp; intro b w1 hp) | refine hL21 ?_ | (refine hS3 ?_; clear hp; intro w1 hp)))
    go_ret
    exact ⟨by rw [HR.out]; rfl, hp.below⟩
  | true =>
    have HND := Lib.hid hn
    have hn7 : n ≤ 7 := by unfold nodesB at hn; simp only [Bool.or_eq_true, beq_iff_eq] at hn; omega
    have HN7 := Lib.hid hn7
    have HR : RowKit.Hid (enoughB n l = decide (n < 2 * (popN (maskN n l) : Int))) := Lib.hid (by unfold enoughB; rw [hn, Bool.true_and])
    clear hn hn7
    go_enter Tryz.func47, Tryz.ntmps47
    go_wp2_with (first | (go_at_call 70; (with_reducible refine (nodes_lit n _ HND.out _).mono ?_); rintro e w' ⟨rfl, rfl⟩) | go_skip | (first | (refine hA2 ?_; clear hp; intro b w1 hp) | refine hL21 ?_ | (refine hS3 ?_; clear hp; intro w1 hp)))
    go_loopg [6, 8, 14] l.length (fun k s v i wr => ∃ (q m : Nat) (x : Value), k + q = l.length ∧ s = .int .u16 (m : Int) ∧ v = x ∧ i = .int .i64 (q : Int) ∧ RowKit.Hid (maskN n (l.take q) = m) ∧ Hp w.heap.size w wr [])
    case atStart => exact ⟨0, 0, _, by omega, rfl, rfl, rfl, Lib.hid (by simp [maskN]), hp⟩
    case round =>
      clear hp
      obtain ⟨q, m, x, hkq, rfl, rfl, rfl, HMK, hp⟩ := hrel
      have HM2 : RowKit.Hid ((m : Int) = (m : Int) ∧ m < 256) := Lib.hid ⟨rfl, by rw [← HMK.out]; exact (maskN_bits HN7.out _).1⟩
      by_cases hlt : q < l.length
      · obtain ⟨bq, off, rfl, hx⟩ := HA.out.elems 1 iV_len (by omega) (by omega)
        have hj := List.getElem?_eq_getElem hlt
        replace hx := hx q _ hj
        have htk : l.take (q + 1) = l.take q ++ [l[q]] := by rw [List.take_add_one, hj]; rfl
        clear hj
        generalize l[q] = y at hx htk
        simp only [iV, Nat.mul_one] at hx
        have HX := Lib.hid hx
        obtain ⟨m2, hm2⟩ : ∃ m2, (if inNodes y n = true then m ||| 2 ^ y.toNat else m) = m2 := ⟨_, rfl⟩
        have HMS := Lib.hid hm2
        have HMN : RowKit.Hid (maskN n (l.take (q + 1)) = m2) := Lib.hid (by rw [htk, maskN_snoc, HMK.out]; exact hm2)
        have e1 : (0 : Int) ≤ (q : Int) := by omega
        have e2 : (q : Int) < (l.length : Int) := by omega
        clear hx htk hm2
        go_wp2_with (first | (go_at_call 71; (with_reducible refine (with_lit _ _ HM2.out _ n HN7.out _ HMS.out _).mono ?_); rintro e w' ⟨rfl, rfl⟩) | go_skip | (first | (refine hA2 ?_; clear hp; intro b w1 hp) | refine hL23 ?_ | (refine hS3 ?_; clear hp; intro w1 hp)))
        go_roundg (gk - 1)
        case measure => omega
        case rel => exact ⟨q + 1, m2, _, by omega, rfl, rfl, by go_num, HMN, hp⟩
      · obtain rfl : q = l.length := by omega
        have f2 : decide ((l.length : Int) < (l.length : Int)) = false := by simp
        have hmk := HMK.out
        rw [List.take_length] at hmk
        obtain ⟨p, hpp⟩ : ∃ p, popN m = p := ⟨_, rfl⟩
        have HPP := Lib.hid hpp
        have hp7 : p ≤ 7 := by rw [← hpp, ← hmk, pop_cnt HN7.out]; exact cntN_le _ _ _
        have HRR : RowKit.Hid (enoughB n l = decide (n < 2 * (p : Int))) := Lib.hid (by rw [HR.out, hmk, hpp])
        have f3 : (0 : Int) ≤ (p : Int) := by omega
        have f4 : (p : Int) ≤ 7 := by omega
        clear hkq hlt hmk hpp hp7
        go_wp2_with (first | (go_at_call 72; (with_reducible refine (count_lit _ HM2.out _ HPP.out _).mono ?_); rintro e w1 ⟨rfl, hb⟩; replace hp := hp.call hb; clear hb) | go_skip | (first | (refine hA2 ?_; clear hp; intro b w1 hp) | refine hL21 ?_ | (refine hS3 ?_; clear hp; intro w1 hp)))
        go_ret
        exact ⟨by rw [HRR.out]; rfl, hp.below⟩
set_option maxRecDepth 100000 in
set_option maxHeartbeats 4000000 in
theorem renough54 (n : Int) (l : List Int) (a : Option Addr) (q c : Nat) (hq : l.length = q) (hl : q ≤ 1000) (b : Bool) (hb : enoughB n l = b) (w : World) (ha : RowIs w a (l.flatMap iV)) :
    Calls Tryz.prog 54 #[.int .i64 n, .slice a q c] w fun e w' => e = .returned (.bool b) ∧ Below w.heap.size w w' := by
  subst hq hb
  have hp := Hp.start w
  have HA := Lib.hid ha
  have HL := Lib.hid hl
  clear ha
  go_enter Tryz.func54, Tryz.ntmps54
  go_wp2_with (first | go_skip | (first | (refine hA2 ?_; clear hp; intro b w1 hp) | refine hL21 ?_ | (refine hS3 ?_; clear hp; intro w1 hp)))
  go_loopg [5, 6] 7 (fun k v i wr => ∃ (q p : Nat), k + q = 7 ∧ v = .int .i64 (p : Int) ∧ p ≤ q ∧ i = .int .i64 ((q : Int) + 1) ∧ RowKit.Hid (cntN n l q = p) ∧ Hp w.heap.size w wr [])
  case atStart => exact ⟨0, 0, by omega, rfl, Nat.le_refl _, rfl, Lib.hid rfl, hp⟩
  case round =>
    clear hp
    obtain ⟨q, p, hkq, rfl, hpq, rfl, HCN, hp⟩ := hrel
    have f1 : (0 : Int) ≤ (q : Int) := by omega
    have f2 : (0 : Int) ≤ (p : Int) := by omega
    have f3 : (p : Int) ≤ 7 := by omega
    have f4 : (q : Int) ≤ 7 := by omega
    by_cases hlt : q < 7
    · have e0 : decide ((q : Int) + 1 ≤ 7) = true := by simp; omega
      have hs := cntN_succ n l q
      rw [HCN.out] at hs
      by_cases hkn : (q : Int) + 1 ≤ n
      · have e1 : decide ((q : Int) + 1 ≤ n) = true := by simpa using hkn
        cases hc : l.contains ((q : Int) + 1) with
        | true =>
          have HCO := Lib.hid hc
          have HNX : RowKit.Hid (cntN n l (q + 1) = p + 1) := Lib.hid (by rw [hs, e1, hc]; rfl)
          clear hs hkn hc
          go_wp2_with (first | (go_at_call 78; (with_reducible refine (rin78 l a _ c rfl _ HL.out _ HCO.out _ (HA.out.below hp.below)).mono ?_); rintro e w1 ⟨rfl, hb⟩; replace hp := hp.call hb; clear hb) | go_skip | (first | (refine hA2 ?_; clear hp; intro b w1 hp) | refine hL21 ?_ | (refine hS3 ?_; clear hp; intro w1 hp)))
          go_roundg (gk - 1)
          case measure => omega
          case rel => exact ⟨q + 1, p + 1, by omega, by go_num, by omega, by go_num, HNX, hp⟩
        | false =>
          have HCO := Lib.hid hc
          have HNX : RowKit.Hid (cntN n l (q + 1) = p) := Lib.hid (by rw [hs, e1, hc]; rfl)
          clear hs hkn hc
          go_wp2_with (first | (go_at_call 78; (with_reducible refine (rin78 l a _ c rfl _ HL.out _ HCO.out _ (HA.out.below hp.below)).mono ?_); rintro e w1 ⟨rfl, hb⟩; replace hp := hp.call hb; clear hb) | go_skip | (first | (refine hA2 ?_; clear hp; intro b w1 hp) | refine hL21 ?_ | (refine hS3 ?_; clear hp; intro w1 hp)))
          go_roundg (gk - 1)
          case measure => omega
          case rel => exact ⟨q + 1, p, by omega, rfl, by omega, by go_num, HNX, hp⟩
      · have e1 : decide ((q : Int) + 1 ≤ n) = false := by simpa using hkn
        have HNX : RowKit.Hid (cntN n l (q + 1) = p) := Lib.hid (by rw [hs, e1]; rfl)
        clear hs hkn
        go_wp2_with (first | go_skip | (first | (refine hA2 ?_; clear hp; intro b w1 hp) | refine hL21 ?_ | (refine hS3 ?_; clear hp; intro w1 hp)))
        go_roundg (gk - 1)
        case measure => omega
        case rel => exact ⟨q + 1, p, by omega, rfl, by omega, by go_num, HNX, hp⟩
    · obtain rfl : q = 7 := by omega
      have e0 : decide (((7 : Nat) : Int) + 1 ≤ 7) = false := by decide
      clear hkq hlt hpq f1 f4
      cases hn : nodesB n with
      | false =>
        have HND := Lib.hid hn
        have HR : RowKit.Hid (enoughB n l = false) := Lib.hid (by unfold enoughB; rw [hn]; rfl)
        clear hn
        go_wp2_with (first | (go_at_call 79; (with_reducible refine (rnodes_lit n _ HND.out _).mono ?_); rintro e w' ⟨rfl, rfl⟩) | go_skip | (first | (refine hA2 ?_; clear hp; intro b w1 hp) | refine hL21 ?_ | (refine hS3 ?_; clear hp; intro w1 hp)))
        go_ret
        exact ⟨by rw [HR.out]; rfl, hp.below⟩
      | true =>
        have hn7 : n ≤ 7 := by unfold nodesB at hn; simp only [Bool.or_eq_true, beq_iff_eq] at hn; omega
        have HND := Lib.hid hn
        have HR : RowKit.Hid (enoughB n l = decide (n < 2 * (p : Int))) := Lib.hid (by unfold enoughB; rw [hn, Bool.true_and, pop_cnt hn7, HCN.out])
        clear hn hn7
        go_wp2_with (first | (go_at_call 79; (with_reducible refine (rnodes_lit n _ HND.out _).mono ?_); rintro e w' ⟨rfl, rfl⟩) | go_skip | (first | (refine hA2 ?_; clear hp; intro b w1 hp) | refine hL21 ?_ | (refine hS3 ?_; clear hp; intro w1 hp)))
        go_ret
        exact ⟨by rw [HR.out]; rfl, hp.below⟩
end Go.Proofs.YtcjbepaclbhjaaaGreat
/- Runs of entries over a state: the plain laws. No program in sight. -/
namespace Go.Proofs.YtcjbepaclbhjaaaGreat
noncomputable def runP (s : Sv) : List Env → Sv
  | [] => s
  | e :: r => runP (applyP s e).1 r
end Go.Proofs.YtcjbepaclbhjaaaGreat
/- State by its ways; the chapter's examples of State; the walk of OplogSteps. -/
namespace Go.Proofs.YtcjbepaclbhjaaaGreat
open Go.RowKit
noncomputable def stImg (x : Kv) : Sv := (stateR (strB x.im)).getD zeroSv
noncomputable def stC (x : Kv) (n : Int) : Sv := runP (stImg x) (x.es.take (n - x.bs).toNat)
end Go.Proofs.YtcjbepaclbhjaaaGreat
/- The walks of Known, of the examples' kept, and of the examples of Execute. -/
namespace Go.Proofs.YtcjbepaclbhjaaaGreat
open Go.RowKit
def kE (n : Nat) : List Env := (List.range n).map fun (j : Nat) => En ((j : Int) + 1)
theorem kE_len (n : Nat) : (kE n).length = n := by simp [kE]
def KeptP (w : World) (n : Nat) (e : Ending) (w' : World) : Prop := ∃ a c R, e = .returned (.agg #[.int .i64 0, .int .i64 0, .int .i64 0, .string im3, .slice a n c]) ∧ n ≤ c ∧ Kept R (fun w => RowIs w a ((kE n).flatMap envL)) ∧ Hp w.heap.size w w' R
theorem kE_ok (n : Nat) (h : n ≤ 3) (a : Option Addr) (c : Nat) : okC ⟨0, 0, 0, im3, a, kE n, c⟩ = true := by
  match n, h with
  | 0, _ => exact okC_im3 (by kernel_rfl) rfl
  | 1, _ => exact okC_im3 (by kernel_rfl) rfl
  | 2, _ => exact okC_im3 (by kernel_rfl) rfl
  | 3, _ => exact okC_im3 (by kernel_rfl) rfl
theorem kE_small (n : Nat) (h : n ≤ 3) (a : Option Addr) (c : Nat) : Kv.Small ⟨0, 0, 0, im3, a, kE n, c⟩ := ⟨by simp only [kE_len]; omega, im3_small⟩
end Go.Proofs.YtcjbepaclbhjaaaGreat
/- What Join tells and what it makes when it is saved: the plain laws. No program in sight. -/
namespace Go.Proofs.YtcjbepaclbhjaaaGreat
open Go.RowKit
theorem fol_nu64 {fr : Int} (h0 : 0 ≤ fr) (h1 : fr ≤ 2000000000) : ∀ {l : List Env} {q : Nat}, q + l.length ≤ 100000 → (∀ e ∈ l, I64 e.nu) → folB fr q l = true → ∀ (i : Nat) (h : i < l.length), l[i].nu = fr + 1 + (q + i : Nat)
  | [], _, _, _, _, i, h => by simp at h
  | e :: r, q, hq, hn, hf, i, h => by
    unfold folB at hf
    rw [Bool.and_eq_true, decide_eq_true_eq] at hf
    obtain ⟨h2, h3⟩ := hf
    obtain ⟨g1, g2⟩ := hn e (by simp)
    simp only [List.length_cons] at hq
    have e1 : e.nu = fr + 1 + (q : Int) := by unfold wrap64 at h2; omega
    cases i with
    | zero => simp only [List.getElem_cons_zero]; omega
    | succ i =>
      have h4 := fol_nu64 h0 h1 (l := r) (q := q + 1) (by omega) (fun x hx => hn x (by simp [hx])) h3 i (by simpa using h)
      simp only [List.getElem_cons_succ]
      rw [h4]; push_cast; omega
end Go.Proofs.YtcjbepaclbhjaaaGreat
