/- Parts of the proof. -/
import Derived.Test.YtcjbepaclbhjaaaGreatCl31
import Derived.Test.YtcjbepaclbhjaaaGreatCl27
import Derived.Test.YtcjbepaclbhjaaaGreatCl20
import Derived.Test.YtcjbepaclbhjaaaGreatCl25
open List renaming set_cons_zero → zSet, set_cons_succ → sSet
/- The walks of Enough, of its document's twin, of slices.Max. -/
set_option linter.unusedSimpArgs false
set_option linter.unusedVariables false
namespace Go.Proofs.YtcjbepaclbhjaaaGreat
open Go.RowKit Go.Lib
set_option maxRecDepth 100000 in
set_option maxHeartbeats 4000000 in
theorem count72 (m : Nat) (hm : m < 256) (w : World) : Calls Tryz.prog 72 #[.int .u16 (m : Int)] w fun e w' => e = .returned (.int .i64 (popN m : Int)) ∧ Below w.heap.size w w' := by
  have hp := Hp.start w
  have hp8 : popN m ≤ 8 := by have : ∀ m : Fin 256, popN m.val ≤ 8 := by decide +kernel
                              exact this ⟨m, hm⟩
  have HP8 := Lib.hid hp8
  have HM := Lib.hid hm
  clear hp8 hm
  go_enter Tryz.func72, Tryz.ntmps72
  go_wp2_with (first | go_skip | ((first | ((with_reducible refine pre_box _ _ rfl ?_); refine lB hp rfl (sTm rfl) rfl ?_; clear hp; intro b w1 hp) | ((with_reducible refine pre_load _ _ rfl ?_); refine lO hp rfl (sTm rfl) (by with_reducible first | exact cell3 | exact cell4) aa5 ?_) | ((with_reducible refine pre_store _ _ _ rfl ?_); (refine sO hp rfl (sTm rfl) (by with_reducible first | exact cell3 | exact cell4) aa5 ?_); clear hp; intro w1 hp; simp only [spl, zSet, sSet] at hp)); simp only [put_some, put_none, sSet, zSet]))
  go_loopg [0, 3] 256 (fun k s v wr => ∃ c j : Nat, c ≤ k ∧ c < 256 ∧ s = .int .u16 (c : Int) ∧ v = .int .i64 (j : Int) ∧ RowKit.Hid (popN m = j + popN c) ∧ Hp w.heap.size w wr [])
  case atStart => exact ⟨m, 0, by have := HM.out; omega, HM.out, rfl, rfl, Lib.hid (by omega), hp⟩
  case round =>
    clear hp
    obtain ⟨c, j, hck, hc, rfl, rfl, HJ, hp⟩ := hrel
    by_cases h0 : c = 0
    · subst h0
      have hj : popN m = j := HJ.out
      go_wp2_with (first | go_skip | ((first | ((with_reducible refine pre_box _ _ rfl ?_); refine lB hp rfl (sTm rfl) rfl ?_; clear hp; intro b w1 hp) | ((with_reducible refine pre_load _ _ rfl ?_); refine lO hp rfl (sTm rfl) (by with_reducible first | exact cell3 | exact cell4) aa5 ?_) | ((with_reducible refine pre_store _ _ _ rfl ?_); (refine sO hp rfl (sTm rfl) (by with_reducible first | exact cell3 | exact cell4) aa5 ?_); clear hp; intro w1 hp; simp only [spl, zSet, sSet] at hp)); simp only [put_some, put_none, sSet, zSet]))
      go_ret
      exact ⟨by rw [hj]; rfl, hp.below⟩
    · have hb := and_bits hc h0
      have HB := Lib.hid hb
      have e0 : ((c : Int) == 0) = false := by simp; omega
      have e1 : ((c : Int) != 0) = true := by simp; omega
      have e2 : ¬ (c : Int) = 0 := by omega
      have f1 : (0 : Int) ≤ (j : Int) := by omega
      have f2 : (j : Int) + 1 ≤ 100 := by have := HJ.out; have := HB.out.2.1; have := HP8.out; omega
      have HK : RowKit.Hid (c ≤ gk) := Lib.hid hck
      have HC := Lib.hid hc
      clear hb h0 hck hc
      go_wp2_with (first | go_skip | ((first | ((with_reducible refine pre_box _ _ rfl ?_); refine lB hp rfl (sTm rfl) rfl ?_; clear hp; intro b w1 hp) | ((with_reducible refine pre_load _ _ rfl ?_); refine lO hp rfl (sTm rfl) (by with_reducible first | exact cell3 | exact cell4) aa5 ?_) | ((with_reducible refine pre_store _ _ _ rfl ?_); (refine sO hp rfl (sTm rfl) (by with_reducible first | exact cell3 | exact cell4) aa5 ?_); clear hp; intro w1 hp; simp only [spl, zSet, sSet] at hp)); simp only [put_some, put_none, sSet, zSet]))
      go_roundg (gk - 1)
      case measure => have := HB.out.2.2; have := HK.out; omega
      case rel => exact ⟨c &&& (c - 1), j + 1, by have := HB.out.2.2; have := HK.out; omega, by have := HB.out.2.2; have := HC.out; omega, by rw [← HB.out.1], by go_num, Lib.hid (by rw [HJ.out, HB.out.2.1]; omega), hp⟩
theorem nodes_lit (n : Int) (b : Bool) (hb : nodesB n = b) (w : World) : Calls Tryz.prog 70 #[.int .i64 n] w fun e w' => e = .returned (.bool b) ∧ w = w' := hb ▸ nodes70 n w
theorem with_lit (s : Int) (m : Nat) (hm : s = (m : Int) ∧ m < 256) (k n : Int) (hn : n ≤ 7) (m2 : Nat) (h2 : (if inNodes k n = true then m ||| 2 ^ k.toNat else m) = m2) (w : World) : Calls Tryz.prog 71 #[.int .u16 s, .int .i64 k, .int .i64 n] w fun e w' => e = .returned (.int .u16 (m2 : Int)) ∧ w = w' := by
  obtain ⟨rfl, hm⟩ := hm
  exact h2 ▸ with71 m hm k n hn w
theorem count_lit (s : Int) {m : Nat} (hm : s = (m : Int) ∧ m < 256) (p : Nat) (hp : popN m = p) (w : World) : Calls Tryz.prog 72 #[.int .u16 s] w fun e w' => e = .returned (.int .i64 (p : Int)) ∧ Below w.heap.size w w' := by
  obtain ⟨rfl, hm⟩ := hm
  exact hp ▸ count72 m hm w
set_option maxRecDepth 100000 in
set_option maxHeartbeats 4000000 in
theorem enough47 (n : Int) (l : List Int) (a : Option Addr) (q c : Nat) (hq : l.length = q) (hl : q ≤ 1000) (b : Bool) (hb : enoughB n l = b) (w : World) (ha : RowIs w a (l.flatMap iV)) :
    Calls Tryz.prog 47 #[.int .i64 n, .slice a q c] w fun e w' => e = .returned (.bool b) ∧ Below w.heap.size w w' := by
  subst hq hb
  have hp := Hp.start w
  have HA := Lib.hid ha
  clear ha
  cases hn : nodesB n with
  | false =>
    have HND := Lib.hid hn
    have HR : RowKit.Hid (enoughB n l = false) := Lib.hid (by unfold enoughB; rw [hn]; rfl)
    clear hn
    go_enter Tryz.func47, Tryz.ntmps47
    go_wp2_with (first | (go_at_call 70; (with_reducible refine (nodes_lit n _ HND.out _).mono ?_); rintro e w' ⟨rfl, rfl⟩) | go_skip | ((first | ((with_reducible refine pre_box _ _ rfl ?_); refine lB hp rfl (sTm rfl) rfl ?_; clear hp; intro b w1 hp) | ((with_reducible refine pre_load _ _ rfl ?_); refine lO hp rfl (sTm rfl) (by with_reducible first | exact cell3 | exact cell4) aa5 ?_) | ((with_reducible refine pre_store _ _ _ rfl ?_); (refine sO hp rfl (sTm rfl) (by with_reducible first | exact cell3 | exact cell4) aa5 ?_); clear hp; intro w1 hp; simp only [spl, zSet, sSet] at hp)); simp only [put_some, put_none, sSet, zSet]))
    go_ret
    exact ⟨by rw [HR.out]; rfl, hp.below⟩
  | true =>
    have HND := Lib.hid hn
    have hn7 : n ≤ 7 := by unfold nodesB at hn; simp only [Bool.or_eq_true, beq_iff_eq] at hn; omega
    have HN7 := Lib.hid hn7
    have HR : RowKit.Hid (enoughB n l = decide (n < 2 * (popN (maskN n l) : Int))) := Lib.hid (by unfold enoughB; rw [hn, Bool.true_and])
    clear hn hn7
    go_enter Tryz.func47, Tryz.ntmps47
    go_wp2_with (first | (go_at_call 70; (with_reducible refine (nodes_lit n _ HND.out _).mono ?_); rintro e w' ⟨rfl, rfl⟩) | go_skip | ((first | ((with_reducible refine pre_box _ _ rfl ?_); refine lB hp rfl (sTm rfl) rfl ?_; clear hp; intro b w1 hp) | ((with_reducible refine pre_load _ _ rfl ?_); refine lO hp rfl (sTm rfl) (by with_reducible first | exact cell3 | exact cell4) aa5 ?_) | ((with_reducible refine pre_store _ _ _ rfl ?_); (refine sO hp rfl (sTm rfl) (by with_reducible first | exact cell3 | exact cell4) aa5 ?_); clear hp; intro w1 hp; simp only [spl, zSet, sSet] at hp)); simp only [put_some, put_none, sSet, zSet]))
    go_loopg [6, 8, 14] l.length (fun k s v i wr => ∃ (q m : Nat) (x : Value), k + q = l.length ∧ s = .int .u16 (m : Int) ∧ v = x ∧ i = .int .i64 (q : Int) ∧ RowKit.Hid (maskN n (l.take q) = m) ∧ Hp w.heap.size w wr [])
    case atStart => exact ⟨0, 0, _, by omega, rfl, rfl, rfl, Lib.hid (by simp [maskN]), hp⟩
    case round =>
      clear hp
      obtain ⟨q, m, x, hkq, rfl, rfl, rfl, HMK, hp⟩ := hrel
      have HM2 : RowKit.Hid ((m : Int) = (m : Int) ∧ m < 256) := Lib.hid ⟨rfl, by rw [← HMK.out]; exact (maskN_bits HN7.out _).1⟩
      by_cases hlt : q < l.length
      · obtain ⟨bq, off, rfl, hx⟩ := HA.out.elems 1 iV_len (by omega) (by omega)
        have hj := List.getElem?_eq_getElem hlt
        replace hx := hx q _ hj
        have htk : l.take (q + 1) = l.take q ++ [l[q]] := by rw [List.take_add_one, hj]; rfl
        clear hj
        generalize l[q] = y at hx htk
        simp only [iV, Nat.mul_one] at hx
        have HX := Lib.hid hx
        obtain ⟨m2, hm2⟩ : ∃ m2, (if inNodes y n = true then m ||| 2 ^ y.toNat else m) = m2 := ⟨_, rfl⟩
        have HMS := Lib.hid hm2
        have HMN : RowKit.Hid (maskN n (l.take (q + 1)) = m2) := Lib.hid (by rw [htk, maskN_snoc, HMK.out]; exact hm2)
        have e1 : (0 : Int) ≤ (q : Int) := by omega
        have e2 : (q : Int) < (l.length : Int) := by omega
        clear hx htk hm2
        go_wp2_with (first | (go_at_call 71; (with_reducible refine (with_lit _ _ HM2.out _ n HN7.out _ HMS.out _).mono ?_); rintro e w' ⟨rfl, rfl⟩) | go_skip | ((first | ((with_reducible refine pre_box _ _ rfl ?_); refine lB hp rfl (sTm rfl) rfl ?_; clear hp; intro b w1 hp) | ((with_reducible refine pre_load _ _ rfl ?_); first | refine lO hp rfl (sTm rfl) (by with_reducible first | exact cell3 | exact cell4) aa5 ?_ | first | refine lRO hp rfl (sTm rfl) (by with_reducible first | exact cell3 | exact cell4) (HX.out 0 _ rfl) ?_) | ((with_reducible refine pre_store _ _ _ rfl ?_); (refine sO hp rfl (sTm rfl) (by with_reducible first | exact cell3 | exact cell4) aa5 ?_); clear hp; intro w1 hp; simp only [spl, zSet, sSet] at hp)); simp only [put_some, put_none, sSet, zSet]))
        go_roundg (gk - 1)
        case measure => omega
        case rel => exact ⟨q + 1, m2, _, by omega, rfl, rfl, by go_num, HMN, hp⟩
      · obtain rfl : q = l.length := by omega
        have f2 : decide ((l.length : Int) < (l.length : Int)) = false := by simp
        have hmk := HMK.out
        rw [List.take_length] at hmk
        obtain ⟨p, hpp⟩ : ∃ p, popN m = p := ⟨_, rfl⟩
        have HPP := Lib.hid hpp
        have hp7 : p ≤ 7 := by rw [← hpp, ← hmk, pop_cnt HN7.out]; exact cntN_le _ _ _
        have HRR : RowKit.Hid (enoughB n l = decide (n < 2 * (p : Int))) := Lib.hid (by rw [HR.out, hmk, hpp])
        have f3 : (0 : Int) ≤ (p : Int) := by omega
        have f4 : (p : Int) ≤ 7 := by omega
        clear hkq hlt hmk hpp hp7
        go_wp2_with (first | (go_at_call 72; (with_reducible refine (count_lit _ HM2.out _ HPP.out _).mono ?_); rintro e w1 ⟨rfl, hb⟩; replace hp := hp.call hb; clear hb) | go_skip | ((first | ((with_reducible refine pre_box _ _ rfl ?_); refine lB hp rfl (sTm rfl) rfl ?_; clear hp; intro b w1 hp) | ((with_reducible refine pre_load _ _ rfl ?_); refine lO hp rfl (sTm rfl) (by with_reducible first | exact cell3 | exact cell4) aa5 ?_) | ((with_reducible refine pre_store _ _ _ rfl ?_); (refine sO hp rfl (sTm rfl) (by with_reducible first | exact cell3 | exact cell4) aa5 ?_); clear hp; intro w1 hp; simp only [spl, zSet, sSet] at hp)); simp only [put_some, put_none, sSet, zSet]))
        go_ret
        exact ⟨by rw [HRR.out]; rfl, hp.below⟩
end Go.Proofs.YtcjbepaclbhjaaaGreat
/- The walks of Known, of the examples' kept, and of the examples of Execute. -/
namespace Go.Proofs.YtcjbepaclbhjaaaGreat
open Go.RowKit
def kE (n : Nat) : List Env := (List.range n).map fun (j : Nat) => En ((j : Int) + 1)
theorem kE_len (n : Nat) : (kE n).length = n := by simp [kE]
def KeptP (w : World) (n : Nat) (e : Ending) (w' : World) : Prop := ∃ a c R, e = .returned (.agg #[.int .i64 0, .int .i64 0, .int .i64 0, .string im3, .slice a n c]) ∧ n ≤ c ∧ Kept R (fun w => RowIs w a ((kE n).flatMap envL)) ∧ Hp w.heap.size w w' R
theorem kE_ok (n : Nat) (h : n ≤ 3) (a : Option Addr) (c : Nat) : okC ⟨0, 0, 0, im3, a, kE n, c⟩ = true := by
  match n, h with
  | 0, _ => exact okC_im3 (by kernel_rfl) rfl
  | 1, _ => exact okC_im3 (by kernel_rfl) rfl
  | 2, _ => exact okC_im3 (by kernel_rfl) rfl
  | 3, _ => exact okC_im3 (by kernel_rfl) rfl
theorem kE_small (n : Nat) (h : n ≤ 3) (a : Option Addr) (c : Nat) : Kv.Small ⟨0, 0, 0, im3, a, kE n, c⟩ := ⟨by simp only [kE_len]; omega, im3_small⟩
end Go.Proofs.YtcjbepaclbhjaaaGreat
/- What Adopt tells and what it makes when it is saved: the plain laws. No program in sight. -/
namespace Go.Proofs.YtcjbepaclbhjaaaGreat
open Go.RowKit
noncomputable def adoptB (x : Kv) (cm vw bs : Int) (l : List Env) : Bool := okC x && (inM cm x.bs (lastK x) && (inM vw x.vw 900000000 && (inM bs 0 cm && (folB bs 0 l && decide (cm - bs ≤ (l.length : Int))))))
theorem adoptB_facts {x : Kv} {cm vw bs : Int} {l : List Env} (h : adoptB x cm vw bs l = true) : okC x = true ∧ (x.bs ≤ cm ∧ cm ≤ lastK x) ∧ (x.vw ≤ vw ∧ vw ≤ 900000000) ∧ (0 ≤ bs ∧ bs ≤ cm) ∧ folB bs 0 l = true ∧ cm - bs ≤ (l.length : Int) := by
  unfold adoptB inM at h
  simp only [Bool.and_eq_true, decide_eq_true_eq] at h
  exact ⟨h.1, h.2.1, h.2.2.1, h.2.2.2.1, h.2.2.2.2.1, h.2.2.2.2.2⟩
def adoptL (cm bs : Int) (l : List Env) : List Env := l.drop (cm - bs).toNat
end Go.Proofs.YtcjbepaclbhjaaaGreat
