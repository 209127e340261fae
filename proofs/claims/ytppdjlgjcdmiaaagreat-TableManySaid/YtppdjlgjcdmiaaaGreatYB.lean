/- The walk of slices.BinarySearchFunc at rows of clients (written by src/gen/bsgen.py). -/
import Derived.Test.YtppdjlgjcdmiaaaGreatQC
import Derived.Test.YtppdjlgjcdmiaaaGreatQB
set_option linter.unusedSimpArgs false
set_option linter.unusedVariables false
namespace Go.Proofs.YtppdjlgjcdmiaaaGreat
open Go.RowKit
theorem ceYB0 {ty : TypeId} (h : cellB Tryz.prog ty = true := by with_reducible first | exact cell3 | exact cell4 | exact cell41) : cellB Tryz.prog ty = true := h
theorem fc38 (x : Rw) (t : Int) (w : World) : Calls Tryz.prog 38 #[.agg #[.int .i64 x.c, .int .i64 x.s, .int .i64 x.e, .int .i64 x.v], .int .i64 t] w fun e w' => e = .returned (.int .i64 (cmpI x.c t)) ∧ Below w.heap.size w w' := by
  have hp := Hp.start w
  go_enter Tryz.func38, Tryz.ntmps38
  go_wp2_with (first | (go_at_call 39; (with_reducible refine (cmp39 _ _ _).mono ?_); rintro e w' ⟨rfl, rfl⟩) | go_skip | ((first | ((with_reducible refine pre_alloc _ rfl ?_); refine lZ hp rfl zero57 ?_; clear hp; intro b w1 hp) | ((with_reducible refine pre_box _ _ rfl ?_); refine lB hp rfl (slot_tmp rfl) rfl ?_; clear hp; intro b w1 hp) | ((with_reducible refine pre_load _ _ rfl ?_); first | refine lO hp rfl (slot_tmp rfl) cell3 aa14 ?_ | refine lA hp rfl (slot_tmp rfl) agg57 aa14 ?_) | ((with_reducible refine pre_store _ _ _ rfl ?_); (first | refine sO hp rfl (slot_tmp rfl) cell3 aa14 ?_ | refine sA hp rfl (slot_tmp rfl) (slot_tmp rfl) agg57 aa14 ?_ | refine sG hp rfl (slot_tmp rfl) (slot_tmp rfl) agg57 aa14 ?_); clear hp; intro w1 hp; simp only [spl, List.set_cons_zero, List.set_cons_succ] at hp)); simp only [put_some, put_none, List.set_cons_succ, List.set_cons_zero]))
  go_ret
  exact ⟨rfl, hp.below⟩
def AtR (l : List Rw) (t : Int) (k : Nat) : Prop := k ≤ l.length ∧ (∀ (j : Nat) y, l[j]? = some y → j < k → y.c < t) ∧ (∀ (j : Nat) y, l[j]? = some y → k ≤ j → t ≤ y.c)
def SortedR (l : List Rw) : Prop := ∀ (i j : Nat) x y, i < j → l[i]? = some x → l[j]? = some y → x.c < y.c
def hasBR (l : List Rw) (t : Int) (k : Nat) : Bool := match l[k]? with
  | some y => decide (y.c = t)
  | none => false
theorem at_uniqR {l : List Rw} {t : Int} {k k' : Nat} (h : AtR l t k) (h' : AtR l t k') : k = k' := by
  obtain ⟨h1, h2, h3⟩ := h
  obtain ⟨g1, g2, g3⟩ := h'
  rcases Nat.lt_trichotomy k k' with hk | hk | hk
  · have hy := List.getElem?_eq_getElem (l := l) (i := k) (by omega)
    have a := g2 k _ hy hk
    have b := h3 k _ hy (Nat.le_refl _)
    omega
  · exact hk
  · have hy := List.getElem?_eq_getElem (l := l) (i := k') (by omega)
    have a := h2 k' _ hy hk
    have b := g3 k' _ hy (Nat.le_refl _)
    omega
theorem at_exR {l : List Rw} (hs : SortedR l) (t : Int) : ∃ k, AtR l t k := by
  let P : Nat → Prop := fun k => ∀ (j : Nat) y, l[j]? = some y → k ≤ j → t ≤ y.c
  have hP : P l.length := fun j y hj hk => by have := (List.getElem?_eq_some_iff.1 hj).1; omega
  have least : ∀ m, P m → ∃ k, P k ∧ k ≤ m ∧ ∀ k', k' < k → ¬ P k' := by
    intro m
    induction m using Nat.strongRecOn with
    | _ m ih =>
      intro hm
      by_cases h : ∃ m', m' < m ∧ P m'
      · obtain ⟨m', h1, h2⟩ := h
        obtain ⟨k, hk, hle, hno⟩ := ih m' h1 h2
        exact ⟨k, hk, by omega, hno⟩
      · exact ⟨m, hm, Nat.le_refl _, fun k' hk' hp => h ⟨k', hk', hp⟩⟩
  obtain ⟨k, hk, hle, hno⟩ := least _ hP
  refine ⟨k, hle, fun j y hj hjk => ?_, hk⟩
  have hn := hno (k - 1) (by omega)
  obtain ⟨j0, hn⟩ := Classical.not_forall.1 hn
  obtain ⟨y0, hn⟩ := Classical.not_forall.1 hn
  obtain ⟨hy0, hn⟩ := Classical.not_forall.1 hn
  obtain ⟨hk0, hn⟩ := Classical.not_forall.1 hn
  have hj0 : j0 = k - 1 := by
    rcases Nat.lt_or_ge j0 k with h | h
    · omega
    · exact absurd (hk j0 y0 hy0 h) hn
  subst hj0
  rcases Nat.lt_or_ge j (k - 1) with h | h
  · have := hs j (k - 1) y y0 h hj hy0; omega
  · have : j = k - 1 := by omega
    subst this
    rw [hj] at hy0; injection hy0 with hy0; subst hy0; omega
set_option maxRecDepth 100000 in
set_option maxHeartbeats 4000000 in
theorem bs37 (l : List Rw) (a : Option Addr) (c : Nat) (hl : l.length ≤ 1000) (t : Int) (k : Nat) (hk : AtR l t k) (w : World) (ha : RowIs w a (l.flatMap rwV)) :
    Calls Tryz.prog 37 #[.slice a l.length c, .int .i64 t, .func (.func 38) #[] #[]] w fun e w' => e = .returned (.tuple #[.int .i64 k, .bool (hasBR l t k)]) ∧ Below w.heap.size w w' := by
  have hp := Hp.start w
  have HA := Lib.hid ha
  have HK := Lib.hid hk
  clear ha hk
  go_enter Tryz.func37, Tryz.ntmps37
  go_wp2_with (first | go_skip | ((first | ((with_reducible refine pre_box _ _ rfl ?_); refine lB hp rfl (slot_tmp rfl) rfl ?_; clear hp; intro b w1 hp) | ((with_reducible refine pre_load _ _ rfl ?_); first | refine lO hp rfl (slot_tmp rfl) ceYB0 aa14 ?_ | refine lA hp rfl (slot_tmp rfl) agg57 aa14 ?_ | refine lR hp rfl (slot_tmp rfl) agg57 HX.out ?_) | ((with_reducible refine pre_store _ _ _ rfl ?_); (first | refine sO hp rfl (slot_tmp rfl) ceYB0 aa14 ?_ | refine sA hp rfl (slot_tmp rfl) (slot_tmp rfl) agg57 aa14 ?_ | refine sG hp rfl (slot_tmp rfl) (slot_tmp rfl) agg57 aa14 ?_); clear hp; intro w1 hp; simp only [spl, List.set_cons_zero, List.set_cons_succ] at hp)); simp only [put_some, put_none, List.set_cons_succ, List.set_cons_zero]) | go_skip)
  go_loopg [9, 10] l.length (fun g i j wr => ∃ x y : Nat, i = .int .i64 x ∧ j = .int .i64 y ∧ x ≤ y ∧ y ≤ l.length ∧ g + x = y ∧ RowKit.Hid (x ≤ k ∧ k ≤ y) ∧ Hp w.heap.size w wr [])
  case atStart => exact ⟨0, l.length, rfl, rfl, by omega, by omega, by omega, Lib.hid ⟨by omega, HK.out.1⟩, hp⟩
  case round =>
    clear hp
    obtain ⟨x, y, rfl, rfl, hxy, hyl, hg, HXY, hp⟩ := hrel
    by_cases hlt : x < y
    · obtain ⟨h, hh⟩ : ∃ h, h = (x + y) / 2 := ⟨_, rfl⟩
      have hxh : x ≤ h := by omega
      have hhy : h < y := by omega
      obtain ⟨bq, off, rfl, hx⟩ := HA.out.elems 4 rwV_len (by omega) (by omega)
      have hj := List.getElem?_eq_getElem (l := l) (i := h) (by omega)
      replace hx := hx h _ hj
      generalize l[h]'(by omega) = z at hx hj
      have e1 : (x : Int) < (y : Int) := by omega
      have e2 : ((x : Int) + (y : Int)) / 2 = (h : Int) := by omega
      have e3 : (0 : Int) ≤ (h : Int) := by omega
      have e4 : (h : Int) < (l.length : Int) := by omega
      have HJ := Lib.hid hj
      obtain ⟨yc, ys, ye, yv⟩ := z
      simp only [rwV] at hx
      have HX := Lib.hid hx
      have HHH := Lib.hid hh
      clear hx hj hh
      by_cases hc : yc < t
      · have HCM : RowKit.Hid (cmpI yc t = -1) := Lib.hid (by unfold cmpI; rw [if_pos hc])
        have HC := Lib.hid hc
        clear hc
        go_wp2_with (first | (go_at_call 38; (with_reducible refine (fc38 ⟨yc, ys, ye, yv⟩ t _).mono ?_); rintro e w1 ⟨rfl, hb⟩; replace hp := hp.call hb; clear hb; rw [HCM.out]) | go_skip | ((first | ((with_reducible refine pre_box _ _ rfl ?_); refine lB hp rfl (slot_tmp rfl) rfl ?_; clear hp; intro b w1 hp) | ((with_reducible refine pre_load _ _ rfl ?_); first | refine lO hp rfl (slot_tmp rfl) ceYB0 aa14 ?_ | refine lA hp rfl (slot_tmp rfl) agg57 aa14 ?_ | refine lR hp rfl (slot_tmp rfl) agg57 HX.out ?_) | ((with_reducible refine pre_store _ _ _ rfl ?_); (first | refine sO hp rfl (slot_tmp rfl) ceYB0 aa14 ?_ | refine sA hp rfl (slot_tmp rfl) (slot_tmp rfl) agg57 aa14 ?_ | refine sG hp rfl (slot_tmp rfl) (slot_tmp rfl) agg57 aa14 ?_); clear hp; intro w1 hp; simp only [spl, List.set_cons_zero, List.set_cons_succ] at hp)); simp only [put_some, put_none, List.set_cons_succ, List.set_cons_zero]))
        go_roundg (y - (h + 1))
        case measure => have := HHH.out; omega
        case rel =>
          refine ⟨h + 1, y, by go_num, rfl, by omega, hyl, by omega, Lib.hid ⟨?_, HXY.out.2⟩, hp⟩
          rcases Nat.lt_or_ge h k with h1 | h1
          · omega
          · have h2 : t ≤ yc := HK.out.2.2 h _ HJ.out h1
            have h3 := HC.out
            omega
      · obtain ⟨cv, hcv, hc0⟩ : ∃ cv : Int, cmpI yc t = cv ∧ 0 ≤ cv := by
          unfold cmpI; rw [if_neg hc]
          split
          · exact ⟨1, rfl, by omega⟩
          · exact ⟨0, rfl, by omega⟩
        have HCM := Lib.hid hcv
        have HC := Lib.hid hc
        have hc1 : decide (cv < 0) = false := by simp; omega
        clear hc hcv
        go_wp2_with (first | (go_at_call 38; (with_reducible refine (fc38 ⟨yc, ys, ye, yv⟩ t _).mono ?_); rintro e w1 ⟨rfl, hb⟩; replace hp := hp.call hb; clear hb; rw [HCM.out]) | go_skip | ((first | ((with_reducible refine pre_box _ _ rfl ?_); refine lB hp rfl (slot_tmp rfl) rfl ?_; clear hp; intro b w1 hp) | ((with_reducible refine pre_load _ _ rfl ?_); first | refine lO hp rfl (slot_tmp rfl) ceYB0 aa14 ?_ | refine lA hp rfl (slot_tmp rfl) agg57 aa14 ?_ | refine lR hp rfl (slot_tmp rfl) agg57 HX.out ?_) | ((with_reducible refine pre_store _ _ _ rfl ?_); (first | refine sO hp rfl (slot_tmp rfl) ceYB0 aa14 ?_ | refine sA hp rfl (slot_tmp rfl) (slot_tmp rfl) agg57 aa14 ?_ | refine sG hp rfl (slot_tmp rfl) (slot_tmp rfl) agg57 aa14 ?_); clear hp; intro w1 hp; simp only [spl, List.set_cons_zero, List.set_cons_succ] at hp)); simp only [put_some, put_none, List.set_cons_succ, List.set_cons_zero]))
        go_roundg (h - x)
        case measure => have := HHH.out; omega
        case rel =>
          refine ⟨x, h, rfl, rfl, by omega, by omega, by omega, Lib.hid ⟨HXY.out.1, ?_⟩, hp⟩
          rcases Nat.lt_or_ge h k with h1 | h1
          · have h2 : yc < t := HK.out.2.1 h _ HJ.out h1
            have h3 := HC.out
            omega
          · exact h1
    · have hxk : x = k := by have := HXY.out; omega
      have hyk : y = k := by have := HXY.out; omega
      subst hxk
      subst hyk
      have e0 : decide ((y : Int) < (y : Int)) = false := by simp
      by_cases hkl : y < l.length
      · obtain ⟨bq, off, rfl, hx⟩ := HA.out.elems 4 rwV_len (by omega) (by omega)
        have hj := List.getElem?_eq_getElem hkl
        replace hx := hx y _ hj
        generalize l[y] = z at hx hj
        have e3 : (0 : Int) ≤ (y : Int) := by omega
        have e4 : (y : Int) < (l.length : Int) := by omega
        obtain ⟨yc, ys, ye, yv⟩ := z
        simp only [rwV] at hx
        have HX := Lib.hid hx
        have hge := HK.out.2.2 y _ hj (Nat.le_refl _)
        simp only at hge
        by_cases hc : yc = t
        · have HB : RowKit.Hid (hasBR l t y = true) := Lib.hid (by unfold hasBR; rw [hj]; simp [hc])
          have HCM : RowKit.Hid (cmpI yc t = 0) := Lib.hid (by unfold cmpI; rw [if_neg (by omega), if_neg (by omega)])
          clear hx hj hge hc
          go_wp2_with (first | (go_at_call 38; (with_reducible refine (fc38 ⟨yc, ys, ye, yv⟩ t _).mono ?_); rintro e w1 ⟨rfl, hb⟩; replace hp := hp.call hb; clear hb; rw [HCM.out]) | go_skip | ((first | ((with_reducible refine pre_box _ _ rfl ?_); refine lB hp rfl (slot_tmp rfl) rfl ?_; clear hp; intro b w1 hp) | ((with_reducible refine pre_load _ _ rfl ?_); first | refine lO hp rfl (slot_tmp rfl) ceYB0 aa14 ?_ | refine lA hp rfl (slot_tmp rfl) agg57 aa14 ?_ | refine lR hp rfl (slot_tmp rfl) agg57 HX.out ?_) | ((with_reducible refine pre_store _ _ _ rfl ?_); (first | refine sO hp rfl (slot_tmp rfl) ceYB0 aa14 ?_ | refine sA hp rfl (slot_tmp rfl) (slot_tmp rfl) agg57 aa14 ?_ | refine sG hp rfl (slot_tmp rfl) (slot_tmp rfl) agg57 aa14 ?_); clear hp; intro w1 hp; simp only [spl, List.set_cons_zero, List.set_cons_succ] at hp)); simp only [put_some, put_none, List.set_cons_succ, List.set_cons_zero]))
          go_ret2
          exact ⟨by rw [HB.out]; rfl, hp.below⟩
        · have HB : RowKit.Hid (hasBR l t y = false) := Lib.hid (by unfold hasBR; rw [hj]; simp [hc])
          have HCM : RowKit.Hid (cmpI yc t = 1) := Lib.hid (by unfold cmpI; rw [if_neg (by omega), if_pos (by omega)])
          clear hx hj hge hc
          go_wp2_with (first | (go_at_call 38; (with_reducible refine (fc38 ⟨yc, ys, ye, yv⟩ t _).mono ?_); rintro e w1 ⟨rfl, hb⟩; replace hp := hp.call hb; clear hb; rw [HCM.out]) | go_skip | ((first | ((with_reducible refine pre_box _ _ rfl ?_); refine lB hp rfl (slot_tmp rfl) rfl ?_; clear hp; intro b w1 hp) | ((with_reducible refine pre_load _ _ rfl ?_); first | refine lO hp rfl (slot_tmp rfl) ceYB0 aa14 ?_ | refine lA hp rfl (slot_tmp rfl) agg57 aa14 ?_ | refine lR hp rfl (slot_tmp rfl) agg57 HX.out ?_) | ((with_reducible refine pre_store _ _ _ rfl ?_); (first | refine sO hp rfl (slot_tmp rfl) ceYB0 aa14 ?_ | refine sA hp rfl (slot_tmp rfl) (slot_tmp rfl) agg57 aa14 ?_ | refine sG hp rfl (slot_tmp rfl) (slot_tmp rfl) agg57 aa14 ?_); clear hp; intro w1 hp; simp only [spl, List.set_cons_zero, List.set_cons_succ] at hp)); simp only [put_some, put_none, List.set_cons_succ, List.set_cons_zero]))
          go_ret2
          exact ⟨by rw [HB.out]; rfl, hp.below⟩
      · have e4 : decide ((y : Int) < (l.length : Int)) = false := by simp; omega
        have HB : RowKit.Hid (hasBR l t y = false) := Lib.hid (by unfold hasBR; rw [List.getElem?_eq_none (by omega)])
        go_wp2_with (first | go_skip | ((first | ((with_reducible refine pre_box _ _ rfl ?_); refine lB hp rfl (slot_tmp rfl) rfl ?_; clear hp; intro b w1 hp) | ((with_reducible refine pre_load _ _ rfl ?_); first | refine lO hp rfl (slot_tmp rfl) ceYB0 aa14 ?_ | refine lA hp rfl (slot_tmp rfl) agg57 aa14 ?_ | refine lR hp rfl (slot_tmp rfl) agg57 HX.out ?_) | ((with_reducible refine pre_store _ _ _ rfl ?_); (first | refine sO hp rfl (slot_tmp rfl) ceYB0 aa14 ?_ | refine sA hp rfl (slot_tmp rfl) (slot_tmp rfl) agg57 aa14 ?_ | refine sG hp rfl (slot_tmp rfl) (slot_tmp rfl) agg57 aa14 ?_); clear hp; intro w1 hp; simp only [spl, List.set_cons_zero, List.set_cons_succ] at hp)); simp only [put_some, put_none, List.set_cons_succ, List.set_cons_zero]) | go_skip)
        go_ret2
        exact ⟨by rw [HB.out]; rfl, hp.below⟩
end Go.Proofs.YtppdjlgjcdmiaaaGreat
