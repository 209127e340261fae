/- The walk of the reference's Right: each block is held against each one ahead of it. -/
import Derived.Test.YtinlmcdphhmhjaaBCheck
import Derived.Test.YtinlmcdphhmhjaaBMay2
set_option linter.unusedSimpArgs false
set_option linter.unusedVariables false
namespace Go.Proofs.Ytinlmcdphhmhjaa
open Go.RowKit

/-- The ways of Right's inner round: block y = ⟨p, o⟩ at i, held against x = ⟨q, r⟩ at k. -/
theorem rgt_ways {order : Int} {l : List Bl} {i k : Nat} {p o q r : Int} (h8 : order ≤ 8) (hy : l[i]? = some ⟨p, o⟩) (hx : l[k]? = some ⟨q, r⟩) (hki : k < i) (hm : MayP order ⟨p, o⟩) (hn : MayP order ⟨q, r⟩) (hg : ∀ (k' : Nat) x, k' < k → l[k']? = some x → Pair order x ⟨p, o⟩) :
    (0 ≤ p ∧ p ≤ 256 ∧ o ≤ 8 ∧ 0 ≤ q ∧ q ≤ 256 ∧ r ≤ 8) ∧
    ((decide (p ≤ q) = true ∧ rightB order l = false) ∨
     (decide (p ≤ q) = false ∧ meetB p o q r = true ∧ rightB order l = false) ∨
     (decide (p ≤ q) = false ∧ meetB p o q r = false ∧ decide (o < order) = false ∧ ∀ (k' : Nat) x, k' < k + 1 → l[k']? = some x → Pair order x ⟨p, o⟩) ∨
     (decide (p ≤ q) = false ∧ meetB p o q r = false ∧ decide (o < order) = true ∧ (twP p o == q) = false ∧ ∀ (k' : Nat) x, k' < k + 1 → l[k']? = some x → Pair order x ⟨p, o⟩) ∨
     (decide (p ≤ q) = false ∧ meetB p o q r = false ∧ decide (o < order) = true ∧ (twP p o == q) = true ∧ (o == r) = false ∧ ∀ (k' : Nat) x, k' < k + 1 → l[k']? = some x → Pair order x ⟨p, o⟩) ∨
     (decide (p ≤ q) = false ∧ meetB p o q r = false ∧ decide (o < order) = true ∧ (twP p o == q) = true ∧ (o == r) = true ∧ rightB order l = false)) := by
  obtain ⟨f1, f2, f3, f4, f5, f6⟩ := may_facts h8 hm
  obtain ⟨g1, g2, g3, g4, g5, g6⟩ := may_facts h8 hn
  have e1 := pw_pos o
  have e2 := pw_pos r
  refine ⟨⟨f1, f2, f4, g1, g2, g4⟩, ?_⟩
  have hno : ¬ Pair order ⟨q, r⟩ ⟨p, o⟩ → rightB order l = false := fun h => rightB_no fun hG => h ((hG i _ hy).2 k _ hki hx)
  by_cases h1 : p ≤ q
  · left
    refine ⟨by simp [h1], hno fun h => ?_⟩
    have := h.1
    simp only at this
    omega
  right
  cases h2 : meetB p o q r
  case true =>
    left
    refine ⟨by simp; omega, rfl, hno fun h => ?_⟩
    have := h.1
    simp only at this
    simp [meetB] at h2
    omega
  right
  have h3 : q + pw r ≤ p := by simp [meetB] at h2; omega
  have hyes : ¬ (o < order ∧ twP p o = q ∧ o = r) → ∀ (k' : Nat) x, k' < k + 1 → l[k']? = some x → Pair order x ⟨p, o⟩ := by
    intro hnot k' x hk hx'
    by_cases hkk : k' = k
    · subst hkk
      rw [hx] at hx'
      cases hx'
      refine ⟨h3, ?_⟩
      rintro ⟨h4, h5⟩
      rw [twinP_eq] at h5
      injection h5 with h5 h6
      exact hnot ⟨h4, h5, h6⟩
    · exact hg k' x (by omega) hx'
  by_cases h4 : o < order
  · by_cases h5 : twP p o = q
    · by_cases h6 : o = r
      · right; right; right
        refine ⟨by simp; omega, rfl, by simp [h4], by simp [h5], by simp [h6], hno fun h => h.2 ⟨h4, ?_⟩⟩
        rw [twinP_eq, h5, h6]
      · right; right; left
        exact ⟨by simp; omega, rfl, by simp [h4], by simp [h5], by simp [h6], hyes fun h => h6 h.2.2⟩
    · right; left
      exact ⟨by simp; omega, rfl, by simp [h4], by simp [h5], hyes fun h => h5 h.2.1⟩
  · left
    exact ⟨by simp; omega, rfl, by simp; omega, hyes fun h => h4 h.1⟩

theorem mayB_no {order : Int} {l : List Bl} {i : Nat} {p o : Int} (hy : l[i]? = some ⟨p, o⟩) (h : mayB order p o = false) : rightB order l = false := rightB_no fun hG => by
  have := (hG i _ hy).1
  simp [mayB, this] at h

set_option maxRecDepth 100000 in
set_option maxHeartbeats 8000000 in
theorem right42_reg (order : Int) (h3 : 3 ≤ order) (h8 : order ≤ 8) (l : List Bl) (a : Option Addr) (c : Nat) (hl : l.length ≤ 600) (hlen : (l.length : Int) ≤ pw order) (w : World) (ha : RowIs w a (l.flatMap blV)) :
    Calls Try.prog 42 #[.int .i64 order, .slice a l.length c] w fun e w' => e = .returned (.bool (rightB order l)) ∧ Below w.heap.size w w' := by
  have hr : regionB order = true := by simp [regionB]; omega
  have K11 := Lib.hid (region32 order)
  rw [hr] at K11
  have HR := Lib.hid hr
  clear hr
  have hp := Hp.start w
  have HA := Lib.hid ha
  clear ha
  have hd : decide (pw order < (l.length : Int)) = false := by simp; omega
  go_enter Try.func42, Try.ntmps42
  go_wp2_with (first | (go_at_call 32; refine (K11.out _).mono ?_; rintro e w' ⟨rfl, rfl⟩) | (go_at_call 47; refine (size47 _ (by omega) _).mono ?_; rintro e w' ⟨rfl, rfl⟩) | go_skip | ((with_reducible refine pre_alloc 39 rfl ?_); refine wpList_alloc_hp hp _ rfl (by first | exact wanted_none rfl | exact wanted_yes rfl rfl rfl rfl) _ _ zero39 ?_; clear hp; intro b w1 hp; simp only [put_some, put_none, List.set_cons_succ, List.set_cons_zero]) | ((with_reducible refine pre_box _ _ rfl ?_); refine wpList_box_hp hp _ _ rfl (by first | exact wanted_none rfl | exact wanted_yes rfl rfl rfl rfl) _ (slot_tmp rfl) _ rfl _ (by simp only [List.length_cons, List.length_nil, Nat.reduceAdd]; rfl) ?_; clear hp; intro b w1 hp; simp only [put_some, put_none, List.set_cons_succ, List.set_cons_zero]) | ((with_reducible refine pre_load _ _ rfl ?_); first | (refine wpList_loadOne_hp hp _ _ rfl (by first | exact wanted_none rfl | exact wanted_yes rfl rfl rfl rfl) _ _ (slot_tmp rfl) (by with_reducible first | exact cell3 | exact cell4 | exact cell29) _ _ _ _ (by first | exact at0 | exact at1 | exact at2 | exact at3) _ (by rfl) ?_; simp only [put_some, put_none, List.set_cons_succ, List.set_cons_zero]) | (refine wpList_loadAgg_hp hp _ _ rfl (by first | exact wanted_none rfl | exact wanted_yes rfl rfl rfl rfl) _ _ (slot_tmp rfl) _ (by with_reducible first | exact agg39) _ _ _ _ (by first | exact at0 | exact at1 | exact at2 | exact at3) _ (by simp only [List.drop_zero, List.drop_succ_cons, List.take_succ_cons, List.take_zero, List.take_nil]; rfl) (by rfl) ?_; simp only [put_some, put_none, List.set_cons_succ, List.set_cons_zero])) | ((with_reducible refine pre_store 39 _ _ rfl ?_); first | (refine wpList_storeAll_hp hp _ _ _ rfl (by first | exact wanted_none rfl | exact wanted_yes rfl rfl rfl rfl) _ (slot_tmp rfl) _ (slot_tmp rfl) agg39 _ _ _ _ (by first | exact at0 | exact at1 | exact at2 | exact at3) (by rfl) (by first | rfl | simp [*]) ?_; clear hp; intro w1 hp; simp only [List.set_cons_zero, List.set_cons_succ] at hp; simp only [put_some, put_none, List.set_cons_succ, List.set_cons_zero]) | (refine wpList_storeAgg_hp hp _ _ _ rfl (by first | exact wanted_none rfl | exact wanted_yes rfl rfl rfl rfl) _ _ (slot_tmp rfl) _ (slot_tmp rfl) agg39 _ _ _ _ (by first | exact at0 | exact at1 | exact at2 | exact at3) (by simp only [List.length_cons, List.length_nil]; omega) (by first | rfl | simp [*]) ?_; clear hp; intro w1 hp; simp only [spl, List.set_cons_zero, List.set_cons_succ] at hp; simp only [put_some, put_none, List.set_cons_succ, List.set_cons_zero])) | ((with_reducible refine pre_store _ _ _ rfl ?_); (refine wpList_storeOne_hp hp _ _ _ rfl (by first | exact wanted_none rfl | exact wanted_yes rfl rfl rfl rfl) _ _ (slot_tmp rfl) _ (by first | exact slot_tmp rfl | exact slot_const) (by with_reducible first | exact cell3 | exact cell4 | exact cell29) _ _ _ _ (by first | exact at0 | exact at1 | exact at2 | exact at3) (by simp only [List.length_cons, List.length_nil]; omega) (by first | rfl | assumption) ?_; clear hp; intro w1 hp; simp only [List.set_cons_zero, List.set_cons_succ] at hp; simp only [put_some, put_none, List.set_cons_succ, List.set_cons_zero])))
  clear hd hlen
  go_loopg [5] l.length (fun k i wr => ∃ j : Nat, k + j = l.length ∧ i = .int .i64 j ∧ Good order (l.take j) ∧ Hp w.heap.size w wr [])
  case atStart => exact ⟨0, by omega, rfl, by simpa using Good.nil order, hp⟩
  case round =>
    clear hp
    obtain ⟨j, hkj, rfl, hg, hp⟩ := hrel
    have HG := Lib.hid hg
    clear hg
    by_cases hlt : j < l.length
    · obtain ⟨bq, off, rfl, hx⟩ := HA.out.elems 2 blV_len (by omega) (by omega)
      have HE := Lib.hid hx
      have hj := List.getElem?_eq_getElem hlt
      replace hx := hx j _ hj
      generalize l[j] = x at hx hj
      obtain ⟨p, o⟩ := x
      simp only [blV] at hx
      have HX := Lib.hid hx
      have HJ := Lib.hid hj
      clear hx hj
      have e1 : (0 : Int) ≤ (j : Int) := by omega
      have e2 : (j : Int) < (l.length : Int) := by omega
      cases dm : mayB order p o
      · go_wp2_with (first | (go_at_call 43; refine (may43 _ h8 _ _ _).mono ?_; rintro e w1 ⟨rfl, hb⟩; rw [dm]; replace hp := hp.call hb; clear hb) | go_skip | ((with_reducible refine pre_alloc 39 rfl ?_); refine wpList_alloc_hp hp _ rfl (by first | exact wanted_none rfl | exact wanted_yes rfl rfl rfl rfl) _ _ zero39 ?_; clear hp; intro b w1 hp; simp only [put_some, put_none, List.set_cons_succ, List.set_cons_zero]) | ((with_reducible refine pre_box _ _ rfl ?_); refine wpList_box_hp hp _ _ rfl (by first | exact wanted_none rfl | exact wanted_yes rfl rfl rfl rfl) _ (slot_tmp rfl) _ rfl _ (by simp only [List.length_cons, List.length_nil, Nat.reduceAdd]; rfl) ?_; clear hp; intro b w1 hp; simp only [put_some, put_none, List.set_cons_succ, List.set_cons_zero]) | ((with_reducible refine pre_load _ _ rfl ?_); first | (refine wpList_loadOne_hp hp _ _ rfl (by first | exact wanted_none rfl | exact wanted_yes rfl rfl rfl rfl) _ _ (slot_tmp rfl) (by with_reducible first | exact cell3 | exact cell4 | exact cell29) _ _ _ _ (by first | exact at0 | exact at1 | exact at2 | exact at3) _ (by rfl) ?_; simp only [put_some, put_none, List.set_cons_succ, List.set_cons_zero]) | (first | (refine wpList_loadRowOne_hp hp _ _ rfl (by first | exact wanted_none rfl | exact wanted_yes rfl rfl rfl rfl) _ _ (slot_tmp rfl) (by with_reducible first | exact cell3 | exact cell4 | exact cell29) _ (by first | exact HX.out 0 _ rfl | exact HX.out 1 _ rfl) ?_); simp only [put_some, put_none, List.set_cons_succ, List.set_cons_zero]) | (refine wpList_loadAgg_hp hp _ _ rfl (by first | exact wanted_none rfl | exact wanted_yes rfl rfl rfl rfl) _ _ (slot_tmp rfl) _ (by with_reducible first | exact agg39) _ _ _ _ (by first | exact at0 | exact at1 | exact at2 | exact at3) _ (by simp only [List.drop_zero, List.drop_succ_cons, List.take_succ_cons, List.take_zero, List.take_nil]; rfl) (by rfl) ?_; simp only [put_some, put_none, List.set_cons_succ, List.set_cons_zero]) | (refine wpList_loadRow_hp hp _ _ rfl (by first | exact wanted_none rfl | exact wanted_yes rfl rfl rfl rfl) _ _ (slot_tmp rfl) _ (by with_reducible first | exact agg39) _ HX.out (by rfl) ?_; simp only [put_some, put_none, List.set_cons_succ, List.set_cons_zero])) | ((with_reducible refine pre_store 39 _ _ rfl ?_); first | (refine wpList_storeAll_hp hp _ _ _ rfl (by first | exact wanted_none rfl | exact wanted_yes rfl rfl rfl rfl) _ (slot_tmp rfl) _ (slot_tmp rfl) agg39 _ _ _ _ (by first | exact at0 | exact at1 | exact at2 | exact at3) (by rfl) (by first | rfl | simp [*]) ?_; clear hp; intro w1 hp; simp only [List.set_cons_zero, List.set_cons_succ] at hp; simp only [put_some, put_none, List.set_cons_succ, List.set_cons_zero]) | (refine wpList_storeAgg_hp hp _ _ _ rfl (by first | exact wanted_none rfl | exact wanted_yes rfl rfl rfl rfl) _ _ (slot_tmp rfl) _ (slot_tmp rfl) agg39 _ _ _ _ (by first | exact at0 | exact at1 | exact at2 | exact at3) (by simp only [List.length_cons, List.length_nil]; omega) (by first | rfl | simp [*]) ?_; clear hp; intro w1 hp; simp only [spl, List.set_cons_zero, List.set_cons_succ] at hp; simp only [put_some, put_none, List.set_cons_succ, List.set_cons_zero])) | ((with_reducible refine pre_store _ _ _ rfl ?_); (refine wpList_storeOne_hp hp _ _ _ rfl (by first | exact wanted_none rfl | exact wanted_yes rfl rfl rfl rfl) _ _ (slot_tmp rfl) _ (by first | exact slot_tmp rfl | exact slot_const) (by with_reducible first | exact cell3 | exact cell4 | exact cell29) _ _ _ _ (by first | exact at0 | exact at1 | exact at2 | exact at3) (by simp only [List.length_cons, List.length_nil]; omega) (by first | rfl | assumption) ?_; clear hp; intro w1 hp; simp only [List.set_cons_zero, List.set_cons_succ] at hp; simp only [put_some, put_none, List.set_cons_succ, List.set_cons_zero])))
        go_ret
        exact ⟨ret_bool (mayB_no HJ.out dm).symm, hp.below⟩
      · go_wp2_with (first | (go_at_call 43; refine (may43 _ h8 _ _ _).mono ?_; rintro e w1 ⟨rfl, hb⟩; rw [dm]; replace hp := hp.call hb; clear hb) | go_skip | ((with_reducible refine pre_alloc 39 rfl ?_); refine wpList_alloc_hp hp _ rfl (by first | exact wanted_none rfl | exact wanted_yes rfl rfl rfl rfl) _ _ zero39 ?_; clear hp; intro b w1 hp; simp only [put_some, put_none, List.set_cons_succ, List.set_cons_zero]) | ((with_reducible refine pre_box _ _ rfl ?_); refine wpList_box_hp hp _ _ rfl (by first | exact wanted_none rfl | exact wanted_yes rfl rfl rfl rfl) _ (slot_tmp rfl) _ rfl _ (by simp only [List.length_cons, List.length_nil, Nat.reduceAdd]; rfl) ?_; clear hp; intro b w1 hp; simp only [put_some, put_none, List.set_cons_succ, List.set_cons_zero]) | ((with_reducible refine pre_load _ _ rfl ?_); first | (refine wpList_loadOne_hp hp _ _ rfl (by first | exact wanted_none rfl | exact wanted_yes rfl rfl rfl rfl) _ _ (slot_tmp rfl) (by with_reducible first | exact cell3 | exact cell4 | exact cell29) _ _ _ _ (by first | exact at0 | exact at1 | exact at2 | exact at3) _ (by rfl) ?_; simp only [put_some, put_none, List.set_cons_succ, List.set_cons_zero]) | (first | (refine wpList_loadRowOne_hp hp _ _ rfl (by first | exact wanted_none rfl | exact wanted_yes rfl rfl rfl rfl) _ _ (slot_tmp rfl) (by with_reducible first | exact cell3 | exact cell4 | exact cell29) _ (by first | exact HX.out 0 _ rfl | exact HX.out 1 _ rfl) ?_); simp only [put_some, put_none, List.set_cons_succ, List.set_cons_zero]) | (refine wpList_loadAgg_hp hp _ _ rfl (by first | exact wanted_none rfl | exact wanted_yes rfl rfl rfl rfl) _ _ (slot_tmp rfl) _ (by with_reducible first | exact agg39) _ _ _ _ (by first | exact at0 | exact at1 | exact at2 | exact at3) _ (by simp only [List.drop_zero, List.drop_succ_cons, List.take_succ_cons, List.take_zero, List.take_nil]; rfl) (by rfl) ?_; simp only [put_some, put_none, List.set_cons_succ, List.set_cons_zero]) | (refine wpList_loadRow_hp hp _ _ rfl (by first | exact wanted_none rfl | exact wanted_yes rfl rfl rfl rfl) _ _ (slot_tmp rfl) _ (by with_reducible first | exact agg39) _ HX.out (by rfl) ?_; simp only [put_some, put_none, List.set_cons_succ, List.set_cons_zero])) | ((with_reducible refine pre_store 39 _ _ rfl ?_); first | (refine wpList_storeAll_hp hp _ _ _ rfl (by first | exact wanted_none rfl | exact wanted_yes rfl rfl rfl rfl) _ (slot_tmp rfl) _ (slot_tmp rfl) agg39 _ _ _ _ (by first | exact at0 | exact at1 | exact at2 | exact at3) (by rfl) (by first | rfl | simp [*]) ?_; clear hp; intro w1 hp; simp only [List.set_cons_zero, List.set_cons_succ] at hp; simp only [put_some, put_none, List.set_cons_succ, List.set_cons_zero]) | (refine wpList_storeAgg_hp hp _ _ _ rfl (by first | exact wanted_none rfl | exact wanted_yes rfl rfl rfl rfl) _ _ (slot_tmp rfl) _ (slot_tmp rfl) agg39 _ _ _ _ (by first | exact at0 | exact at1 | exact at2 | exact at3) (by simp only [List.length_cons, List.length_nil]; omega) (by first | rfl | simp [*]) ?_; clear hp; intro w1 hp; simp only [spl, List.set_cons_zero, List.set_cons_succ] at hp; simp only [put_some, put_none, List.set_cons_succ, List.set_cons_zero])) | ((with_reducible refine pre_store _ _ _ rfl ?_); (refine wpList_storeOne_hp hp _ _ _ rfl (by first | exact wanted_none rfl | exact wanted_yes rfl rfl rfl rfl) _ _ (slot_tmp rfl) _ (by first | exact slot_tmp rfl | exact slot_const) (by with_reducible first | exact cell3 | exact cell4 | exact cell29) _ _ _ _ (by first | exact at0 | exact at1 | exact at2 | exact at3) (by simp only [List.length_cons, List.length_nil]; omega) (by first | rfl | assumption) ?_; clear hp; intro w1 hp; simp only [List.set_cons_zero, List.set_cons_succ] at hp; simp only [put_some, put_none, List.set_cons_succ, List.set_cons_zero])))
        have DM := Lib.hid dm
        clear dm
        go_loopg [6] j (fun k i wr => ∃ m : Nat, k + m = j ∧ i = .int .i64 m ∧ (∀ (k' : Nat) x, k' < m → l[k']? = some x → Pair order x ⟨p, o⟩) ∧ Hp w.heap.size w wr [])
        case atStart => exact ⟨0, by omega, rfl, fun k' x h => by omega, hp⟩
        case round =>
          clear hp
          obtain ⟨m, hkm, rfl, hpr, hp⟩ := hrel
          have HPR := Lib.hid hpr
          clear hpr
          by_cases hlm : m < j
          · have hm := List.getElem?_eq_getElem (show m < l.length by omega)
            have hy := HE.out m _ hm
            generalize l[m] = y at hy hm
            obtain ⟨q, r⟩ := y
            simp only [blV] at hy
            have HY := Lib.hid hy
            have hmay := mayB_may DM.out
            have hmay2 := (HG.out m _ (by rw [List.getElem?_take, if_pos hlm]; exact hm)).1
            have W9 := Lib.hid (rgt_ways h8 HJ.out hm hlm hmay hmay2 HPR.out)
            clear hm hy hmay hmay2
            have e3 : (0 : Int) ≤ (m : Int) := by omega
            have e4 : (m : Int) < (l.length : Int) := by omega
            have e5 : (m : Int) < (j : Int) := by omega
            go_wp2_with (first | go_skip | ((with_reducible refine pre_alloc 39 rfl ?_); refine wpList_alloc_hp hp _ rfl (by first | exact wanted_none rfl | exact wanted_yes rfl rfl rfl rfl) _ _ zero39 ?_; clear hp; intro b w1 hp; simp only [put_some, put_none, List.set_cons_succ, List.set_cons_zero]) | ((with_reducible refine pre_box _ _ rfl ?_); refine wpList_box_hp hp _ _ rfl (by first | exact wanted_none rfl | exact wanted_yes rfl rfl rfl rfl) _ (slot_tmp rfl) _ rfl _ (by simp only [List.length_cons, List.length_nil, Nat.reduceAdd]; rfl) ?_; clear hp; intro b w1 hp; simp only [put_some, put_none, List.set_cons_succ, List.set_cons_zero]) | ((with_reducible refine pre_load _ _ rfl ?_); first | (refine wpList_loadOne_hp hp _ _ rfl (by first | exact wanted_none rfl | exact wanted_yes rfl rfl rfl rfl) _ _ (slot_tmp rfl) (by with_reducible first | exact cell3 | exact cell4 | exact cell29) _ _ _ _ (by first | exact at0 | exact at1 | exact at2 | exact at3) _ (by rfl) ?_; simp only [put_some, put_none, List.set_cons_succ, List.set_cons_zero]) | (refine wpList_loadAgg_hp hp _ _ rfl (by first | exact wanted_none rfl | exact wanted_yes rfl rfl rfl rfl) _ _ (slot_tmp rfl) _ (by with_reducible first | exact agg39) _ _ _ _ (by first | exact at0 | exact at1 | exact at2 | exact at3) _ (by simp only [List.drop_zero, List.drop_succ_cons, List.take_succ_cons, List.take_zero, List.take_nil]; rfl) (by rfl) ?_; simp only [put_some, put_none, List.set_cons_succ, List.set_cons_zero])) | ((with_reducible refine pre_store 39 _ _ rfl ?_); first | (refine wpList_storeAll_hp hp _ _ _ rfl (by first | exact wanted_none rfl | exact wanted_yes rfl rfl rfl rfl) _ (slot_tmp rfl) _ (slot_tmp rfl) agg39 _ _ _ _ (by first | exact at0 | exact at1 | exact at2 | exact at3) (by rfl) (by first | rfl | simp [*]) ?_; clear hp; intro w1 hp; simp only [List.set_cons_zero, List.set_cons_succ] at hp; simp only [put_some, put_none, List.set_cons_succ, List.set_cons_zero]) | (refine wpList_storeAgg_hp hp _ _ _ rfl (by first | exact wanted_none rfl | exact wanted_yes rfl rfl rfl rfl) _ _ (slot_tmp rfl) _ (slot_tmp rfl) agg39 _ _ _ _ (by first | exact at0 | exact at1 | exact at2 | exact at3) (by simp only [List.length_cons, List.length_nil]; omega) (by first | rfl | simp [*]) ?_; clear hp; intro w1 hp; simp only [spl, List.set_cons_zero, List.set_cons_succ] at hp; simp only [put_some, put_none, List.set_cons_succ, List.set_cons_zero])) | ((with_reducible refine pre_store _ _ _ rfl ?_); (refine wpList_storeOne_hp hp _ _ _ rfl (by first | exact wanted_none rfl | exact wanted_yes rfl rfl rfl rfl) _ _ (slot_tmp rfl) _ (by first | exact slot_tmp rfl | exact slot_const) (by with_reducible first | exact cell3 | exact cell4 | exact cell29) _ _ _ _ (by first | exact at0 | exact at1 | exact at2 | exact at3) (by simp only [List.length_cons, List.length_nil]; omega) (by first | rfl | assumption) ?_; clear hp; intro w1 hp; simp only [List.set_cons_zero, List.set_cons_succ] at hp; simp only [put_some, put_none, List.set_cons_succ, List.set_cons_zero])))
            refine wp_region_keeps _ (Keeps.all hp.drew) [] [(0, true), (1, true), (2, true), (3, true), (4, true), (5, true), (6, true), (7, true), (8, true), (9, true), (10, true), (11, true), (12, true), (13, true), (14, true), (15, true), (16, true), (17, true), (18, true), (19, true), (20, false), (21, true), (22, true), (23, true), (24, true), (25, true), (26, true), (27, true), (28, true), (29, true), (30, true), (31, true), (32, true), (33, true), (34, true), (36, true), (37, true), (38, true), (39, true), (35, false), (40, true), (41, true), (42, true)] (by kernel_rfl) (by kernel_rfl) rfl (by kernel_rfl) (fun _ _ d _ _ h => by cases d <;> exact h) ?_
            replace hp := hp.drew
            obtain ⟨f, W⟩ := W9.out
            rcases W with ⟨d1, r⟩ | ⟨d1, d2, r⟩ | ⟨d1, d2, d3, r⟩ | ⟨d1, d2, d3, d4, r⟩ | ⟨d1, d2, d3, d4, d5, r⟩ | ⟨d1, d2, d3, d4, d5, r⟩
            all_goals have R := Lib.hid r
            all_goals clear r W9
            all_goals
              (refine plan_move rfl _ rfl (by first | exact wanted_none rfl | exact wanted_yes rfl rfl rfl rfl) ?_)
              try simp only [put_some, put_none, eval_tmp, eval_const, List.set_cons_succ, List.set_cons_zero, List.getD_cons_succ, List.getD_cons_zero, wrap_eq]
              (refine plan_move rfl _ rfl (by first | exact wanted_none rfl | exact wanted_yes rfl rfl rfl rfl) ?_)
              try simp only [put_some, put_none, eval_tmp, eval_const, List.set_cons_succ, List.set_cons_zero, List.getD_cons_succ, List.getD_cons_zero, wrap_eq]
              (refine plan_take rfl (by first | exact wanted_none rfl | exact wanted_yes rfl rfl rfl rfl) (fun w _ => (by go_simp; try rfl)) ?_)
              try simp only [put_some, put_none, eval_tmp, eval_const, List.set_cons_succ, List.set_cons_zero, List.getD_cons_succ, List.getD_cons_zero, wrap_eq]
              (refine plan_take rfl (by first | exact wanted_none rfl | exact wanted_yes rfl rfl rfl rfl) (fun w _ => (by go_simp; try rfl)) ?_)
              try simp only [put_some, put_none, eval_tmp, eval_const, List.set_cons_succ, List.set_cons_zero, List.getD_cons_succ, List.getD_cons_zero, wrap_eq]
              (first | (refine plan_loadAgg rfl _ _ rfl (by first | exact wanted_none rfl | exact wanted_yes rfl rfl rfl rfl) _ _ (slot_tmp rfl) _ (fun w hS => hS.loadOne cell3 (by first | exact at0 | exact at1 | exact at2 | exact at3) _ _ (by rfl)) ?_) | (refine plan_loadAgg rfl _ _ rfl (by first | exact wanted_none rfl | exact wanted_yes rfl rfl rfl rfl) _ _ (slot_tmp rfl) _ (fun w hS => hS.rowOne cell3 (HX.out 0 _ rfl)) ?_) | (refine plan_loadAgg rfl _ _ rfl (by first | exact wanted_none rfl | exact wanted_yes rfl rfl rfl rfl) _ _ (slot_tmp rfl) _ (fun w hS => hS.rowOne cell3 (HX.out 1 _ rfl)) ?_) | (refine plan_loadAgg rfl _ _ rfl (by first | exact wanted_none rfl | exact wanted_yes rfl rfl rfl rfl) _ _ (slot_tmp rfl) _ (fun w hS => hS.rowOne cell3 (HY.out 0 _ rfl)) ?_) | (refine plan_loadAgg rfl _ _ rfl (by first | exact wanted_none rfl | exact wanted_yes rfl rfl rfl rfl) _ _ (slot_tmp rfl) _ (fun w hS => hS.rowOne cell3 (HY.out 1 _ rfl)) ?_))
              try simp only [put_some, put_none, eval_tmp, eval_const, List.set_cons_succ, List.set_cons_zero, List.getD_cons_succ, List.getD_cons_zero, wrap_eq]
              (refine plan_move rfl _ rfl (by first | exact wanted_none rfl | exact wanted_yes rfl rfl rfl rfl) ?_)
              try simp only [put_some, put_none, eval_tmp, eval_const, List.set_cons_succ, List.set_cons_zero, List.getD_cons_succ, List.getD_cons_zero, wrap_eq]
              (refine plan_move rfl _ rfl (by first | exact wanted_none rfl | exact wanted_yes rfl rfl rfl rfl) ?_)
              try simp only [put_some, put_none, eval_tmp, eval_const, List.set_cons_succ, List.set_cons_zero, List.getD_cons_succ, List.getD_cons_zero, wrap_eq]
              (refine plan_take rfl (by first | exact wanted_none rfl | exact wanted_yes rfl rfl rfl rfl) (fun w _ => (by go_simp; try rfl)) ?_)
              try simp only [put_some, put_none, eval_tmp, eval_const, List.set_cons_succ, List.set_cons_zero, List.getD_cons_succ, List.getD_cons_zero, wrap_eq]
              (refine plan_take rfl (by first | exact wanted_none rfl | exact wanted_yes rfl rfl rfl rfl) (fun w _ => (by go_simp; try rfl)) ?_)
              try simp only [put_some, put_none, eval_tmp, eval_const, List.set_cons_succ, List.set_cons_zero, List.getD_cons_succ, List.getD_cons_zero, wrap_eq]
              (first | (refine plan_loadAgg rfl _ _ rfl (by first | exact wanted_none rfl | exact wanted_yes rfl rfl rfl rfl) _ _ (slot_tmp rfl) _ (fun w hS => hS.loadOne cell3 (by first | exact at0 | exact at1 | exact at2 | exact at3) _ _ (by rfl)) ?_) | (refine plan_loadAgg rfl _ _ rfl (by first | exact wanted_none rfl | exact wanted_yes rfl rfl rfl rfl) _ _ (slot_tmp rfl) _ (fun w hS => hS.rowOne cell3 (HX.out 0 _ rfl)) ?_) | (refine plan_loadAgg rfl _ _ rfl (by first | exact wanted_none rfl | exact wanted_yes rfl rfl rfl rfl) _ _ (slot_tmp rfl) _ (fun w hS => hS.rowOne cell3 (HX.out 1 _ rfl)) ?_) | (refine plan_loadAgg rfl _ _ rfl (by first | exact wanted_none rfl | exact wanted_yes rfl rfl rfl rfl) _ _ (slot_tmp rfl) _ (fun w hS => hS.rowOne cell3 (HY.out 0 _ rfl)) ?_) | (refine plan_loadAgg rfl _ _ rfl (by first | exact wanted_none rfl | exact wanted_yes rfl rfl rfl rfl) _ _ (slot_tmp rfl) _ (fun w hS => hS.rowOne cell3 (HY.out 1 _ rfl)) ?_))
              try simp only [put_some, put_none, eval_tmp, eval_const, List.set_cons_succ, List.set_cons_zero, List.getD_cons_succ, List.getD_cons_zero, wrap_eq]
              (refine plan_take rfl (by first | exact wanted_none rfl | exact wanted_yes rfl rfl rfl rfl) (fun w _ => (by go_simp; try rfl)) ?_)
              try simp only [put_some, put_none, eval_tmp, eval_const, List.set_cons_succ, List.set_cons_zero, List.getD_cons_succ, List.getD_cons_zero, wrap_eq]
              (refine plan_move rfl _ rfl (by first | exact wanted_none rfl | exact wanted_yes rfl rfl rfl rfl) ?_)
              try simp only [put_some, put_none, eval_tmp, eval_const, List.set_cons_succ, List.set_cons_zero, List.getD_cons_succ, List.getD_cons_zero, wrap_eq]
              first | (refine plan_skip rfl (wanted_no rfl rfl rfl rfl) ?_) | (refine plan_skip rfl (wanted_nu rfl rfl rfl rfl) ?_) | (refine plan_move rfl _ rfl (by first | exact wanted_none rfl | exact wanted_yes rfl rfl rfl rfl) ?_)
              try simp only [put_some, put_none, eval_tmp, eval_const, List.set_cons_succ, List.set_cons_zero, List.getD_cons_succ, List.getD_cons_zero, wrap_eq]
              first | (refine plan_skip rfl (wanted_no rfl rfl rfl rfl) ?_) | (refine plan_skip rfl (wanted_nu rfl rfl rfl rfl) ?_) | (refine plan_move rfl _ rfl (by first | exact wanted_none rfl | exact wanted_yes rfl rfl rfl rfl) ?_)
              try simp only [put_some, put_none, eval_tmp, eval_const, List.set_cons_succ, List.set_cons_zero, List.getD_cons_succ, List.getD_cons_zero, wrap_eq]
              first | (refine plan_skip rfl (wanted_no rfl rfl rfl rfl) ?_) | (refine plan_skip rfl (wanted_nu rfl rfl rfl rfl) ?_) | (refine plan_take rfl (by first | exact wanted_none rfl | exact wanted_yes rfl rfl rfl rfl) (fun w _ => (by go_simp; try rfl)) ?_)
              try simp only [put_some, put_none, eval_tmp, eval_const, List.set_cons_succ, List.set_cons_zero, List.getD_cons_succ, List.getD_cons_zero, wrap_eq]
              first | (refine plan_skip rfl (wanted_no rfl rfl rfl rfl) ?_) | (refine plan_skip rfl (wanted_nu rfl rfl rfl rfl) ?_) | (first | (refine plan_loadAgg rfl _ _ rfl (by first | exact wanted_none rfl | exact wanted_yes rfl rfl rfl rfl) _ _ (slot_tmp rfl) _ (fun w hS => hS.loadAgg agg39 (by first | exact at0 | exact at1 | exact at2 | exact at3) _ _ (by simp only [List.drop_zero, List.drop_succ_cons, List.take_succ_cons, List.take_zero, List.take_nil]; rfl) (by rfl)) ?_) | (refine plan_loadAgg rfl _ _ rfl (by first | exact wanted_none rfl | exact wanted_yes rfl rfl rfl rfl) _ _ (slot_tmp rfl) _ (fun w hS => hS.rowAgg agg39 HX.out (by rfl)) ?_) | (refine plan_loadAgg rfl _ _ rfl (by first | exact wanted_none rfl | exact wanted_yes rfl rfl rfl rfl) _ _ (slot_tmp rfl) _ (fun w hS => hS.rowAgg agg39 HY.out (by rfl)) ?_))
              try simp only [put_some, put_none, eval_tmp, eval_const, List.set_cons_succ, List.set_cons_zero, List.getD_cons_succ, List.getD_cons_zero, wrap_eq]
              first | (refine plan_skip rfl (wanted_no rfl rfl rfl rfl) ?_) | (refine plan_skip rfl (wanted_nu rfl rfl rfl rfl) ?_) | (refine plan_move rfl _ rfl (by first | exact wanted_none rfl | exact wanted_yes rfl rfl rfl rfl) ?_)
              try simp only [put_some, put_none, eval_tmp, eval_const, List.set_cons_succ, List.set_cons_zero, List.getD_cons_succ, List.getD_cons_zero, wrap_eq]
              first | (refine plan_skip rfl (wanted_no rfl rfl rfl rfl) ?_) | (refine plan_skip rfl (wanted_nu rfl rfl rfl rfl) ?_) | (refine plan_move rfl _ rfl (by first | exact wanted_none rfl | exact wanted_yes rfl rfl rfl rfl) ?_)
              try simp only [put_some, put_none, eval_tmp, eval_const, List.set_cons_succ, List.set_cons_zero, List.getD_cons_succ, List.getD_cons_zero, wrap_eq]
              first | (refine plan_skip rfl (wanted_no rfl rfl rfl rfl) ?_) | (refine plan_skip rfl (wanted_nu rfl rfl rfl rfl) ?_) | (refine plan_take rfl (by first | exact wanted_none rfl | exact wanted_yes rfl rfl rfl rfl) (fun w _ => (by go_simp; try rfl)) ?_)
              try simp only [put_some, put_none, eval_tmp, eval_const, List.set_cons_succ, List.set_cons_zero, List.getD_cons_succ, List.getD_cons_zero, wrap_eq]
              first | (refine plan_skip rfl (wanted_no rfl rfl rfl rfl) ?_) | (refine plan_skip rfl (wanted_nu rfl rfl rfl rfl) ?_) | (first | (refine plan_loadAgg rfl _ _ rfl (by first | exact wanted_none rfl | exact wanted_yes rfl rfl rfl rfl) _ _ (slot_tmp rfl) _ (fun w hS => hS.loadAgg agg39 (by first | exact at0 | exact at1 | exact at2 | exact at3) _ _ (by simp only [List.drop_zero, List.drop_succ_cons, List.take_succ_cons, List.take_zero, List.take_nil]; rfl) (by rfl)) ?_) | (refine plan_loadAgg rfl _ _ rfl (by first | exact wanted_none rfl | exact wanted_yes rfl rfl rfl rfl) _ _ (slot_tmp rfl) _ (fun w hS => hS.rowAgg agg39 HX.out (by rfl)) ?_) | (refine plan_loadAgg rfl _ _ rfl (by first | exact wanted_none rfl | exact wanted_yes rfl rfl rfl rfl) _ _ (slot_tmp rfl) _ (fun w hS => hS.rowAgg agg39 HY.out (by rfl)) ?_))
              try simp only [put_some, put_none, eval_tmp, eval_const, List.set_cons_succ, List.set_cons_zero, List.getD_cons_succ, List.getD_cons_zero, wrap_eq]
              refine plan_do rfl (fun K hK => ?_)
              go_wp2_with (first | (go_at_call 46; refine (meet46 _ _ _ _ f.1 f.2.1 f.2.2.2.1 f.2.2.2.2.1 f.2.2.1 f.2.2.2.2.2 _).mono ?_; rintro e w1 ⟨rfl, hb⟩; rw [d2]; replace hp := hp.call hb; clear hb) | (go_at_call 66; refine (twin66 _ _ f.1 f.2.1 f.2.2.1 _).mono ?_; rintro e w1 ⟨rfl, hb⟩; replace hp := hp.call hb; clear hb) | go_skip | ((with_reducible refine pre_alloc 39 rfl ?_); refine wpList_alloc_hp hp _ rfl (by first | exact wanted_none rfl | exact wanted_yes rfl rfl rfl rfl) _ _ zero39 ?_; clear hp; intro b w1 hp; simp only [put_some, put_none, List.set_cons_succ, List.set_cons_zero]) | ((with_reducible refine pre_box _ _ rfl ?_); refine wpList_box_hp hp _ _ rfl (by first | exact wanted_none rfl | exact wanted_yes rfl rfl rfl rfl) _ (slot_tmp rfl) _ rfl _ (by simp only [List.length_cons, List.length_nil, Nat.reduceAdd]; rfl) ?_; clear hp; intro b w1 hp; simp only [put_some, put_none, List.set_cons_succ, List.set_cons_zero]) | ((with_reducible refine pre_load _ _ rfl ?_); first | (refine wpList_loadOne_hp hp _ _ rfl (by first | exact wanted_none rfl | exact wanted_yes rfl rfl rfl rfl) _ _ (slot_tmp rfl) (by with_reducible first | exact cell3 | exact cell4 | exact cell29) _ _ _ _ (by first | exact at0 | exact at1 | exact at2 | exact at3) _ (by rfl) ?_; simp only [put_some, put_none, List.set_cons_succ, List.set_cons_zero]) | (refine wpList_loadAgg_hp hp _ _ rfl (by first | exact wanted_none rfl | exact wanted_yes rfl rfl rfl rfl) _ _ (slot_tmp rfl) _ (by with_reducible first | exact agg39) _ _ _ _ (by first | exact at0 | exact at1 | exact at2 | exact at3) _ (by simp only [List.drop_zero, List.drop_succ_cons, List.take_succ_cons, List.take_zero, List.take_nil]; rfl) (by rfl) ?_; simp only [put_some, put_none, List.set_cons_succ, List.set_cons_zero])) | ((with_reducible refine pre_store 39 _ _ rfl ?_); first | (refine wpList_storeAll_hp hp _ _ _ rfl (by first | exact wanted_none rfl | exact wanted_yes rfl rfl rfl rfl) _ (slot_tmp rfl) _ (slot_tmp rfl) agg39 _ _ _ _ (by first | exact at0 | exact at1 | exact at2 | exact at3) (by rfl) (by first | rfl | simp [*]) ?_; clear hp; intro w1 hp; simp only [List.set_cons_zero, List.set_cons_succ] at hp; simp only [put_some, put_none, List.set_cons_succ, List.set_cons_zero]) | (refine wpList_storeAgg_hp hp _ _ _ rfl (by first | exact wanted_none rfl | exact wanted_yes rfl rfl rfl rfl) _ _ (slot_tmp rfl) _ (slot_tmp rfl) agg39 _ _ _ _ (by first | exact at0 | exact at1 | exact at2 | exact at3) (by simp only [List.length_cons, List.length_nil]; omega) (by first | rfl | simp [*]) ?_; clear hp; intro w1 hp; simp only [spl, List.set_cons_zero, List.set_cons_succ] at hp; simp only [put_some, put_none, List.set_cons_succ, List.set_cons_zero])) | ((with_reducible refine pre_store _ _ _ rfl ?_); (refine wpList_storeOne_hp hp _ _ _ rfl (by first | exact wanted_none rfl | exact wanted_yes rfl rfl rfl rfl) _ _ (slot_tmp rfl) _ (by first | exact slot_tmp rfl | exact slot_const) (by with_reducible first | exact cell3 | exact cell4 | exact cell29) _ _ _ _ (by first | exact at0 | exact at1 | exact at2 | exact at3) (by simp only [List.length_cons, List.length_nil]; omega) (by first | rfl | assumption) ?_; clear hp; intro w1 hp; simp only [List.set_cons_zero, List.set_cons_succ] at hp; simp only [put_some, put_none, List.set_cons_succ, List.set_cons_zero])))
              refine hK.out _ _ (.inr (by first | exact Keeps.all hp | exact ⟨_, hp, fun p h => List.mem_cons_of_mem _ h⟩ | exact ⟨_, hp, fun p h => List.mem_cons_of_mem _ (List.mem_cons_of_mem _ h)⟩ | exact ⟨_, hp, fun p h => by (simp only [List.mem_cons, List.mem_append] at h ⊢; rcases h with h | h | h <;> simp [h])⟩ | exact ⟨_, hp, fun p h => by (simp only [List.mem_cons, List.mem_append] at h ⊢; rcases h with h | h | h | h <;> simp [h])⟩)) ?_
              clear hK K
              try simp only [put_some, put_none, eval_tmp, eval_const, List.set_cons_succ, List.set_cons_zero, List.getD_cons_succ, List.getD_cons_zero, wrap_eq]
              (refine plan_take rfl (by first | exact wanted_none rfl | exact wanted_yes rfl rfl rfl rfl) (fun w _ => (by go_simp; try rfl)) ?_)
              try simp only [put_some, put_none, eval_tmp, eval_const, List.set_cons_succ, List.set_cons_zero, List.getD_cons_succ, List.getD_cons_zero, wrap_eq]
              (refine plan_move rfl _ rfl (by first | exact wanted_none rfl | exact wanted_yes rfl rfl rfl rfl) ?_)
              try simp only [put_some, put_none, eval_tmp, eval_const, List.set_cons_succ, List.set_cons_zero, List.getD_cons_succ, List.getD_cons_zero, wrap_eq]
              first | (refine plan_skip rfl (wanted_no rfl rfl rfl rfl) ?_) | (refine plan_skip rfl (wanted_nu rfl rfl rfl rfl) ?_) | (refine plan_move rfl _ rfl (by first | exact wanted_none rfl | exact wanted_yes rfl rfl rfl rfl) ?_)
              try simp only [put_some, put_none, eval_tmp, eval_const, List.set_cons_succ, List.set_cons_zero, List.getD_cons_succ, List.getD_cons_zero, wrap_eq]
              first | (refine plan_skip rfl (wanted_no rfl rfl rfl rfl) ?_) | (refine plan_skip rfl (wanted_nu rfl rfl rfl rfl) ?_) | (refine plan_move rfl _ rfl (by first | exact wanted_none rfl | exact wanted_yes rfl rfl rfl rfl) ?_)
              try simp only [put_some, put_none, eval_tmp, eval_const, List.set_cons_succ, List.set_cons_zero, List.getD_cons_succ, List.getD_cons_zero, wrap_eq]
              first | (refine plan_skip rfl (wanted_no rfl rfl rfl rfl) ?_) | (refine plan_skip rfl (wanted_nu rfl rfl rfl rfl) ?_) | (refine plan_take rfl (by first | exact wanted_none rfl | exact wanted_yes rfl rfl rfl rfl) (fun w _ => (by go_simp; try rfl)) ?_)
              try simp only [put_some, put_none, eval_tmp, eval_const, List.set_cons_succ, List.set_cons_zero, List.getD_cons_succ, List.getD_cons_zero, wrap_eq]
              first | (refine plan_skip rfl (wanted_no rfl rfl rfl rfl) ?_) | (refine plan_skip rfl (wanted_nu rfl rfl rfl rfl) ?_) | (refine plan_take rfl (by first | exact wanted_none rfl | exact wanted_yes rfl rfl rfl rfl) (fun w _ => (by go_simp; try rfl)) ?_)
              try simp only [put_some, put_none, eval_tmp, eval_const, List.set_cons_succ, List.set_cons_zero, List.getD_cons_succ, List.getD_cons_zero, wrap_eq]
              first | (refine plan_skip rfl (wanted_no rfl rfl rfl rfl) ?_) | (refine plan_skip rfl (wanted_nu rfl rfl rfl rfl) ?_) | (first | (refine plan_loadAgg rfl _ _ rfl (by first | exact wanted_none rfl | exact wanted_yes rfl rfl rfl rfl) _ _ (slot_tmp rfl) _ (fun w hS => hS.loadOne cell3 (by first | exact at0 | exact at1 | exact at2 | exact at3) _ _ (by rfl)) ?_) | (refine plan_loadAgg rfl _ _ rfl (by first | exact wanted_none rfl | exact wanted_yes rfl rfl rfl rfl) _ _ (slot_tmp rfl) _ (fun w hS => hS.rowOne cell3 (HX.out 0 _ rfl)) ?_) | (refine plan_loadAgg rfl _ _ rfl (by first | exact wanted_none rfl | exact wanted_yes rfl rfl rfl rfl) _ _ (slot_tmp rfl) _ (fun w hS => hS.rowOne cell3 (HX.out 1 _ rfl)) ?_) | (refine plan_loadAgg rfl _ _ rfl (by first | exact wanted_none rfl | exact wanted_yes rfl rfl rfl rfl) _ _ (slot_tmp rfl) _ (fun w hS => hS.rowOne cell3 (HY.out 0 _ rfl)) ?_) | (refine plan_loadAgg rfl _ _ rfl (by first | exact wanted_none rfl | exact wanted_yes rfl rfl rfl rfl) _ _ (slot_tmp rfl) _ (fun w hS => hS.rowOne cell3 (HY.out 1 _ rfl)) ?_))
              try simp only [put_some, put_none, eval_tmp, eval_const, List.set_cons_succ, List.set_cons_zero, List.getD_cons_succ, List.getD_cons_zero, wrap_eq]
              first | (refine plan_skip rfl (wanted_no rfl rfl rfl rfl) ?_) | (refine plan_skip rfl (wanted_nu rfl rfl rfl rfl) ?_) | (refine plan_move rfl _ rfl (by first | exact wanted_none rfl | exact wanted_yes rfl rfl rfl rfl) ?_)
              try simp only [put_some, put_none, eval_tmp, eval_const, List.set_cons_succ, List.set_cons_zero, List.getD_cons_succ, List.getD_cons_zero, wrap_eq]
              first | (refine plan_skip rfl (wanted_no rfl rfl rfl rfl) ?_) | (refine plan_skip rfl (wanted_nu rfl rfl rfl rfl) ?_) | (refine plan_take rfl (by first | exact wanted_none rfl | exact wanted_yes rfl rfl rfl rfl) (fun w _ => (by go_simp; try rfl)) ?_)
              try simp only [put_some, put_none, eval_tmp, eval_const, List.set_cons_succ, List.set_cons_zero, List.getD_cons_succ, List.getD_cons_zero, wrap_eq]
              first | (refine plan_skip rfl (wanted_no rfl rfl rfl rfl) ?_) | (refine plan_skip rfl (wanted_nu rfl rfl rfl rfl) ?_) | (refine plan_move rfl _ rfl (by first | exact wanted_none rfl | exact wanted_yes rfl rfl rfl rfl) ?_)
              try simp only [put_some, put_none, eval_tmp, eval_const, List.set_cons_succ, List.set_cons_zero, List.getD_cons_succ, List.getD_cons_zero, wrap_eq]
              first | (refine plan_skip rfl (wanted_no rfl rfl rfl rfl) ?_) | (refine plan_skip rfl (wanted_nu rfl rfl rfl rfl) ?_) | (refine plan_move rfl _ rfl (by first | exact wanted_none rfl | exact wanted_yes rfl rfl rfl rfl) ?_)
              try simp only [put_some, put_none, eval_tmp, eval_const, List.set_cons_succ, List.set_cons_zero, List.getD_cons_succ, List.getD_cons_zero, wrap_eq]
              first | (refine plan_skip rfl (wanted_no rfl rfl rfl rfl) ?_) | (refine plan_skip rfl (wanted_nu rfl rfl rfl rfl) ?_) | (refine plan_move rfl _ rfl (by first | exact wanted_none rfl | exact wanted_yes rfl rfl rfl rfl) ?_)
              try simp only [put_some, put_none, eval_tmp, eval_const, List.set_cons_succ, List.set_cons_zero, List.getD_cons_succ, List.getD_cons_zero, wrap_eq]
              first | (refine plan_skip rfl (wanted_no rfl rfl rfl rfl) ?_) | (refine plan_skip rfl (wanted_nu rfl rfl rfl rfl) ?_) | (refine plan_take rfl (by first | exact wanted_none rfl | exact wanted_yes rfl rfl rfl rfl) (fun w _ => (by go_simp; try rfl)) ?_)
              try simp only [put_some, put_none, eval_tmp, eval_const, List.set_cons_succ, List.set_cons_zero, List.getD_cons_succ, List.getD_cons_zero, wrap_eq]
              first | (refine plan_skip rfl (wanted_no rfl rfl rfl rfl) ?_) | (refine plan_skip rfl (wanted_nu rfl rfl rfl rfl) ?_) | (first | (refine plan_loadAgg rfl _ _ rfl (by first | exact wanted_none rfl | exact wanted_yes rfl rfl rfl rfl) _ _ (slot_tmp rfl) _ (fun w hS => hS.loadAgg agg39 (by first | exact at0 | exact at1 | exact at2 | exact at3) _ _ (by simp only [List.drop_zero, List.drop_succ_cons, List.take_succ_cons, List.take_zero, List.take_nil]; rfl) (by rfl)) ?_) | (refine plan_loadAgg rfl _ _ rfl (by first | exact wanted_none rfl | exact wanted_yes rfl rfl rfl rfl) _ _ (slot_tmp rfl) _ (fun w hS => hS.rowAgg agg39 HX.out (by rfl)) ?_) | (refine plan_loadAgg rfl _ _ rfl (by first | exact wanted_none rfl | exact wanted_yes rfl rfl rfl rfl) _ _ (slot_tmp rfl) _ (fun w hS => hS.rowAgg agg39 HY.out (by rfl)) ?_))
              try simp only [put_some, put_none, eval_tmp, eval_const, List.set_cons_succ, List.set_cons_zero, List.getD_cons_succ, List.getD_cons_zero, wrap_eq]
              first | (refine plan_skip rfl (wanted_no rfl rfl rfl rfl) ?_) | (refine plan_skip rfl (wanted_nu rfl rfl rfl rfl) ?_) | (refine plan_move rfl _ rfl (by first | exact wanted_none rfl | exact wanted_yes rfl rfl rfl rfl) ?_)
              try simp only [put_some, put_none, eval_tmp, eval_const, List.set_cons_succ, List.set_cons_zero, List.getD_cons_succ, List.getD_cons_zero, wrap_eq]
              first | (refine plan_skip rfl (wanted_no rfl rfl rfl rfl) ?_) | (refine plan_skip rfl (wanted_nu rfl rfl rfl rfl) ?_) | (refine plan_move rfl _ rfl (by first | exact wanted_none rfl | exact wanted_yes rfl rfl rfl rfl) ?_)
              try simp only [put_some, put_none, eval_tmp, eval_const, List.set_cons_succ, List.set_cons_zero, List.getD_cons_succ, List.getD_cons_zero, wrap_eq]
              first | (refine plan_skip rfl (wanted_no rfl rfl rfl rfl) ?_) | (refine plan_skip rfl (wanted_nu rfl rfl rfl rfl) ?_) | (refine plan_take rfl (by first | exact wanted_none rfl | exact wanted_yes rfl rfl rfl rfl) (fun w _ => (by go_simp; try rfl)) ?_)
              try simp only [put_some, put_none, eval_tmp, eval_const, List.set_cons_succ, List.set_cons_zero, List.getD_cons_succ, List.getD_cons_zero, wrap_eq]
              first | (refine plan_skip rfl (wanted_no rfl rfl rfl rfl) ?_) | (refine plan_skip rfl (wanted_nu rfl rfl rfl rfl) ?_) | (first | (refine plan_loadAgg rfl _ _ rfl (by first | exact wanted_none rfl | exact wanted_yes rfl rfl rfl rfl) _ _ (slot_tmp rfl) _ (fun w hS => hS.loadAgg agg39 (by first | exact at0 | exact at1 | exact at2 | exact at3) _ _ (by simp only [List.drop_zero, List.drop_succ_cons, List.take_succ_cons, List.take_zero, List.take_nil]; rfl) (by rfl)) ?_) | (refine plan_loadAgg rfl _ _ rfl (by first | exact wanted_none rfl | exact wanted_yes rfl rfl rfl rfl) _ _ (slot_tmp rfl) _ (fun w hS => hS.rowAgg agg39 HX.out (by rfl)) ?_) | (refine plan_loadAgg rfl _ _ rfl (by first | exact wanted_none rfl | exact wanted_yes rfl rfl rfl rfl) _ _ (slot_tmp rfl) _ (fun w hS => hS.rowAgg agg39 HY.out (by rfl)) ?_))
              try simp only [put_some, put_none, eval_tmp, eval_const, List.set_cons_succ, List.set_cons_zero, List.getD_cons_succ, List.getD_cons_zero, wrap_eq]
              refine plan_do rfl (fun K hK => ?_)
              go_wp2_with (first | (go_at_call 46; refine (meet46 _ _ _ _ f.1 f.2.1 f.2.2.2.1 f.2.2.2.2.1 f.2.2.1 f.2.2.2.2.2 _).mono ?_; rintro e w1 ⟨rfl, hb⟩; rw [d2]; replace hp := hp.call hb; clear hb) | (go_at_call 66; refine (twin66 _ _ f.1 f.2.1 f.2.2.1 _).mono ?_; rintro e w1 ⟨rfl, hb⟩; replace hp := hp.call hb; clear hb) | go_skip | ((with_reducible refine pre_alloc 39 rfl ?_); refine wpList_alloc_hp hp _ rfl (by first | exact wanted_none rfl | exact wanted_yes rfl rfl rfl rfl) _ _ zero39 ?_; clear hp; intro b w1 hp; simp only [put_some, put_none, List.set_cons_succ, List.set_cons_zero]) | ((with_reducible refine pre_box _ _ rfl ?_); refine wpList_box_hp hp _ _ rfl (by first | exact wanted_none rfl | exact wanted_yes rfl rfl rfl rfl) _ (slot_tmp rfl) _ rfl _ (by simp only [List.length_cons, List.length_nil, Nat.reduceAdd]; rfl) ?_; clear hp; intro b w1 hp; simp only [put_some, put_none, List.set_cons_succ, List.set_cons_zero]) | ((with_reducible refine pre_load _ _ rfl ?_); first | (refine wpList_loadOne_hp hp _ _ rfl (by first | exact wanted_none rfl | exact wanted_yes rfl rfl rfl rfl) _ _ (slot_tmp rfl) (by with_reducible first | exact cell3 | exact cell4 | exact cell29) _ _ _ _ (by first | exact at0 | exact at1 | exact at2 | exact at3) _ (by rfl) ?_; simp only [put_some, put_none, List.set_cons_succ, List.set_cons_zero]) | (refine wpList_loadAgg_hp hp _ _ rfl (by first | exact wanted_none rfl | exact wanted_yes rfl rfl rfl rfl) _ _ (slot_tmp rfl) _ (by with_reducible first | exact agg39) _ _ _ _ (by first | exact at0 | exact at1 | exact at2 | exact at3) _ (by simp only [List.drop_zero, List.drop_succ_cons, List.take_succ_cons, List.take_zero, List.take_nil]; rfl) (by rfl) ?_; simp only [put_some, put_none, List.set_cons_succ, List.set_cons_zero])) | ((with_reducible refine pre_store 39 _ _ rfl ?_); first | (refine wpList_storeAll_hp hp _ _ _ rfl (by first | exact wanted_none rfl | exact wanted_yes rfl rfl rfl rfl) _ (slot_tmp rfl) _ (slot_tmp rfl) agg39 _ _ _ _ (by first | exact at0 | exact at1 | exact at2 | exact at3) (by rfl) (by first | rfl | simp [*]) ?_; clear hp; intro w1 hp; simp only [List.set_cons_zero, List.set_cons_succ] at hp; simp only [put_some, put_none, List.set_cons_succ, List.set_cons_zero]) | (refine wpList_storeAgg_hp hp _ _ _ rfl (by first | exact wanted_none rfl | exact wanted_yes rfl rfl rfl rfl) _ _ (slot_tmp rfl) _ (slot_tmp rfl) agg39 _ _ _ _ (by first | exact at0 | exact at1 | exact at2 | exact at3) (by simp only [List.length_cons, List.length_nil]; omega) (by first | rfl | simp [*]) ?_; clear hp; intro w1 hp; simp only [spl, List.set_cons_zero, List.set_cons_succ] at hp; simp only [put_some, put_none, List.set_cons_succ, List.set_cons_zero])) | ((with_reducible refine pre_store _ _ _ rfl ?_); (refine wpList_storeOne_hp hp _ _ _ rfl (by first | exact wanted_none rfl | exact wanted_yes rfl rfl rfl rfl) _ _ (slot_tmp rfl) _ (by first | exact slot_tmp rfl | exact slot_const) (by with_reducible first | exact cell3 | exact cell4 | exact cell29) _ _ _ _ (by first | exact at0 | exact at1 | exact at2 | exact at3) (by simp only [List.length_cons, List.length_nil]; omega) (by first | rfl | assumption) ?_; clear hp; intro w1 hp; simp only [List.set_cons_zero, List.set_cons_succ] at hp; simp only [put_some, put_none, List.set_cons_succ, List.set_cons_zero])))
              refine hK.out _ _ (.inr (by first | exact Keeps.all hp | exact ⟨_, hp, fun p h => List.mem_cons_of_mem _ h⟩ | exact ⟨_, hp, fun p h => List.mem_cons_of_mem _ (List.mem_cons_of_mem _ h)⟩ | exact ⟨_, hp, fun p h => by (simp only [List.mem_cons, List.mem_append] at h ⊢; rcases h with h | h | h <;> simp [h])⟩ | exact ⟨_, hp, fun p h => by (simp only [List.mem_cons, List.mem_append] at h ⊢; rcases h with h | h | h | h <;> simp [h])⟩)) ?_
              clear hK K
              try simp only [put_some, put_none, eval_tmp, eval_const, List.set_cons_succ, List.set_cons_zero, List.getD_cons_succ, List.getD_cons_zero, wrap_eq]
              first | (refine plan_skip rfl (wanted_no rfl rfl rfl rfl) ?_) | (refine plan_skip rfl (wanted_nu rfl rfl rfl rfl) ?_) | (refine plan_take rfl (by first | exact wanted_none rfl | exact wanted_yes rfl rfl rfl rfl) (fun w _ => (by go_simp; try rfl)) ?_)
              try simp only [put_some, put_none, eval_tmp, eval_const, List.set_cons_succ, List.set_cons_zero, List.getD_cons_succ, List.getD_cons_zero, wrap_eq]
              first | (refine plan_skip rfl (wanted_no rfl rfl rfl rfl) ?_) | (refine plan_skip rfl (wanted_nu rfl rfl rfl rfl) ?_) | (refine plan_take rfl (by first | exact wanted_none rfl | exact wanted_yes rfl rfl rfl rfl) (fun w _ => (by go_simp; try rfl)) ?_)
              try simp only [put_some, put_none, eval_tmp, eval_const, List.set_cons_succ, List.set_cons_zero, List.getD_cons_succ, List.getD_cons_zero, wrap_eq]
              (refine plan_take rfl (by first | exact wanted_none rfl | exact wanted_yes rfl rfl rfl rfl) (fun w _ => (by go_simp; try rfl)) ?_)
              try simp only [put_some, put_none, eval_tmp, eval_const, List.set_cons_succ, List.set_cons_zero, List.getD_cons_succ, List.getD_cons_zero, wrap_eq]
              refine plan_nil ?_
            all_goals first
              | (go_wp2_with fail
                 go_ret
                 exact ⟨ret_bool R.out.symm, hp.below⟩)
              | (go_wp2_with fail
                 go_roundg (gk - 1)
                 case measure => omega
                 case rel => exact ⟨m + 1, by omega, by go_num, R.out, hp⟩)
          · have e5 : decide ((m : Int) < (j : Int)) = false := by simp; omega
            have HG2 : RowKit.Hid (Good order (l.take (j + 1))) := Lib.hid ((Good.snoc HJ.out).2 ⟨HG.out, mayB_may DM.out, fun k' x hk hx => HPR.out k' x (by omega) hx⟩)
            go_wp2_with fail
            go_roundg (l.length - (j + 1))
            case measure => omega
            case rel => exact ⟨j + 1, by omega, by go_num, HG2.out, hp⟩
    · have e2 : decide ((j : Int) < (l.length : Int)) = false := by simp; omega
      have HG2 : RowKit.Hid (rightB order l = true) := Lib.hid (rightB_yes HR.out (by have := HG.out; rwa [List.take_of_length_le (by omega)] at this))
      go_wp2_with fail
      go_ret
      exact ⟨ret_bool HG2.out.symm, hp.below⟩

set_option maxRecDepth 100000 in
set_option maxHeartbeats 8000000 in
theorem right42 (order : Int) (l : List Bl) (a : Option Addr) (c : Nat) (hl : l.length ≤ 600) (w : World) (ha : RowIs w a (l.flatMap blV)) :
    Calls Try.prog 42 #[.int .i64 order, .slice a l.length c] w fun e w' => e = .returned (.bool (rightB order l)) ∧ Below w.heap.size w w' := by
  have K11 := Lib.hid (region32 order)
  cases hr : regionB order
  · rw [rightB_reg hr]
    rw [hr] at K11
    clear hr ha
    go_enter Try.func42, Try.ntmps42
    go_wp2_with (go_at_call 32; refine (K11.out _).mono ?_; rintro e w' ⟨rfl, rfl⟩)
    go_ret
    exact ⟨rfl, Below.refl _ _⟩
  · have := hr
    simp only [regionB, decide_eq_true_eq] at this
    obtain ⟨h3, h8⟩ := this
    by_cases hlen : (l.length : Int) ≤ pw order
    · exact right42_reg order h3 h8 l a c hl hlen w ha
    · rw [rightB_no fun hG => hlen (hG.len h3)]
      rw [hr] at K11
      clear hr ha
      have hd : decide (pw order < (l.length : Int)) = true := by simp; omega
      go_enter Try.func42, Try.ntmps42
      go_wp2_with (first | (go_at_call 32; refine (K11.out _).mono ?_; rintro e w' ⟨rfl, rfl⟩) | (go_at_call 47; refine (size47 _ (by omega) _).mono ?_; rintro e w' ⟨rfl, rfl⟩))
      go_ret
      exact ⟨rfl, Below.refl _ _⟩
end Go.Proofs.Ytinlmcdphhmhjaa
