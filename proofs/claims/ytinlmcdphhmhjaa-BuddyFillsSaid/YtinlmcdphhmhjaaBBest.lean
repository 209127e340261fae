/- The walk of the reference's Best. -/
import Derived.Test.YtinlmcdphhmhjaaBRoom
set_option linter.unusedSimpArgs false
set_option linter.unusedVariables false
namespace Go.Proofs.Ytinlmcdphhmhjaa
open Go.RowKit

/-- The best place among the first n blocks. -/
def BestAt (l : List Bl) (want : Int) (n : Nat) (i : Int) : Prop :=
  (i = -1 ∧ ∀ (k : Nat) x, k < n → l[k]? = some x → ¬ want ≤ x.o) ∨
  ∃ (k : Nat) (z : Bl), i = (k : Int) ∧ k < n ∧ l[k]? = some z ∧ want ≤ z.o ∧ ∀ (k' : Nat) x, k' < n → l[k']? = some x → want ≤ x.o → z.o ≤ x.o ∧ (x.o = z.o → k ≤ k')
theorem BestAt.great {l : List Bl} {want i : Int} (h : BestAt l want l.length i) : decide (0 ≤ i) = greatB l want := by
  rcases h with ⟨rfl, h⟩ | ⟨k, z, rfl, hk, hz, hw, h⟩
  · have : greatB l want = false := by
      unfold greatB
      rw [List.any_eq_false]
      intro x hx
      obtain ⟨k, hk, rfl⟩ := List.getElem_of_mem hx
      have := h k _ hk (List.getElem?_eq_getElem hk)
      simpa using this
    rw [this]; decide
  · rw [great_yes hz hw]; simp
def BestPost (w : World) (l : List Bl) (want : Int) (e : Ending) (w' : World) : Prop := ∃ i : Int, e = .returned (.int .i64 i) ∧ BestAt l want l.length i ∧ Below w.heap.size w w'

theorem best_ways1 {l : List Bl} {want : Int} {j : Nat} {p o : Int} (hj : l[j]? = some ⟨p, o⟩) (h : ∀ (k : Nat) x, k < j → l[k]? = some x → ¬ want ≤ x.o) :
    (decide (want ≤ o) = false ∧ BestAt l want (j + 1) (-1)) ∨ (decide (want ≤ o) = true ∧ BestAt l want (j + 1) j) := by
  by_cases hw : want ≤ o
  · right
    refine ⟨by simp [hw], .inr ⟨j, _, rfl, by omega, hj, hw, fun k' x hk hx hwx => ?_⟩⟩
    by_cases hkj : k' = j
    · subst hkj; rw [hj] at hx; cases hx; simp
    · exact absurd hwx (h k' x (by omega) hx)
  · left
    refine ⟨by simp [hw], .inl ⟨rfl, fun k' x hk hx => ?_⟩⟩
    by_cases hkj : k' = j
    · subst hkj; rw [hj] at hx; cases hx; exact hw
    · exact h k' x (by omega) hx
theorem best_ways2 {l : List Bl} {want : Int} {j k : Nat} {p o q r : Int} (hj : l[j]? = some ⟨p, o⟩) (hk : k < j) (hz : l[k]? = some ⟨q, r⟩) (hwz : want ≤ r) (h : ∀ (k' : Nat) x, k' < j → l[k']? = some x → want ≤ x.o → r ≤ x.o ∧ (x.o = r → k ≤ k')) :
    (decide (want ≤ o) = false ∧ BestAt l want (j + 1) k) ∨ (decide (want ≤ o) = true ∧ decide (o < r) = true ∧ BestAt l want (j + 1) j) ∨ (decide (want ≤ o) = true ∧ decide (o < r) = false ∧ BestAt l want (j + 1) k) := by
  by_cases hw : want ≤ o
  · right
    by_cases hr : o < r
    · left
      refine ⟨by simp [hw], by simp [hr], .inr ⟨j, _, rfl, by omega, hj, hw, fun k' x hk' hx hwx => ?_⟩⟩
      by_cases hkj : k' = j
      · subst hkj; rw [hj] at hx; cases hx; simp
      · have := h k' x (by omega) hx hwx
        simp only
        omega
    · right
      refine ⟨by simp [hw], by simp; omega, .inr ⟨k, _, rfl, by omega, hz, hwz, fun k' x hk' hx hwx => ?_⟩⟩
      by_cases hkj : k' = j
      · subst hkj; rw [hj] at hx; cases hx; simp only; omega
      · exact h k' x (by omega) hx hwx
  · left
    refine ⟨by simp [hw], .inr ⟨k, _, rfl, by omega, hz, hwz, fun k' x hk' hx hwx => ?_⟩⟩
    by_cases hkj : k' = j
    · subst hkj; rw [hj] at hx; cases hx; exact absurd hwx hw
    · exact h k' x (by omega) hx hwx

set_option maxRecDepth 100000 in
set_option maxHeartbeats 8000000 in
theorem best52 (l : List Bl) (a : Option Addr) (c : Nat) (hl : l.length ≤ 600) (want : Int) (w : World) (ha : RowIs w a (l.flatMap blV)) :
    Calls Try.prog 52 #[.slice a l.length c, .int .i64 want] w (BestPost w l want) := by
  have hp := Hp.start w
  have HA := Lib.hid ha
  clear ha
  go_enter Try.func52, Try.ntmps52
  go_wp2_with (first | go_skip | ((with_reducible refine pre_alloc 39 rfl ?_); refine wpList_alloc_hp hp _ rfl (by first | exact wanted_none rfl | exact wanted_yes rfl rfl rfl rfl) _ _ zero39 ?_; clear hp; intro b w1 hp; simp only [put_some, put_none, List.set_cons_succ, List.set_cons_zero]) | ((with_reducible refine pre_box _ _ rfl ?_); refine wpList_box_hp hp _ _ rfl (by first | exact wanted_none rfl | exact wanted_yes rfl rfl rfl rfl) _ (slot_tmp rfl) _ rfl _ (by simp only [List.length_cons, List.length_nil, Nat.reduceAdd]; rfl) ?_; clear hp; intro b w1 hp; simp only [put_some, put_none, List.set_cons_succ, List.set_cons_zero]) | ((with_reducible refine pre_load _ _ rfl ?_); first | (refine wpList_loadOne_hp hp _ _ rfl (by first | exact wanted_none rfl | exact wanted_yes rfl rfl rfl rfl) _ _ (slot_tmp rfl) (by with_reducible first | exact cell3 | exact cell4 | exact cell29) _ _ _ _ (by first | exact at0 | exact at1 | exact at2 | exact at3) _ (by rfl) ?_; simp only [put_some, put_none, List.set_cons_succ, List.set_cons_zero]) | (refine wpList_loadAgg_hp hp _ _ rfl (by first | exact wanted_none rfl | exact wanted_yes rfl rfl rfl rfl) _ _ (slot_tmp rfl) _ (by with_reducible first | exact agg39) _ _ _ _ (by first | exact at0 | exact at1 | exact at2 | exact at3) _ (by simp only [List.drop_zero, List.drop_succ_cons, List.take_succ_cons, List.take_zero, List.take_nil]; rfl) (by rfl) ?_; simp only [put_some, put_none, List.set_cons_succ, List.set_cons_zero])) | ((with_reducible refine pre_store 39 _ _ rfl ?_); first | (refine wpList_storeAll_hp hp _ _ _ rfl (by first | exact wanted_none rfl | exact wanted_yes rfl rfl rfl rfl) _ (slot_tmp rfl) _ (slot_tmp rfl) agg39 _ _ _ _ (by first | exact at0 | exact at1 | exact at2 | exact at3) (by rfl) (by first | rfl | simp [*]) ?_; clear hp; intro w1 hp; simp only [List.set_cons_zero, List.set_cons_succ] at hp; simp only [put_some, put_none, List.set_cons_succ, List.set_cons_zero]) | (refine wpList_storeAgg_hp hp _ _ _ rfl (by first | exact wanted_none rfl | exact wanted_yes rfl rfl rfl rfl) _ _ (slot_tmp rfl) _ (slot_tmp rfl) agg39 _ _ _ _ (by first | exact at0 | exact at1 | exact at2 | exact at3) (by simp only [List.length_cons, List.length_nil]; omega) (by first | rfl | simp [*]) ?_; clear hp; intro w1 hp; simp only [spl, List.set_cons_zero, List.set_cons_succ] at hp; simp only [put_some, put_none, List.set_cons_succ, List.set_cons_zero])) | ((with_reducible refine pre_store _ _ _ rfl ?_); (refine wpList_storeOne_hp hp _ _ _ rfl (by first | exact wanted_none rfl | exact wanted_yes rfl rfl rfl rfl) _ _ (slot_tmp rfl) _ (by first | exact slot_tmp rfl | exact slot_const) (by with_reducible first | exact cell3 | exact cell4 | exact cell29) _ _ _ _ (by first | exact at0 | exact at1 | exact at2 | exact at3) (by simp only [List.length_cons, List.length_nil]; omega) (by first | rfl | assumption) ?_; clear hp; intro w1 hp; simp only [List.set_cons_zero, List.set_cons_succ] at hp; simp only [put_some, put_none, List.set_cons_succ, List.set_cons_zero])))
  go_loopg [5, 6] l.length (fun k at_ i wr => ∃ (j : Nat) (b : Int), k + j = l.length ∧ i = .int .i64 j ∧ at_ = .int .i64 b ∧ BestAt l want j b ∧ Hp w.heap.size w wr [])
  case atStart => exact ⟨0, -1, by omega, rfl, rfl, .inl ⟨rfl, fun k x h => by omega⟩, hp⟩
  case round =>
    clear hp
    obtain ⟨j, i, hkj, rfl, rfl, hb, hp⟩ := hrel
    by_cases hlt : j < l.length
    · obtain ⟨bq, off, rfl, hx⟩ := HA.out.elems 2 blV_len (by omega) (by omega)
      have HE := Lib.hid hx
      have hj := List.getElem?_eq_getElem hlt
      replace hx := hx j _ hj
      generalize l[j] = x at hx hj
      obtain ⟨p, o⟩ := x
      simp only [blV] at hx
      have HX := Lib.hid hx
      have e1 : (0 : Int) ≤ (j : Int) := by omega
      have e2 : (j : Int) < (l.length : Int) := by omega
      rcases hb with ⟨rfl, hb⟩ | ⟨k, z, rfl, hk, hz, hwz, hb⟩
      · have W9 := Lib.hid (best_ways1 hj hb)
        clear hx hj hb
        go_wp2_with (first | go_skip | ((with_reducible refine pre_alloc 39 rfl ?_); refine wpList_alloc_hp hp _ rfl (by first | exact wanted_none rfl | exact wanted_yes rfl rfl rfl rfl) _ _ zero39 ?_; clear hp; intro b w1 hp; simp only [put_some, put_none, List.set_cons_succ, List.set_cons_zero]) | ((with_reducible refine pre_box _ _ rfl ?_); refine wpList_box_hp hp _ _ rfl (by first | exact wanted_none rfl | exact wanted_yes rfl rfl rfl rfl) _ (slot_tmp rfl) _ rfl _ (by simp only [List.length_cons, List.length_nil, Nat.reduceAdd]; rfl) ?_; clear hp; intro b w1 hp; simp only [put_some, put_none, List.set_cons_succ, List.set_cons_zero]) | ((with_reducible refine pre_load _ _ rfl ?_); first | (refine wpList_loadOne_hp hp _ _ rfl (by first | exact wanted_none rfl | exact wanted_yes rfl rfl rfl rfl) _ _ (slot_tmp rfl) (by with_reducible first | exact cell3 | exact cell4 | exact cell29) _ _ _ _ (by first | exact at0 | exact at1 | exact at2 | exact at3) _ (by rfl) ?_; simp only [put_some, put_none, List.set_cons_succ, List.set_cons_zero]) | (refine wpList_loadAgg_hp hp _ _ rfl (by first | exact wanted_none rfl | exact wanted_yes rfl rfl rfl rfl) _ _ (slot_tmp rfl) _ (by with_reducible first | exact agg39) _ _ _ _ (by first | exact at0 | exact at1 | exact at2 | exact at3) _ (by simp only [List.drop_zero, List.drop_succ_cons, List.take_succ_cons, List.take_zero, List.take_nil]; rfl) (by rfl) ?_; simp only [put_some, put_none, List.set_cons_succ, List.set_cons_zero])) | ((with_reducible refine pre_store 39 _ _ rfl ?_); first | (refine wpList_storeAll_hp hp _ _ _ rfl (by first | exact wanted_none rfl | exact wanted_yes rfl rfl rfl rfl) _ (slot_tmp rfl) _ (slot_tmp rfl) agg39 _ _ _ _ (by first | exact at0 | exact at1 | exact at2 | exact at3) (by rfl) (by first | rfl | simp [*]) ?_; clear hp; intro w1 hp; simp only [List.set_cons_zero, List.set_cons_succ] at hp; simp only [put_some, put_none, List.set_cons_succ, List.set_cons_zero]) | (refine wpList_storeAgg_hp hp _ _ _ rfl (by first | exact wanted_none rfl | exact wanted_yes rfl rfl rfl rfl) _ _ (slot_tmp rfl) _ (slot_tmp rfl) agg39 _ _ _ _ (by first | exact at0 | exact at1 | exact at2 | exact at3) (by simp only [List.length_cons, List.length_nil]; omega) (by first | rfl | simp [*]) ?_; clear hp; intro w1 hp; simp only [spl, List.set_cons_zero, List.set_cons_succ] at hp; simp only [put_some, put_none, List.set_cons_succ, List.set_cons_zero])) | ((with_reducible refine pre_store _ _ _ rfl ?_); (refine wpList_storeOne_hp hp _ _ _ rfl (by first | exact wanted_none rfl | exact wanted_yes rfl rfl rfl rfl) _ _ (slot_tmp rfl) _ (by first | exact slot_tmp rfl | exact slot_const) (by with_reducible first | exact cell3 | exact cell4 | exact cell29) _ _ _ _ (by first | exact at0 | exact at1 | exact at2 | exact at3) (by simp only [List.length_cons, List.length_nil]; omega) (by first | rfl | assumption) ?_; clear hp; intro w1 hp; simp only [List.set_cons_zero, List.set_cons_succ] at hp; simp only [put_some, put_none, List.set_cons_succ, List.set_cons_zero])))
        refine wp_region_keeps _ (Keeps.all hp.drew) [] [(0, true), (1, true), (2, true), (3, true), (4, true), (5, true), (6, true), (7, true), (8, true), (9, true), (10, true), (11, true), (12, true), (13, true), (14, true), (15, true), (16, true), (17, true), (18, true), (19, true), (20, true), (21, true), (22, true), (23, true)] (by kernel_rfl) (by kernel_rfl) rfl (by kernel_rfl) (fun _ _ d _ _ h => by cases d <;> exact h) ?_
        replace hp := hp.drew
        rcases W9.out with ⟨d1, r⟩ | ⟨d1, r⟩
        all_goals have R := Lib.hid r
        all_goals clear r W9
        all_goals
          (refine plan_move rfl _ rfl (by first | exact wanted_none rfl | exact wanted_yes rfl rfl rfl rfl) ?_)
          try simp only [put_some, put_none, eval_tmp, eval_const, List.set_cons_succ, List.set_cons_zero, List.getD_cons_succ, List.getD_cons_zero, wrap_eq]
          (refine plan_move rfl _ rfl (by first | exact wanted_none rfl | exact wanted_yes rfl rfl rfl rfl) ?_)
          try simp only [put_some, put_none, eval_tmp, eval_const, List.set_cons_succ, List.set_cons_zero, List.getD_cons_succ, List.getD_cons_zero, wrap_eq]
          (refine plan_take rfl (by first | exact wanted_none rfl | exact wanted_yes rfl rfl rfl rfl) (fun w _ => (by go_simp; try rfl)) ?_)
          try simp only [put_some, put_none, eval_tmp, eval_const, List.set_cons_succ, List.set_cons_zero, List.getD_cons_succ, List.getD_cons_zero, wrap_eq]
          (refine plan_take rfl (by first | exact wanted_none rfl | exact wanted_yes rfl rfl rfl rfl) (fun w _ => (by go_simp; try rfl)) ?_)
          try simp only [put_some, put_none, eval_tmp, eval_const, List.set_cons_succ, List.set_cons_zero, List.getD_cons_succ, List.getD_cons_zero, wrap_eq]
          (first | (refine plan_loadAgg rfl _ _ rfl (by first | exact wanted_none rfl | exact wanted_yes rfl rfl rfl rfl) _ _ (slot_tmp rfl) _ (fun w hS => hS.loadOne cell3 (by first | exact at0 | exact at1 | exact at2 | exact at3) _ _ (by rfl)) ?_) | (refine plan_loadAgg rfl _ _ rfl (by first | exact wanted_none rfl | exact wanted_yes rfl rfl rfl rfl) _ _ (slot_tmp rfl) _ (fun w hS => hS.rowOne cell3 (HX.out 0 _ rfl)) ?_) | (refine plan_loadAgg rfl _ _ rfl (by first | exact wanted_none rfl | exact wanted_yes rfl rfl rfl rfl) _ _ (slot_tmp rfl) _ (fun w hS => hS.rowOne cell3 (HX.out 1 _ rfl)) ?_))
          try simp only [put_some, put_none, eval_tmp, eval_const, List.set_cons_succ, List.set_cons_zero, List.getD_cons_succ, List.getD_cons_zero, wrap_eq]
          (refine plan_move rfl _ rfl (by first | exact wanted_none rfl | exact wanted_yes rfl rfl rfl rfl) ?_)
          try simp only [put_some, put_none, eval_tmp, eval_const, List.set_cons_succ, List.set_cons_zero, List.getD_cons_succ, List.getD_cons_zero, wrap_eq]
          (refine plan_take rfl (by first | exact wanted_none rfl | exact wanted_yes rfl rfl rfl rfl) (fun w _ => (by go_simp; try rfl)) ?_)
          try simp only [put_some, put_none, eval_tmp, eval_const, List.set_cons_succ, List.set_cons_zero, List.getD_cons_succ, List.getD_cons_zero, wrap_eq]
          (refine plan_move rfl _ rfl (by first | exact wanted_none rfl | exact wanted_yes rfl rfl rfl rfl) ?_)
          try simp only [put_some, put_none, eval_tmp, eval_const, List.set_cons_succ, List.set_cons_zero, List.getD_cons_succ, List.getD_cons_zero, wrap_eq]
          first | (refine plan_skip rfl (wanted_no rfl rfl rfl rfl) ?_) | (refine plan_skip rfl (wanted_nu rfl rfl rfl rfl) ?_) | (refine plan_move rfl _ rfl (by first | exact wanted_none rfl | exact wanted_yes rfl rfl rfl rfl) ?_)
          try simp only [put_some, put_none, eval_tmp, eval_const, List.set_cons_succ, List.set_cons_zero, List.getD_cons_succ, List.getD_cons_zero, wrap_eq]
          first | (refine plan_skip rfl (wanted_no rfl rfl rfl rfl) ?_) | (refine plan_skip rfl (wanted_nu rfl rfl rfl rfl) ?_) | (refine plan_take rfl (by first | exact wanted_none rfl | exact wanted_yes rfl rfl rfl rfl) (fun w _ => (by go_simp; try rfl)) ?_)
          try simp only [put_some, put_none, eval_tmp, eval_const, List.set_cons_succ, List.set_cons_zero, List.getD_cons_succ, List.getD_cons_zero, wrap_eq]
          first | (refine plan_skip rfl (wanted_no rfl rfl rfl rfl) ?_) | (refine plan_skip rfl (wanted_nu rfl rfl rfl rfl) ?_) | (refine plan_move rfl _ rfl (by first | exact wanted_none rfl | exact wanted_yes rfl rfl rfl rfl) ?_)
          try simp only [put_some, put_none, eval_tmp, eval_const, List.set_cons_succ, List.set_cons_zero, List.getD_cons_succ, List.getD_cons_zero, wrap_eq]
          first | (refine plan_skip rfl (wanted_no rfl rfl rfl rfl) ?_) | (refine plan_skip rfl (wanted_nu rfl rfl rfl rfl) ?_) | (refine plan_move rfl _ rfl (by first | exact wanted_none rfl | exact wanted_yes rfl rfl rfl rfl) ?_)
          try simp only [put_some, put_none, eval_tmp, eval_const, List.set_cons_succ, List.set_cons_zero, List.getD_cons_succ, List.getD_cons_zero, wrap_eq]
          first | (refine plan_skip rfl (wanted_no rfl rfl rfl rfl) ?_) | (refine plan_skip rfl (wanted_nu rfl rfl rfl rfl) ?_) | (refine plan_move rfl _ rfl (by first | exact wanted_none rfl | exact wanted_yes rfl rfl rfl rfl) ?_)
          try simp only [put_some, put_none, eval_tmp, eval_const, List.set_cons_succ, List.set_cons_zero, List.getD_cons_succ, List.getD_cons_zero, wrap_eq]
          first | (refine plan_skip rfl (wanted_no rfl rfl rfl rfl) ?_) | (refine plan_skip rfl (wanted_nu rfl rfl rfl rfl) ?_) | (refine plan_take rfl (by first | exact wanted_none rfl | exact wanted_yes rfl rfl rfl rfl) (fun w _ => (by go_simp; try rfl)) ?_)
          try simp only [put_some, put_none, eval_tmp, eval_const, List.set_cons_succ, List.set_cons_zero, List.getD_cons_succ, List.getD_cons_zero, wrap_eq]
          first | (refine plan_skip rfl (wanted_no rfl rfl rfl rfl) ?_) | (refine plan_skip rfl (wanted_nu rfl rfl rfl rfl) ?_) | (refine plan_take rfl (by first | exact wanted_none rfl | exact wanted_yes rfl rfl rfl rfl) (fun w _ => (by go_simp; try rfl)) ?_)
          try simp only [put_some, put_none, eval_tmp, eval_const, List.set_cons_succ, List.set_cons_zero, List.getD_cons_succ, List.getD_cons_zero, wrap_eq]
          first | (refine plan_skip rfl (wanted_no rfl rfl rfl rfl) ?_) | (refine plan_skip rfl (wanted_nu rfl rfl rfl rfl) ?_) | (first | (refine plan_loadAgg rfl _ _ rfl (by first | exact wanted_none rfl | exact wanted_yes rfl rfl rfl rfl) _ _ (slot_tmp rfl) _ (fun w hS => hS.loadOne cell3 (by first | exact at0 | exact at1 | exact at2 | exact at3) _ _ (by rfl)) ?_) | (refine plan_loadAgg rfl _ _ rfl (by first | exact wanted_none rfl | exact wanted_yes rfl rfl rfl rfl) _ _ (slot_tmp rfl) _ (fun w hS => hS.rowOne cell3 (HX.out 0 _ rfl)) ?_) | (refine plan_loadAgg rfl _ _ rfl (by first | exact wanted_none rfl | exact wanted_yes rfl rfl rfl rfl) _ _ (slot_tmp rfl) _ (fun w hS => hS.rowOne cell3 (HX.out 1 _ rfl)) ?_))
          try simp only [put_some, put_none, eval_tmp, eval_const, List.set_cons_succ, List.set_cons_zero, List.getD_cons_succ, List.getD_cons_zero, wrap_eq]
          first | (refine plan_skip rfl (wanted_no rfl rfl rfl rfl) ?_) | (refine plan_skip rfl (wanted_nu rfl rfl rfl rfl) ?_) | (refine plan_move rfl _ rfl (by first | exact wanted_none rfl | exact wanted_yes rfl rfl rfl rfl) ?_)
          try simp only [put_some, put_none, eval_tmp, eval_const, List.set_cons_succ, List.set_cons_zero, List.getD_cons_succ, List.getD_cons_zero, wrap_eq]
          first | (refine plan_skip rfl (wanted_no rfl rfl rfl rfl) ?_) | (refine plan_skip rfl (wanted_nu rfl rfl rfl rfl) ?_) | (refine plan_move rfl _ rfl (by first | exact wanted_none rfl | exact wanted_yes rfl rfl rfl rfl) ?_)
          try simp only [put_some, put_none, eval_tmp, eval_const, List.set_cons_succ, List.set_cons_zero, List.getD_cons_succ, List.getD_cons_zero, wrap_eq]
          first | (refine plan_skip rfl (wanted_no rfl rfl rfl rfl) ?_) | (refine plan_skip rfl (wanted_nu rfl rfl rfl rfl) ?_) | (refine plan_take rfl (by first | exact wanted_none rfl | exact wanted_yes rfl rfl rfl rfl) (fun w _ => (by go_simp; try rfl)) ?_)
          try simp only [put_some, put_none, eval_tmp, eval_const, List.set_cons_succ, List.set_cons_zero, List.getD_cons_succ, List.getD_cons_zero, wrap_eq]
          first | (refine plan_skip rfl (wanted_no rfl rfl rfl rfl) ?_) | (refine plan_skip rfl (wanted_nu rfl rfl rfl rfl) ?_) | (refine plan_take rfl (by first | exact wanted_none rfl | exact wanted_yes rfl rfl rfl rfl) (fun w _ => (by go_simp; try rfl)) ?_)
          try simp only [put_some, put_none, eval_tmp, eval_const, List.set_cons_succ, List.set_cons_zero, List.getD_cons_succ, List.getD_cons_zero, wrap_eq]
          first | (refine plan_skip rfl (wanted_no rfl rfl rfl rfl) ?_) | (refine plan_skip rfl (wanted_nu rfl rfl rfl rfl) ?_) | (first | (refine plan_loadAgg rfl _ _ rfl (by first | exact wanted_none rfl | exact wanted_yes rfl rfl rfl rfl) _ _ (slot_tmp rfl) _ (fun w hS => hS.loadOne cell3 (by first | exact at0 | exact at1 | exact at2 | exact at3) _ _ (by rfl)) ?_) | (refine plan_loadAgg rfl _ _ rfl (by first | exact wanted_none rfl | exact wanted_yes rfl rfl rfl rfl) _ _ (slot_tmp rfl) _ (fun w hS => hS.rowOne cell3 (HX.out 0 _ rfl)) ?_) | (refine plan_loadAgg rfl _ _ rfl (by first | exact wanted_none rfl | exact wanted_yes rfl rfl rfl rfl) _ _ (slot_tmp rfl) _ (fun w hS => hS.rowOne cell3 (HX.out 1 _ rfl)) ?_))
          try simp only [put_some, put_none, eval_tmp, eval_const, List.set_cons_succ, List.set_cons_zero, List.getD_cons_succ, List.getD_cons_zero, wrap_eq]
          first | (refine plan_skip rfl (wanted_no rfl rfl rfl rfl) ?_) | (refine plan_skip rfl (wanted_nu rfl rfl rfl rfl) ?_) | (refine plan_take rfl (by first | exact wanted_none rfl | exact wanted_yes rfl rfl rfl rfl) (fun w _ => (by go_simp; try rfl)) ?_)
          try simp only [put_some, put_none, eval_tmp, eval_const, List.set_cons_succ, List.set_cons_zero, List.getD_cons_succ, List.getD_cons_zero, wrap_eq]
          first | (refine plan_skip rfl (wanted_no rfl rfl rfl rfl) ?_) | (refine plan_skip rfl (wanted_nu rfl rfl rfl rfl) ?_) | (refine plan_take rfl (by first | exact wanted_none rfl | exact wanted_yes rfl rfl rfl rfl) (fun w _ => (by go_simp; try rfl)) ?_)
          try simp only [put_some, put_none, eval_tmp, eval_const, List.set_cons_succ, List.set_cons_zero, List.getD_cons_succ, List.getD_cons_zero, wrap_eq]
          (refine plan_take rfl (by first | exact wanted_none rfl | exact wanted_yes rfl rfl rfl rfl) (fun w _ => (by go_simp; try rfl)) ?_)
          try simp only [put_some, put_none, eval_tmp, eval_const, List.set_cons_succ, List.set_cons_zero, List.getD_cons_succ, List.getD_cons_zero, wrap_eq]
          refine plan_nil ?_
        all_goals
          go_wp2_with fail
          go_roundg (gk - 1)
          case measure => omega
          case rel => exact ⟨j + 1, _, by omega, by go_num, rfl, R.out, hp⟩
      · have hy := HE.out k _ hz
        obtain ⟨q, r⟩ := z
        simp only [blV] at hy
        have HY := Lib.hid hy
        have W9 := Lib.hid (best_ways2 hj hk hz hwz hb)
        clear hx hj hb hy hz hwz
        have e3 : (0 : Int) ≤ (k : Int) := by omega
        have e4 : (k : Int) < (l.length : Int) := by omega
        go_wp2_with (first | go_skip | ((with_reducible refine pre_alloc 39 rfl ?_); refine wpList_alloc_hp hp _ rfl (by first | exact wanted_none rfl | exact wanted_yes rfl rfl rfl rfl) _ _ zero39 ?_; clear hp; intro b w1 hp; simp only [put_some, put_none, List.set_cons_succ, List.set_cons_zero]) | ((with_reducible refine pre_box _ _ rfl ?_); refine wpList_box_hp hp _ _ rfl (by first | exact wanted_none rfl | exact wanted_yes rfl rfl rfl rfl) _ (slot_tmp rfl) _ rfl _ (by simp only [List.length_cons, List.length_nil, Nat.reduceAdd]; rfl) ?_; clear hp; intro b w1 hp; simp only [put_some, put_none, List.set_cons_succ, List.set_cons_zero]) | ((with_reducible refine pre_load _ _ rfl ?_); first | (refine wpList_loadOne_hp hp _ _ rfl (by first | exact wanted_none rfl | exact wanted_yes rfl rfl rfl rfl) _ _ (slot_tmp rfl) (by with_reducible first | exact cell3 | exact cell4 | exact cell29) _ _ _ _ (by first | exact at0 | exact at1 | exact at2 | exact at3) _ (by rfl) ?_; simp only [put_some, put_none, List.set_cons_succ, List.set_cons_zero]) | (refine wpList_loadAgg_hp hp _ _ rfl (by first | exact wanted_none rfl | exact wanted_yes rfl rfl rfl rfl) _ _ (slot_tmp rfl) _ (by with_reducible first | exact agg39) _ _ _ _ (by first | exact at0 | exact at1 | exact at2 | exact at3) _ (by simp only [List.drop_zero, List.drop_succ_cons, List.take_succ_cons, List.take_zero, List.take_nil]; rfl) (by rfl) ?_; simp only [put_some, put_none, List.set_cons_succ, List.set_cons_zero])) | ((with_reducible refine pre_store 39 _ _ rfl ?_); first | (refine wpList_storeAll_hp hp _ _ _ rfl (by first | exact wanted_none rfl | exact wanted_yes rfl rfl rfl rfl) _ (slot_tmp rfl) _ (slot_tmp rfl) agg39 _ _ _ _ (by first | exact at0 | exact at1 | exact at2 | exact at3) (by rfl) (by first | rfl | simp [*]) ?_; clear hp; intro w1 hp; simp only [List.set_cons_zero, List.set_cons_succ] at hp; simp only [put_some, put_none, List.set_cons_succ, List.set_cons_zero]) | (refine wpList_storeAgg_hp hp _ _ _ rfl (by first | exact wanted_none rfl | exact wanted_yes rfl rfl rfl rfl) _ _ (slot_tmp rfl) _ (slot_tmp rfl) agg39 _ _ _ _ (by first | exact at0 | exact at1 | exact at2 | exact at3) (by simp only [List.length_cons, List.length_nil]; omega) (by first | rfl | simp [*]) ?_; clear hp; intro w1 hp; simp only [spl, List.set_cons_zero, List.set_cons_succ] at hp; simp only [put_some, put_none, List.set_cons_succ, List.set_cons_zero])) | ((with_reducible refine pre_store _ _ _ rfl ?_); (refine wpList_storeOne_hp hp _ _ _ rfl (by first | exact wanted_none rfl | exact wanted_yes rfl rfl rfl rfl) _ _ (slot_tmp rfl) _ (by first | exact slot_tmp rfl | exact slot_const) (by with_reducible first | exact cell3 | exact cell4 | exact cell29) _ _ _ _ (by first | exact at0 | exact at1 | exact at2 | exact at3) (by simp only [List.length_cons, List.length_nil]; omega) (by first | rfl | assumption) ?_; clear hp; intro w1 hp; simp only [List.set_cons_zero, List.set_cons_succ] at hp; simp only [put_some, put_none, List.set_cons_succ, List.set_cons_zero])))
        refine wp_region_keeps _ (Keeps.all hp.drew) [] [(0, true), (1, true), (2, true), (3, true), (4, true), (5, true), (6, true), (7, true), (8, true), (9, true), (10, true), (11, true), (12, true), (13, true), (14, true), (15, true), (16, true), (17, true), (18, true), (19, true), (20, true), (21, true), (22, true), (23, true)] (by kernel_rfl) (by kernel_rfl) rfl (by kernel_rfl) (fun _ _ d _ _ h => by cases d <;> exact h) ?_
        replace hp := hp.drew
        rcases W9.out with ⟨d1, r⟩ | ⟨d1, d2, r⟩ | ⟨d1, d2, r⟩
        all_goals have R := Lib.hid r
        all_goals clear r W9
        all_goals
          (refine plan_move rfl _ rfl (by first | exact wanted_none rfl | exact wanted_yes rfl rfl rfl rfl) ?_)
          try simp only [put_some, put_none, eval_tmp, eval_const, List.set_cons_succ, List.set_cons_zero, List.getD_cons_succ, List.getD_cons_zero, wrap_eq]
          (refine plan_move rfl _ rfl (by first | exact wanted_none rfl | exact wanted_yes rfl rfl rfl rfl) ?_)
          try simp only [put_some, put_none, eval_tmp, eval_const, List.set_cons_succ, List.set_cons_zero, List.getD_cons_succ, List.getD_cons_zero, wrap_eq]
          (refine plan_take rfl (by first | exact wanted_none rfl | exact wanted_yes rfl rfl rfl rfl) (fun w _ => (by go_simp; try rfl)) ?_)
          try simp only [put_some, put_none, eval_tmp, eval_const, List.set_cons_succ, List.set_cons_zero, List.getD_cons_succ, List.getD_cons_zero, wrap_eq]
          (refine plan_take rfl (by first | exact wanted_none rfl | exact wanted_yes rfl rfl rfl rfl) (fun w _ => (by go_simp; try rfl)) ?_)
          try simp only [put_some, put_none, eval_tmp, eval_const, List.set_cons_succ, List.set_cons_zero, List.getD_cons_succ, List.getD_cons_zero, wrap_eq]
          (first | (refine plan_loadAgg rfl _ _ rfl (by first | exact wanted_none rfl | exact wanted_yes rfl rfl rfl rfl) _ _ (slot_tmp rfl) _ (fun w hS => hS.loadOne cell3 (by first | exact at0 | exact at1 | exact at2 | exact at3) _ _ (by rfl)) ?_) | (refine plan_loadAgg rfl _ _ rfl (by first | exact wanted_none rfl | exact wanted_yes rfl rfl rfl rfl) _ _ (slot_tmp rfl) _ (fun w hS => hS.rowOne cell3 (HX.out 0 _ rfl)) ?_) | (refine plan_loadAgg rfl _ _ rfl (by first | exact wanted_none rfl | exact wanted_yes rfl rfl rfl rfl) _ _ (slot_tmp rfl) _ (fun w hS => hS.rowOne cell3 (HX.out 1 _ rfl)) ?_) | (refine plan_loadAgg rfl _ _ rfl (by first | exact wanted_none rfl | exact wanted_yes rfl rfl rfl rfl) _ _ (slot_tmp rfl) _ (fun w hS => hS.rowOne cell3 (HY.out 0 _ rfl)) ?_) | (refine plan_loadAgg rfl _ _ rfl (by first | exact wanted_none rfl | exact wanted_yes rfl rfl rfl rfl) _ _ (slot_tmp rfl) _ (fun w hS => hS.rowOne cell3 (HY.out 1 _ rfl)) ?_))
          try simp only [put_some, put_none, eval_tmp, eval_const, List.set_cons_succ, List.set_cons_zero, List.getD_cons_succ, List.getD_cons_zero, wrap_eq]
          (refine plan_move rfl _ rfl (by first | exact wanted_none rfl | exact wanted_yes rfl rfl rfl rfl) ?_)
          try simp only [put_some, put_none, eval_tmp, eval_const, List.set_cons_succ, List.set_cons_zero, List.getD_cons_succ, List.getD_cons_zero, wrap_eq]
          (refine plan_take rfl (by first | exact wanted_none rfl | exact wanted_yes rfl rfl rfl rfl) (fun w _ => (by go_simp; try rfl)) ?_)
          try simp only [put_some, put_none, eval_tmp, eval_const, List.set_cons_succ, List.set_cons_zero, List.getD_cons_succ, List.getD_cons_zero, wrap_eq]
          (refine plan_move rfl _ rfl (by first | exact wanted_none rfl | exact wanted_yes rfl rfl rfl rfl) ?_)
          try simp only [put_some, put_none, eval_tmp, eval_const, List.set_cons_succ, List.set_cons_zero, List.getD_cons_succ, List.getD_cons_zero, wrap_eq]
          first | (refine plan_skip rfl (wanted_no rfl rfl rfl rfl) ?_) | (refine plan_skip rfl (wanted_nu rfl rfl rfl rfl) ?_) | (refine plan_move rfl _ rfl (by first | exact wanted_none rfl | exact wanted_yes rfl rfl rfl rfl) ?_)
          try simp only [put_some, put_none, eval_tmp, eval_const, List.set_cons_succ, List.set_cons_zero, List.getD_cons_succ, List.getD_cons_zero, wrap_eq]
          first | (refine plan_skip rfl (wanted_no rfl rfl rfl rfl) ?_) | (refine plan_skip rfl (wanted_nu rfl rfl rfl rfl) ?_) | (refine plan_take rfl (by first | exact wanted_none rfl | exact wanted_yes rfl rfl rfl rfl) (fun w _ => (by go_simp; try rfl)) ?_)
          try simp only [put_some, put_none, eval_tmp, eval_const, List.set_cons_succ, List.set_cons_zero, List.getD_cons_succ, List.getD_cons_zero, wrap_eq]
          first | (refine plan_skip rfl (wanted_no rfl rfl rfl rfl) ?_) | (refine plan_skip rfl (wanted_nu rfl rfl rfl rfl) ?_) | (refine plan_move rfl _ rfl (by first | exact wanted_none rfl | exact wanted_yes rfl rfl rfl rfl) ?_)
          try simp only [put_some, put_none, eval_tmp, eval_const, List.set_cons_succ, List.set_cons_zero, List.getD_cons_succ, List.getD_cons_zero, wrap_eq]
          first | (refine plan_skip rfl (wanted_no rfl rfl rfl rfl) ?_) | (refine plan_skip rfl (wanted_nu rfl rfl rfl rfl) ?_) | (refine plan_move rfl _ rfl (by first | exact wanted_none rfl | exact wanted_yes rfl rfl rfl rfl) ?_)
          try simp only [put_some, put_none, eval_tmp, eval_const, List.set_cons_succ, List.set_cons_zero, List.getD_cons_succ, List.getD_cons_zero, wrap_eq]
          first | (refine plan_skip rfl (wanted_no rfl rfl rfl rfl) ?_) | (refine plan_skip rfl (wanted_nu rfl rfl rfl rfl) ?_) | (refine plan_move rfl _ rfl (by first | exact wanted_none rfl | exact wanted_yes rfl rfl rfl rfl) ?_)
          try simp only [put_some, put_none, eval_tmp, eval_const, List.set_cons_succ, List.set_cons_zero, List.getD_cons_succ, List.getD_cons_zero, wrap_eq]
          first | (refine plan_skip rfl (wanted_no rfl rfl rfl rfl) ?_) | (refine plan_skip rfl (wanted_nu rfl rfl rfl rfl) ?_) | (refine plan_take rfl (by first | exact wanted_none rfl | exact wanted_yes rfl rfl rfl rfl) (fun w _ => (by go_simp; try rfl)) ?_)
          try simp only [put_some, put_none, eval_tmp, eval_const, List.set_cons_succ, List.set_cons_zero, List.getD_cons_succ, List.getD_cons_zero, wrap_eq]
          first | (refine plan_skip rfl (wanted_no rfl rfl rfl rfl) ?_) | (refine plan_skip rfl (wanted_nu rfl rfl rfl rfl) ?_) | (refine plan_take rfl (by first | exact wanted_none rfl | exact wanted_yes rfl rfl rfl rfl) (fun w _ => (by go_simp; try rfl)) ?_)
          try simp only [put_some, put_none, eval_tmp, eval_const, List.set_cons_succ, List.set_cons_zero, List.getD_cons_succ, List.getD_cons_zero, wrap_eq]
          first | (refine plan_skip rfl (wanted_no rfl rfl rfl rfl) ?_) | (refine plan_skip rfl (wanted_nu rfl rfl rfl rfl) ?_) | (first | (refine plan_loadAgg rfl _ _ rfl (by first | exact wanted_none rfl | exact wanted_yes rfl rfl rfl rfl) _ _ (slot_tmp rfl) _ (fun w hS => hS.loadOne cell3 (by first | exact at0 | exact at1 | exact at2 | exact at3) _ _ (by rfl)) ?_) | (refine plan_loadAgg rfl _ _ rfl (by first | exact wanted_none rfl | exact wanted_yes rfl rfl rfl rfl) _ _ (slot_tmp rfl) _ (fun w hS => hS.rowOne cell3 (HX.out 0 _ rfl)) ?_) | (refine plan_loadAgg rfl _ _ rfl (by first | exact wanted_none rfl | exact wanted_yes rfl rfl rfl rfl) _ _ (slot_tmp rfl) _ (fun w hS => hS.rowOne cell3 (HX.out 1 _ rfl)) ?_) | (refine plan_loadAgg rfl _ _ rfl (by first | exact wanted_none rfl | exact wanted_yes rfl rfl rfl rfl) _ _ (slot_tmp rfl) _ (fun w hS => hS.rowOne cell3 (HY.out 0 _ rfl)) ?_) | (refine plan_loadAgg rfl _ _ rfl (by first | exact wanted_none rfl | exact wanted_yes rfl rfl rfl rfl) _ _ (slot_tmp rfl) _ (fun w hS => hS.rowOne cell3 (HY.out 1 _ rfl)) ?_))
          try simp only [put_some, put_none, eval_tmp, eval_const, List.set_cons_succ, List.set_cons_zero, List.getD_cons_succ, List.getD_cons_zero, wrap_eq]
          first | (refine plan_skip rfl (wanted_no rfl rfl rfl rfl) ?_) | (refine plan_skip rfl (wanted_nu rfl rfl rfl rfl) ?_) | (refine plan_move rfl _ rfl (by first | exact wanted_none rfl | exact wanted_yes rfl rfl rfl rfl) ?_)
          try simp only [put_some, put_none, eval_tmp, eval_const, List.set_cons_succ, List.set_cons_zero, List.getD_cons_succ, List.getD_cons_zero, wrap_eq]
          first | (refine plan_skip rfl (wanted_no rfl rfl rfl rfl) ?_) | (refine plan_skip rfl (wanted_nu rfl rfl rfl rfl) ?_) | (refine plan_move rfl _ rfl (by first | exact wanted_none rfl | exact wanted_yes rfl rfl rfl rfl) ?_)
          try simp only [put_some, put_none, eval_tmp, eval_const, List.set_cons_succ, List.set_cons_zero, List.getD_cons_succ, List.getD_cons_zero, wrap_eq]
          first | (refine plan_skip rfl (wanted_no rfl rfl rfl rfl) ?_) | (refine plan_skip rfl (wanted_nu rfl rfl rfl rfl) ?_) | (refine plan_take rfl (by first | exact wanted_none rfl | exact wanted_yes rfl rfl rfl rfl) (fun w _ => (by go_simp; try rfl)) ?_)
          try simp only [put_some, put_none, eval_tmp, eval_const, List.set_cons_succ, List.set_cons_zero, List.getD_cons_succ, List.getD_cons_zero, wrap_eq]
          first | (refine plan_skip rfl (wanted_no rfl rfl rfl rfl) ?_) | (refine plan_skip rfl (wanted_nu rfl rfl rfl rfl) ?_) | (refine plan_take rfl (by first | exact wanted_none rfl | exact wanted_yes rfl rfl rfl rfl) (fun w _ => (by go_simp; try rfl)) ?_)
          try simp only [put_some, put_none, eval_tmp, eval_const, List.set_cons_succ, List.set_cons_zero, List.getD_cons_succ, List.getD_cons_zero, wrap_eq]
          first | (refine plan_skip rfl (wanted_no rfl rfl rfl rfl) ?_) | (refine plan_skip rfl (wanted_nu rfl rfl rfl rfl) ?_) | (first | (refine plan_loadAgg rfl _ _ rfl (by first | exact wanted_none rfl | exact wanted_yes rfl rfl rfl rfl) _ _ (slot_tmp rfl) _ (fun w hS => hS.loadOne cell3 (by first | exact at0 | exact at1 | exact at2 | exact at3) _ _ (by rfl)) ?_) | (refine plan_loadAgg rfl _ _ rfl (by first | exact wanted_none rfl | exact wanted_yes rfl rfl rfl rfl) _ _ (slot_tmp rfl) _ (fun w hS => hS.rowOne cell3 (HX.out 0 _ rfl)) ?_) | (refine plan_loadAgg rfl _ _ rfl (by first | exact wanted_none rfl | exact wanted_yes rfl rfl rfl rfl) _ _ (slot_tmp rfl) _ (fun w hS => hS.rowOne cell3 (HX.out 1 _ rfl)) ?_) | (refine plan_loadAgg rfl _ _ rfl (by first | exact wanted_none rfl | exact wanted_yes rfl rfl rfl rfl) _ _ (slot_tmp rfl) _ (fun w hS => hS.rowOne cell3 (HY.out 0 _ rfl)) ?_) | (refine plan_loadAgg rfl _ _ rfl (by first | exact wanted_none rfl | exact wanted_yes rfl rfl rfl rfl) _ _ (slot_tmp rfl) _ (fun w hS => hS.rowOne cell3 (HY.out 1 _ rfl)) ?_))
          try simp only [put_some, put_none, eval_tmp, eval_const, List.set_cons_succ, List.set_cons_zero, List.getD_cons_succ, List.getD_cons_zero, wrap_eq]
          first | (refine plan_skip rfl (wanted_no rfl rfl rfl rfl) ?_) | (refine plan_skip rfl (wanted_nu rfl rfl rfl rfl) ?_) | (refine plan_take rfl (by first | exact wanted_none rfl | exact wanted_yes rfl rfl rfl rfl) (fun w _ => (by go_simp; try rfl)) ?_)
          try simp only [put_some, put_none, eval_tmp, eval_const, List.set_cons_succ, List.set_cons_zero, List.getD_cons_succ, List.getD_cons_zero, wrap_eq]
          first | (refine plan_skip rfl (wanted_no rfl rfl rfl rfl) ?_) | (refine plan_skip rfl (wanted_nu rfl rfl rfl rfl) ?_) | (refine plan_take rfl (by first | exact wanted_none rfl | exact wanted_yes rfl rfl rfl rfl) (fun w _ => (by go_simp; try rfl)) ?_)
          try simp only [put_some, put_none, eval_tmp, eval_const, List.set_cons_succ, List.set_cons_zero, List.getD_cons_succ, List.getD_cons_zero, wrap_eq]
          (refine plan_take rfl (by first | exact wanted_none rfl | exact wanted_yes rfl rfl rfl rfl) (fun w _ => (by go_simp; try rfl)) ?_)
          try simp only [put_some, put_none, eval_tmp, eval_const, List.set_cons_succ, List.set_cons_zero, List.getD_cons_succ, List.getD_cons_zero, wrap_eq]
          refine plan_nil ?_
        all_goals
          go_wp2_with fail
          go_roundg (gk - 1)
          case measure => omega
          case rel => exact ⟨j + 1, _, by omega, by go_num, rfl, R.out, hp⟩
    · have e2 : decide ((j : Int) < (l.length : Int)) = false := by simp; omega
      have HB : RowKit.Hid (BestAt l want l.length i) := Lib.hid (by have : j = l.length := by omega
                                                                     rw [this] at hb; exact hb)
      clear hb
      go_wp2_with fail
      go_ret
      exact ⟨i, rfl, HB.out, hp.below⟩
end Go.Proofs.Ytinlmcdphhmhjaa
