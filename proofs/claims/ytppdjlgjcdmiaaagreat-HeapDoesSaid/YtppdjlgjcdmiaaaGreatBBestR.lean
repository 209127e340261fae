/- The walk of the document's Best. -/
import Derived.Test.YtppdjlgjcdmiaaaGreatQB
set_option linter.unusedSimpArgs false
set_option linter.unusedVariables false
namespace Go.Proofs.YtppdjlgjcdmiaaaGreat
open Go.RowKit
theorem ceBBestR0 {ty : TypeId} (h : cellB Tryz.prog ty = true := by with_reducible first | exact cell3 | exact cell4 | exact cell32) : cellB Tryz.prog ty = true := h
set_option maxRecDepth 100000 in
set_option maxHeartbeats 8000000 in
theorem best119 (l : List Bl) (a : Option Addr) (c : Nat) (hl : l.length ≤ 600) (want : Int) (w : World) (ha : RowIs w a (l.flatMap blV)) :
    Calls Tryz.prog 119 #[.slice a l.length c, .int .i64 want] w (BestPost w l want) := by
  have hp := Hp.start w
  have HA := Lib.hid ha
  clear ha
  go_enter Tryz.func119, Tryz.ntmps119
  go_wp2_with (first | go_skip | ((first | ((with_reducible refine pre_alloc _ rfl ?_); refine lZ hp rfl zero64 ?_; clear hp; intro b w1 hp) | ((with_reducible refine pre_box _ _ rfl ?_); refine lB hp rfl (slot_tmp rfl) rfl ?_; clear hp; intro b w1 hp) | ((with_reducible refine pre_load _ _ rfl ?_); first | refine lO hp rfl (slot_tmp rfl) ceBBestR0 aa5 ?_ | refine lA hp rfl (slot_tmp rfl) agg64 aa5 ?_) | ((with_reducible refine pre_store _ _ _ rfl ?_); (first | refine sO hp rfl (slot_tmp rfl) ceBBestR0 aa5 ?_ | refine sA hp rfl (slot_tmp rfl) (slot_tmp rfl) agg64 aa5 ?_ | refine sG hp rfl (slot_tmp rfl) (slot_tmp rfl) agg64 aa5 ?_); clear hp; intro w1 hp; simp only [spl, List.set_cons_zero, List.set_cons_succ] at hp)); simp only [put_some, put_none, List.set_cons_succ, List.set_cons_zero]))
  go_loopg [5, 6] l.length (fun k at_ i wr => ∃ (j : Nat) (b : Int), k + j = l.length ∧ i = .int .i64 j ∧ at_ = .int .i64 b ∧ BestAt l want j b ∧ Hp w.heap.size w wr [])
  case atStart => exact ⟨0, -1, by omega, rfl, rfl, .inl ⟨rfl, fun k x h => by omega⟩, hp⟩
  case round =>
    clear hp
    obtain ⟨j, i, hkj, rfl, rfl, hb, hp⟩ := hrel
    by_cases hlt : j < l.length
    · obtain ⟨bq, off, rfl, hx⟩ := HA.out.elems 2 blV_len (by omega) (by omega)
      have HE := Lib.hid hx
      have hj := List.getElem?_eq_getElem hlt
      replace hx := hx j _ hj
      generalize l[j] = x at hx hj
      obtain ⟨p, o⟩ := x
      simp only [blV] at hx
      have HX := Lib.hid hx
      have e1 : (0 : Int) ≤ (j : Int) := by omega
      have e2 : (j : Int) < (l.length : Int) := by omega
      rcases hb with ⟨rfl, hb⟩ | ⟨k, z, rfl, hk, hz, hwz, hb⟩
      · have W9 := Lib.hid (best_ways1 hj hb)
        clear hx hj hb
        go_wp2_with (first | go_skip | ((first | ((with_reducible refine pre_alloc _ rfl ?_); refine lZ hp rfl zero64 ?_; clear hp; intro b w1 hp) | ((with_reducible refine pre_box _ _ rfl ?_); refine lB hp rfl (slot_tmp rfl) rfl ?_; clear hp; intro b w1 hp) | ((with_reducible refine pre_load _ _ rfl ?_); first | refine lO hp rfl (slot_tmp rfl) ceBBestR0 aa5 ?_ | refine lA hp rfl (slot_tmp rfl) agg64 aa5 ?_) | ((with_reducible refine pre_store _ _ _ rfl ?_); (first | refine sO hp rfl (slot_tmp rfl) ceBBestR0 aa5 ?_ | refine sA hp rfl (slot_tmp rfl) (slot_tmp rfl) agg64 aa5 ?_ | refine sG hp rfl (slot_tmp rfl) (slot_tmp rfl) agg64 aa5 ?_); clear hp; intro w1 hp; simp only [spl, List.set_cons_zero, List.set_cons_succ] at hp)); simp only [put_some, put_none, List.set_cons_succ, List.set_cons_zero]))
        refine wp_region_keeps _ (Keeps.all hp.drew) [] [(0, true), (1, true), (2, true), (3, true), (4, true), (5, true), (6, true), (7, true), (8, true), (9, true), (10, true), (11, true), (12, true), (13, true), (14, true), (15, true), (16, true), (17, true), (18, true), (19, true), (20, true), (21, true), (22, true), (23, true)] (by kernel_rfl) (by kernel_rfl) rfl (by kernel_rfl) (fun _ _ d _ _ h => by cases d <;> exact h) ?_
        replace hp := hp.drew
        rcases W9.out with ⟨d1, r⟩ | ⟨d1, r⟩
        all_goals have R := Lib.hid r
        all_goals clear r W9
        all_goals
          repeat' (with_reducible refine plan_is ?_); first | (with_reducible refine plan_nil ?_) | ((with_reducible refine plan_t ?_); refine plan_tk rfl ?_; (first | ((with_reducible refine tk_gd _ _ rfl ?_); refine tS (by first | exact wanted_no rfl rfl rfl rfl | exact wanted_nu rfl rfl rfl rfl) ?_) | ((with_reducible refine tk_mv _ rfl ?_); refine tM rfl ?_) | ((with_reducible refine tk_ld _ _ rfl ?_); first | refine tO rfl (slot_tmp rfl) cell3 aa5 ?_ | refine tRO rfl (slot_tmp rfl) cell3 (HX.out 0 _ rfl) ?_ | refine tRO rfl (slot_tmp rfl) cell3 (HX.out 1 _ rfl) ?_) | refine tG (fun w _ => (by go_simp; try rfl)) ?_); try simp only [put_some, put_none, eval_tmp, eval_const, List.set_cons_succ, List.set_cons_zero, List.getD_cons_succ, List.getD_cons_zero, wrap_eq])
        all_goals
          go_wp2_with fail
          go_roundg (gk - 1)
          case measure => omega
          case rel => exact ⟨j + 1, _, by omega, by go_num, rfl, R.out, hp⟩
      · have hy := HE.out k _ hz
        obtain ⟨q, r⟩ := z
        simp only [blV] at hy
        have HY := Lib.hid hy
        have W9 := Lib.hid (best_ways2 hj hk hz hwz hb)
        clear hx hj hb hy hz hwz
        have e3 : (0 : Int) ≤ (k : Int) := by omega
        have e4 : (k : Int) < (l.length : Int) := by omega
        go_wp2_with (first | go_skip | ((first | ((with_reducible refine pre_alloc _ rfl ?_); refine lZ hp rfl zero64 ?_; clear hp; intro b w1 hp) | ((with_reducible refine pre_box _ _ rfl ?_); refine lB hp rfl (slot_tmp rfl) rfl ?_; clear hp; intro b w1 hp) | ((with_reducible refine pre_load _ _ rfl ?_); first | refine lO hp rfl (slot_tmp rfl) ceBBestR0 aa5 ?_ | refine lA hp rfl (slot_tmp rfl) agg64 aa5 ?_) | ((with_reducible refine pre_store _ _ _ rfl ?_); (first | refine sO hp rfl (slot_tmp rfl) ceBBestR0 aa5 ?_ | refine sA hp rfl (slot_tmp rfl) (slot_tmp rfl) agg64 aa5 ?_ | refine sG hp rfl (slot_tmp rfl) (slot_tmp rfl) agg64 aa5 ?_); clear hp; intro w1 hp; simp only [spl, List.set_cons_zero, List.set_cons_succ] at hp)); simp only [put_some, put_none, List.set_cons_succ, List.set_cons_zero]))
        refine wp_region_keeps _ (Keeps.all hp.drew) [] [(0, true), (1, true), (2, true), (3, true), (4, true), (5, true), (6, true), (7, true), (8, true), (9, true), (10, true), (11, true), (12, true), (13, true), (14, true), (15, true), (16, true), (17, true), (18, true), (19, true), (20, true), (21, true), (22, true), (23, true)] (by kernel_rfl) (by kernel_rfl) rfl (by kernel_rfl) (fun _ _ d _ _ h => by cases d <;> exact h) ?_
        replace hp := hp.drew
        rcases W9.out with ⟨d1, r⟩ | ⟨d1, d2, r⟩ | ⟨d1, d2, r⟩
        all_goals have R := Lib.hid r
        all_goals clear r W9
        all_goals
          repeat' (with_reducible refine plan_is ?_); first | (with_reducible refine plan_nil ?_) | ((with_reducible refine plan_t ?_); refine plan_tk rfl ?_; (first | ((with_reducible refine tk_gd _ _ rfl ?_); refine tS (by first | exact wanted_no rfl rfl rfl rfl | exact wanted_nu rfl rfl rfl rfl) ?_) | ((with_reducible refine tk_mv _ rfl ?_); refine tM rfl ?_) | ((with_reducible refine tk_ld _ _ rfl ?_); first | refine tO rfl (slot_tmp rfl) cell3 aa5 ?_ | refine tRO rfl (slot_tmp rfl) cell3 (HX.out 0 _ rfl) ?_ | refine tRO rfl (slot_tmp rfl) cell3 (HX.out 1 _ rfl) ?_ | refine tRO rfl (slot_tmp rfl) cell3 (HY.out 0 _ rfl) ?_ | refine tRO rfl (slot_tmp rfl) cell3 (HY.out 1 _ rfl) ?_) | refine tG (fun w _ => (by go_simp; try rfl)) ?_); try simp only [put_some, put_none, eval_tmp, eval_const, List.set_cons_succ, List.set_cons_zero, List.getD_cons_succ, List.getD_cons_zero, wrap_eq])
        all_goals
          go_wp2_with fail
          go_roundg (gk - 1)
          case measure => omega
          case rel => exact ⟨j + 1, _, by omega, by go_num, rfl, R.out, hp⟩
    · have e2 : decide ((j : Int) < (l.length : Int)) = false := by simp; omega
      have HB : RowKit.Hid (BestAt l want l.length i) := Lib.hid (by have : j = l.length := by omega
                                                                     rw [this] at hb; exact hb)
      clear hb
      go_wp2_with fail
      go_ret
      exact ⟨i, rfl, HB.out, hp.below⟩
end Go.Proofs.YtppdjlgjcdmiaaaGreat
