/- The walks of the reference's May. -/
import Derived.Test.YtbflmnoaiklnbaaBMay
set_option linter.unusedSimpArgs false
set_option linter.unusedVariables false
namespace Go.Proofs.Ytbflmnoaiklnbaa
open Go.RowKit

theorem ways2 (order p o : Int) (h8 : order ≤ 8) :
    (decide (o < 0) = true ∧ mayB order p o = false) ∨ (decide (o < 0) = false ∧ decide (order < o) = true ∧ mayB order p o = false) ∨
    (decide (o < 0) = false ∧ decide (order < o) = false ∧ decide (p < 0) = true ∧ mayB order p o = false) ∨
    (decide (o < 0) = false ∧ decide (order < o) = false ∧ decide (p < 0) = false ∧ decide (pw order - pw o < p) = true ∧ wrap64 (pw order - pw o) = pw order - pw o ∧ o ≤ 8 ∧ mayB order p o = false) ∨
    (decide (o < 0) = false ∧ decide (order < o) = false ∧ decide (p < 0) = false ∧ decide (pw order - pw o < p) = false ∧ wrap64 (pw order - pw o) = pw order - pw o ∧ o ≤ 8 ∧ p.tmod (pw o) = p % pw o ∧ pw o ≠ 0 ∧ mayB order p o = (p % pw o == 0)) := by
  rcases ways order p o h8 with ⟨d1, r⟩ | ⟨d1, d2, r⟩ | ⟨d1, d2, d3, r⟩ | ⟨d1, d2, d3, d4, w1, r⟩ | ⟨d1, d2, d3, d4, w1, w2, w3, r⟩
  · left; simp at d1; exact ⟨by simp; omega, r⟩
  · right; left; simp at d2; exact ⟨by simp; omega, by simp; omega, r⟩
  · right; right; left; simp at d3; exact ⟨by simp; omega, by simp; omega, by simp; omega, r⟩
  · right; right; right; left; simp at d4; exact ⟨by simp; omega, by simp; omega, by simp; omega, by simp; omega, w1, by omega, r⟩
  · have := pw_pos o
    right; right; right; right; exact ⟨by simp; omega, by simp; omega, by simp; omega, by simp; omega, w1, by omega, Int.tmod_eq_emod_of_nonneg d3, by omega, r⟩

set_option maxRecDepth 100000 in
set_option maxHeartbeats 4000000 in
theorem may92 (order : Int) (h8 : order ≤ 8) (p o : Int) (w : World) :
    Calls Try.prog 92 #[.int .i64 order, .agg #[.int .i64 p, .int .i64 o]] w fun e w' => e = .returned (.bool (mayB order p o)) ∧ Below w.heap.size w w' := by
  have hp := Hp.start w
  have W9 := Lib.hid (ways2 order p o h8)
  go_enter Try.func92, Try.ntmps92
  go_wp2_with (first | go_skip | ((first | ((with_reducible refine pre_alloc _ rfl ?_); refine lZ hp rfl zero44 ?_; clear hp; intro b w1 hp) | ((with_reducible refine pre_box _ _ rfl ?_); refine lB hp rfl (slot_tmp rfl) rfl ?_; clear hp; intro b w1 hp) | ((with_reducible refine pre_load _ _ rfl ?_); first | refine lO hp rfl (slot_tmp rfl) (by with_reducible first | exact cell3 | exact cell4 | exact cell30) aa5 ?_ | refine lA hp rfl (slot_tmp rfl) agg44 aa5 ?_) | ((with_reducible refine pre_store _ _ _ rfl ?_); (first | refine sO hp rfl (slot_tmp rfl) (by with_reducible first | exact cell3 | exact cell4 | exact cell30) aa5 ?_ | refine sA hp rfl (slot_tmp rfl) (slot_tmp rfl) agg44 aa5 ?_ | refine sG hp rfl (slot_tmp rfl) (slot_tmp rfl) agg44 aa5 ?_); clear hp; intro w1 hp; simp only [spl, List.set_cons_zero, List.set_cons_succ] at hp)); simp only [put_some, put_none, List.set_cons_succ, List.set_cons_zero]))
  refine wp_region_keeps _ (Keeps.all hp.drew) [] [(0, true), (1, true), (2, true), (3, true), (4, true), (5, true), (6, true), (7, true), (8, true), (9, true), (10, true), (11, true), (12, true), (13, true), (14, true), (15, true), (16, true), (17, true), (19, true), (20, true), (18, false), (21, false), (22, true), (23, true), (24, true)] (by kernel_rfl) (by kernel_rfl) rfl (by kernel_rfl) (fun _ _ d _ _ h => by cases d <;> exact h) ?_
  replace hp := hp.drew
  rcases W9.out with ⟨d1, r⟩ | ⟨d1, d2, r⟩ | ⟨d1, d2, d3, r⟩ | ⟨d1, d2, d3, d4, w1, h1, r⟩ | ⟨d1, d2, d3, d4, w1, h1, w2, w3, r⟩
  all_goals have R := Lib.hid r
  all_goals clear r W9
  all_goals
    (refine plan_take rfl wy (fun w _ => (by go_simp; try rfl)) ?_)
    try simp only [put_some, put_none, eval_tmp, eval_const, List.set_cons_succ, List.set_cons_zero, List.getD_cons_succ, List.getD_cons_zero, wrap_eq]
    (first | (refine pO rfl rfl (slot_tmp rfl) cell3 aa5 ?_))
    try simp only [put_some, put_none, eval_tmp, eval_const, List.set_cons_succ, List.set_cons_zero, List.getD_cons_succ, List.getD_cons_zero, wrap_eq]
    (refine plan_take rfl wy (fun w _ => (by go_simp; try rfl)) ?_)
    try simp only [put_some, put_none, eval_tmp, eval_const, List.set_cons_succ, List.set_cons_zero, List.getD_cons_succ, List.getD_cons_zero, wrap_eq]
    (refine plan_move rfl _ rfl wy ?_)
    try simp only [put_some, put_none, eval_tmp, eval_const, List.set_cons_succ, List.set_cons_zero, List.getD_cons_succ, List.getD_cons_zero, wrap_eq]
    first | (refine plan_skip rfl (wanted_no rfl rfl rfl rfl) ?_) | (refine plan_skip rfl (wanted_nu rfl rfl rfl rfl) ?_) | (refine plan_take rfl wy (fun w _ => (by go_simp; try rfl)) ?_)
    try simp only [put_some, put_none, eval_tmp, eval_const, List.set_cons_succ, List.set_cons_zero, List.getD_cons_succ, List.getD_cons_zero, wrap_eq]
    first | (refine plan_skip rfl (wanted_no rfl rfl rfl rfl) ?_) | (refine plan_skip rfl (wanted_nu rfl rfl rfl rfl) ?_) | (first | (refine pO rfl rfl (slot_tmp rfl) cell3 aa5 ?_))
    try simp only [put_some, put_none, eval_tmp, eval_const, List.set_cons_succ, List.set_cons_zero, List.getD_cons_succ, List.getD_cons_zero, wrap_eq]
    first | (refine plan_skip rfl (wanted_no rfl rfl rfl rfl) ?_) | (refine plan_skip rfl (wanted_nu rfl rfl rfl rfl) ?_) | (refine plan_move rfl _ rfl wy ?_)
    try simp only [put_some, put_none, eval_tmp, eval_const, List.set_cons_succ, List.set_cons_zero, List.getD_cons_succ, List.getD_cons_zero, wrap_eq]
    first | (refine plan_skip rfl (wanted_no rfl rfl rfl rfl) ?_) | (refine plan_skip rfl (wanted_nu rfl rfl rfl rfl) ?_) | (refine plan_take rfl wy (fun w _ => (by go_simp; try rfl)) ?_)
    try simp only [put_some, put_none, eval_tmp, eval_const, List.set_cons_succ, List.set_cons_zero, List.getD_cons_succ, List.getD_cons_zero, wrap_eq]
    (refine plan_take rfl wy (fun w _ => (by go_simp; try rfl)) ?_)
    try simp only [put_some, put_none, eval_tmp, eval_const, List.set_cons_succ, List.set_cons_zero, List.getD_cons_succ, List.getD_cons_zero, wrap_eq]
    (refine plan_move rfl _ rfl wy ?_)
    try simp only [put_some, put_none, eval_tmp, eval_const, List.set_cons_succ, List.set_cons_zero, List.getD_cons_succ, List.getD_cons_zero, wrap_eq]
    first | (refine plan_skip rfl (wanted_no rfl rfl rfl rfl) ?_) | (refine plan_skip rfl (wanted_nu rfl rfl rfl rfl) ?_) | (refine plan_take rfl wy (fun w _ => (by go_simp; try rfl)) ?_)
    try simp only [put_some, put_none, eval_tmp, eval_const, List.set_cons_succ, List.set_cons_zero, List.getD_cons_succ, List.getD_cons_zero, wrap_eq]
    first | (refine plan_skip rfl (wanted_no rfl rfl rfl rfl) ?_) | (refine plan_skip rfl (wanted_nu rfl rfl rfl rfl) ?_) | (first | (refine pO rfl rfl (slot_tmp rfl) cell3 aa5 ?_))
    try simp only [put_some, put_none, eval_tmp, eval_const, List.set_cons_succ, List.set_cons_zero, List.getD_cons_succ, List.getD_cons_zero, wrap_eq]
    first | (refine plan_skip rfl (wanted_no rfl rfl rfl rfl) ?_) | (refine plan_skip rfl (wanted_nu rfl rfl rfl rfl) ?_) | (refine plan_take rfl wy (fun w _ => (by go_simp; try rfl)) ?_)
    try simp only [put_some, put_none, eval_tmp, eval_const, List.set_cons_succ, List.set_cons_zero, List.getD_cons_succ, List.getD_cons_zero, wrap_eq]
    (refine plan_take rfl wy (fun w _ => (by go_simp; try rfl)) ?_)
    try simp only [put_some, put_none, eval_tmp, eval_const, List.set_cons_succ, List.set_cons_zero, List.getD_cons_succ, List.getD_cons_zero, wrap_eq]
    (refine plan_move rfl _ rfl wy ?_)
    try simp only [put_some, put_none, eval_tmp, eval_const, List.set_cons_succ, List.set_cons_zero, List.getD_cons_succ, List.getD_cons_zero, wrap_eq]
    first | (refine plan_skip rfl (wanted_no rfl rfl rfl rfl) ?_) | (refine plan_skip rfl (wanted_nu rfl rfl rfl rfl) ?_) | (refine plan_take rfl wy (fun w _ => (by go_simp; try rfl)) ?_)
    try simp only [put_some, put_none, eval_tmp, eval_const, List.set_cons_succ, List.set_cons_zero, List.getD_cons_succ, List.getD_cons_zero, wrap_eq]
    first | (refine plan_skip rfl (wanted_no rfl rfl rfl rfl) ?_) | (refine plan_skip rfl (wanted_nu rfl rfl rfl rfl) ?_) | (first | (refine pO rfl rfl (slot_tmp rfl) cell3 aa5 ?_))
    try simp only [put_some, put_none, eval_tmp, eval_const, List.set_cons_succ, List.set_cons_zero, List.getD_cons_succ, List.getD_cons_zero, wrap_eq]
    first | (refine plan_skip rfl (wanted_no rfl rfl rfl rfl) ?_) | (refine plan_skip rfl (wanted_nu rfl rfl rfl rfl) ?_) | (refine plan_move rfl _ rfl wy ?_)
    try simp only [put_some, put_none, eval_tmp, eval_const, List.set_cons_succ, List.set_cons_zero, List.getD_cons_succ, List.getD_cons_zero, wrap_eq]
    first | (refine plan_skip rfl (wanted_no rfl rfl rfl rfl) ?_) | (refine plan_skip rfl (wanted_nu rfl rfl rfl rfl) ?_) | (refine plan_take rfl wy (fun w _ => (by go_simp; try rfl)) ?_)
    try simp only [put_some, put_none, eval_tmp, eval_const, List.set_cons_succ, List.set_cons_zero, List.getD_cons_succ, List.getD_cons_zero, wrap_eq]
    first | (refine plan_skip rfl (wanted_no rfl rfl rfl rfl) ?_) | (refine plan_skip rfl (wanted_nu rfl rfl rfl rfl) ?_) | (first | (refine pO rfl rfl (slot_tmp rfl) cell3 aa5 ?_))
    try simp only [put_some, put_none, eval_tmp, eval_const, List.set_cons_succ, List.set_cons_zero, List.getD_cons_succ, List.getD_cons_zero, wrap_eq]
    refine plan_do rfl (fun K hK => ?_)
    go_wp2_with (first | go_skip | (go_at_call 62; refine (size62 _ (by omega) _).mono ?_; rintro e w' ⟨rfl, rfl⟩))
    refine hK.out _ _ (.inr (kall hp)) ?_
    clear hK K
    try simp only [put_some, put_none, eval_tmp, eval_const, List.set_cons_succ, List.set_cons_zero, List.getD_cons_succ, List.getD_cons_zero, wrap_eq]
    refine plan_do rfl (fun K hK => ?_)
    go_wp2_with (first | go_skip | (go_at_call 62; refine (size62 _ (by omega) _).mono ?_; rintro e w' ⟨rfl, rfl⟩))
    refine hK.out _ _ (.inr (kall hp)) ?_
    clear hK K
    try simp only [put_some, put_none, eval_tmp, eval_const, List.set_cons_succ, List.set_cons_zero, List.getD_cons_succ, List.getD_cons_zero, wrap_eq]
    first | (refine plan_skip rfl (wanted_no rfl rfl rfl rfl) ?_) | (refine plan_skip rfl (wanted_nu rfl rfl rfl rfl) ?_) | (refine plan_take rfl wy (fun w _ => (by go_simp; try rfl)) ?_)
    try simp only [put_some, put_none, eval_tmp, eval_const, List.set_cons_succ, List.set_cons_zero, List.getD_cons_succ, List.getD_cons_zero, wrap_eq]
    first | (refine plan_skip rfl (wanted_no rfl rfl rfl rfl) ?_) | (refine plan_skip rfl (wanted_nu rfl rfl rfl rfl) ?_) | (refine plan_take rfl wy (fun w _ => (by go_simp; try rfl)) ?_)
    try simp only [put_some, put_none, eval_tmp, eval_const, List.set_cons_succ, List.set_cons_zero, List.getD_cons_succ, List.getD_cons_zero, wrap_eq]
    (refine plan_take rfl wy (fun w _ => (by go_simp; try rfl)) ?_)
    try simp only [put_some, put_none, eval_tmp, eval_const, List.set_cons_succ, List.set_cons_zero, List.getD_cons_succ, List.getD_cons_zero, wrap_eq]
    refine plan_nil ?_
  case inr.inr.inr.inr =>
    go_wp2_with fail
    refine wp_region_keeps _ (Keeps.all hp.drew) [] [(0, true), (1, true), (2, true), (3, true), (4, false), (5, true), (6, true), (7, false)] (by kernel_rfl) (by kernel_rfl) rfl (by kernel_rfl) (fun _ _ d _ _ h => by cases d <;> exact h) ?_
    replace hp := hp.drew
    (refine plan_take rfl wy (fun w _ => (by go_simp; try rfl)) ?_)
    try simp only [put_some, put_none, eval_tmp, eval_const, List.set_cons_succ, List.set_cons_zero, List.getD_cons_succ, List.getD_cons_zero, wrap_eq]
    (first | (refine pO rfl rfl (slot_tmp rfl) cell3 aa5 ?_))
    try simp only [put_some, put_none, eval_tmp, eval_const, List.set_cons_succ, List.set_cons_zero, List.getD_cons_succ, List.getD_cons_zero, wrap_eq]
    (refine plan_take rfl wy (fun w _ => (by go_simp; try rfl)) ?_)
    try simp only [put_some, put_none, eval_tmp, eval_const, List.set_cons_succ, List.set_cons_zero, List.getD_cons_succ, List.getD_cons_zero, wrap_eq]
    (first | (refine pO rfl rfl (slot_tmp rfl) cell3 aa5 ?_))
    try simp only [put_some, put_none, eval_tmp, eval_const, List.set_cons_succ, List.set_cons_zero, List.getD_cons_succ, List.getD_cons_zero, wrap_eq]
    refine plan_do rfl (fun K hK => ?_)
    go_wp2_with (first | go_skip | (go_at_call 62; refine (size62 _ (by omega) _).mono ?_; rintro e w' ⟨rfl, rfl⟩))
    refine hK.out _ _ (.inr (kall hp)) ?_
    clear hK K
    try simp only [put_some, put_none, eval_tmp, eval_const, List.set_cons_succ, List.set_cons_zero, List.getD_cons_succ, List.getD_cons_zero, wrap_eq]
    (refine plan_take rfl wy (fun w _ => (by go_simp; try rfl)) ?_)
    try simp only [put_some, put_none, eval_tmp, eval_const, List.set_cons_succ, List.set_cons_zero, List.getD_cons_succ, List.getD_cons_zero, wrap_eq]
    (refine plan_take rfl wy (fun w _ => (by go_simp; try rfl)) ?_)
    try simp only [put_some, put_none, eval_tmp, eval_const, List.set_cons_succ, List.set_cons_zero, List.getD_cons_succ, List.getD_cons_zero, wrap_eq]
    refine plan_do rfl (fun K hK => ?_)
    go_wp2_with (first | go_skip | ((first | ((with_reducible refine pre_alloc _ rfl ?_); refine lZ hp rfl zero44 ?_; clear hp; intro b w1 hp) | ((with_reducible refine pre_box _ _ rfl ?_); refine lB hp rfl (slot_tmp rfl) rfl ?_; clear hp; intro b w1 hp) | ((with_reducible refine pre_load _ _ rfl ?_); first | refine lO hp rfl (slot_tmp rfl) (by with_reducible first | exact cell3 | exact cell4 | exact cell30) aa5 ?_ | refine lA hp rfl (slot_tmp rfl) agg44 aa5 ?_) | ((with_reducible refine pre_store _ _ _ rfl ?_); (first | refine sO hp rfl (slot_tmp rfl) (by with_reducible first | exact cell3 | exact cell4 | exact cell30) aa5 ?_ | refine sA hp rfl (slot_tmp rfl) (slot_tmp rfl) agg44 aa5 ?_ | refine sG hp rfl (slot_tmp rfl) (slot_tmp rfl) agg44 aa5 ?_); clear hp; intro w1 hp; simp only [spl, List.set_cons_zero, List.set_cons_succ] at hp)); simp only [put_some, put_none, List.set_cons_succ, List.set_cons_zero]))
    refine hK.out _ _ (.inr (kall hp)) ?_
    clear hK K
    try simp only [put_some, put_none, eval_tmp, eval_const, List.set_cons_succ, List.set_cons_zero, List.getD_cons_succ, List.getD_cons_zero, wrap_eq]
    refine plan_nil ?_
    go_wp2_with fail
    go_ret
    exact ⟨ret_bool (by rw [R.out]; try rfl), hp.below⟩
  all_goals (go_wp2_with fail; go_ret; exact ⟨ret_bool (by rw [R.out]; try rfl), hp.below⟩)
end Go.Proofs.Ytbflmnoaiklnbaa
