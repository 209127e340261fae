/- The walks of may and May: may a block be in a region? -/
import Derived.Test.YtbflmnoaiklnbaaBTypes
set_option linter.unusedSimpArgs false
set_option linter.unusedVariables false
namespace Go.Proofs.Ytbflmnoaiklnbaa
open Go.RowKit

theorem and_pw {p o : Int} (h0 : 0 ≤ p) (h1 : p ≤ 256) (h2 : 0 ≤ o) (h3 : o ≤ 8) : bits .and .i64 p (pw o - 1) = p % pw o := by
  have : ∀ (a : Fin 257) (b : Fin 9), bits .and .i64 (a.val : Int) (pw (b.val : Int) - 1) = (a.val : Int) % pw (b.val : Int) := by decide +kernel
  have := this ⟨p.toNat, by omega⟩ ⟨o.toNat, by omega⟩
  simpa [Int.toNat_of_nonneg h0, Int.toNat_of_nonneg h2] using this

def mayB (order p o : Int) : Bool := decide (MayP order ⟨p, o⟩)
/-- The ways through a block's test. -/
theorem ways (order p o : Int) (h8 : order ≤ 8) :
    (decide (0 ≤ o) = false ∧ mayB order p o = false) ∨ (0 ≤ o ∧ decide (o ≤ order) = false ∧ mayB order p o = false) ∨
    (0 ≤ o ∧ o ≤ order ∧ decide (0 ≤ p) = false ∧ mayB order p o = false) ∨
    (0 ≤ o ∧ o ≤ order ∧ 0 ≤ p ∧ decide (p ≤ pw order - pw o) = false ∧ wrap64 (pw order - pw o) = pw order - pw o ∧ mayB order p o = false) ∨
    (0 ≤ o ∧ o ≤ order ∧ 0 ≤ p ∧ p ≤ pw order - pw o ∧ wrap64 (pw order - pw o) = pw order - pw o ∧ wrap64 (pw o - 1) = pw o - 1 ∧ bits .and .i64 p (pw o - 1) = p % pw o ∧ mayB order p o = (p % pw o == 0)) := by
  have l1 := pw_le (o := order) h8
  have l2 := pw_pos o
  have l3 := pw_pos order
  by_cases g1 : 0 ≤ o
  · by_cases g2 : o ≤ order
    · have l4 := pw_le (o := o) (by omega)
      have w1 : wrap64 (pw order - pw o) = pw order - pw o := by unfold wrap64; omega
      have w2 : wrap64 (pw o - 1) = pw o - 1 := by unfold wrap64; omega
      by_cases g3 : 0 ≤ p
      · by_cases g4 : p ≤ pw order - pw o
        · refine .inr (.inr (.inr (.inr ⟨g1, g2, g3, g4, w1, w2, and_pw g3 (by omega) g1 (by omega), ?_⟩)))
          rw [Bool.eq_iff_iff]; simp [mayB, MayP, g1, g2, g3, g4]
        · exact .inr (.inr (.inr (.inl ⟨g1, g2, g3, by simp [g4], w1, by simp [mayB, MayP, g4]⟩)))
      · exact .inr (.inr (.inl ⟨g1, g2, by simp [g3], by simp [mayB, MayP, g3]⟩))
    · exact .inr (.inl ⟨g1, by simp [g2], by simp [mayB, MayP, g2]⟩)
  · exact .inl ⟨by simp [g1], by simp [mayB, MayP, g1]⟩

set_option maxRecDepth 100000 in
set_option maxHeartbeats 4000000 in
theorem may53 (order : Int) (h3 : 3 ≤ order) (h8 : order ≤ 8) (p o : Int) (w : World) :
    Calls Try.prog 53 #[.int .i64 order, .agg #[.int .i64 p, .int .i64 o]] w fun e w' => e = .returned (.bool (mayB order p o)) ∧ Below w.heap.size w w' := by
  have hp := Hp.start w
  have W9 := Lib.hid (ways order p o h8)
  go_enter Try.func53, Try.ntmps53
  go_wp2_with (first | go_skip | ((first | ((with_reducible refine pre_alloc _ rfl ?_); refine lZ hp rfl zero44 ?_; clear hp; intro b w1 hp) | ((with_reducible refine pre_box _ _ rfl ?_); refine lB hp rfl (slot_tmp rfl) rfl ?_; clear hp; intro b w1 hp) | ((with_reducible refine pre_load _ _ rfl ?_); first | refine lO hp rfl (slot_tmp rfl) (by with_reducible first | exact cell3 | exact cell4 | exact cell30) aa5 ?_ | refine lA hp rfl (slot_tmp rfl) agg44 aa5 ?_) | ((with_reducible refine pre_store _ _ _ rfl ?_); (first | refine sO hp rfl (slot_tmp rfl) (by with_reducible first | exact cell3 | exact cell4 | exact cell30) aa5 ?_ | refine sA hp rfl (slot_tmp rfl) (slot_tmp rfl) agg44 aa5 ?_ | refine sG hp rfl (slot_tmp rfl) (slot_tmp rfl) agg44 aa5 ?_); clear hp; intro w1 hp; simp only [spl, List.set_cons_zero, List.set_cons_succ] at hp)); simp only [put_some, put_none, List.set_cons_succ, List.set_cons_zero]))
  refine wp_region_keeps _ (Keeps.all hp.drew) [] [(0, true), (1, true), (2, true), (3, true), (4, true), (5, true), (6, true), (7, true), (8, true), (9, true), (10, true), (11, true), (12, true), (13, true), (14, true), (15, true), (16, true), (17, true), (19, true), (20, true), (18, false), (21, false), (22, true), (23, true), (24, true), (25, true), (26, true), (27, true), (28, true), (29, true), (30, false), (31, true), (32, true), (33, true), (34, true), (35, false)] (by kernel_rfl) (by kernel_rfl) rfl (by kernel_rfl) (fun _ _ d _ _ h => by cases d <;> exact h) ?_
  replace hp := hp.drew
  rcases W9.out with ⟨d1, r⟩ | ⟨d1, d2, r⟩ | ⟨d1, d2, d3, r⟩ | ⟨d1, d2, d3, d4, w1, r⟩ | ⟨d1, d2, d3, d4, w1, w2, w3, r⟩
  all_goals have R := Lib.hid r
  all_goals clear r W9
  all_goals
    (refine plan_take rfl wy (fun w _ => (by go_simp; try rfl)) ?_)
    try simp only [put_some, put_none, eval_tmp, eval_const, List.set_cons_succ, List.set_cons_zero, List.getD_cons_succ, List.getD_cons_zero, wrap_eq]
    (first | (refine pO rfl rfl (slot_tmp rfl) cell3 aa5 ?_))
    try simp only [put_some, put_none, eval_tmp, eval_const, List.set_cons_succ, List.set_cons_zero, List.getD_cons_succ, List.getD_cons_zero, wrap_eq]
    (refine plan_take rfl wy (fun w _ => (by go_simp; try rfl)) ?_)
    try simp only [put_some, put_none, eval_tmp, eval_const, List.set_cons_succ, List.set_cons_zero, List.getD_cons_succ, List.getD_cons_zero, wrap_eq]
    (refine plan_move rfl _ rfl wy ?_)
    try simp only [put_some, put_none, eval_tmp, eval_const, List.set_cons_succ, List.set_cons_zero, List.getD_cons_succ, List.getD_cons_zero, wrap_eq]
    first | (refine plan_skip rfl (wanted_no rfl rfl rfl rfl) ?_) | (refine plan_skip rfl (wanted_nu rfl rfl rfl rfl) ?_) | (refine plan_take rfl wy (fun w _ => (by go_simp; try rfl)) ?_)
    try simp only [put_some, put_none, eval_tmp, eval_const, List.set_cons_succ, List.set_cons_zero, List.getD_cons_succ, List.getD_cons_zero, wrap_eq]
    first | (refine plan_skip rfl (wanted_no rfl rfl rfl rfl) ?_) | (refine plan_skip rfl (wanted_nu rfl rfl rfl rfl) ?_) | (first | (refine pO rfl rfl (slot_tmp rfl) cell3 aa5 ?_))
    try simp only [put_some, put_none, eval_tmp, eval_const, List.set_cons_succ, List.set_cons_zero, List.getD_cons_succ, List.getD_cons_zero, wrap_eq]
    first | (refine plan_skip rfl (wanted_no rfl rfl rfl rfl) ?_) | (refine plan_skip rfl (wanted_nu rfl rfl rfl rfl) ?_) | (refine plan_move rfl _ rfl wy ?_)
    try simp only [put_some, put_none, eval_tmp, eval_const, List.set_cons_succ, List.set_cons_zero, List.getD_cons_succ, List.getD_cons_zero, wrap_eq]
    first | (refine plan_skip rfl (wanted_no rfl rfl rfl rfl) ?_) | (refine plan_skip rfl (wanted_nu rfl rfl rfl rfl) ?_) | (refine plan_take rfl wy (fun w _ => (by go_simp; try rfl)) ?_)
    try simp only [put_some, put_none, eval_tmp, eval_const, List.set_cons_succ, List.set_cons_zero, List.getD_cons_succ, List.getD_cons_zero, wrap_eq]
    (refine plan_take rfl wy (fun w _ => (by go_simp; try rfl)) ?_)
    try simp only [put_some, put_none, eval_tmp, eval_const, List.set_cons_succ, List.set_cons_zero, List.getD_cons_succ, List.getD_cons_zero, wrap_eq]
    (refine plan_move rfl _ rfl wy ?_)
    try simp only [put_some, put_none, eval_tmp, eval_const, List.set_cons_succ, List.set_cons_zero, List.getD_cons_succ, List.getD_cons_zero, wrap_eq]
    first | (refine plan_skip rfl (wanted_no rfl rfl rfl rfl) ?_) | (refine plan_skip rfl (wanted_nu rfl rfl rfl rfl) ?_) | (refine plan_take rfl wy (fun w _ => (by go_simp; try rfl)) ?_)
    try simp only [put_some, put_none, eval_tmp, eval_const, List.set_cons_succ, List.set_cons_zero, List.getD_cons_succ, List.getD_cons_zero, wrap_eq]
    first | (refine plan_skip rfl (wanted_no rfl rfl rfl rfl) ?_) | (refine plan_skip rfl (wanted_nu rfl rfl rfl rfl) ?_) | (first | (refine pO rfl rfl (slot_tmp rfl) cell3 aa5 ?_))
    try simp only [put_some, put_none, eval_tmp, eval_const, List.set_cons_succ, List.set_cons_zero, List.getD_cons_succ, List.getD_cons_zero, wrap_eq]
    first | (refine plan_skip rfl (wanted_no rfl rfl rfl rfl) ?_) | (refine plan_skip rfl (wanted_nu rfl rfl rfl rfl) ?_) | (refine plan_take rfl wy (fun w _ => (by go_simp; try rfl)) ?_)
    try simp only [put_some, put_none, eval_tmp, eval_const, List.set_cons_succ, List.set_cons_zero, List.getD_cons_succ, List.getD_cons_zero, wrap_eq]
    (refine plan_take rfl wy (fun w _ => (by go_simp; try rfl)) ?_)
    try simp only [put_some, put_none, eval_tmp, eval_const, List.set_cons_succ, List.set_cons_zero, List.getD_cons_succ, List.getD_cons_zero, wrap_eq]
    (refine plan_move rfl _ rfl wy ?_)
    try simp only [put_some, put_none, eval_tmp, eval_const, List.set_cons_succ, List.set_cons_zero, List.getD_cons_succ, List.getD_cons_zero, wrap_eq]
    first | (refine plan_skip rfl (wanted_no rfl rfl rfl rfl) ?_) | (refine plan_skip rfl (wanted_nu rfl rfl rfl rfl) ?_) | (refine plan_take rfl wy (fun w _ => (by go_simp; try rfl)) ?_)
    try simp only [put_some, put_none, eval_tmp, eval_const, List.set_cons_succ, List.set_cons_zero, List.getD_cons_succ, List.getD_cons_zero, wrap_eq]
    first | (refine plan_skip rfl (wanted_no rfl rfl rfl rfl) ?_) | (refine plan_skip rfl (wanted_nu rfl rfl rfl rfl) ?_) | (first | (refine pO rfl rfl (slot_tmp rfl) cell3 aa5 ?_))
    try simp only [put_some, put_none, eval_tmp, eval_const, List.set_cons_succ, List.set_cons_zero, List.getD_cons_succ, List.getD_cons_zero, wrap_eq]
    first | (refine plan_skip rfl (wanted_no rfl rfl rfl rfl) ?_) | (refine plan_skip rfl (wanted_nu rfl rfl rfl rfl) ?_) | (refine plan_move rfl _ rfl wy ?_)
    try simp only [put_some, put_none, eval_tmp, eval_const, List.set_cons_succ, List.set_cons_zero, List.getD_cons_succ, List.getD_cons_zero, wrap_eq]
    first | (refine plan_skip rfl (wanted_no rfl rfl rfl rfl) ?_) | (refine plan_skip rfl (wanted_nu rfl rfl rfl rfl) ?_) | (refine plan_take rfl wy (fun w _ => (by go_simp; try rfl)) ?_)
    try simp only [put_some, put_none, eval_tmp, eval_const, List.set_cons_succ, List.set_cons_zero, List.getD_cons_succ, List.getD_cons_zero, wrap_eq]
    first | (refine plan_skip rfl (wanted_no rfl rfl rfl rfl) ?_) | (refine plan_skip rfl (wanted_nu rfl rfl rfl rfl) ?_) | (first | (refine pO rfl rfl (slot_tmp rfl) cell3 aa5 ?_))
    try simp only [put_some, put_none, eval_tmp, eval_const, List.set_cons_succ, List.set_cons_zero, List.getD_cons_succ, List.getD_cons_zero, wrap_eq]
    refine plan_do rfl (fun K hK => ?_)
    go_wp2_with (first | go_skip | (go_at_call 22; refine (words22 _ (by omega) (by omega) _).mono ?_; rintro e w' ⟨rfl, rfl⟩))
    refine hK.out _ _ (.inr (kall hp)) ?_
    clear hK K
    try simp only [put_some, put_none, eval_tmp, eval_const, List.set_cons_succ, List.set_cons_zero, List.getD_cons_succ, List.getD_cons_zero, wrap_eq]
    refine plan_do rfl (fun K hK => ?_)
    go_wp2_with (first | go_skip | (go_at_call 22; refine (words22 _ (by omega) (by omega) _).mono ?_; rintro e w' ⟨rfl, rfl⟩))
    refine hK.out _ _ (.inr (kall hp)) ?_
    clear hK K
    try simp only [put_some, put_none, eval_tmp, eval_const, List.set_cons_succ, List.set_cons_zero, List.getD_cons_succ, List.getD_cons_zero, wrap_eq]
    first | (refine plan_skip rfl (wanted_no rfl rfl rfl rfl) ?_) | (refine plan_skip rfl (wanted_nu rfl rfl rfl rfl) ?_) | (refine plan_take rfl wy (fun w _ => (by go_simp; try rfl)) ?_)
    try simp only [put_some, put_none, eval_tmp, eval_const, List.set_cons_succ, List.set_cons_zero, List.getD_cons_succ, List.getD_cons_zero, wrap_eq]
    first | (refine plan_skip rfl (wanted_no rfl rfl rfl rfl) ?_) | (refine plan_skip rfl (wanted_nu rfl rfl rfl rfl) ?_) | (refine plan_take rfl wy (fun w _ => (by go_simp; try rfl)) ?_)
    try simp only [put_some, put_none, eval_tmp, eval_const, List.set_cons_succ, List.set_cons_zero, List.getD_cons_succ, List.getD_cons_zero, wrap_eq]
    (refine plan_take rfl wy (fun w _ => (by go_simp; try rfl)) ?_)
    try simp only [put_some, put_none, eval_tmp, eval_const, List.set_cons_succ, List.set_cons_zero, List.getD_cons_succ, List.getD_cons_zero, wrap_eq]
    (refine plan_move rfl _ rfl wy ?_)
    try simp only [put_some, put_none, eval_tmp, eval_const, List.set_cons_succ, List.set_cons_zero, List.getD_cons_succ, List.getD_cons_zero, wrap_eq]
    first | (refine plan_skip rfl (wanted_no rfl rfl rfl rfl) ?_) | (refine plan_skip rfl (wanted_nu rfl rfl rfl rfl) ?_) | (refine plan_take rfl wy (fun w _ => (by go_simp; try rfl)) ?_)
    try simp only [put_some, put_none, eval_tmp, eval_const, List.set_cons_succ, List.set_cons_zero, List.getD_cons_succ, List.getD_cons_zero, wrap_eq]
    first | (refine plan_skip rfl (wanted_no rfl rfl rfl rfl) ?_) | (refine plan_skip rfl (wanted_nu rfl rfl rfl rfl) ?_) | (first | (refine pO rfl rfl (slot_tmp rfl) cell3 aa5 ?_))
    try simp only [put_some, put_none, eval_tmp, eval_const, List.set_cons_succ, List.set_cons_zero, List.getD_cons_succ, List.getD_cons_zero, wrap_eq]
    first | (refine plan_skip rfl (wanted_no rfl rfl rfl rfl) ?_) | (refine plan_skip rfl (wanted_nu rfl rfl rfl rfl) ?_) | (refine plan_take rfl wy (fun w _ => (by go_simp; try rfl)) ?_)
    try simp only [put_some, put_none, eval_tmp, eval_const, List.set_cons_succ, List.set_cons_zero, List.getD_cons_succ, List.getD_cons_zero, wrap_eq]
    first | (refine plan_skip rfl (wanted_no rfl rfl rfl rfl) ?_) | (refine plan_skip rfl (wanted_nu rfl rfl rfl rfl) ?_) | (first | (refine pO rfl rfl (slot_tmp rfl) cell3 aa5 ?_))
    try simp only [put_some, put_none, eval_tmp, eval_const, List.set_cons_succ, List.set_cons_zero, List.getD_cons_succ, List.getD_cons_zero, wrap_eq]
    refine plan_do rfl (fun K hK => ?_)
    go_wp2_with (first | go_skip | (go_at_call 22; refine (words22 _ (by omega) (by omega) _).mono ?_; rintro e w' ⟨rfl, rfl⟩))
    refine hK.out _ _ (.inr (kall hp)) ?_
    clear hK K
    try simp only [put_some, put_none, eval_tmp, eval_const, List.set_cons_succ, List.set_cons_zero, List.getD_cons_succ, List.getD_cons_zero, wrap_eq]
    first | (refine plan_skip rfl (wanted_no rfl rfl rfl rfl) ?_) | (refine plan_skip rfl (wanted_nu rfl rfl rfl rfl) ?_) | (refine plan_take rfl wy (fun w _ => (by go_simp; try rfl)) ?_)
    try simp only [put_some, put_none, eval_tmp, eval_const, List.set_cons_succ, List.set_cons_zero, List.getD_cons_succ, List.getD_cons_zero, wrap_eq]
    first | (refine plan_skip rfl (wanted_no rfl rfl rfl rfl) ?_) | (refine plan_skip rfl (wanted_nu rfl rfl rfl rfl) ?_) | (refine plan_take rfl wy (fun w _ => (by go_simp; try rfl)) ?_)
    try simp only [put_some, put_none, eval_tmp, eval_const, List.set_cons_succ, List.set_cons_zero, List.getD_cons_succ, List.getD_cons_zero, wrap_eq]
    first | (refine plan_skip rfl (wanted_no rfl rfl rfl rfl) ?_) | (refine plan_skip rfl (wanted_nu rfl rfl rfl rfl) ?_) | (refine plan_take rfl wy (fun w _ => (by go_simp; try rfl)) ?_)
    try simp only [put_some, put_none, eval_tmp, eval_const, List.set_cons_succ, List.set_cons_zero, List.getD_cons_succ, List.getD_cons_zero, wrap_eq]
    (refine plan_take rfl wy (fun w _ => (by go_simp; try rfl)) ?_)
    try simp only [put_some, put_none, eval_tmp, eval_const, List.set_cons_succ, List.set_cons_zero, List.getD_cons_succ, List.getD_cons_zero, wrap_eq]
    refine plan_do rfl (fun K hK => ?_)
    go_wp2_with (first | go_skip | ((first | ((with_reducible refine pre_alloc _ rfl ?_); refine lZ hp rfl zero44 ?_; clear hp; intro b w1 hp) | ((with_reducible refine pre_box _ _ rfl ?_); refine lB hp rfl (slot_tmp rfl) rfl ?_; clear hp; intro b w1 hp) | ((with_reducible refine pre_load _ _ rfl ?_); first | refine lO hp rfl (slot_tmp rfl) (by with_reducible first | exact cell3 | exact cell4 | exact cell30) aa5 ?_ | refine lA hp rfl (slot_tmp rfl) agg44 aa5 ?_) | ((with_reducible refine pre_store _ _ _ rfl ?_); (first | refine sO hp rfl (slot_tmp rfl) (by with_reducible first | exact cell3 | exact cell4 | exact cell30) aa5 ?_ | refine sA hp rfl (slot_tmp rfl) (slot_tmp rfl) agg44 aa5 ?_ | refine sG hp rfl (slot_tmp rfl) (slot_tmp rfl) agg44 aa5 ?_); clear hp; intro w1 hp; simp only [spl, List.set_cons_zero, List.set_cons_succ] at hp)); simp only [put_some, put_none, List.set_cons_succ, List.set_cons_zero]))
    refine hK.out _ _ (.inr (kall hp)) ?_
    clear hK K
    try simp only [put_some, put_none, eval_tmp, eval_const, List.set_cons_succ, List.set_cons_zero, List.getD_cons_succ, List.getD_cons_zero, wrap_eq]
    refine plan_nil ?_
  all_goals (go_wp2_with fail; go_ret; exact ⟨ret_bool (by rw [R.out]; try rfl), hp.below⟩)
end Go.Proofs.Ytbflmnoaiklnbaa
