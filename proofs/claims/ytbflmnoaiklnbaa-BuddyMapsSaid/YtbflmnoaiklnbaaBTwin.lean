/- The walks of twin, Twin and Meet. -/
import Derived.Test.YtbflmnoaiklnbaaBMay
set_option linter.unusedSimpArgs false
set_option linter.unusedVariables false
namespace Go.Proofs.Ytbflmnoaiklnbaa
open Go.RowKit

def twP (p o : Int) : Int := (twinP ⟨p, o⟩).p
theorem twinP_eq (p o : Int) : twinP ⟨p, o⟩ = ⟨twP p o, o⟩ := by unfold twP twinP; split <;> rfl
theorem twP_eq (p o : Int) : twP p o = if p % (2 * pw o) = 0 then p + pw o else p - pw o := by unfold twP twinP; split <;> rfl
theorem xor_pw {p o : Int} (h0 : 0 ≤ p) (h1 : p ≤ 256) (h2 : 0 ≤ o) (h3 : o ≤ 8) (h4 : p % pw o = 0) : bits .xor .i64 p (pw o) = twP p o := by
  have : ∀ (a : Fin 257) (b : Fin 9), (a.val : Int) % pw (b.val : Int) = 0 → bits .xor .i64 (a.val : Int) (pw (b.val : Int)) = twP (a.val : Int) (b.val : Int) := by decide +kernel
  have := this ⟨p.toNat, by omega⟩ ⟨o.toNat, by omega⟩
  simp only [Int.toNat_of_nonneg h0, Int.toNat_of_nonneg h2] at this
  exact this h4

set_option maxRecDepth 100000 in
set_option maxHeartbeats 4000000 in
theorem twin54 (p o : Int) (h0 : 0 ≤ p) (h1 : p ≤ 256) (h2 : 0 ≤ o) (h3 : o ≤ 8) (h4 : p % pw o = 0) (w : World) :
    Calls Try.prog 54 #[.agg #[.int .i64 p, .int .i64 o]] w fun e w' => e = .returned (.agg #[.int .i64 (twP p o), .int .i64 o]) ∧ Below w.heap.size w w' := by
  have hp := Hp.start w
  have hx := xor_pw h0 h1 h2 h3 h4
  clear h4
  go_enter Try.func54, Try.ntmps54
  go_wp2_with (first | go_skip | ((first | ((with_reducible refine pre_alloc _ rfl ?_); refine lZ hp rfl zero44 ?_; clear hp; intro b w1 hp) | ((with_reducible refine pre_box _ _ rfl ?_); refine lB hp rfl (slot_tmp rfl) rfl ?_; clear hp; intro b w1 hp) | ((with_reducible refine pre_load _ _ rfl ?_); first | refine lO hp rfl (slot_tmp rfl) (by with_reducible first | exact cell3 | exact cell4 | exact cell30) aa5 ?_ | refine lA hp rfl (slot_tmp rfl) agg44 aa5 ?_) | ((with_reducible refine pre_store _ _ _ rfl ?_); (first | refine sO hp rfl (slot_tmp rfl) (by with_reducible first | exact cell3 | exact cell4 | exact cell30) aa5 ?_ | refine sA hp rfl (slot_tmp rfl) (slot_tmp rfl) agg44 aa5 ?_ | refine sG hp rfl (slot_tmp rfl) (slot_tmp rfl) agg44 aa5 ?_); clear hp; intro w1 hp; simp only [spl, List.set_cons_zero, List.set_cons_succ] at hp)); simp only [put_some, put_none, List.set_cons_succ, List.set_cons_zero]))
  refine wp_region_keeps [_] (Keeps.one hp.drew at1) [9] [(0, true), (1, true), (2, true), (3, true), (6, true), (7, true), (4, false), (5, true), (8, true), (9, false)] (by kernel_rfl) (by kernel_rfl) rfl (by kernel_rfl) (fun _ _ d _ _ h => by cases d <;> exact h) ?_
  replace hp := hp.drew
  (refine plan_take rfl wy (fun w _ => (by go_simp; try rfl)) ?_)
  try simp only [put_some, put_none, eval_tmp, eval_const, List.set_cons_succ, List.set_cons_zero, List.getD_cons_succ, List.getD_cons_zero, wrap_eq]
  (first | (refine pO rfl rfl (slot_tmp rfl) cell3 aa5 ?_))
  try simp only [put_some, put_none, eval_tmp, eval_const, List.set_cons_succ, List.set_cons_zero, List.getD_cons_succ, List.getD_cons_zero, wrap_eq]
  (refine plan_take rfl wy (fun w _ => (by go_simp; try rfl)) ?_)
  try simp only [put_some, put_none, eval_tmp, eval_const, List.set_cons_succ, List.set_cons_zero, List.getD_cons_succ, List.getD_cons_zero, wrap_eq]
  (first | (refine pO rfl rfl (slot_tmp rfl) cell3 aa5 ?_))
  try simp only [put_some, put_none, eval_tmp, eval_const, List.set_cons_succ, List.set_cons_zero, List.getD_cons_succ, List.getD_cons_zero, wrap_eq]
  (refine plan_take rfl wy (fun w _ => (by go_simp; try rfl)) ?_)
  try simp only [put_some, put_none, eval_tmp, eval_const, List.set_cons_succ, List.set_cons_zero, List.getD_cons_succ, List.getD_cons_zero, wrap_eq]
  (first | (refine pO rfl rfl (slot_tmp rfl) cell3 aa5 ?_))
  try simp only [put_some, put_none, eval_tmp, eval_const, List.set_cons_succ, List.set_cons_zero, List.getD_cons_succ, List.getD_cons_zero, wrap_eq]
  refine plan_do rfl (fun K hK => ?_)
  go_wp2_with (first | go_skip | (go_at_call 22; refine (words22 _ (by omega) (by omega) _).mono ?_; rintro e w' ⟨rfl, rfl⟩))
  refine hK.out _ _ (.inr (Keeps.one hp aa5)) ?_
  clear hK K
  try simp only [put_some, put_none, eval_tmp, eval_const, List.set_cons_succ, List.set_cons_zero, List.getD_cons_succ, List.getD_cons_zero, wrap_eq]
  (refine plan_take rfl wy (fun w _ => (by go_simp; try rfl)) ?_)
  try simp only [put_some, put_none, eval_tmp, eval_const, List.set_cons_succ, List.set_cons_zero, List.getD_cons_succ, List.getD_cons_zero, wrap_eq]
  (refine plan_take rfl wy (fun w _ => (by go_simp; try rfl)) ?_)
  try simp only [put_some, put_none, eval_tmp, eval_const, List.set_cons_succ, List.set_cons_zero, List.getD_cons_succ, List.getD_cons_zero, wrap_eq]
  refine plan_do rfl (fun K hK => ?_)
  go_wp2_with (first | go_skip | ((first | ((with_reducible refine pre_alloc _ rfl ?_); refine lZ hp rfl zero44 ?_; clear hp; intro b w1 hp) | ((with_reducible refine pre_box _ _ rfl ?_); refine lB hp rfl (slot_tmp rfl) rfl ?_; clear hp; intro b w1 hp) | ((with_reducible refine pre_load _ _ rfl ?_); first | refine lO hp rfl (slot_tmp rfl) (by with_reducible first | exact cell3 | exact cell4 | exact cell30) aa5 ?_ | refine lA hp rfl (slot_tmp rfl) agg44 aa5 ?_) | ((with_reducible refine pre_store _ _ _ rfl ?_); (first | refine sO hp rfl (slot_tmp rfl) (by with_reducible first | exact cell3 | exact cell4 | exact cell30) aa5 ?_ | refine sA hp rfl (slot_tmp rfl) (slot_tmp rfl) agg44 aa5 ?_ | refine sG hp rfl (slot_tmp rfl) (slot_tmp rfl) agg44 aa5 ?_); clear hp; intro w1 hp; simp only [spl, List.set_cons_zero, List.set_cons_succ] at hp)); simp only [put_some, put_none, List.set_cons_succ, List.set_cons_zero]))
  refine hK.out _ _ (.inl rfl) ?_
  clear hK K
  try simp only [put_some, put_none, eval_tmp, eval_const, List.set_cons_succ, List.set_cons_zero, List.getD_cons_succ, List.getD_cons_zero, wrap_eq]
  refine plan_nil ?_
  go_wp2_with fail
  exact bodyPost_ret (results_one (rs := [.cell 2 44]) Try.results54 (.cell rfl (hp.loadAgg agg44 at0 0 _ (by rfl) (by rfl)) .nil)) rfl ⟨rfl, hp.below⟩

set_option maxRecDepth 100000 in
set_option maxHeartbeats 4000000 in
theorem twin133 (p o : Int) (h0 : 0 ≤ p) (h1 : p ≤ 256) (h3 : o ≤ 8) (w : World) :
    Calls Try.prog 133 #[.agg #[.int .i64 p, .int .i64 o]] w fun e w' => e = .returned (.agg #[.int .i64 (twP p o), .int .i64 o]) ∧ Below w.heap.size w w' := by
  have hp := Hp.start w
  have l1 := pw_pos o
  have l2 := pw_le h3
  by_cases hq : p % (2 * pw o) = 0
  · have R : RowKit.Hid (twP p o = p + pw o) := Lib.hid (by rw [twP_eq, if_pos hq])
    go_enter Try.func133, Try.ntmps133
    go_wp2_with (first | (go_at_call 62; refine (size62 _ (by omega) _).mono ?_; rintro e w' ⟨rfl, rfl⟩) | go_skip | ((first | ((with_reducible refine pre_alloc _ rfl ?_); refine lZ hp rfl zero44 ?_; clear hp; intro b w1 hp) | ((with_reducible refine pre_box _ _ rfl ?_); refine lB hp rfl (slot_tmp rfl) rfl ?_; clear hp; intro b w1 hp) | ((with_reducible refine pre_load _ _ rfl ?_); first | refine lO hp rfl (slot_tmp rfl) (by with_reducible first | exact cell3 | exact cell4 | exact cell30) aa5 ?_ | refine lA hp rfl (slot_tmp rfl) agg44 aa5 ?_) | ((with_reducible refine pre_store _ _ _ rfl ?_); (first | refine sO hp rfl (slot_tmp rfl) (by with_reducible first | exact cell3 | exact cell4 | exact cell30) aa5 ?_ | refine sA hp rfl (slot_tmp rfl) (slot_tmp rfl) agg44 aa5 ?_ | refine sG hp rfl (slot_tmp rfl) (slot_tmp rfl) agg44 aa5 ?_); clear hp; intro w1 hp; simp only [spl, List.set_cons_zero, List.set_cons_succ] at hp)); simp only [put_some, put_none, List.set_cons_succ, List.set_cons_zero]))
    rw [R.out]
    exact bodyPost_ret (results_one (rs := [.cell 2 44]) Try.results133 (.cell rfl (hp.loadAgg agg44 at0 0 _ (by rfl) (by rfl)) .nil)) rfl ⟨rfl, hp.below⟩
  · have R : RowKit.Hid (twP p o = p - pw o) := Lib.hid (by rw [twP_eq, if_neg hq])
    go_enter Try.func133, Try.ntmps133
    go_wp2_with (first | (go_at_call 62; refine (size62 _ (by omega) _).mono ?_; rintro e w' ⟨rfl, rfl⟩) | go_skip | ((first | ((with_reducible refine pre_alloc _ rfl ?_); refine lZ hp rfl zero44 ?_; clear hp; intro b w1 hp) | ((with_reducible refine pre_box _ _ rfl ?_); refine lB hp rfl (slot_tmp rfl) rfl ?_; clear hp; intro b w1 hp) | ((with_reducible refine pre_load _ _ rfl ?_); first | refine lO hp rfl (slot_tmp rfl) (by with_reducible first | exact cell3 | exact cell4 | exact cell30) aa5 ?_ | refine lA hp rfl (slot_tmp rfl) agg44 aa5 ?_) | ((with_reducible refine pre_store _ _ _ rfl ?_); (first | refine sO hp rfl (slot_tmp rfl) (by with_reducible first | exact cell3 | exact cell4 | exact cell30) aa5 ?_ | refine sA hp rfl (slot_tmp rfl) (slot_tmp rfl) agg44 aa5 ?_ | refine sG hp rfl (slot_tmp rfl) (slot_tmp rfl) agg44 aa5 ?_); clear hp; intro w1 hp; simp only [spl, List.set_cons_zero, List.set_cons_succ] at hp)); simp only [put_some, put_none, List.set_cons_succ, List.set_cons_zero]))
    rw [R.out]
    exact bodyPost_ret (results_one (rs := [.cell 2 44]) Try.results133 (.cell rfl (hp.loadAgg agg44 at0 0 _ (by rfl) (by rfl)) .nil)) rfl ⟨rfl, hp.below⟩

def meetB (p o q r : Int) : Bool := decide (p < q + pw r) && decide (q < p + pw o)
theorem waysM (p o q r : Int) (h0 : 0 ≤ p) (h1 : p ≤ 256) (h2 : 0 ≤ q) (h3 : q ≤ 256) (h4 : o ≤ 8) (h5 : r ≤ 8) :
    wrap64 (q + pw r) = q + pw r ∧ wrap64 (p + pw o) = p + pw o ∧ ((decide (p < q + pw r) = false ∧ meetB p o q r = false) ∨ (decide (p < q + pw r) = true ∧ meetB p o q r = decide (q < p + pw o))) := by
  have l1 := pw_pos o
  have l2 := pw_le h4
  have l3 := pw_pos r
  have l4 := pw_le h5
  refine ⟨by unfold wrap64; omega, by unfold wrap64; omega, ?_⟩
  unfold meetB
  cases decide (p < q + pw r) <;> simp
set_option maxRecDepth 100000 in
set_option maxHeartbeats 4000000 in
theorem meet95 (p o q r : Int) (h0 : 0 ≤ p) (h1 : p ≤ 256) (h2 : 0 ≤ q) (h3 : q ≤ 256) (h4 : o ≤ 8) (h5 : r ≤ 8) (w : World) :
    Calls Try.prog 95 #[.agg #[.int .i64 p, .int .i64 o], .agg #[.int .i64 q, .int .i64 r]] w fun e w' => e = .returned (.bool (meetB p o q r)) ∧ Below w.heap.size w w' := by
  have hp := Hp.start w
  have W9 := Lib.hid (waysM p o q r h0 h1 h2 h3 h4 h5)
  go_enter Try.func95, Try.ntmps95
  go_wp2_with (first | go_skip | ((first | ((with_reducible refine pre_alloc _ rfl ?_); refine lZ hp rfl zero44 ?_; clear hp; intro b w1 hp) | ((with_reducible refine pre_box _ _ rfl ?_); refine lB hp rfl (slot_tmp rfl) rfl ?_; clear hp; intro b w1 hp) | ((with_reducible refine pre_load _ _ rfl ?_); first | refine lO hp rfl (slot_tmp rfl) (by with_reducible first | exact cell3 | exact cell4 | exact cell30) aa5 ?_ | refine lA hp rfl (slot_tmp rfl) agg44 aa5 ?_) | ((with_reducible refine pre_store _ _ _ rfl ?_); (first | refine sO hp rfl (slot_tmp rfl) (by with_reducible first | exact cell3 | exact cell4 | exact cell30) aa5 ?_ | refine sA hp rfl (slot_tmp rfl) (slot_tmp rfl) agg44 aa5 ?_ | refine sG hp rfl (slot_tmp rfl) (slot_tmp rfl) agg44 aa5 ?_); clear hp; intro w1 hp; simp only [spl, List.set_cons_zero, List.set_cons_succ] at hp)); simp only [put_some, put_none, List.set_cons_succ, List.set_cons_zero]))
  refine wp_region_keeps _ (Keeps.all hp.drew) [] [(0, true), (1, true), (2, true), (3, true), (4, true), (5, true), (6, false), (7, true), (8, true), (9, true), (10, true), (11, true), (12, true), (13, true), (14, true), (15, true), (16, false), (17, true), (18, true), (19, true), (20, false)] (by kernel_rfl) (by kernel_rfl) rfl (by kernel_rfl) (fun _ _ d _ _ h => by cases d <;> exact h) ?_
  replace hp := hp.drew
  obtain ⟨w1, w2, W⟩ := W9.out
  rcases W with ⟨d1, r⟩ | ⟨d1, r⟩
  all_goals have R := Lib.hid r
  all_goals clear r W9
  all_goals
    (refine plan_take rfl wy (fun w _ => (by go_simp; try rfl)) ?_)
    try simp only [put_some, put_none, eval_tmp, eval_const, List.set_cons_succ, List.set_cons_zero, List.getD_cons_succ, List.getD_cons_zero, wrap_eq]
    (first | (refine pO rfl rfl (slot_tmp rfl) cell3 aa5 ?_))
    try simp only [put_some, put_none, eval_tmp, eval_const, List.set_cons_succ, List.set_cons_zero, List.getD_cons_succ, List.getD_cons_zero, wrap_eq]
    (refine plan_take rfl wy (fun w _ => (by go_simp; try rfl)) ?_)
    try simp only [put_some, put_none, eval_tmp, eval_const, List.set_cons_succ, List.set_cons_zero, List.getD_cons_succ, List.getD_cons_zero, wrap_eq]
    (first | (refine pO rfl rfl (slot_tmp rfl) cell3 aa5 ?_))
    try simp only [put_some, put_none, eval_tmp, eval_const, List.set_cons_succ, List.set_cons_zero, List.getD_cons_succ, List.getD_cons_zero, wrap_eq]
    (refine plan_take rfl wy (fun w _ => (by go_simp; try rfl)) ?_)
    try simp only [put_some, put_none, eval_tmp, eval_const, List.set_cons_succ, List.set_cons_zero, List.getD_cons_succ, List.getD_cons_zero, wrap_eq]
    (first | (refine pO rfl rfl (slot_tmp rfl) cell3 aa5 ?_))
    try simp only [put_some, put_none, eval_tmp, eval_const, List.set_cons_succ, List.set_cons_zero, List.getD_cons_succ, List.getD_cons_zero, wrap_eq]
    refine plan_do rfl (fun K hK => ?_)
    go_wp2_with (first | go_skip | (go_at_call 62; refine (size62 _ (by omega) _).mono ?_; rintro e w' ⟨rfl, rfl⟩))
    refine hK.out _ _ (.inr (kall hp)) ?_
    clear hK K
    try simp only [put_some, put_none, eval_tmp, eval_const, List.set_cons_succ, List.set_cons_zero, List.getD_cons_succ, List.getD_cons_zero, wrap_eq]
    (refine plan_take rfl wy (fun w _ => (by go_simp; try rfl)) ?_)
    try simp only [put_some, put_none, eval_tmp, eval_const, List.set_cons_succ, List.set_cons_zero, List.getD_cons_succ, List.getD_cons_zero, wrap_eq]
    (refine plan_take rfl wy (fun w _ => (by go_simp; try rfl)) ?_)
    try simp only [put_some, put_none, eval_tmp, eval_const, List.set_cons_succ, List.set_cons_zero, List.getD_cons_succ, List.getD_cons_zero, wrap_eq]
    (refine plan_move rfl _ rfl wy ?_)
    try simp only [put_some, put_none, eval_tmp, eval_const, List.set_cons_succ, List.set_cons_zero, List.getD_cons_succ, List.getD_cons_zero, wrap_eq]
    first | (refine plan_skip rfl (wanted_no rfl rfl rfl rfl) ?_) | (refine plan_skip rfl (wanted_nu rfl rfl rfl rfl) ?_) | (refine plan_take rfl wy (fun w _ => (by go_simp; try rfl)) ?_)
    try simp only [put_some, put_none, eval_tmp, eval_const, List.set_cons_succ, List.set_cons_zero, List.getD_cons_succ, List.getD_cons_zero, wrap_eq]
    first | (refine plan_skip rfl (wanted_no rfl rfl rfl rfl) ?_) | (refine plan_skip rfl (wanted_nu rfl rfl rfl rfl) ?_) | (first | (refine pO rfl rfl (slot_tmp rfl) cell3 aa5 ?_))
    try simp only [put_some, put_none, eval_tmp, eval_const, List.set_cons_succ, List.set_cons_zero, List.getD_cons_succ, List.getD_cons_zero, wrap_eq]
    first | (refine plan_skip rfl (wanted_no rfl rfl rfl rfl) ?_) | (refine plan_skip rfl (wanted_nu rfl rfl rfl rfl) ?_) | (refine plan_take rfl wy (fun w _ => (by go_simp; try rfl)) ?_)
    try simp only [put_some, put_none, eval_tmp, eval_const, List.set_cons_succ, List.set_cons_zero, List.getD_cons_succ, List.getD_cons_zero, wrap_eq]
    first | (refine plan_skip rfl (wanted_no rfl rfl rfl rfl) ?_) | (refine plan_skip rfl (wanted_nu rfl rfl rfl rfl) ?_) | (first | (refine pO rfl rfl (slot_tmp rfl) cell3 aa5 ?_))
    try simp only [put_some, put_none, eval_tmp, eval_const, List.set_cons_succ, List.set_cons_zero, List.getD_cons_succ, List.getD_cons_zero, wrap_eq]
    first | (refine plan_skip rfl (wanted_no rfl rfl rfl rfl) ?_) | (refine plan_skip rfl (wanted_nu rfl rfl rfl rfl) ?_) | (refine plan_take rfl wy (fun w _ => (by go_simp; try rfl)) ?_)
    try simp only [put_some, put_none, eval_tmp, eval_const, List.set_cons_succ, List.set_cons_zero, List.getD_cons_succ, List.getD_cons_zero, wrap_eq]
    first | (refine plan_skip rfl (wanted_no rfl rfl rfl rfl) ?_) | (refine plan_skip rfl (wanted_nu rfl rfl rfl rfl) ?_) | (first | (refine pO rfl rfl (slot_tmp rfl) cell3 aa5 ?_))
    try simp only [put_some, put_none, eval_tmp, eval_const, List.set_cons_succ, List.set_cons_zero, List.getD_cons_succ, List.getD_cons_zero, wrap_eq]
    refine plan_do rfl (fun K hK => ?_)
    go_wp2_with (first | go_skip | (go_at_call 62; refine (size62 _ (by omega) _).mono ?_; rintro e w' ⟨rfl, rfl⟩))
    refine hK.out _ _ (.inr (kall hp)) ?_
    clear hK K
    try simp only [put_some, put_none, eval_tmp, eval_const, List.set_cons_succ, List.set_cons_zero, List.getD_cons_succ, List.getD_cons_zero, wrap_eq]
    first | (refine plan_skip rfl (wanted_no rfl rfl rfl rfl) ?_) | (refine plan_skip rfl (wanted_nu rfl rfl rfl rfl) ?_) | (refine plan_take rfl wy (fun w _ => (by go_simp; try rfl)) ?_)
    try simp only [put_some, put_none, eval_tmp, eval_const, List.set_cons_succ, List.set_cons_zero, List.getD_cons_succ, List.getD_cons_zero, wrap_eq]
    first | (refine plan_skip rfl (wanted_no rfl rfl rfl rfl) ?_) | (refine plan_skip rfl (wanted_nu rfl rfl rfl rfl) ?_) | (refine plan_take rfl wy (fun w _ => (by go_simp; try rfl)) ?_)
    try simp only [put_some, put_none, eval_tmp, eval_const, List.set_cons_succ, List.set_cons_zero, List.getD_cons_succ, List.getD_cons_zero, wrap_eq]
    (refine plan_take rfl wy (fun w _ => (by go_simp; try rfl)) ?_)
    try simp only [put_some, put_none, eval_tmp, eval_const, List.set_cons_succ, List.set_cons_zero, List.getD_cons_succ, List.getD_cons_zero, wrap_eq]
    refine plan_do rfl (fun K hK => ?_)
    go_wp2_with (first | go_skip | ((first | ((with_reducible refine pre_alloc _ rfl ?_); refine lZ hp rfl zero44 ?_; clear hp; intro b w1 hp) | ((with_reducible refine pre_box _ _ rfl ?_); refine lB hp rfl (slot_tmp rfl) rfl ?_; clear hp; intro b w1 hp) | ((with_reducible refine pre_load _ _ rfl ?_); first | refine lO hp rfl (slot_tmp rfl) (by with_reducible first | exact cell3 | exact cell4 | exact cell30) aa5 ?_ | refine lA hp rfl (slot_tmp rfl) agg44 aa5 ?_) | ((with_reducible refine pre_store _ _ _ rfl ?_); (first | refine sO hp rfl (slot_tmp rfl) (by with_reducible first | exact cell3 | exact cell4 | exact cell30) aa5 ?_ | refine sA hp rfl (slot_tmp rfl) (slot_tmp rfl) agg44 aa5 ?_ | refine sG hp rfl (slot_tmp rfl) (slot_tmp rfl) agg44 aa5 ?_); clear hp; intro w1 hp; simp only [spl, List.set_cons_zero, List.set_cons_succ] at hp)); simp only [put_some, put_none, List.set_cons_succ, List.set_cons_zero]))
    refine hK.out _ _ (.inr (kall hp)) ?_
    clear hK K
    try simp only [put_some, put_none, eval_tmp, eval_const, List.set_cons_succ, List.set_cons_zero, List.getD_cons_succ, List.getD_cons_zero, wrap_eq]
    refine plan_nil ?_
  all_goals (go_wp2_with fail; go_ret; exact ⟨ret_bool (by rw [R.out]; try rfl), hp.below⟩)
end Go.Proofs.Ytbflmnoaiklnbaa
