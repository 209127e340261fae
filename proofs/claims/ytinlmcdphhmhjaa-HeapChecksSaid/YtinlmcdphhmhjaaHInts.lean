/- The walks of ints (on equal rows), Own of blocks. -/
import Derived.Test.YtinlmcdphhmhjaaHTypes
set_option linter.unusedSimpArgs false
set_option linter.unusedVariables false
namespace Go.Proofs.Ytinlmcdphhmhjaa
open Go.RowKit

set_option maxRecDepth 100000 in
set_option maxHeartbeats 4000000 in
theorem ints41 (l : List Int) (a a' : Option Addr) (c c' : Nat) (hl : l.length ≤ 5000) (w : World) (ha : RowIs w a (l.flatMap iV)) (ha' : RowIs w a' (l.flatMap iV)) :
    Calls Try.prog 41 #[.slice a l.length c, .slice a' l.length c'] w fun e w' => e = .returned (.bool true) ∧ Below w.heap.size w w' := by
  have hp := Hp.start w
  have HA := Lib.hid ha
  have HA' := Lib.hid ha'
  clear ha ha'
  go_enter Try.func41, Try.ntmps41
  go_wp2_with (first | go_skip | ((with_reducible refine pre_box _ _ rfl ?_); refine wpList_box_hp hp _ _ rfl (by first | exact wanted_none rfl | exact wanted_yes rfl rfl rfl rfl) _ (slot_tmp rfl) _ rfl _ (by simp only [List.length_cons, List.length_nil, Nat.reduceAdd]; rfl) ?_; clear hp; intro b w1 hp; simp only [put_some, put_none, List.set_cons_succ, List.set_cons_zero]) | ((with_reducible refine pre_load 3 _ rfl ?_); (refine wpList_loadOne_hp hp _ _ rfl (by first | exact wanted_none rfl | exact wanted_yes rfl rfl rfl rfl) _ _ (slot_tmp rfl) cell3 _ _ _ _ (by first | exact at0 | exact at1 | exact at2 | exact at3 | exact at4 | exact at5 | exact at6 | exact at7 | exact at8 | exact at9 | exact at10 | exact at11 | exact at12 | exact at13) _ (by rfl) ?_; simp only [put_some, put_none, List.set_cons_succ, List.set_cons_zero])) | ((with_reducible refine pre_load 4 _ rfl ?_); (refine wpList_loadOne_hp hp _ _ rfl (by first | exact wanted_none rfl | exact wanted_yes rfl rfl rfl rfl) _ _ (slot_tmp rfl) cell4 _ _ _ _ (by first | exact at0 | exact at1 | exact at2 | exact at3 | exact at4 | exact at5 | exact at6 | exact at7 | exact at8 | exact at9 | exact at10 | exact at11 | exact at12 | exact at13) _ (by rfl) ?_; simp only [put_some, put_none, List.set_cons_succ, List.set_cons_zero])) | ((with_reducible refine pre_store 3 _ _ rfl ?_); refine wpList_storeOne_hp hp _ _ _ rfl (by first | exact wanted_none rfl | exact wanted_yes rfl rfl rfl rfl) _ _ (slot_tmp rfl) _ (by first | exact slot_tmp rfl | exact slot_const) cell3 _ _ _ _ (by first | exact at0 | exact at1 | exact at2 | exact at3 | exact at4 | exact at5 | exact at6 | exact at7 | exact at8 | exact at9 | exact at10 | exact at11 | exact at12 | exact at13) (by simp only [List.length_cons, List.length_nil]; omega) (by first | rfl | assumption) ?_; clear hp; intro w1 hp; simp only [List.set_cons_zero, List.set_cons_succ] at hp; simp only [put_some, put_none, List.set_cons_succ, List.set_cons_zero]) | ((with_reducible refine pre_store 4 _ _ rfl ?_); refine wpList_storeOne_hp hp _ _ _ rfl (by first | exact wanted_none rfl | exact wanted_yes rfl rfl rfl rfl) _ _ (slot_tmp rfl) _ (by first | exact slot_tmp rfl | exact slot_const) cell4 _ _ _ _ (by first | exact at0 | exact at1 | exact at2 | exact at3 | exact at4 | exact at5 | exact at6 | exact at7 | exact at8 | exact at9 | exact at10 | exact at11 | exact at12 | exact at13) (by simp only [List.length_cons, List.length_nil]; omega) (by first | rfl | assumption) ?_; clear hp; intro w1 hp; simp only [List.set_cons_zero, List.set_cons_succ] at hp; simp only [put_some, put_none, List.set_cons_succ, List.set_cons_zero]))
  go_loopg [5] l.length (fun k i wr => ∃ j : Nat, k + j = l.length ∧ i = .int .i64 j ∧ Hp w.heap.size w wr [])
  case atStart => exact ⟨0, by omega, rfl, hp⟩
  case round =>
    clear hp
    obtain ⟨j, hkj, rfl, hp⟩ := hrel
    by_cases hlt : j < l.length
    · obtain ⟨b, off, rfl, hx⟩ := HA.out.elems 1 iV_len (by omega) (by omega)
      obtain ⟨b', off', rfl, hy⟩ := HA'.out.elems 1 iV_len (by omega) (by omega)
      replace hx := hx j _ (List.getElem?_eq_getElem hlt)
      replace hy := hy j _ (List.getElem?_eq_getElem hlt)
      generalize l[j] = x at hx hy
      simp only [iV, Nat.mul_one] at hx hy
      have HX := Lib.hid hx
      have HY := Lib.hid hy
      clear hx hy
      have e1 : (0 : Int) ≤ (j : Int) := by omega
      have e2 : (j : Int) < (l.length : Int) := by omega
      go_wp2_with (first | go_skip | ((with_reducible refine pre_box _ _ rfl ?_); refine wpList_box_hp hp _ _ rfl (by first | exact wanted_none rfl | exact wanted_yes rfl rfl rfl rfl) _ (slot_tmp rfl) _ rfl _ (by simp only [List.length_cons, List.length_nil, Nat.reduceAdd]; rfl) ?_; clear hp; intro b w1 hp; simp only [put_some, put_none, List.set_cons_succ, List.set_cons_zero]) | ((with_reducible refine pre_load 3 _ rfl ?_); (refine wpList_loadOne_hp hp _ _ rfl (by first | exact wanted_none rfl | exact wanted_yes rfl rfl rfl rfl) _ _ (slot_tmp rfl) cell3 _ _ _ _ (by first | exact at0 | exact at1 | exact at2 | exact at3 | exact at4 | exact at5 | exact at6 | exact at7 | exact at8 | exact at9 | exact at10 | exact at11 | exact at12 | exact at13) _ (by rfl) ?_; simp only [put_some, put_none, List.set_cons_succ, List.set_cons_zero])) | ((with_reducible refine pre_load 4 _ rfl ?_); (refine wpList_loadOne_hp hp _ _ rfl (by first | exact wanted_none rfl | exact wanted_yes rfl rfl rfl rfl) _ _ (slot_tmp rfl) cell4 _ _ _ _ (by first | exact at0 | exact at1 | exact at2 | exact at3 | exact at4 | exact at5 | exact at6 | exact at7 | exact at8 | exact at9 | exact at10 | exact at11 | exact at12 | exact at13) _ (by rfl) ?_; simp only [put_some, put_none, List.set_cons_succ, List.set_cons_zero])) | ((with_reducible refine pre_store 3 _ _ rfl ?_); refine wpList_storeOne_hp hp _ _ _ rfl (by first | exact wanted_none rfl | exact wanted_yes rfl rfl rfl rfl) _ _ (slot_tmp rfl) _ (by first | exact slot_tmp rfl | exact slot_const) cell3 _ _ _ _ (by first | exact at0 | exact at1 | exact at2 | exact at3 | exact at4 | exact at5 | exact at6 | exact at7 | exact at8 | exact at9 | exact at10 | exact at11 | exact at12 | exact at13) (by simp only [List.length_cons, List.length_nil]; omega) (by first | rfl | assumption) ?_; clear hp; intro w1 hp; simp only [List.set_cons_zero, List.set_cons_succ] at hp; simp only [put_some, put_none, List.set_cons_succ, List.set_cons_zero]) | ((with_reducible refine pre_store 4 _ _ rfl ?_); refine wpList_storeOne_hp hp _ _ _ rfl (by first | exact wanted_none rfl | exact wanted_yes rfl rfl rfl rfl) _ _ (slot_tmp rfl) _ (by first | exact slot_tmp rfl | exact slot_const) cell4 _ _ _ _ (by first | exact at0 | exact at1 | exact at2 | exact at3 | exact at4 | exact at5 | exact at6 | exact at7 | exact at8 | exact at9 | exact at10 | exact at11 | exact at12 | exact at13) (by simp only [List.length_cons, List.length_nil]; omega) (by first | rfl | assumption) ?_; clear hp; intro w1 hp; simp only [List.set_cons_zero, List.set_cons_succ] at hp; simp only [put_some, put_none, List.set_cons_succ, List.set_cons_zero]))
      refine wp_region_keeps _ (Keeps.all hp.drew) [] [(0, true), (1, true), (2, true), (3, true), (4, true), (5, true), (6, true), (7, true), (8, true)] (by kernel_rfl) (by kernel_rfl) rfl (by kernel_rfl) (fun _ _ d _ _ h => by cases d <;> exact h) ?_
      replace hp := hp.drew
      (refine plan_move rfl _ rfl (by first | exact wanted_none rfl | exact wanted_yes rfl rfl rfl rfl) ?_)
      try simp only [put_some, put_none, eval_tmp, eval_const, List.set_cons_succ, List.set_cons_zero, List.getD_cons_succ, List.getD_cons_zero, wrap_eq]
      (refine plan_move rfl _ rfl (by first | exact wanted_none rfl | exact wanted_yes rfl rfl rfl rfl) ?_)
      try simp only [put_some, put_none, eval_tmp, eval_const, List.set_cons_succ, List.set_cons_zero, List.getD_cons_succ, List.getD_cons_zero, wrap_eq]
      (refine plan_take rfl (by first | exact wanted_none rfl | exact wanted_yes rfl rfl rfl rfl) (fun w _ => (by go_simp; try rfl)) ?_)
      try simp only [put_some, put_none, eval_tmp, eval_const, List.set_cons_succ, List.set_cons_zero, List.getD_cons_succ, List.getD_cons_zero, wrap_eq]
      (first | (refine plan_loadAgg rfl _ _ rfl (by first | exact wanted_none rfl | exact wanted_yes rfl rfl rfl rfl) _ _ (slot_tmp rfl) _ (fun w hS => hS.loadOne cell3 (by first | exact at0 | exact at1 | exact at2 | exact at3 | exact at4 | exact at5 | exact at6 | exact at7 | exact at8 | exact at9 | exact at10 | exact at11 | exact at12 | exact at13) _ _ (by rfl)) ?_) | (refine plan_loadAgg rfl _ _ rfl (by first | exact wanted_none rfl | exact wanted_yes rfl rfl rfl rfl) _ _ (slot_tmp rfl) _ (fun w hS => hS.rowOne cell3 (HX.out 0 _ rfl)) ?_) | (refine plan_loadAgg rfl _ _ rfl (by first | exact wanted_none rfl | exact wanted_yes rfl rfl rfl rfl) _ _ (slot_tmp rfl) _ (fun w hS => hS.rowOne cell3 (HY.out 0 _ rfl)) ?_))
      try simp only [put_some, put_none, eval_tmp, eval_const, List.set_cons_succ, List.set_cons_zero, List.getD_cons_succ, List.getD_cons_zero, wrap_eq]
      (refine plan_move rfl _ rfl (by first | exact wanted_none rfl | exact wanted_yes rfl rfl rfl rfl) ?_)
      try simp only [put_some, put_none, eval_tmp, eval_const, List.set_cons_succ, List.set_cons_zero, List.getD_cons_succ, List.getD_cons_zero, wrap_eq]
      (refine plan_move rfl _ rfl (by first | exact wanted_none rfl | exact wanted_yes rfl rfl rfl rfl) ?_)
      try simp only [put_some, put_none, eval_tmp, eval_const, List.set_cons_succ, List.set_cons_zero, List.getD_cons_succ, List.getD_cons_zero, wrap_eq]
      (refine plan_take rfl (by first | exact wanted_none rfl | exact wanted_yes rfl rfl rfl rfl) (fun w _ => (by go_simp; try rfl)) ?_)
      try simp only [put_some, put_none, eval_tmp, eval_const, List.set_cons_succ, List.set_cons_zero, List.getD_cons_succ, List.getD_cons_zero, wrap_eq]
      (first | (refine plan_loadAgg rfl _ _ rfl (by first | exact wanted_none rfl | exact wanted_yes rfl rfl rfl rfl) _ _ (slot_tmp rfl) _ (fun w hS => hS.loadOne cell3 (by first | exact at0 | exact at1 | exact at2 | exact at3 | exact at4 | exact at5 | exact at6 | exact at7 | exact at8 | exact at9 | exact at10 | exact at11 | exact at12 | exact at13) _ _ (by rfl)) ?_) | (refine plan_loadAgg rfl _ _ rfl (by first | exact wanted_none rfl | exact wanted_yes rfl rfl rfl rfl) _ _ (slot_tmp rfl) _ (fun w hS => hS.rowOne cell3 (HX.out 0 _ rfl)) ?_) | (refine plan_loadAgg rfl _ _ rfl (by first | exact wanted_none rfl | exact wanted_yes rfl rfl rfl rfl) _ _ (slot_tmp rfl) _ (fun w hS => hS.rowOne cell3 (HY.out 0 _ rfl)) ?_))
      try simp only [put_some, put_none, eval_tmp, eval_const, List.set_cons_succ, List.set_cons_zero, List.getD_cons_succ, List.getD_cons_zero, wrap_eq]
      (refine plan_take rfl (by first | exact wanted_none rfl | exact wanted_yes rfl rfl rfl rfl) (fun w _ => (by go_simp; try rfl)) ?_)
      try simp only [put_some, put_none, eval_tmp, eval_const, List.set_cons_succ, List.set_cons_zero, List.getD_cons_succ, List.getD_cons_zero, wrap_eq]
      refine plan_nil ?_
      go_wp2_with fail
      go_roundg (gk - 1)
      case measure => omega
      case rel => exact ⟨j + 1, by omega, by go_num, hp⟩
    · have e2 : decide ((j : Int) < (l.length : Int)) = false := by simp; omega
      go_wp2_with fail
      go_ret
      exact ⟨rfl, hp.below⟩

theorem ints_one (l : List Int) : (l.flatMap iV).all (·.oneCell') = true := by
  rw [List.all_eq_true]; intro u hu; obtain ⟨x, _, hx⟩ := List.mem_flatMap.1 hu; simp [iV] at hx; subst hx; rfl
theorem bls_one (l : List Bl) : (l.flatMap blV).all (·.oneCell') = true := by
  rw [List.all_eq_true]; intro u hu; obtain ⟨x, _, hx⟩ := List.mem_flatMap.1 hu; simp [blV] at hx; rcases hx with rfl | rfl <;> rfl
/-- A row of the call's own with the same cells. -/
def RowK (w : World) (xs : List Value) (n : Nat) (e : Ending) (w' : World) : Prop := ∃ a c R, e = .returned (.slice a n c) ∧ Kept R (fun w => RowIs w a xs) ∧ Hp w.heap.size w w' R
set_option maxRecDepth 100000 in
set_option maxHeartbeats 4000000 in
theorem ownk19 (l : List Bl) (a : Option Addr) (c : Nat) (hl : l.length ≤ 600) (w : World) (ha : RowIs w a (l.flatMap blV)) : Calls Try.prog 19 #[.slice a l.length c] w (RowK w (l.flatMap blV) l.length) := by
  obtain ⟨i0, hi0, hz0, hz1, hz2⟩ := info_parts info39
  have HA := Lib.hid ha
  have hp := Hp.start w
  clear ha
  go_enter Try.func19, Try.ntmps19
  go_wp2_with (refine wpList_appendRowK hp (.tmp 4) (.tmp 5) _ rfl (by first | exact wanted_none rfl | exact wanted_yes rfl rfl rfl rfl) 39 i0 _ 2 16 Try.underlying24 hi0 hz0 hz1 hz2 rfl (by omega) (by rfl) a l.length c (by rfl) _ (lit_len l) HA.out (bls_one l) (by simp only [maxLen]; omega) (by omega) ?_; clear hp; intro a1 c1 R1 w1 hr1 _ hp; simp only [put_some, put_none, List.set_cons_succ, List.set_cons_zero])
  go_ret
  exact ⟨a1, c1, R1, rfl, hr1, by simpa using hp⟩
end Go.Proofs.Ytinlmcdphhmhjaa
