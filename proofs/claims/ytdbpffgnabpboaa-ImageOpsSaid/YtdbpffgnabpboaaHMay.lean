/- The walks of May of entries, the program's and the document's. -/
import Derived.Test.YtdbpffgnabpboaaHTypes
set_option linter.unusedSimpArgs false
set_option linter.unusedVariables false
namespace Go.Proofs.Ytdbpffgnabpboaa
open Go.RowKit
theorem agg49 : aggB Try.prog 49 11 = true := by kernel_rfl
theorem agg47 : aggB Try.prog 47 7 = true := by kernel_rfl
theorem zero49 : zeroL Try.prog 49 = some ([.int .i64 0, .int .i64 0, .int .i64 0, .int .i64 0, .int .i64 0, .int .i64 0, .int .i64 0, .int .i64 0, .int .i64 0, .int .i64 0, .int .i64 0], 11) := by kernel_rfl
def inB (n lo hi : Int) : Bool := decide (lo ≤ n) && decide (n ≤ hi)
structure Opv where
  k : Int
  h : Int
  i : Int
  n : Int
  m : Int
  v : Int
  t : Int
  deriving DecidableEq
structure Env where
  nu : Int
  vi : Int
  cl : Int
  sq : Int
  op : Opv
def opL (o : Opv) : List Value := [.int .i64 o.k, .int .i64 o.h, .int .i64 o.i, .int .i64 o.n, .int .i64 o.m, .int .i64 o.v, .int .i64 o.t]
def envL (e : Env) : List Value := [.int .i64 e.nu, .int .i64 e.vi, .int .i64 e.cl, .int .i64 e.sq] ++ opL e.op
def op0 : Opv := ⟨0, 0, 0, 0, 0, 0, 0⟩
def mayE (e : Env) : Bool := inB e.nu 1 900000000 && inB e.vi 0 900000000 && (if e.cl = 0 then decide (e.sq = 0) && decide (e.op = op0) else inB e.cl 1 4 && inB e.sq 1 1000000)
theorem within52 (n lo hi : Int) (w : World) : Calls Try.prog 52 #[.int .i64 n, .int .i64 lo, .int .i64 hi] w fun e w' => e = .returned (.bool (inB n lo hi)) ∧ w = w' := by
  go_enter Try.func52, Try.ntmps52
  go_wp2
  all_goals go_ret
  all_goals refine ⟨ret_bool ?_, rfl⟩
  all_goals (simp [inB, *]; try omega)
theorem within53 (n lo hi : Int) (w : World) : Calls Try.prog 53 #[.int .i64 n, .int .i64 lo, .int .i64 hi] w fun e w' => e = .returned (.bool (inB n lo hi)) ∧ w = w' := by
  go_enter Try.func53, Try.ntmps53
  go_wp2
  all_goals go_ret
  all_goals refine ⟨ret_bool ?_, rfl⟩
  all_goals (simp [inB, *]; try omega)
/-- The ways of May. -/
theorem may_ways (e : Env) : (inB e.nu 1 900000000 = false ∧ (e.cl == 0) = true ∧ mayE e = false) ∨ (inB e.nu 1 900000000 = false ∧ (e.cl == 0) = false ∧ mayE e = false) ∨
    (inB e.nu 1 900000000 = true ∧ inB e.vi 0 900000000 = false ∧ (e.cl == 0) = true ∧ mayE e = false) ∨ (inB e.nu 1 900000000 = true ∧ inB e.vi 0 900000000 = false ∧ (e.cl == 0) = false ∧ mayE e = false) ∨
    (inB e.nu 1 900000000 = true ∧ inB e.vi 0 900000000 = true ∧ (e.cl == 0) = true ∧ (e.sq == 0) = false ∧ mayE e = false) ∨
    (inB e.nu 1 900000000 = true ∧ inB e.vi 0 900000000 = true ∧ (e.cl == 0) = true ∧ (e.sq == 0) = true ∧ mayE e = decide (e.op = op0)) ∨
    (inB e.nu 1 900000000 = true ∧ inB e.vi 0 900000000 = true ∧ (e.cl == 0) = false ∧ inB e.cl 1 4 = false ∧ mayE e = false) ∨
    (inB e.nu 1 900000000 = true ∧ inB e.vi 0 900000000 = true ∧ (e.cl == 0) = false ∧ inB e.cl 1 4 = true ∧ mayE e = inB e.sq 1 1000000) := by
  unfold mayE
  by_cases hc : e.cl = 0 <;> by_cases hs : e.sq = 0 <;> simp only [hc, hs, if_true, if_false, beq_self_eq_true, decide_true, decide_false, Bool.true_and, Bool.false_and, Bool.and_false] <;> cases inB e.nu 1 900000000 <;> cases inB e.vi 0 900000000 <;> simp [hc, hs] <;> (try cases inB e.cl 1 4) <;> simp
set_option maxRecDepth 100000 in
set_option maxHeartbeats 8000000 in
theorem may26 (e : Env) (w : World) : Calls Try.prog 26 #[.agg (envL e).toArray] w fun x w' => x = .returned (.bool (mayE e)) ∧ Below w.heap.size w w' := by
  have hp := Hp.start w
  have H := may_ways e
  generalize hm : mayE e = r at H
  clear hm
  obtain ⟨nu, vi, cl, sq, ⟨k, h, i, n, m, v, t⟩⟩ := e
  simp only at H
  simp only [envL, opL, List.cons_append, List.nil_append]
  have k1 := within52 nu 1 900000000
  have k2 := within52 vi 0 900000000
  have k3 := within52 cl 1 4
  have k4 := within52 sq 1 1000000
  rcases H with ⟨a1, a2, a3⟩ | ⟨a1, a2, a3⟩ | ⟨a1, a2, a3, a4⟩ | ⟨a1, a2, a3, a4⟩ | ⟨a1, a2, a3, a4, a5⟩ | ⟨a1, a2, a3, a4, a5⟩ | ⟨a1, a2, a3, a4, a5⟩ | ⟨a1, a2, a3, a4, a5⟩
  all_goals
    try rw [a1] at k1
    try rw [a2] at k2
    try rw [a4] at k3
    have K1 := Lib.hid k1
    have K2 := Lib.hid k2
    have K3 := Lib.hid k3
    have K4 := Lib.hid k4
    clear k1 k2 k3 k4
    subst r
    go_enter Try.func26, Try.ntmps26
    go_wp2_with (first | (go_at_call 52; (first | (with_reducible refine (K1.out _).mono ?_) | (with_reducible refine (K2.out _).mono ?_) | (with_reducible refine (K3.out _).mono ?_) | (with_reducible refine (K4.out _).mono ?_)); rintro e w' ⟨rfl, rfl⟩) | go_skip | ((with_reducible refine pre_alloc 49 rfl ?_); refine wpList_alloc_hp hp _ rfl (by first | exact wanted_none rfl | exact wanted_yes rfl rfl rfl rfl) _ _ zero49 ?_; clear hp; intro b w1 hp; simp only [put_some, put_none, List.set_cons_succ, List.set_cons_zero]) | ((with_reducible refine pre_box _ _ rfl ?_); refine wpList_box_hp hp _ _ rfl (by first | exact wanted_none rfl | exact wanted_yes rfl rfl rfl rfl) _ (slot_tmp rfl) _ rfl _ (by simp only [List.length_cons, List.length_nil, Nat.reduceAdd]; rfl) ?_; clear hp; intro b w1 hp; simp only [put_some, put_none, List.set_cons_succ, List.set_cons_zero]) | ((with_reducible refine pre_load 49 _ rfl ?_); (refine wpList_loadAgg_hp hp _ _ rfl (by first | exact wanted_none rfl | exact wanted_yes rfl rfl rfl rfl) _ _ (slot_tmp rfl) _ agg49 _ _ _ _ (by first | exact at0 | exact at1 | exact at2 | exact at3 | exact at4 | exact at5 | exact at6 | exact at7 | exact at8 | exact at9 | exact at10 | exact at11 | exact at12 | exact at13) _ (by simp only [List.drop_zero, List.drop_succ_cons, List.take_succ_cons, List.take_zero, List.take_nil]; rfl) (by rfl) ?_; simp only [put_some, put_none, List.set_cons_succ, List.set_cons_zero])) | ((with_reducible refine pre_load 47 _ rfl ?_); (refine wpList_loadAgg_hp hp _ _ rfl (by first | exact wanted_none rfl | exact wanted_yes rfl rfl rfl rfl) _ _ (slot_tmp rfl) _ agg47 _ _ _ _ (by first | exact at0 | exact at1 | exact at2 | exact at3 | exact at4 | exact at5 | exact at6 | exact at7 | exact at8 | exact at9 | exact at10 | exact at11 | exact at12 | exact at13) _ (by simp only [List.drop_zero, List.drop_succ_cons, List.take_succ_cons, List.take_zero, List.take_nil]; rfl) (by rfl) ?_; simp only [put_some, put_none, List.set_cons_succ, List.set_cons_zero])) | ((with_reducible refine pre_load 3 _ rfl ?_); (refine wpList_loadOne_hp hp _ _ rfl (by first | exact wanted_none rfl | exact wanted_yes rfl rfl rfl rfl) _ _ (slot_tmp rfl) cell3 _ _ _ _ (by first | exact at0 | exact at1 | exact at2 | exact at3 | exact at4 | exact at5 | exact at6 | exact at7 | exact at8 | exact at9 | exact at10 | exact at11 | exact at12 | exact at13) _ (by rfl) ?_; simp only [put_some, put_none, List.set_cons_succ, List.set_cons_zero])) | ((with_reducible refine pre_load 4 _ rfl ?_); (refine wpList_loadOne_hp hp _ _ rfl (by first | exact wanted_none rfl | exact wanted_yes rfl rfl rfl rfl) _ _ (slot_tmp rfl) cell4 _ _ _ _ (by first | exact at0 | exact at1 | exact at2 | exact at3 | exact at4 | exact at5 | exact at6 | exact at7 | exact at8 | exact at9 | exact at10 | exact at11 | exact at12 | exact at13) _ (by rfl) ?_; simp only [put_some, put_none, List.set_cons_succ, List.set_cons_zero])) | ((with_reducible refine pre_store 49 _ _ rfl ?_); first | (refine wpList_storeAll_hp hp _ _ _ rfl (by first | exact wanted_none rfl | exact wanted_yes rfl rfl rfl rfl) _ (slot_tmp rfl) _ (slot_tmp rfl) agg49 _ _ _ _ (by first | exact at0 | exact at1 | exact at2 | exact at3 | exact at4 | exact at5 | exact at6 | exact at7 | exact at8 | exact at9 | exact at10 | exact at11 | exact at12 | exact at13) (by rfl) (by first | rfl | simp [*]) ?_; clear hp; intro w1 hp; simp only [List.set_cons_zero, List.set_cons_succ] at hp; simp only [put_some, put_none, List.set_cons_succ, List.set_cons_zero]) | (refine wpList_storeAgg_hp hp _ _ _ rfl (by first | exact wanted_none rfl | exact wanted_yes rfl rfl rfl rfl) _ _ (slot_tmp rfl) _ (slot_tmp rfl) agg49 _ _ _ _ (by first | exact at0 | exact at1 | exact at2 | exact at3 | exact at4 | exact at5 | exact at6 | exact at7 | exact at8 | exact at9 | exact at10 | exact at11 | exact at12 | exact at13) (by simp only [List.length_cons, List.length_nil]; omega) (by first | rfl | simp [*]) ?_; clear hp; intro w1 hp; simp only [spl, List.set_cons_zero, List.set_cons_succ] at hp; simp only [put_some, put_none, List.set_cons_succ, List.set_cons_zero])) | ((with_reducible refine pre_store 47 _ _ rfl ?_); first | (refine wpList_storeAll_hp hp _ _ _ rfl (by first | exact wanted_none rfl | exact wanted_yes rfl rfl rfl rfl) _ (slot_tmp rfl) _ (slot_tmp rfl) agg47 _ _ _ _ (by first | exact at0 | exact at1 | exact at2 | exact at3 | exact at4 | exact at5 | exact at6 | exact at7 | exact at8 | exact at9 | exact at10 | exact at11 | exact at12 | exact at13) (by rfl) (by first | rfl | simp [*]) ?_; clear hp; intro w1 hp; simp only [List.set_cons_zero, List.set_cons_succ] at hp; simp only [put_some, put_none, List.set_cons_succ, List.set_cons_zero]) | (refine wpList_storeAgg_hp hp _ _ _ rfl (by first | exact wanted_none rfl | exact wanted_yes rfl rfl rfl rfl) _ _ (slot_tmp rfl) _ (slot_tmp rfl) agg47 _ _ _ _ (by first | exact at0 | exact at1 | exact at2 | exact at3 | exact at4 | exact at5 | exact at6 | exact at7 | exact at8 | exact at9 | exact at10 | exact at11 | exact at12 | exact at13) (by simp only [List.length_cons, List.length_nil]; omega) (by first | rfl | simp [*]) ?_; clear hp; intro w1 hp; simp only [spl, List.set_cons_zero, List.set_cons_succ] at hp; simp only [put_some, put_none, List.set_cons_succ, List.set_cons_zero])) | ((with_reducible refine pre_store 3 _ _ rfl ?_); refine wpList_storeOne_hp hp _ _ _ rfl (by first | exact wanted_none rfl | exact wanted_yes rfl rfl rfl rfl) _ _ (slot_tmp rfl) _ (by first | exact slot_tmp rfl | exact slot_const) cell3 _ _ _ _ (by first | exact at0 | exact at1 | exact at2 | exact at3 | exact at4 | exact at5 | exact at6 | exact at7 | exact at8 | exact at9 | exact at10 | exact at11 | exact at12 | exact at13) (by simp only [List.length_cons, List.length_nil]; omega) (by first | rfl | assumption) ?_; clear hp; intro w1 hp; simp only [List.set_cons_zero, List.set_cons_succ] at hp; simp only [put_some, put_none, List.set_cons_succ, List.set_cons_zero]) | ((with_reducible refine pre_store 4 _ _ rfl ?_); refine wpList_storeOne_hp hp _ _ _ rfl (by first | exact wanted_none rfl | exact wanted_yes rfl rfl rfl rfl) _ _ (slot_tmp rfl) _ (by first | exact slot_tmp rfl | exact slot_const) cell4 _ _ _ _ (by first | exact at0 | exact at1 | exact at2 | exact at3 | exact at4 | exact at5 | exact at6 | exact at7 | exact at8 | exact at9 | exact at10 | exact at11 | exact at12 | exact at13) (by simp only [List.length_cons, List.length_nil]; omega) (by first | rfl | assumption) ?_; clear hp; intro w1 hp; simp only [List.set_cons_zero, List.set_cons_succ] at hp; simp only [put_some, put_none, List.set_cons_succ, List.set_cons_zero]))
    all_goals go_ret
  all_goals first
    | exact ⟨rfl, hp.below⟩
    | exact ⟨Eq.trans (b := Ending.returned (.bool true)) rfl (ret_bool (by simp [op0, *])), hp.below⟩
    | exact ⟨Eq.trans (b := Value.bool true) rfl (congrArg Value.bool (by simp [op0, *])), hp.below⟩
    | exact ⟨Eq.trans (b := Ending.returned (.bool false)) rfl (ret_bool (by simp [op0, *])), hp.below⟩
    | exact ⟨Eq.trans (b := Value.bool false) rfl (congrArg Value.bool (by simp [op0, *])), hp.below⟩
set_option maxRecDepth 100000 in
set_option maxHeartbeats 8000000 in
theorem may27 (e : Env) (w : World) : Calls Try.prog 27 #[.agg (envL e).toArray] w fun x w' => x = .returned (.bool (mayE e)) ∧ Below w.heap.size w w' := by
  have hp := Hp.start w
  have H := may_ways e
  generalize hm : mayE e = r at H
  clear hm
  obtain ⟨nu, vi, cl, sq, ⟨k, h, i, n, m, v, t⟩⟩ := e
  simp only at H
  simp only [envL, opL, List.cons_append, List.nil_append]
  have k1 := within53 nu 1 900000000
  have k2 := within53 vi 0 900000000
  have k3 := within53 cl 1 4
  have k4 := within53 sq 1 1000000
  rcases H with ⟨a1, a2, a3⟩ | ⟨a1, a2, a3⟩ | ⟨a1, a2, a3, a4⟩ | ⟨a1, a2, a3, a4⟩ | ⟨a1, a2, a3, a4, a5⟩ | ⟨a1, a2, a3, a4, a5⟩ | ⟨a1, a2, a3, a4, a5⟩ | ⟨a1, a2, a3, a4, a5⟩
  all_goals
    try rw [a1] at k1
    try rw [a2] at k2
    try rw [a4] at k3
    have K1 := Lib.hid k1
    have K2 := Lib.hid k2
    have K3 := Lib.hid k3
    have K4 := Lib.hid k4
    clear k1 k2 k3 k4
    subst r
    go_enter Try.func27, Try.ntmps27
    go_wp2_with (first | (go_at_call 53; (first | (with_reducible refine (K1.out _).mono ?_) | (with_reducible refine (K2.out _).mono ?_) | (with_reducible refine (K3.out _).mono ?_) | (with_reducible refine (K4.out _).mono ?_)); rintro e w' ⟨rfl, rfl⟩) | go_skip | ((with_reducible refine pre_alloc 49 rfl ?_); refine wpList_alloc_hp hp _ rfl (by first | exact wanted_none rfl | exact wanted_yes rfl rfl rfl rfl) _ _ zero49 ?_; clear hp; intro b w1 hp; simp only [put_some, put_none, List.set_cons_succ, List.set_cons_zero]) | ((with_reducible refine pre_box _ _ rfl ?_); refine wpList_box_hp hp _ _ rfl (by first | exact wanted_none rfl | exact wanted_yes rfl rfl rfl rfl) _ (slot_tmp rfl) _ rfl _ (by simp only [List.length_cons, List.length_nil, Nat.reduceAdd]; rfl) ?_; clear hp; intro b w1 hp; simp only [put_some, put_none, List.set_cons_succ, List.set_cons_zero]) | ((with_reducible refine pre_load 49 _ rfl ?_); (refine wpList_loadAgg_hp hp _ _ rfl (by first | exact wanted_none rfl | exact wanted_yes rfl rfl rfl rfl) _ _ (slot_tmp rfl) _ agg49 _ _ _ _ (by first | exact at0 | exact at1 | exact at2 | exact at3 | exact at4 | exact at5 | exact at6 | exact at7 | exact at8 | exact at9 | exact at10 | exact at11 | exact at12 | exact at13) _ (by simp only [List.drop_zero, List.drop_succ_cons, List.take_succ_cons, List.take_zero, List.take_nil]; rfl) (by rfl) ?_; simp only [put_some, put_none, List.set_cons_succ, List.set_cons_zero])) | ((with_reducible refine pre_load 47 _ rfl ?_); (refine wpList_loadAgg_hp hp _ _ rfl (by first | exact wanted_none rfl | exact wanted_yes rfl rfl rfl rfl) _ _ (slot_tmp rfl) _ agg47 _ _ _ _ (by first | exact at0 | exact at1 | exact at2 | exact at3 | exact at4 | exact at5 | exact at6 | exact at7 | exact at8 | exact at9 | exact at10 | exact at11 | exact at12 | exact at13) _ (by simp only [List.drop_zero, List.drop_succ_cons, List.take_succ_cons, List.take_zero, List.take_nil]; rfl) (by rfl) ?_; simp only [put_some, put_none, List.set_cons_succ, List.set_cons_zero])) | ((with_reducible refine pre_load 3 _ rfl ?_); (refine wpList_loadOne_hp hp _ _ rfl (by first | exact wanted_none rfl | exact wanted_yes rfl rfl rfl rfl) _ _ (slot_tmp rfl) cell3 _ _ _ _ (by first | exact at0 | exact at1 | exact at2 | exact at3 | exact at4 | exact at5 | exact at6 | exact at7 | exact at8 | exact at9 | exact at10 | exact at11 | exact at12 | exact at13) _ (by rfl) ?_; simp only [put_some, put_none, List.set_cons_succ, List.set_cons_zero])) | ((with_reducible refine pre_load 4 _ rfl ?_); (refine wpList_loadOne_hp hp _ _ rfl (by first | exact wanted_none rfl | exact wanted_yes rfl rfl rfl rfl) _ _ (slot_tmp rfl) cell4 _ _ _ _ (by first | exact at0 | exact at1 | exact at2 | exact at3 | exact at4 | exact at5 | exact at6 | exact at7 | exact at8 | exact at9 | exact at10 | exact at11 | exact at12 | exact at13) _ (by rfl) ?_; simp only [put_some, put_none, List.set_cons_succ, List.set_cons_zero])) | ((with_reducible refine pre_store 49 _ _ rfl ?_); first | (refine wpList_storeAll_hp hp _ _ _ rfl (by first | exact wanted_none rfl | exact wanted_yes rfl rfl rfl rfl) _ (slot_tmp rfl) _ (slot_tmp rfl) agg49 _ _ _ _ (by first | exact at0 | exact at1 | exact at2 | exact at3 | exact at4 | exact at5 | exact at6 | exact at7 | exact at8 | exact at9 | exact at10 | exact at11 | exact at12 | exact at13) (by rfl) (by first | rfl | simp [*]) ?_; clear hp; intro w1 hp; simp only [List.set_cons_zero, List.set_cons_succ] at hp; simp only [put_some, put_none, List.set_cons_succ, List.set_cons_zero]) | (refine wpList_storeAgg_hp hp _ _ _ rfl (by first | exact wanted_none rfl | exact wanted_yes rfl rfl rfl rfl) _ _ (slot_tmp rfl) _ (slot_tmp rfl) agg49 _ _ _ _ (by first | exact at0 | exact at1 | exact at2 | exact at3 | exact at4 | exact at5 | exact at6 | exact at7 | exact at8 | exact at9 | exact at10 | exact at11 | exact at12 | exact at13) (by simp only [List.length_cons, List.length_nil]; omega) (by first | rfl | simp [*]) ?_; clear hp; intro w1 hp; simp only [spl, List.set_cons_zero, List.set_cons_succ] at hp; simp only [put_some, put_none, List.set_cons_succ, List.set_cons_zero])) | ((with_reducible refine pre_store 47 _ _ rfl ?_); first | (refine wpList_storeAll_hp hp _ _ _ rfl (by first | exact wanted_none rfl | exact wanted_yes rfl rfl rfl rfl) _ (slot_tmp rfl) _ (slot_tmp rfl) agg47 _ _ _ _ (by first | exact at0 | exact at1 | exact at2 | exact at3 | exact at4 | exact at5 | exact at6 | exact at7 | exact at8 | exact at9 | exact at10 | exact at11 | exact at12 | exact at13) (by rfl) (by first | rfl | simp [*]) ?_; clear hp; intro w1 hp; simp only [List.set_cons_zero, List.set_cons_succ] at hp; simp only [put_some, put_none, List.set_cons_succ, List.set_cons_zero]) | (refine wpList_storeAgg_hp hp _ _ _ rfl (by first | exact wanted_none rfl | exact wanted_yes rfl rfl rfl rfl) _ _ (slot_tmp rfl) _ (slot_tmp rfl) agg47 _ _ _ _ (by first | exact at0 | exact at1 | exact at2 | exact at3 | exact at4 | exact at5 | exact at6 | exact at7 | exact at8 | exact at9 | exact at10 | exact at11 | exact at12 | exact at13) (by simp only [List.length_cons, List.length_nil]; omega) (by first | rfl | simp [*]) ?_; clear hp; intro w1 hp; simp only [spl, List.set_cons_zero, List.set_cons_succ] at hp; simp only [put_some, put_none, List.set_cons_succ, List.set_cons_zero])) | ((with_reducible refine pre_store 3 _ _ rfl ?_); refine wpList_storeOne_hp hp _ _ _ rfl (by first | exact wanted_none rfl | exact wanted_yes rfl rfl rfl rfl) _ _ (slot_tmp rfl) _ (by first | exact slot_tmp rfl | exact slot_const) cell3 _ _ _ _ (by first | exact at0 | exact at1 | exact at2 | exact at3 | exact at4 | exact at5 | exact at6 | exact at7 | exact at8 | exact at9 | exact at10 | exact at11 | exact at12 | exact at13) (by simp only [List.length_cons, List.length_nil]; omega) (by first | rfl | assumption) ?_; clear hp; intro w1 hp; simp only [List.set_cons_zero, List.set_cons_succ] at hp; simp only [put_some, put_none, List.set_cons_succ, List.set_cons_zero]) | ((with_reducible refine pre_store 4 _ _ rfl ?_); refine wpList_storeOne_hp hp _ _ _ rfl (by first | exact wanted_none rfl | exact wanted_yes rfl rfl rfl rfl) _ _ (slot_tmp rfl) _ (by first | exact slot_tmp rfl | exact slot_const) cell4 _ _ _ _ (by first | exact at0 | exact at1 | exact at2 | exact at3 | exact at4 | exact at5 | exact at6 | exact at7 | exact at8 | exact at9 | exact at10 | exact at11 | exact at12 | exact at13) (by simp only [List.length_cons, List.length_nil]; omega) (by first | rfl | assumption) ?_; clear hp; intro w1 hp; simp only [List.set_cons_zero, List.set_cons_succ] at hp; simp only [put_some, put_none, List.set_cons_succ, List.set_cons_zero]))
    all_goals go_ret
  all_goals first
    | exact ⟨rfl, hp.below⟩
    | exact ⟨Eq.trans (b := Ending.returned (.bool true)) rfl (ret_bool (by simp [op0, *])), hp.below⟩
    | exact ⟨Eq.trans (b := Value.bool true) rfl (congrArg Value.bool (by simp [op0, *])), hp.below⟩
    | exact ⟨Eq.trans (b := Ending.returned (.bool false)) rfl (ret_bool (by simp [op0, *])), hp.below⟩
    | exact ⟨Eq.trans (b := Value.bool false) rfl (congrArg Value.bool (by simp [op0, *])), hp.below⟩
end Go.Proofs.Ytdbpffgnabpboaa
