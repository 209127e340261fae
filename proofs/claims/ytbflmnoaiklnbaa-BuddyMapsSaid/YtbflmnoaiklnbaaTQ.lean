/- The walks of the methods of a queue of blocks. -/
import Derived.Test.YtbflmnoaiklnbaaTS
import Derived.Test.YtbflmnoaiklnbaaDrawn2
import Derived.Test.YtbflmnoaiklnbaaHv
set_option linter.unusedSimpArgs false
set_option linter.unusedVariables false
namespace Go.Proofs.Ytbflmnoaiklnbaa
open Go.RowKit
theorem cell24 : cellB Try.prog 24 = true := by kernel_rfl
theorem cell101 : cellB Try.prog 101 = true := by kernel_rfl
/-- A queue: its blocks in a row of its own, the row's slice in block bb. -/
def QHp (B : Nat) (w0 w : World) (bb g cap : Nat) (l : List Bl) (M : List Blk) : Prop := Hp B w0 w (⟨bb, [.slice (some ⟨g, 0, none⟩) l.length cap], 109, 1⟩ :: ⟨g, l.flatMap blV, 44, cap * 2⟩ :: M)
set_option maxRecDepth 100000 in
set_option maxHeartbeats 4000000 in
theorem len182 {B : Nat} {w0 w : World} {bb g cap n : Nat} {L : List Blk} (hp : Hp B w0 w (⟨bb, [.slice (some ⟨g, 0, none⟩) n cap], 109, 1⟩ :: L)) :
    Calls Try.prog 182 #[.pointer (some ⟨bb, 0, none⟩)] w fun e w' => e = .returned (.int .i64 n) ∧ Hp B w0 w' (⟨bb, [.slice (some ⟨g, 0, none⟩) n cap], 109, 1⟩ :: L) := by
  go_enter Try.func182, Try.ntmps182
  go_wp2_with (first | go_skip | ((first | ((with_reducible refine pre_alloc _ rfl ?_); refine lZ hp rfl zero44 ?_; clear hp; intro b w1 hp) | ((with_reducible refine pre_box _ _ rfl ?_); refine lB hp rfl (slot_tmp rfl) rfl ?_; clear hp; intro b w1 hp) | ((with_reducible refine pre_load _ _ rfl ?_); first | refine lO hp rfl (slot_tmp rfl) (by with_reducible first | exact cell3 | exact cell4 | exact cell24 | exact cell101) aa5 ?_ | refine lA hp rfl (slot_tmp rfl) agg44 aa5 ?_) | ((with_reducible refine pre_store _ _ _ rfl ?_); (first | refine sO hp rfl (slot_tmp rfl) (by with_reducible first | exact cell3 | exact cell4 | exact cell24 | exact cell101) aa5 ?_ | refine sA hp rfl (slot_tmp rfl) (slot_tmp rfl) agg44 aa5 ?_ | refine sG hp rfl (slot_tmp rfl) (slot_tmp rfl) agg44 aa5 ?_); clear hp; intro w1 hp; simp only [spl, List.set_cons_zero, List.set_cons_succ] at hp) | ((with_reducible refine pre_build _ _ _ rfl ?_); refine lS hp rfl (by intro w; go_simp; rfl) ?_; clear hp; intro b w1 hp; simp only [List.length_cons, List.length_nil, Nat.reduceAdd] at hp)); simp only [put_some, put_none, List.set_cons_succ, List.set_cons_zero]))
  go_ret
  exact ⟨rfl, hp⟩
set_option maxRecDepth 100000 in
set_option maxHeartbeats 4000000 in
theorem or187 (a b : Int) {B : Nat} {w0 w : World} {g t n : Nat} {L : List Blk} (hp : Hp B w0 w (⟨g, [.int .i64 a, .int .i64 b], t, n⟩ :: L)) :
    Calls Try.prog 187 #[.slice (some ⟨g, 0, none⟩) 2 2] w fun e w' => e = .returned (.int .i64 (orI a b)) ∧ Hp B w0 w' (⟨g, [.int .i64 a, .int .i64 b], t, n⟩ :: L) := by
  go_enter Try.func187, Try.ntmps187
  go_wp2_with (first | go_skip | ((first | ((with_reducible refine pre_alloc _ rfl ?_); refine lZ hp rfl zero44 ?_; clear hp; intro b w1 hp) | ((with_reducible refine pre_box _ _ rfl ?_); refine lB hp rfl (slot_tmp rfl) rfl ?_; clear hp; intro b w1 hp) | ((with_reducible refine pre_load _ _ rfl ?_); first | refine lO hp rfl (slot_tmp rfl) (by with_reducible first | exact cell3 | exact cell4 | exact cell24 | exact cell101) aa5 ?_ | refine lA hp rfl (slot_tmp rfl) agg44 aa5 ?_) | ((with_reducible refine pre_store _ _ _ rfl ?_); (first | refine sO hp rfl (slot_tmp rfl) (by with_reducible first | exact cell3 | exact cell4 | exact cell24 | exact cell101) aa5 ?_ | refine sA hp rfl (slot_tmp rfl) (slot_tmp rfl) agg44 aa5 ?_ | refine sG hp rfl (slot_tmp rfl) (slot_tmp rfl) agg44 aa5 ?_); clear hp; intro w1 hp; simp only [spl, List.set_cons_zero, List.set_cons_succ] at hp) | ((with_reducible refine pre_build _ _ _ rfl ?_); refine lS hp rfl (by intro w; go_simp; rfl) ?_; clear hp; intro b w1 hp; simp only [List.length_cons, List.length_nil, Nat.reduceAdd] at hp)); simp only [put_some, put_none, List.set_cons_succ, List.set_cons_zero]))
  go_loopg [5, 8] 2 (fun k x i wr => ∃ j : Nat, k + j = 2 ∧ i = .int .i64 j ∧ (0 < j → a = 0) ∧ (1 < j → b = 0) ∧ Hp B w0 wr (⟨g, [.int .i64 a, .int .i64 b], t, n⟩ :: L))
  case atStart => exact ⟨0, by omega, rfl, by omega, by omega, hp⟩
  case round =>
    clear hp
    obtain ⟨j, hkj, rfl, h0, h1, hp⟩ := hrel
    have hj : j = 0 ∨ j = 1 ∨ j = 2 := by omega
    rcases hj with rfl | rfl | rfl
    · clear h0 h1
      by_cases ha : a = 0
      · have HA := Lib.hid ha
        have e0 : (a != 0) = false := by simp [ha]
        clear ha
        go_wp2_with (first | go_skip | ((first | ((with_reducible refine pre_alloc _ rfl ?_); refine lZ hp rfl zero44 ?_; clear hp; intro b w1 hp) | ((with_reducible refine pre_box _ _ rfl ?_); refine lB hp rfl (slot_tmp rfl) rfl ?_; clear hp; intro b w1 hp) | ((with_reducible refine pre_load _ _ rfl ?_); first | refine lO hp rfl (slot_tmp rfl) (by with_reducible first | exact cell3 | exact cell4 | exact cell24 | exact cell101) aa5 ?_ | refine lA hp rfl (slot_tmp rfl) agg44 aa5 ?_) | ((with_reducible refine pre_store _ _ _ rfl ?_); (first | refine sO hp rfl (slot_tmp rfl) (by with_reducible first | exact cell3 | exact cell4 | exact cell24 | exact cell101) aa5 ?_ | refine sA hp rfl (slot_tmp rfl) (slot_tmp rfl) agg44 aa5 ?_ | refine sG hp rfl (slot_tmp rfl) (slot_tmp rfl) agg44 aa5 ?_); clear hp; intro w1 hp; simp only [spl, List.set_cons_zero, List.set_cons_succ] at hp) | ((with_reducible refine pre_build _ _ _ rfl ?_); refine lS hp rfl (by intro w; go_simp; rfl) ?_; clear hp; intro b w1 hp; simp only [List.length_cons, List.length_nil, Nat.reduceAdd] at hp)); simp only [put_some, put_none, List.set_cons_succ, List.set_cons_zero]))
        go_roundg (gk - 1)
        case measure => omega
        case rel => exact ⟨1, by omega, rfl, fun _ => HA.out, by omega, hp⟩
      · have HA : RowKit.Hid (orI a b = a) := Lib.hid (by simp [orI, ha])
        have e0 : (a != 0) = true := by simp [ha]
        clear ha
        go_wp2_with (first | go_skip | ((first | ((with_reducible refine pre_alloc _ rfl ?_); refine lZ hp rfl zero44 ?_; clear hp; intro b w1 hp) | ((with_reducible refine pre_box _ _ rfl ?_); refine lB hp rfl (slot_tmp rfl) rfl ?_; clear hp; intro b w1 hp) | ((with_reducible refine pre_load _ _ rfl ?_); first | refine lO hp rfl (slot_tmp rfl) (by with_reducible first | exact cell3 | exact cell4 | exact cell24 | exact cell101) aa5 ?_ | refine lA hp rfl (slot_tmp rfl) agg44 aa5 ?_) | ((with_reducible refine pre_store _ _ _ rfl ?_); (first | refine sO hp rfl (slot_tmp rfl) (by with_reducible first | exact cell3 | exact cell4 | exact cell24 | exact cell101) aa5 ?_ | refine sA hp rfl (slot_tmp rfl) (slot_tmp rfl) agg44 aa5 ?_ | refine sG hp rfl (slot_tmp rfl) (slot_tmp rfl) agg44 aa5 ?_); clear hp; intro w1 hp; simp only [spl, List.set_cons_zero, List.set_cons_succ] at hp) | ((with_reducible refine pre_build _ _ _ rfl ?_); refine lS hp rfl (by intro w; go_simp; rfl) ?_; clear hp; intro b w1 hp; simp only [List.length_cons, List.length_nil, Nat.reduceAdd] at hp)); simp only [put_some, put_none, List.set_cons_succ, List.set_cons_zero]))
        go_ret
        exact ⟨ret_int HA.out.symm, hp⟩
    · have HA0 := Lib.hid (h0 (by omega))
      have HA : RowKit.Hid (orI a b = b) := Lib.hid (by simp [orI, h0 (by omega)])
      clear h0 h1
      by_cases hb : b = 0
      · have HB := Lib.hid hb
        have e0 : (b != 0) = false := by simp [hb]
        clear hb
        go_wp2_with (first | go_skip | ((first | ((with_reducible refine pre_alloc _ rfl ?_); refine lZ hp rfl zero44 ?_; clear hp; intro b w1 hp) | ((with_reducible refine pre_box _ _ rfl ?_); refine lB hp rfl (slot_tmp rfl) rfl ?_; clear hp; intro b w1 hp) | ((with_reducible refine pre_load _ _ rfl ?_); first | refine lO hp rfl (slot_tmp rfl) (by with_reducible first | exact cell3 | exact cell4 | exact cell24 | exact cell101) aa5 ?_ | refine lA hp rfl (slot_tmp rfl) agg44 aa5 ?_) | ((with_reducible refine pre_store _ _ _ rfl ?_); (first | refine sO hp rfl (slot_tmp rfl) (by with_reducible first | exact cell3 | exact cell4 | exact cell24 | exact cell101) aa5 ?_ | refine sA hp rfl (slot_tmp rfl) (slot_tmp rfl) agg44 aa5 ?_ | refine sG hp rfl (slot_tmp rfl) (slot_tmp rfl) agg44 aa5 ?_); clear hp; intro w1 hp; simp only [spl, List.set_cons_zero, List.set_cons_succ] at hp) | ((with_reducible refine pre_build _ _ _ rfl ?_); refine lS hp rfl (by intro w; go_simp; rfl) ?_; clear hp; intro b w1 hp; simp only [List.length_cons, List.length_nil, Nat.reduceAdd] at hp)); simp only [put_some, put_none, List.set_cons_succ, List.set_cons_zero]))
        go_roundg (gk - 1)
        case measure => omega
        case rel => exact ⟨2, by omega, rfl, fun _ => HA0.out, fun _ => HB.out, hp⟩
      · have e0 : (b != 0) = true := by simp [hb]
        clear hb
        go_wp2_with (first | go_skip | ((first | ((with_reducible refine pre_alloc _ rfl ?_); refine lZ hp rfl zero44 ?_; clear hp; intro b w1 hp) | ((with_reducible refine pre_box _ _ rfl ?_); refine lB hp rfl (slot_tmp rfl) rfl ?_; clear hp; intro b w1 hp) | ((with_reducible refine pre_load _ _ rfl ?_); first | refine lO hp rfl (slot_tmp rfl) (by with_reducible first | exact cell3 | exact cell4 | exact cell24 | exact cell101) aa5 ?_ | refine lA hp rfl (slot_tmp rfl) agg44 aa5 ?_) | ((with_reducible refine pre_store _ _ _ rfl ?_); (first | refine sO hp rfl (slot_tmp rfl) (by with_reducible first | exact cell3 | exact cell4 | exact cell24 | exact cell101) aa5 ?_ | refine sA hp rfl (slot_tmp rfl) (slot_tmp rfl) agg44 aa5 ?_ | refine sG hp rfl (slot_tmp rfl) (slot_tmp rfl) agg44 aa5 ?_); clear hp; intro w1 hp; simp only [spl, List.set_cons_zero, List.set_cons_succ] at hp) | ((with_reducible refine pre_build _ _ _ rfl ?_); refine lS hp rfl (by intro w; go_simp; rfl) ?_; clear hp; intro b w1 hp; simp only [List.length_cons, List.length_nil, Nat.reduceAdd] at hp)); simp only [put_some, put_none, List.set_cons_succ, List.set_cons_zero]))
        go_ret
        exact ⟨ret_int HA.out.symm, hp⟩
    · have HA : RowKit.Hid (orI a b = 0) := Lib.hid (by simp [orI, h0 (by omega), h1 (by omega)])
      clear h0 h1
      go_wp2_with (first | go_skip | ((first | ((with_reducible refine pre_alloc _ rfl ?_); refine lZ hp rfl zero44 ?_; clear hp; intro b w1 hp) | ((with_reducible refine pre_box _ _ rfl ?_); refine lB hp rfl (slot_tmp rfl) rfl ?_; clear hp; intro b w1 hp) | ((with_reducible refine pre_load _ _ rfl ?_); first | refine lO hp rfl (slot_tmp rfl) (by with_reducible first | exact cell3 | exact cell4 | exact cell24 | exact cell101) aa5 ?_ | refine lA hp rfl (slot_tmp rfl) agg44 aa5 ?_) | ((with_reducible refine pre_store _ _ _ rfl ?_); (first | refine sO hp rfl (slot_tmp rfl) (by with_reducible first | exact cell3 | exact cell4 | exact cell24 | exact cell101) aa5 ?_ | refine sA hp rfl (slot_tmp rfl) (slot_tmp rfl) agg44 aa5 ?_ | refine sG hp rfl (slot_tmp rfl) (slot_tmp rfl) agg44 aa5 ?_); clear hp; intro w1 hp; simp only [spl, List.set_cons_zero, List.set_cons_succ] at hp) | ((with_reducible refine pre_build _ _ _ rfl ?_); refine lS hp rfl (by intro w; go_simp; rfl) ?_; clear hp; intro b w1 hp; simp only [List.length_cons, List.length_nil, Nat.reduceAdd] at hp)); simp only [put_some, put_none, List.set_cons_succ, List.set_cons_zero]))
      go_ret
      exact ⟨ret_int HA.out.symm, hp⟩
theorem get_p {l : List Bl} {i : Nat} {x : Bl} (h : l[i]? = some x) : (l.flatMap blV)[i * 2]? = some (.int .i64 x.p) := flat_get blV 2 blV_len l i 0 x _ h rfl
theorem get_o {l : List Bl} {i : Nat} {x : Bl} (h : l[i]? = some x) : (l.flatMap blV)[i * 2 + 1]? = some (.int .i64 x.o) := flat_get blV 2 blV_len l i 1 x _ h rfl
set_option maxRecDepth 100000 in
set_option maxHeartbeats 4000000 in
theorem less183 {B : Nat} {w0 w : World} {bb g cap : Nat} {l : List Bl} {M : List Blk} (hp : QHp B w0 w bb g cap l M) (hl : l.length ≤ 2000) {i k : Nat} {x y : Bl} (hx : l[i]? = some x) (hy : l[k]? = some y) :
    Calls Try.prog 183 #[.pointer (some ⟨bb, 0, none⟩), .int .i64 i, .int .i64 k] w fun e w' => e = .returned (.bool (lessB x y)) ∧ QHp B w0 w' bb g cap l M := by
  have hi := (List.getElem?_eq_some_iff.1 hx).1
  have hk := (List.getElem?_eq_some_iff.1 hy).1
  have e1 : (0 : Int) ≤ (i : Int) := by omega
  have e2 : (i : Int) < (l.length : Int) := by omega
  have e3 : (0 : Int) ≤ (k : Int) := by omega
  have e4 : (k : Int) < (l.length : Int) := by omega
  have HXP := Lib.hid (get_p hx)
  have HXO := Lib.hid (get_o hx)
  have HYP := Lib.hid (get_p hy)
  have HYO := Lib.hid (get_o hy)
  have HLS := Lib.hid (less_or x y)
  clear hx hy hi hk
  unfold QHp at hp ⊢
  generalize l.flatMap blV = xs at hp HXP HXO HYP HYO ⊢
  obtain ⟨xp, xo⟩ := x
  obtain ⟨yp, yo⟩ := y
  simp only at HXP HXO HYP HYO HLS
  go_enter Try.func183, Try.ntmps183
  go_wp2_with (first | go_skip | ((first | ((with_reducible refine pre_alloc _ rfl ?_); refine lZ hp rfl zero44 ?_; clear hp; intro b w1 hp) | ((with_reducible refine pre_box _ _ rfl ?_); refine lB hp rfl (slot_tmp rfl) rfl ?_; clear hp; intro b w1 hp) | ((with_reducible refine pre_load _ _ rfl ?_); first | refine lO hp rfl (slot_tmp rfl) (by with_reducible first | exact cell3 | exact cell4 | exact cell24 | exact cell101) aa5 ?_ | refine lA hp rfl (slot_tmp rfl) agg44 aa5 ?_) | ((with_reducible refine pre_store _ _ _ rfl ?_); (first | refine sO hp rfl (slot_tmp rfl) (by with_reducible first | exact cell3 | exact cell4 | exact cell24 | exact cell101) aa5 ?_ | refine sA hp rfl (slot_tmp rfl) (slot_tmp rfl) agg44 aa5 ?_ | refine sG hp rfl (slot_tmp rfl) (slot_tmp rfl) agg44 aa5 ?_); clear hp; intro w1 hp; simp only [spl, List.set_cons_zero, List.set_cons_succ] at hp) | ((with_reducible refine pre_build _ _ _ rfl ?_); refine lS hp rfl (by intro w; go_simp; rfl) ?_; clear hp; intro b w1 hp; simp only [List.length_cons, List.length_nil, Nat.reduceAdd] at hp)); simp only [put_some, put_none, List.set_cons_succ, List.set_cons_zero]))
  refine wp_region_keeps _ (Keeps.all hp.drew) [] [(0, true), (1, true), (2, true), (3, true), (4, true), (5, true), (6, true), (7, true), (8, true), (9, true), (10, true), (11, true), (12, true), (13, true), (14, true), (15, true), (17, true), (18, true), (19, true), (20, true), (21, true), (22, true), (23, true), (24, true), (25, true), (26, true), (27, true), (28, true), (29, true), (30, true), (31, true), (32, true), (16, false), (33, false), (34, false), (35, false), (36, true), (37, false)] (by kernel_rfl) (by kernel_rfl) rfl (by kernel_rfl) (fun _ _ d _ _ h => by cases d <;> exact h) ?_
  replace hp := hp.drew
  (refine plan_move rfl _ rfl wy ?_)
  try simp only [put_some, put_none, eval_tmp, eval_const, List.set_cons_succ, List.set_cons_zero, List.getD_cons_succ, List.getD_cons_zero, wrap_eq]
  (refine plan_take rfl wy (fun w _ => (by go_simp; try rfl)) ?_)
  try simp only [put_some, put_none, eval_tmp, eval_const, List.set_cons_succ, List.set_cons_zero, List.getD_cons_succ, List.getD_cons_zero, wrap_eq]
  (refine plan_take rfl wy (fun w _ => (by go_simp; try rfl)) ?_)
  try simp only [put_some, put_none, eval_tmp, eval_const, List.set_cons_succ, List.set_cons_zero, List.getD_cons_succ, List.getD_cons_zero, wrap_eq]
  (first | (refine plan_loadAgg rfl _ _ rfl wy _ _ (slot_tmp rfl) _ (fun w hS => hS.loadOne cell3 at1 _ _ HXP.out) ?_) | (refine plan_loadAgg rfl _ _ rfl wy _ _ (slot_tmp rfl) _ (fun w hS => hS.loadOne cell3 at1 _ _ HXO.out) ?_) | (refine plan_loadAgg rfl _ _ rfl wy _ _ (slot_tmp rfl) _ (fun w hS => hS.loadOne cell3 at1 _ _ HYP.out) ?_) | (refine plan_loadAgg rfl _ _ rfl wy _ _ (slot_tmp rfl) _ (fun w hS => hS.loadOne cell3 at1 _ _ HYO.out) ?_) | (refine pO rfl rfl (slot_tmp rfl) cell24 aa5 ?_))
  try simp only [put_some, put_none, eval_tmp, eval_const, List.set_cons_succ, List.set_cons_zero, List.getD_cons_succ, List.getD_cons_zero, wrap_eq]
  (refine plan_move rfl _ rfl wy ?_)
  try simp only [put_some, put_none, eval_tmp, eval_const, List.set_cons_succ, List.set_cons_zero, List.getD_cons_succ, List.getD_cons_zero, wrap_eq]
  (refine plan_take rfl wy (fun w _ => (by go_simp; try rfl)) ?_)
  try simp only [put_some, put_none, eval_tmp, eval_const, List.set_cons_succ, List.set_cons_zero, List.getD_cons_succ, List.getD_cons_zero, wrap_eq]
  (refine plan_take rfl wy (fun w _ => (by go_simp; try rfl)) ?_)
  try simp only [put_some, put_none, eval_tmp, eval_const, List.set_cons_succ, List.set_cons_zero, List.getD_cons_succ, List.getD_cons_zero, wrap_eq]
  (first | (refine plan_loadAgg rfl _ _ rfl wy _ _ (slot_tmp rfl) _ (fun w hS => hS.loadOne cell3 at1 _ _ HXP.out) ?_) | (refine plan_loadAgg rfl _ _ rfl wy _ _ (slot_tmp rfl) _ (fun w hS => hS.loadOne cell3 at1 _ _ HXO.out) ?_) | (refine plan_loadAgg rfl _ _ rfl wy _ _ (slot_tmp rfl) _ (fun w hS => hS.loadOne cell3 at1 _ _ HYP.out) ?_) | (refine plan_loadAgg rfl _ _ rfl wy _ _ (slot_tmp rfl) _ (fun w hS => hS.loadOne cell3 at1 _ _ HYO.out) ?_) | (refine pO rfl rfl (slot_tmp rfl) cell3 aa5 ?_))
  try simp only [put_some, put_none, eval_tmp, eval_const, List.set_cons_succ, List.set_cons_zero, List.getD_cons_succ, List.getD_cons_zero, wrap_eq]
  (refine plan_move rfl _ rfl wy ?_)
  try simp only [put_some, put_none, eval_tmp, eval_const, List.set_cons_succ, List.set_cons_zero, List.getD_cons_succ, List.getD_cons_zero, wrap_eq]
  (refine plan_take rfl wy (fun w _ => (by go_simp; try rfl)) ?_)
  try simp only [put_some, put_none, eval_tmp, eval_const, List.set_cons_succ, List.set_cons_zero, List.getD_cons_succ, List.getD_cons_zero, wrap_eq]
  (refine plan_take rfl wy (fun w _ => (by go_simp; try rfl)) ?_)
  try simp only [put_some, put_none, eval_tmp, eval_const, List.set_cons_succ, List.set_cons_zero, List.getD_cons_succ, List.getD_cons_zero, wrap_eq]
  (first | (refine plan_loadAgg rfl _ _ rfl wy _ _ (slot_tmp rfl) _ (fun w hS => hS.loadOne cell3 at1 _ _ HXP.out) ?_) | (refine plan_loadAgg rfl _ _ rfl wy _ _ (slot_tmp rfl) _ (fun w hS => hS.loadOne cell3 at1 _ _ HXO.out) ?_) | (refine plan_loadAgg rfl _ _ rfl wy _ _ (slot_tmp rfl) _ (fun w hS => hS.loadOne cell3 at1 _ _ HYP.out) ?_) | (refine plan_loadAgg rfl _ _ rfl wy _ _ (slot_tmp rfl) _ (fun w hS => hS.loadOne cell3 at1 _ _ HYO.out) ?_) | (refine pO rfl rfl (slot_tmp rfl) cell24 aa5 ?_))
  try simp only [put_some, put_none, eval_tmp, eval_const, List.set_cons_succ, List.set_cons_zero, List.getD_cons_succ, List.getD_cons_zero, wrap_eq]
  (refine plan_move rfl _ rfl wy ?_)
  try simp only [put_some, put_none, eval_tmp, eval_const, List.set_cons_succ, List.set_cons_zero, List.getD_cons_succ, List.getD_cons_zero, wrap_eq]
  (refine plan_take rfl wy (fun w _ => (by go_simp; try rfl)) ?_)
  try simp only [put_some, put_none, eval_tmp, eval_const, List.set_cons_succ, List.set_cons_zero, List.getD_cons_succ, List.getD_cons_zero, wrap_eq]
  (refine plan_take rfl wy (fun w _ => (by go_simp; try rfl)) ?_)
  try simp only [put_some, put_none, eval_tmp, eval_const, List.set_cons_succ, List.set_cons_zero, List.getD_cons_succ, List.getD_cons_zero, wrap_eq]
  (first | (refine plan_loadAgg rfl _ _ rfl wy _ _ (slot_tmp rfl) _ (fun w hS => hS.loadOne cell3 at1 _ _ HXP.out) ?_) | (refine plan_loadAgg rfl _ _ rfl wy _ _ (slot_tmp rfl) _ (fun w hS => hS.loadOne cell3 at1 _ _ HXO.out) ?_) | (refine plan_loadAgg rfl _ _ rfl wy _ _ (slot_tmp rfl) _ (fun w hS => hS.loadOne cell3 at1 _ _ HYP.out) ?_) | (refine plan_loadAgg rfl _ _ rfl wy _ _ (slot_tmp rfl) _ (fun w hS => hS.loadOne cell3 at1 _ _ HYO.out) ?_) | (refine pO rfl rfl (slot_tmp rfl) cell3 aa5 ?_))
  try simp only [put_some, put_none, eval_tmp, eval_const, List.set_cons_succ, List.set_cons_zero, List.getD_cons_succ, List.getD_cons_zero, wrap_eq]
  (refine plan_move rfl _ rfl wy ?_)
  try simp only [put_some, put_none, eval_tmp, eval_const, List.set_cons_succ, List.set_cons_zero, List.getD_cons_succ, List.getD_cons_zero, wrap_eq]
  (refine plan_take rfl wy (fun w _ => (by go_simp; try rfl)) ?_)
  try simp only [put_some, put_none, eval_tmp, eval_const, List.set_cons_succ, List.set_cons_zero, List.getD_cons_succ, List.getD_cons_zero, wrap_eq]
  (refine plan_take rfl wy (fun w _ => (by go_simp; try rfl)) ?_)
  try simp only [put_some, put_none, eval_tmp, eval_const, List.set_cons_succ, List.set_cons_zero, List.getD_cons_succ, List.getD_cons_zero, wrap_eq]
  (first | (refine plan_loadAgg rfl _ _ rfl wy _ _ (slot_tmp rfl) _ (fun w hS => hS.loadOne cell3 at1 _ _ HXP.out) ?_) | (refine plan_loadAgg rfl _ _ rfl wy _ _ (slot_tmp rfl) _ (fun w hS => hS.loadOne cell3 at1 _ _ HXO.out) ?_) | (refine plan_loadAgg rfl _ _ rfl wy _ _ (slot_tmp rfl) _ (fun w hS => hS.loadOne cell3 at1 _ _ HYP.out) ?_) | (refine plan_loadAgg rfl _ _ rfl wy _ _ (slot_tmp rfl) _ (fun w hS => hS.loadOne cell3 at1 _ _ HYO.out) ?_) | (refine pO rfl rfl (slot_tmp rfl) cell24 aa5 ?_))
  try simp only [put_some, put_none, eval_tmp, eval_const, List.set_cons_succ, List.set_cons_zero, List.getD_cons_succ, List.getD_cons_zero, wrap_eq]
  (refine plan_move rfl _ rfl wy ?_)
  try simp only [put_some, put_none, eval_tmp, eval_const, List.set_cons_succ, List.set_cons_zero, List.getD_cons_succ, List.getD_cons_zero, wrap_eq]
  (refine plan_take rfl wy (fun w _ => (by go_simp; try rfl)) ?_)
  try simp only [put_some, put_none, eval_tmp, eval_const, List.set_cons_succ, List.set_cons_zero, List.getD_cons_succ, List.getD_cons_zero, wrap_eq]
  (refine plan_take rfl wy (fun w _ => (by go_simp; try rfl)) ?_)
  try simp only [put_some, put_none, eval_tmp, eval_const, List.set_cons_succ, List.set_cons_zero, List.getD_cons_succ, List.getD_cons_zero, wrap_eq]
  (first | (refine plan_loadAgg rfl _ _ rfl wy _ _ (slot_tmp rfl) _ (fun w hS => hS.loadOne cell3 at1 _ _ HXP.out) ?_) | (refine plan_loadAgg rfl _ _ rfl wy _ _ (slot_tmp rfl) _ (fun w hS => hS.loadOne cell3 at1 _ _ HXO.out) ?_) | (refine plan_loadAgg rfl _ _ rfl wy _ _ (slot_tmp rfl) _ (fun w hS => hS.loadOne cell3 at1 _ _ HYP.out) ?_) | (refine plan_loadAgg rfl _ _ rfl wy _ _ (slot_tmp rfl) _ (fun w hS => hS.loadOne cell3 at1 _ _ HYO.out) ?_) | (refine pO rfl rfl (slot_tmp rfl) cell3 aa5 ?_))
  try simp only [put_some, put_none, eval_tmp, eval_const, List.set_cons_succ, List.set_cons_zero, List.getD_cons_succ, List.getD_cons_zero, wrap_eq]
  (refine plan_move rfl _ rfl wy ?_)
  try simp only [put_some, put_none, eval_tmp, eval_const, List.set_cons_succ, List.set_cons_zero, List.getD_cons_succ, List.getD_cons_zero, wrap_eq]
  (refine plan_take rfl wy (fun w _ => (by go_simp; try rfl)) ?_)
  try simp only [put_some, put_none, eval_tmp, eval_const, List.set_cons_succ, List.set_cons_zero, List.getD_cons_succ, List.getD_cons_zero, wrap_eq]
  (refine plan_take rfl wy (fun w _ => (by go_simp; try rfl)) ?_)
  try simp only [put_some, put_none, eval_tmp, eval_const, List.set_cons_succ, List.set_cons_zero, List.getD_cons_succ, List.getD_cons_zero, wrap_eq]
  (first | (refine plan_loadAgg rfl _ _ rfl wy _ _ (slot_tmp rfl) _ (fun w hS => hS.loadOne cell3 at1 _ _ HXP.out) ?_) | (refine plan_loadAgg rfl _ _ rfl wy _ _ (slot_tmp rfl) _ (fun w hS => hS.loadOne cell3 at1 _ _ HXO.out) ?_) | (refine plan_loadAgg rfl _ _ rfl wy _ _ (slot_tmp rfl) _ (fun w hS => hS.loadOne cell3 at1 _ _ HYP.out) ?_) | (refine plan_loadAgg rfl _ _ rfl wy _ _ (slot_tmp rfl) _ (fun w hS => hS.loadOne cell3 at1 _ _ HYO.out) ?_) | (refine pO rfl rfl (slot_tmp rfl) cell24 aa5 ?_))
  try simp only [put_some, put_none, eval_tmp, eval_const, List.set_cons_succ, List.set_cons_zero, List.getD_cons_succ, List.getD_cons_zero, wrap_eq]
  (refine plan_move rfl _ rfl wy ?_)
  try simp only [put_some, put_none, eval_tmp, eval_const, List.set_cons_succ, List.set_cons_zero, List.getD_cons_succ, List.getD_cons_zero, wrap_eq]
  (refine plan_take rfl wy (fun w _ => (by go_simp; try rfl)) ?_)
  try simp only [put_some, put_none, eval_tmp, eval_const, List.set_cons_succ, List.set_cons_zero, List.getD_cons_succ, List.getD_cons_zero, wrap_eq]
  (refine plan_take rfl wy (fun w _ => (by go_simp; try rfl)) ?_)
  try simp only [put_some, put_none, eval_tmp, eval_const, List.set_cons_succ, List.set_cons_zero, List.getD_cons_succ, List.getD_cons_zero, wrap_eq]
  (first | (refine plan_loadAgg rfl _ _ rfl wy _ _ (slot_tmp rfl) _ (fun w hS => hS.loadOne cell3 at1 _ _ HXP.out) ?_) | (refine plan_loadAgg rfl _ _ rfl wy _ _ (slot_tmp rfl) _ (fun w hS => hS.loadOne cell3 at1 _ _ HXO.out) ?_) | (refine plan_loadAgg rfl _ _ rfl wy _ _ (slot_tmp rfl) _ (fun w hS => hS.loadOne cell3 at1 _ _ HYP.out) ?_) | (refine plan_loadAgg rfl _ _ rfl wy _ _ (slot_tmp rfl) _ (fun w hS => hS.loadOne cell3 at1 _ _ HYO.out) ?_) | (refine pO rfl rfl (slot_tmp rfl) cell3 aa5 ?_))
  try simp only [put_some, put_none, eval_tmp, eval_const, List.set_cons_succ, List.set_cons_zero, List.getD_cons_succ, List.getD_cons_zero, wrap_eq]
  refine plan_do rfl (fun K hK => ?_)
  go_wp2_with (first | go_skip | (go_at_call 82; (with_reducible refine (cmp82 _ _ _).mono ?_); rintro e w' ⟨rfl, rfl⟩) | (go_at_call 187; (with_reducible refine (or187 _ _ hp).mono ?_); clear hp; rintro e w1 ⟨rfl, hp⟩))
  refine hK.out _ _ (.inr (kall hp)) ?_
  clear hK K
  try simp only [put_some, put_none, eval_tmp, eval_const, List.set_cons_succ, List.set_cons_zero, List.getD_cons_succ, List.getD_cons_zero, wrap_eq]
  refine plan_do rfl (fun K hK => ?_)
  go_wp2_with (first | go_skip | (go_at_call 82; (with_reducible refine (cmp82 _ _ _).mono ?_); rintro e w' ⟨rfl, rfl⟩) | (go_at_call 187; (with_reducible refine (or187 _ _ hp).mono ?_); clear hp; rintro e w1 ⟨rfl, hp⟩))
  refine hK.out _ _ (.inr (kall hp)) ?_
  clear hK K
  try simp only [put_some, put_none, eval_tmp, eval_const, List.set_cons_succ, List.set_cons_zero, List.getD_cons_succ, List.getD_cons_zero, wrap_eq]
  refine plan_do rfl (fun K hK => ?_)
  go_wp2_with (first | go_skip | ((first | ((with_reducible refine pre_alloc _ rfl ?_); refine lZ hp rfl zero44 ?_; clear hp; intro b w1 hp) | ((with_reducible refine pre_box _ _ rfl ?_); refine lB hp rfl (slot_tmp rfl) rfl ?_; clear hp; intro b w1 hp) | ((with_reducible refine pre_load _ _ rfl ?_); first | refine lO hp rfl (slot_tmp rfl) (by with_reducible first | exact cell3 | exact cell4 | exact cell24 | exact cell101) aa5 ?_ | refine lA hp rfl (slot_tmp rfl) agg44 aa5 ?_) | ((with_reducible refine pre_store _ _ _ rfl ?_); (first | refine sO hp rfl (slot_tmp rfl) (by with_reducible first | exact cell3 | exact cell4 | exact cell24 | exact cell101) aa5 ?_ | refine sA hp rfl (slot_tmp rfl) (slot_tmp rfl) agg44 aa5 ?_ | refine sG hp rfl (slot_tmp rfl) (slot_tmp rfl) agg44 aa5 ?_); clear hp; intro w1 hp; simp only [spl, List.set_cons_zero, List.set_cons_succ] at hp) | ((with_reducible refine pre_build _ _ _ rfl ?_); refine lS hp rfl (by intro w; go_simp; rfl) ?_; clear hp; intro b w1 hp; simp only [List.length_cons, List.length_nil, Nat.reduceAdd] at hp)); simp only [put_some, put_none, List.set_cons_succ, List.set_cons_zero]))
  refine hK.out _ _ (.inr (kall hp)) ?_
  clear hK K
  try simp only [put_some, put_none, eval_tmp, eval_const, List.set_cons_succ, List.set_cons_zero, List.getD_cons_succ, List.getD_cons_zero, wrap_eq]
  refine plan_do rfl (fun K hK => ?_)
  go_wp2_with (first | go_skip | (go_at_call 82; (with_reducible refine (cmp82 _ _ _).mono ?_); rintro e w' ⟨rfl, rfl⟩) | (go_at_call 187; (with_reducible refine (or187 _ _ hp).mono ?_); clear hp; rintro e w1 ⟨rfl, hp⟩))
  refine hK.out _ _ (.inr (kall hp)) ?_
  clear hK K
  try simp only [put_some, put_none, eval_tmp, eval_const, List.set_cons_succ, List.set_cons_zero, List.getD_cons_succ, List.getD_cons_zero, wrap_eq]
  (refine plan_take rfl wy (fun w _ => (by go_simp; try rfl)) ?_)
  try simp only [put_some, put_none, eval_tmp, eval_const, List.set_cons_succ, List.set_cons_zero, List.getD_cons_succ, List.getD_cons_zero, wrap_eq]
  refine plan_do rfl (fun K hK => ?_)
  go_wp2_with (first | go_skip | ((first | ((with_reducible refine pre_alloc _ rfl ?_); refine lZ hp rfl zero44 ?_; clear hp; intro b w1 hp) | ((with_reducible refine pre_box _ _ rfl ?_); refine lB hp rfl (slot_tmp rfl) rfl ?_; clear hp; intro b w1 hp) | ((with_reducible refine pre_load _ _ rfl ?_); first | refine lO hp rfl (slot_tmp rfl) (by with_reducible first | exact cell3 | exact cell4 | exact cell24 | exact cell101) aa5 ?_ | refine lA hp rfl (slot_tmp rfl) agg44 aa5 ?_) | ((with_reducible refine pre_store _ _ _ rfl ?_); (first | refine sO hp rfl (slot_tmp rfl) (by with_reducible first | exact cell3 | exact cell4 | exact cell24 | exact cell101) aa5 ?_ | refine sA hp rfl (slot_tmp rfl) (slot_tmp rfl) agg44 aa5 ?_ | refine sG hp rfl (slot_tmp rfl) (slot_tmp rfl) agg44 aa5 ?_); clear hp; intro w1 hp; simp only [spl, List.set_cons_zero, List.set_cons_succ] at hp) | ((with_reducible refine pre_build _ _ _ rfl ?_); refine lS hp rfl (by intro w; go_simp; rfl) ?_; clear hp; intro b w1 hp; simp only [List.length_cons, List.length_nil, Nat.reduceAdd] at hp)); simp only [put_some, put_none, List.set_cons_succ, List.set_cons_zero]))
  refine hK.out _ _ (.inr (kall hp)) ?_
  clear hK K
  try simp only [put_some, put_none, eval_tmp, eval_const, List.set_cons_succ, List.set_cons_zero, List.getD_cons_succ, List.getD_cons_zero, wrap_eq]
  refine plan_nil ?_
  go_wp2_with fail
  go_ret
  exact ⟨ret_bool HLS.out, hp.tail⟩
theorem swap_cells {l : List Bl} {i k : Nat} {x y : Bl} (hx : l[i]? = some x) (hy : l[k]? = some y) : spl (spl (l.flatMap blV) (i * 2) (blV y)) (k * 2) (blV x) = (swapL l i k x y).flatMap blV := by
  have hi := (List.getElem?_eq_some_iff.1 hx).1
  have hk := (List.getElem?_eq_some_iff.1 hy).1
  rw [flat_spl 2 blV_len hi, flat_spl 2 blV_len (by rw [List.length_set]; exact hk)]; rfl
set_option maxRecDepth 100000 in
set_option maxHeartbeats 4000000 in
theorem swap186 {B : Nat} {w0 w : World} {bb g cap : Nat} {l : List Bl} {M : List Blk} (hp : QHp B w0 w bb g cap l M) (hl : l.length ≤ 2000) {i k : Nat} {x y : Bl} (hx : l[i]? = some x) (hy : l[k]? = some y) :
    Calls Try.prog 186 #[.pointer (some ⟨bb, 0, none⟩), .int .i64 i, .int .i64 k] w fun e w' => e = .returned (.tuple #[]) ∧ QHp B w0 w' bb g cap (swapL l i k x y) M := by
  have hi := (List.getElem?_eq_some_iff.1 hx).1
  have hk := (List.getElem?_eq_some_iff.1 hy).1
  have e1 : (0 : Int) ≤ (i : Int) := by omega
  have e2 : (i : Int) < (l.length : Int) := by omega
  have e3 : (0 : Int) ≤ (k : Int) := by omega
  have e4 : (k : Int) < (l.length : Int) := by omega
  have HX := Lib.hid (flat_at 2 blV_len hx)
  have HY := Lib.hid (flat_at 2 blV_len hy)
  have HC := Lib.hid (swap_cells hx hy)
  have HL1 : RowKit.Hid (i * 2 + 2 ≤ (l.flatMap blV).length) := Lib.hid (by rw [lit_len]; omega)
  have HL2 : RowKit.Hid (k * 2 + 2 ≤ (spl (l.flatMap blV) (i * 2) (blV y)).length) := Lib.hid (by rw [length_spl, lit_len]; omega)
  unfold QHp at hp ⊢
  rw [swapL_len, ← HC.out]
  clear hx hy hi hk HC
  generalize l.flatMap blV = xs at hp HX HY HL1 HL2 ⊢
  obtain ⟨xp, xo⟩ := x
  obtain ⟨yp, yo⟩ := y
  simp only [blV] at HX HY HL2 ⊢
  go_enter Try.func186, Try.ntmps186
  go_wp2_with (first | go_skip | ((first | ((with_reducible refine pre_alloc _ rfl ?_); refine lZ hp rfl zero44 ?_; clear hp; intro b w1 hp) | ((with_reducible refine pre_box _ _ rfl ?_); refine lB hp rfl (slot_tmp rfl) rfl ?_; clear hp; intro b w1 hp) | ((with_reducible refine pre_load _ _ rfl ?_); first | refine lO hp rfl (slot_tmp rfl) (by with_reducible first | exact cell3 | exact cell4 | exact cell24 | exact cell101) aa5 ?_ | refine lA hp rfl (slot_tmp rfl) agg44 aa5 ?_) | ((with_reducible refine pre_store _ _ _ rfl ?_); (first | refine sO hp rfl (slot_tmp rfl) (by with_reducible first | exact cell3 | exact cell4 | exact cell24 | exact cell101) aa5 ?_ | refine sA hp rfl (slot_tmp rfl) (slot_tmp rfl) agg44 aa5 ?_ | refine sG hp rfl (slot_tmp rfl) (slot_tmp rfl) agg44 aa5 ?_); clear hp; intro w1 hp; simp only [spl, List.set_cons_zero, List.set_cons_succ] at hp) | ((with_reducible refine pre_build _ _ _ rfl ?_); refine lS hp rfl (by intro w; go_simp; rfl) ?_; clear hp; intro b w1 hp; simp only [List.length_cons, List.length_nil, Nat.reduceAdd] at hp)); simp only [put_some, put_none, List.set_cons_succ, List.set_cons_zero]))
  refine wp_region_keepsP _ (Keeps.all hp.drew) [25, 26, 27] [(0, true), (1, true), (2, true), (3, true), (4, true), (5, true), (6, true), (7, true), (8, true), (9, true), (10, true), (11, true), (12, true), (13, true), (14, true), (15, true), (16, true), (17, true), (18, true), (19, true), (20, true), (21, true), (22, true), (23, true), (24, true), (25, false), (26, false), (27, false)] (by kernel_rfl) (by kernel_rfl) rfl (by kernel_rfl) (fun _ _ d _ _ h => by cases d <;> exact h) ?_
  replace hp := hp.drew
  (refine plan_move rfl _ rfl wy ?_)
  try simp only [put_some, put_none, eval_tmp, eval_const, List.set_cons_succ, List.set_cons_zero, List.getD_cons_succ, List.getD_cons_zero, wrap_eq]
  (refine plan_take rfl wy (fun w _ => (by go_simp; try rfl)) ?_)
  try simp only [put_some, put_none, eval_tmp, eval_const, List.set_cons_succ, List.set_cons_zero, List.getD_cons_succ, List.getD_cons_zero, wrap_eq]
  (refine plan_take rfl wy (fun w _ => (by go_simp; try rfl)) ?_)
  try simp only [put_some, put_none, eval_tmp, eval_const, List.set_cons_succ, List.set_cons_zero, List.getD_cons_succ, List.getD_cons_zero, wrap_eq]
  (first | (refine plan_loadAgg rfl _ _ rfl wy _ _ (slot_tmp rfl) _ (fun w hS => hS.loadAgg agg44 at1 _ _ HX.out rfl) ?_) | (refine plan_loadAgg rfl _ _ rfl wy _ _ (slot_tmp rfl) _ (fun w hS => hS.loadAgg agg44 at1 _ _ HY.out rfl) ?_) | (refine pO rfl rfl (slot_tmp rfl) cell24 aa5 ?_))
  try simp only [put_some, put_none, eval_tmp, eval_const, List.set_cons_succ, List.set_cons_zero, List.getD_cons_succ, List.getD_cons_zero, wrap_eq]
  (refine plan_move rfl _ rfl wy ?_)
  try simp only [put_some, put_none, eval_tmp, eval_const, List.set_cons_succ, List.set_cons_zero, List.getD_cons_succ, List.getD_cons_zero, wrap_eq]
  (refine plan_move rfl _ rfl wy ?_)
  try simp only [put_some, put_none, eval_tmp, eval_const, List.set_cons_succ, List.set_cons_zero, List.getD_cons_succ, List.getD_cons_zero, wrap_eq]
  (refine plan_take rfl wy (fun w _ => (by go_simp; try rfl)) ?_)
  try simp only [put_some, put_none, eval_tmp, eval_const, List.set_cons_succ, List.set_cons_zero, List.getD_cons_succ, List.getD_cons_zero, wrap_eq]
  (refine plan_take rfl wy (fun w _ => (by go_simp; try rfl)) ?_)
  try simp only [put_some, put_none, eval_tmp, eval_const, List.set_cons_succ, List.set_cons_zero, List.getD_cons_succ, List.getD_cons_zero, wrap_eq]
  (first | (refine plan_loadAgg rfl _ _ rfl wy _ _ (slot_tmp rfl) _ (fun w hS => hS.loadAgg agg44 at1 _ _ HX.out rfl) ?_) | (refine plan_loadAgg rfl _ _ rfl wy _ _ (slot_tmp rfl) _ (fun w hS => hS.loadAgg agg44 at1 _ _ HY.out rfl) ?_) | (refine pO rfl rfl (slot_tmp rfl) cell24 aa5 ?_))
  try simp only [put_some, put_none, eval_tmp, eval_const, List.set_cons_succ, List.set_cons_zero, List.getD_cons_succ, List.getD_cons_zero, wrap_eq]
  (refine plan_move rfl _ rfl wy ?_)
  try simp only [put_some, put_none, eval_tmp, eval_const, List.set_cons_succ, List.set_cons_zero, List.getD_cons_succ, List.getD_cons_zero, wrap_eq]
  (refine plan_move rfl _ rfl wy ?_)
  try simp only [put_some, put_none, eval_tmp, eval_const, List.set_cons_succ, List.set_cons_zero, List.getD_cons_succ, List.getD_cons_zero, wrap_eq]
  (refine plan_take rfl wy (fun w _ => (by go_simp; try rfl)) ?_)
  try simp only [put_some, put_none, eval_tmp, eval_const, List.set_cons_succ, List.set_cons_zero, List.getD_cons_succ, List.getD_cons_zero, wrap_eq]
  (refine plan_take rfl wy (fun w _ => (by go_simp; try rfl)) ?_)
  try simp only [put_some, put_none, eval_tmp, eval_const, List.set_cons_succ, List.set_cons_zero, List.getD_cons_succ, List.getD_cons_zero, wrap_eq]
  (first | (refine plan_loadAgg rfl _ _ rfl wy _ _ (slot_tmp rfl) _ (fun w hS => hS.loadAgg agg44 at1 _ _ HX.out rfl) ?_) | (refine plan_loadAgg rfl _ _ rfl wy _ _ (slot_tmp rfl) _ (fun w hS => hS.loadAgg agg44 at1 _ _ HY.out rfl) ?_) | (refine pO rfl rfl (slot_tmp rfl) cell24 aa5 ?_))
  try simp only [put_some, put_none, eval_tmp, eval_const, List.set_cons_succ, List.set_cons_zero, List.getD_cons_succ, List.getD_cons_zero, wrap_eq]
  (refine plan_move rfl _ rfl wy ?_)
  try simp only [put_some, put_none, eval_tmp, eval_const, List.set_cons_succ, List.set_cons_zero, List.getD_cons_succ, List.getD_cons_zero, wrap_eq]
  (refine plan_take rfl wy (fun w _ => (by go_simp; try rfl)) ?_)
  try simp only [put_some, put_none, eval_tmp, eval_const, List.set_cons_succ, List.set_cons_zero, List.getD_cons_succ, List.getD_cons_zero, wrap_eq]
  (first | (refine plan_loadAgg rfl _ _ rfl wy _ _ (slot_tmp rfl) _ (fun w hS => hS.loadAgg agg44 at1 _ _ HX.out rfl) ?_) | (refine plan_loadAgg rfl _ _ rfl wy _ _ (slot_tmp rfl) _ (fun w hS => hS.loadAgg agg44 at1 _ _ HY.out rfl) ?_) | (refine pA rfl rfl (slot_tmp rfl) agg44 aa5 ?_))
  try simp only [put_some, put_none, eval_tmp, eval_const, List.set_cons_succ, List.set_cons_zero, List.getD_cons_succ, List.getD_cons_zero, wrap_eq]
  (refine plan_move rfl _ rfl wy ?_)
  try simp only [put_some, put_none, eval_tmp, eval_const, List.set_cons_succ, List.set_cons_zero, List.getD_cons_succ, List.getD_cons_zero, wrap_eq]
  (refine plan_take rfl wy (fun w _ => (by go_simp; try rfl)) ?_)
  try simp only [put_some, put_none, eval_tmp, eval_const, List.set_cons_succ, List.set_cons_zero, List.getD_cons_succ, List.getD_cons_zero, wrap_eq]
  (refine plan_take rfl wy (fun w _ => (by go_simp; try rfl)) ?_)
  try simp only [put_some, put_none, eval_tmp, eval_const, List.set_cons_succ, List.set_cons_zero, List.getD_cons_succ, List.getD_cons_zero, wrap_eq]
  (first | (refine plan_loadAgg rfl _ _ rfl wy _ _ (slot_tmp rfl) _ (fun w hS => hS.loadAgg agg44 at1 _ _ HX.out rfl) ?_) | (refine plan_loadAgg rfl _ _ rfl wy _ _ (slot_tmp rfl) _ (fun w hS => hS.loadAgg agg44 at1 _ _ HY.out rfl) ?_) | (refine pO rfl rfl (slot_tmp rfl) cell24 aa5 ?_))
  try simp only [put_some, put_none, eval_tmp, eval_const, List.set_cons_succ, List.set_cons_zero, List.getD_cons_succ, List.getD_cons_zero, wrap_eq]
  (refine plan_move rfl _ rfl wy ?_)
  try simp only [put_some, put_none, eval_tmp, eval_const, List.set_cons_succ, List.set_cons_zero, List.getD_cons_succ, List.getD_cons_zero, wrap_eq]
  (refine plan_take rfl wy (fun w _ => (by go_simp; try rfl)) ?_)
  try simp only [put_some, put_none, eval_tmp, eval_const, List.set_cons_succ, List.set_cons_zero, List.getD_cons_succ, List.getD_cons_zero, wrap_eq]
  (first | (refine plan_loadAgg rfl _ _ rfl wy _ _ (slot_tmp rfl) _ (fun w hS => hS.loadAgg agg44 at1 _ _ HX.out rfl) ?_) | (refine plan_loadAgg rfl _ _ rfl wy _ _ (slot_tmp rfl) _ (fun w hS => hS.loadAgg agg44 at1 _ _ HY.out rfl) ?_) | (refine pA rfl rfl (slot_tmp rfl) agg44 aa5 ?_))
  try simp only [put_some, put_none, eval_tmp, eval_const, List.set_cons_succ, List.set_cons_zero, List.getD_cons_succ, List.getD_cons_zero, wrap_eq]
  (refine plan_take rfl wy (fun w _ => (by go_simp; try rfl)) ?_)
  try simp only [put_some, put_none, eval_tmp, eval_const, List.set_cons_succ, List.set_cons_zero, List.getD_cons_succ, List.getD_cons_zero, wrap_eq]
  refine plan_do rfl (fun K hK => ?_)
  go_wp2_with (first | ((with_reducible refine pre_store 44 _ _ rfl ?_); refine wpList_storeAgg_hp hp _ _ _ rfl wy _ _ (slot_tmp rfl) _ (slot_tmp rfl) agg44 1 _ _ _ at1 (by first | exact HL1.out | exact HL2.out) (by rfl) ?_; clear hp; intro w1 hp; simp only [List.set_cons_zero, List.set_cons_succ] at hp; simp only [put_some, put_none, List.set_cons_succ, List.set_cons_zero]))
  refine hK.out _ _ (.inl rfl) ?_
  clear hK K
  try simp only [put_some, put_none, eval_tmp, eval_const, List.set_cons_succ, List.set_cons_zero, List.getD_cons_succ, List.getD_cons_zero, wrap_eq]
  refine plan_do rfl (fun K hK => ?_)
  go_wp2_with (first | ((with_reducible refine pre_store 44 _ _ rfl ?_); refine wpList_storeAgg_hp hp _ _ _ rfl wy _ _ (slot_tmp rfl) _ (slot_tmp rfl) agg44 1 _ _ _ at1 (by first | exact HL1.out | exact HL2.out) (by rfl) ?_; clear hp; intro w1 hp; simp only [List.set_cons_zero, List.set_cons_succ] at hp; simp only [put_some, put_none, List.set_cons_succ, List.set_cons_zero]))
  refine hK.out _ _ (.inl rfl) ?_
  clear hK K
  try simp only [put_some, put_none, eval_tmp, eval_const, List.set_cons_succ, List.set_cons_zero, List.getD_cons_succ, List.getD_cons_zero, wrap_eq]
  refine plan_do rfl (fun K hK => ?_)
  go_wp2_with (first | ((with_reducible refine pre_store 44 _ _ rfl ?_); refine wpList_storeAgg_hp hp _ _ _ rfl wy _ _ (slot_tmp rfl) _ (slot_tmp rfl) agg44 1 _ _ _ at1 (by first | exact HL1.out | exact HL2.out) (by rfl) ?_; clear hp; intro w1 hp; simp only [List.set_cons_zero, List.set_cons_succ] at hp; simp only [put_some, put_none, List.set_cons_succ, List.set_cons_zero]))
  refine hK.out _ _ (.inl rfl) ?_
  clear hK K
  try simp only [put_some, put_none, eval_tmp, eval_const, List.set_cons_succ, List.set_cons_zero, List.getD_cons_succ, List.getD_cons_zero, wrap_eq]
  refine plan_nil ?_
  go_wp2_with fail
  refine bodyPost_end (results_none Try.results186 _ _ _) rfl ⟨rfl, hp⟩
theorem Hp.less {B : Nat} {w0 w : World} {b n : Nat} {l1 l2 : List Value} {t : TypeId} {L : List Blk} (h : Hp B w0 w (⟨b, l1 ++ l2, t, n⟩ :: L)) : Hp B w0 w (⟨b, l1, t, n⟩ :: L) := by
  refine ⟨h.below, h.size, by simpa using h.nodup, fun p hp => ?_⟩
  rcases List.mem_cons.1 hp with rfl | hp
  · obtain ⟨h1, c, h2, h3, h4⟩ := h.own _ (List.mem_cons_self ..)
    refine ⟨h1, c, h2, h3, ?_⟩
    simp only at h4 ⊢
    have := congrArg (List.take l1.length) h4
    rw [List.take_take, List.length_append, Nat.min_eq_left (by omega), List.take_append_of_le_length (Nat.le_refl _), List.take_length] at this
    exact this
  · exact h.own p (List.mem_cons_of_mem _ hp)
theorem mkI44 (x : Value) (w : World) : (Instr.makeInterface 44 x).run Try.prog w = .ok (.iface 44 x) w := run_makeInterface w 44 x (by kernel_rfl)
theorem mkI103 (x : Value) (w : World) : (Instr.makeInterface 103 x).run Try.prog w = .ok (.iface 103 x) w := run_makeInterface w 103 x (by kernel_rfl)
theorem asB44 (v : Value) (w : World) : (Instr.typeAssert (.iface 44 v) 20 44 false).run Try.prog w = .ok v w := by kernel_rfl
set_option maxRecDepth 100000 in
set_option maxHeartbeats 4000000 in
theorem pop184 {B : Nat} {w0 w : World} {bb g cap : Nat} {l : List Bl} {x : Bl} {M : List Blk} (hp : QHp B w0 w bb g cap (l ++ [x]) M) (hl : l.length ≤ 2000) (hcap : l.length + 1 ≤ cap) :
    Calls Try.prog 184 #[.pointer (some ⟨bb, 0, none⟩)] w fun e w' => e = .returned (.iface 44 (.agg #[.int .i64 x.p, .int .i64 x.o])) ∧ QHp B w0 w' bb g cap l M := by
  have HX := Lib.hid (flat_at 2 blV_len (l := l ++ [x]) (i := l.length) (x := x) (by simp))
  unfold QHp at hp ⊢
  rw [List.length_append, List.length_singleton] at hp
  obtain ⟨n, hn⟩ : ∃ n, n = l.length := ⟨_, rfl⟩
  obtain ⟨m, hm⟩ : ∃ m, m = l.length + 1 := ⟨_, rfl⟩
  rw [← hm] at hp
  rw [← hn] at HX hl hcap hm ⊢
  have ew : wrap64 ((m : Int) - 1) = (n : Int) := by rw [IntWalk.wrap64_in _ ⟨by omega, by omega⟩]; omega
  have e1 : (0 : Int) ≤ (n : Int) := by omega
  have e2 : (n : Int) < (m : Int) := by omega
  have e3 : (n : Int) ≤ (cap : Int) := by omega
  have HXS : RowKit.Hid ((l ++ [x]).flatMap blV = l.flatMap blV ++ blV x) := Lib.hid (by simp [List.flatMap_append])
  have HM := Lib.hid hm
  clear hn hm
  obtain ⟨xs, hxs⟩ : ∃ xs, (l ++ [x]).flatMap blV = xs := ⟨_, rfl⟩
  rw [hxs] at hp HX HXS
  clear hxs
  obtain ⟨xp, xo⟩ := x
  simp only [blV] at HX HXS
  have mk := mkI44
  go_enter Try.func184, Try.ntmps184
  go_wp2_with (first | ((with_reducible refine pre_load 44 _ rfl ?_); refine wpList_loadAgg_hp hp _ _ rfl wy _ _ (slot_tmp rfl) _ agg44 _ _ _ _ at1 _ HX.out rfl ?_; simp only [put_some, put_none, List.set_cons_succ, List.set_cons_zero]) | go_skip | ((first | ((with_reducible refine pre_alloc _ rfl ?_); refine lZ hp rfl zero44 ?_; clear hp; intro b w1 hp) | ((with_reducible refine pre_box _ _ rfl ?_); refine lB hp rfl (slot_tmp rfl) rfl ?_; clear hp; intro b w1 hp) | ((with_reducible refine pre_load _ _ rfl ?_); first | refine lO hp rfl (slot_tmp rfl) (by with_reducible first | exact cell3 | exact cell4 | exact cell24 | exact cell101) aa5 ?_ | refine lA hp rfl (slot_tmp rfl) agg44 aa5 ?_) | ((with_reducible refine pre_store _ _ _ rfl ?_); (first | refine sO hp rfl (slot_tmp rfl) (by with_reducible first | exact cell3 | exact cell4 | exact cell24 | exact cell101) aa5 ?_ | refine sA hp rfl (slot_tmp rfl) (slot_tmp rfl) agg44 aa5 ?_ | refine sG hp rfl (slot_tmp rfl) (slot_tmp rfl) agg44 aa5 ?_); clear hp; intro w1 hp; simp only [spl, List.set_cons_zero, List.set_cons_succ] at hp) | ((with_reducible refine pre_build _ _ _ rfl ?_); refine lS hp rfl (by intro w; go_simp; rfl) ?_; clear hp; intro b w1 hp; simp only [List.length_cons, List.length_nil, Nat.reduceAdd] at hp)); simp only [put_some, put_none, List.set_cons_succ, List.set_cons_zero]))
  go_ret
  refine ⟨rfl, ?_⟩
  have h := hp.tail
  rw [HXS.out] at h
  exact ((h.reorder (List.Perm.swap _ _ _)).less).reorder (List.Perm.swap _ _ _)
theorem OwnRow.cons {e : TypeId} {c n : Nat} {v : Value} {xs : List Value} {R : List Blk} (h : OwnRow e c v (n + 1) xs R) : ∃ g cap, v = .slice (some ⟨g, 0, none⟩) (n + 1) cap ∧ n + 1 ≤ cap ∧ cap ≤ maxLen ∧ R = [⟨g, xs, e, cap * c⟩] := by
  obtain ⟨_, ⟨h0, _⟩ | h⟩ := h
  · omega
  · exact h
def Pushed (B : Nat) (w0 : World) (bb : Nat) (l : List Bl) (M : List Blk) (e : Ending) (w' : World) : Prop := e = .returned (.tuple #[]) ∧ ∃ g cap, QHp B w0 w' bb g cap l M ∧ l.length ≤ cap ∧ cap ≤ maxLen
set_option maxRecDepth 100000 in
set_option maxHeartbeats 4000000 in
theorem push185 {B : Nat} {w0 w : World} {bb g cap : Nat} {l : List Bl} {M : List Blk} (hp : QHp B w0 w bb g cap l M) (hl : l.length ≤ 2000) (hcap : l.length ≤ cap) (hmax : cap ≤ maxLen) (x : Bl) :
    Calls Try.prog 185 #[.pointer (some ⟨bb, 0, none⟩), .iface 44 (.agg #[.int .i64 x.p, .int .i64 x.o])] w (Pushed B w0 bb (l ++ [x]) M) := by
  obtain ⟨i0, hi0, hz0, hz1, hz2⟩ := info_parts info44
  have HR : RowKit.Hid (OwnRow 44 2 (.slice (some ⟨g, 0, none⟩) l.length cap) l.length (l.flatMap blV) [⟨g, l.flatMap blV, 44, cap * 2⟩]) := Lib.hid ⟨lit_len l, .inr ⟨g, cap, rfl, hcap, hmax, rfl⟩⟩
  unfold QHp at hp
  have HXS : RowKit.Hid ((l ++ [x]).flatMap blV = l.flatMap blV ++ blV x) := Lib.hid (by simp [List.flatMap_append])
  have sm1 : l.length + 1 ≤ maxLen := by unfold maxLen; omega
  have sm2 : (l.length + 1) * 16 ≤ 140737488355328 := by omega
  clear hcap hmax
  obtain ⟨n, hn⟩ : ∃ n, n = l.length := ⟨_, rfl⟩
  have HN := Lib.hid hn
  rw [← hn] at hp HR sm1 sm2 hl
  clear hn
  generalize l.flatMap blV = xs at hp HR HXS
  obtain ⟨xp, xo⟩ := x
  simp only [blV] at HXS
  simp only
  have asb := asB44
  go_enter Try.func185, Try.ntmps185
  go_wp2_with (first | go_skip | ((first | ((with_reducible refine pre_alloc _ rfl ?_); refine lZ hp rfl zero44 ?_; clear hp; intro b w1 hp) | ((with_reducible refine pre_box _ _ rfl ?_); refine lB hp rfl (slot_tmp rfl) rfl ?_; clear hp; intro b w1 hp) | ((with_reducible refine pre_load _ _ rfl ?_); first | refine lO hp rfl (slot_tmp rfl) (by with_reducible first | exact cell3 | exact cell4 | exact cell24 | exact cell101) aa5 ?_ | refine lA hp rfl (slot_tmp rfl) agg44 aa5 ?_) | ((with_reducible refine pre_store _ _ _ rfl ?_); (first | refine sO hp rfl (slot_tmp rfl) (by with_reducible first | exact cell3 | exact cell4 | exact cell24 | exact cell101) aa5 ?_ | refine sA hp rfl (slot_tmp rfl) (slot_tmp rfl) agg44 aa5 ?_ | refine sG hp rfl (slot_tmp rfl) (slot_tmp rfl) agg44 aa5 ?_); clear hp; intro w1 hp; simp only [spl, List.set_cons_zero, List.set_cons_succ] at hp) | ((with_reducible refine pre_build _ _ _ rfl ?_); refine lS hp rfl (by intro w; go_simp; rfl) ?_; clear hp; intro b w1 hp; simp only [List.length_cons, List.length_nil, Nat.reduceAdd] at hp)); simp only [put_some, put_none, List.set_cons_succ, List.set_cons_zero]))
  refine wp_region_keeps [_] (Keeps.one hp.drew at0) [11] [(0, true), (1, true), (2, true), (3, true), (4, true), (5, true), (6, false), (7, false), (8, false), (9, true), (10, true), (11, false)] (by kernel_rfl) (by kernel_rfl) rfl (by kernel_rfl) (fun _ _ d _ _ h => by cases d <;> exact h) ?_
  replace hp := hp.drew
  (refine plan_move rfl _ rfl wy ?_)
  try simp only [put_some, put_none, eval_tmp, eval_const, List.set_cons_succ, List.set_cons_zero, List.getD_cons_succ, List.getD_cons_zero, wrap_eq]
  (refine plan_move rfl _ rfl wy ?_)
  try simp only [put_some, put_none, eval_tmp, eval_const, List.set_cons_succ, List.set_cons_zero, List.getD_cons_succ, List.getD_cons_zero, wrap_eq]
  (refine plan_take rfl wy (fun w _ => (by go_simp; try rfl)) ?_)
  try simp only [put_some, put_none, eval_tmp, eval_const, List.set_cons_succ, List.set_cons_zero, List.getD_cons_succ, List.getD_cons_zero, wrap_eq]
  (refine plan_take rfl wy (fun w _ => (by go_simp; try rfl)) ?_)
  try simp only [put_some, put_none, eval_tmp, eval_const, List.set_cons_succ, List.set_cons_zero, List.getD_cons_succ, List.getD_cons_zero, wrap_eq]
  (first | (refine pO rfl rfl (slot_tmp rfl) cell24 aa5 ?_))
  try simp only [put_some, put_none, eval_tmp, eval_const, List.set_cons_succ, List.set_cons_zero, List.getD_cons_succ, List.getD_cons_zero, wrap_eq]
  (refine plan_move rfl _ rfl wy ?_)
  try simp only [put_some, put_none, eval_tmp, eval_const, List.set_cons_succ, List.set_cons_zero, List.getD_cons_succ, List.getD_cons_zero, wrap_eq]
  refine plan_do rfl (fun K hK => ?_)
  go_wp2_with (first | ((with_reducible refine pre_append _ _ 24 rfl ?_); refine wpList_appendGrow (K := [_]) (R := [_]) (M := M) hp _ _ _ rfl wy i0 _ 16 Try.underlying24 hi0 hz0 hz1 hz2 rfl (by decide) (slot_tmp rfl) HR.out 1 1 (slot_tmp rfl) (by rfl) (by decide) (by rfl) sm1 sm2 ?_; clear hp HR; intro v' R' w1 hr hp; obtain ⟨g', cap', rfl, hc1, hc2, rfl⟩ := hr.cons; simp only [List.cons_append, List.nil_append] at hp; simp only [put_some, put_none, List.set_cons_succ, List.set_cons_zero]) | go_skip | ((first | ((with_reducible refine pre_alloc _ rfl ?_); refine lZ hp rfl zero44 ?_; clear hp; intro b w1 hp) | ((with_reducible refine pre_box _ _ rfl ?_); refine lB hp rfl (slot_tmp rfl) rfl ?_; clear hp; intro b w1 hp) | ((with_reducible refine pre_load _ _ rfl ?_); first | refine lO hp rfl (slot_tmp rfl) (by with_reducible first | exact cell3 | exact cell4 | exact cell24 | exact cell101) aa5 ?_ | refine lA hp rfl (slot_tmp rfl) agg44 aa5 ?_) | ((with_reducible refine pre_store _ _ _ rfl ?_); (first | refine sO hp rfl (slot_tmp rfl) (by with_reducible first | exact cell3 | exact cell4 | exact cell24 | exact cell101) aa5 ?_ | refine sA hp rfl (slot_tmp rfl) (slot_tmp rfl) agg44 aa5 ?_ | refine sG hp rfl (slot_tmp rfl) (slot_tmp rfl) agg44 aa5 ?_); clear hp; intro w1 hp; simp only [spl, List.set_cons_zero, List.set_cons_succ] at hp) | ((with_reducible refine pre_build _ _ _ rfl ?_); refine lS hp rfl (by intro w; go_simp; rfl) ?_; clear hp; intro b w1 hp; simp only [List.length_cons, List.length_nil, Nat.reduceAdd] at hp)); simp only [put_some, put_none, List.set_cons_succ, List.set_cons_zero]))
  refine hK.out _ _ (.inr (Keeps.one hp aa5)) ?_
  clear hK K
  try simp only [put_some, put_none, eval_tmp, eval_const, List.set_cons_succ, List.set_cons_zero, List.getD_cons_succ, List.getD_cons_zero, wrap_eq]
  refine plan_do rfl (fun K hK => ?_)
  go_wp2_with (first | ((with_reducible refine pre_append _ _ 24 rfl ?_); refine wpList_appendGrow (K := [_]) (R := [_]) (M := M) hp _ _ _ rfl wy i0 _ 16 Try.underlying24 hi0 hz0 hz1 hz2 rfl (by decide) (slot_tmp rfl) HR.out 1 1 (slot_tmp rfl) (by rfl) (by decide) (by rfl) sm1 sm2 ?_; clear hp HR; intro v' R' w1 hr hp; obtain ⟨g', cap', rfl, hc1, hc2, rfl⟩ := hr.cons; simp only [List.cons_append, List.nil_append] at hp; simp only [put_some, put_none, List.set_cons_succ, List.set_cons_zero]) | go_skip | ((first | ((with_reducible refine pre_alloc _ rfl ?_); refine lZ hp rfl zero44 ?_; clear hp; intro b w1 hp) | ((with_reducible refine pre_box _ _ rfl ?_); refine lB hp rfl (slot_tmp rfl) rfl ?_; clear hp; intro b w1 hp) | ((with_reducible refine pre_load _ _ rfl ?_); first | refine lO hp rfl (slot_tmp rfl) (by with_reducible first | exact cell3 | exact cell4 | exact cell24 | exact cell101) aa5 ?_ | refine lA hp rfl (slot_tmp rfl) agg44 aa5 ?_) | ((with_reducible refine pre_store _ _ _ rfl ?_); (first | refine sO hp rfl (slot_tmp rfl) (by with_reducible first | exact cell3 | exact cell4 | exact cell24 | exact cell101) aa5 ?_ | refine sA hp rfl (slot_tmp rfl) (slot_tmp rfl) agg44 aa5 ?_ | refine sG hp rfl (slot_tmp rfl) (slot_tmp rfl) agg44 aa5 ?_); clear hp; intro w1 hp; simp only [spl, List.set_cons_zero, List.set_cons_succ] at hp) | ((with_reducible refine pre_build _ _ _ rfl ?_); refine lS hp rfl (by intro w; go_simp; rfl) ?_; clear hp; intro b w1 hp; simp only [List.length_cons, List.length_nil, Nat.reduceAdd] at hp)); simp only [put_some, put_none, List.set_cons_succ, List.set_cons_zero]))
  refine hK.out _ _ (.inr (Keeps.one hp aa5)) ?_
  clear hK K
  try simp only [put_some, put_none, eval_tmp, eval_const, List.set_cons_succ, List.set_cons_zero, List.getD_cons_succ, List.getD_cons_zero, wrap_eq]
  refine plan_do rfl (fun K hK => ?_)
  go_wp2_with (first | go_skip | ((with_reducible refine pre_append _ _ 24 rfl ?_); refine wpList_appendGrow (K := [_]) (R := [_]) (M := M) hp _ _ _ rfl wy i0 _ 16 Try.underlying24 hi0 hz0 hz1 hz2 rfl (by decide) (slot_tmp rfl) HR.out 1 1 (slot_tmp rfl) (by rfl) (by decide) (by rfl) sm1 sm2 ?_; clear hp HR; intro v' R' w1 hr hp; obtain ⟨g', cap', rfl, hc1, hc2, rfl⟩ := hr.cons; simp only [List.cons_append, List.nil_append] at hp; simp only [put_some, put_none, List.set_cons_succ, List.set_cons_zero]))
  refine hK.out _ _ (.inr (Keeps.one hp aa5)) ?_
  clear hK K
  try simp only [put_some, put_none, eval_tmp, eval_const, List.set_cons_succ, List.set_cons_zero, List.getD_cons_succ, List.getD_cons_zero, wrap_eq]
  (refine plan_take rfl wy (fun w _ => (by go_simp; try rfl)) ?_)
  try simp only [put_some, put_none, eval_tmp, eval_const, List.set_cons_succ, List.set_cons_zero, List.getD_cons_succ, List.getD_cons_zero, wrap_eq]
  (refine plan_take rfl wy (fun w _ => (by go_simp; try rfl)) ?_)
  try simp only [put_some, put_none, eval_tmp, eval_const, List.set_cons_succ, List.set_cons_zero, List.getD_cons_succ, List.getD_cons_zero, wrap_eq]
  refine plan_do rfl (fun K hK => ?_)
  go_wp2_with (first | ((with_reducible refine pre_append _ _ 24 rfl ?_); refine wpList_appendGrow (K := [_]) (R := [_]) (M := M) hp _ _ _ rfl wy i0 _ 16 Try.underlying24 hi0 hz0 hz1 hz2 rfl (by decide) (slot_tmp rfl) HR.out 1 1 (slot_tmp rfl) (by rfl) (by decide) (by rfl) sm1 sm2 ?_; clear hp HR; intro v' R' w1 hr hp; obtain ⟨g', cap', rfl, hc1, hc2, rfl⟩ := hr.cons; simp only [List.cons_append, List.nil_append] at hp; simp only [put_some, put_none, List.set_cons_succ, List.set_cons_zero]) | go_skip | ((first | ((with_reducible refine pre_alloc _ rfl ?_); refine lZ hp rfl zero44 ?_; clear hp; intro b w1 hp) | ((with_reducible refine pre_box _ _ rfl ?_); refine lB hp rfl (slot_tmp rfl) rfl ?_; clear hp; intro b w1 hp) | ((with_reducible refine pre_load _ _ rfl ?_); first | refine lO hp rfl (slot_tmp rfl) (by with_reducible first | exact cell3 | exact cell4 | exact cell24 | exact cell101) aa5 ?_ | refine lA hp rfl (slot_tmp rfl) agg44 aa5 ?_) | ((with_reducible refine pre_store _ _ _ rfl ?_); (first | refine sO hp rfl (slot_tmp rfl) (by with_reducible first | exact cell3 | exact cell4 | exact cell24 | exact cell101) aa5 ?_ | refine sA hp rfl (slot_tmp rfl) (slot_tmp rfl) agg44 aa5 ?_ | refine sG hp rfl (slot_tmp rfl) (slot_tmp rfl) agg44 aa5 ?_); clear hp; intro w1 hp; simp only [spl, List.set_cons_zero, List.set_cons_succ] at hp) | ((with_reducible refine pre_build _ _ _ rfl ?_); refine lS hp rfl (by intro w; go_simp; rfl) ?_; clear hp; intro b w1 hp; simp only [List.length_cons, List.length_nil, Nat.reduceAdd] at hp)); simp only [put_some, put_none, List.set_cons_succ, List.set_cons_zero]))
  refine hK.out _ _ (.inl rfl) ?_
  clear hK K
  try simp only [put_some, put_none, eval_tmp, eval_const, List.set_cons_succ, List.set_cons_zero, List.getD_cons_succ, List.getD_cons_zero, wrap_eq]
  refine plan_nil ?_
  go_wp2_with fail
  refine bodyPost_end (results_none Try.results185 _ _ _) rfl ⟨rfl, g', cap', ?_, ?_, hc2⟩
  · unfold QHp
    rw [HXS.out, List.length_append, List.length_singleton, ← HN.out]
    exact hp
  · rw [List.length_append, List.length_singleton, ← HN.out]
    exact hc1
end Go.Proofs.Ytbflmnoaiklnbaa
