/- The walk of alloc. -/
import Derived.Test.YtbflmnoaiklnbaaDF
import Derived.Test.YtbflmnoaiklnbaaDrawn4
import Derived.Test.YtbflmnoaiklnbaaQA
import Derived.Test.YtbflmnoaiklnbaaQD
set_option linter.unusedSimpArgs false
set_option linter.unusedVariables false
namespace Go.Proofs.Ytbflmnoaiklnbaa
open Go.RowKit
theorem gaDA0 {ty : TypeId} {k : Nat} (h : aggB Try.prog ty k = true := by with_reducible first | exact agg26 | exact agg76 | exact agg44 | exact agg135 | exact agg63 | exact agg61) : aggB Try.prog ty k = true := h
theorem ceDA1 {ty : TypeId} (h : cellB Try.prog ty = true := by with_reducible first | exact cell3 | exact cell4 | exact cell74 | exact cell22 | exact cell24) : cellB Try.prog ty = true := h
/-- Nothing is made. -/
theorem WorkAt.sm {B : Nat} {w0 w : World} {b : Nat} {x : Hv} {K : List Blk} (h : WorkAt B w0 w b x K) {e : Ending} {c v : Int} (he : e = .returned (resV c v)) : WorkPost B w0 b x c v K e w := ⟨he, x, Hv.Sm.refl x, h⟩
set_option maxRecDepth 100000 in
set_option maxHeartbeats 8000000 in
theorem alloc123_large {od : Int} {oa : Option Addr} {os : List Ob} {oc : Nat} {nx t0 t1 t2 t3 : Int} {fa : Option Addr} {fs : List Bl} {fc : Nat} {kk hh ii nn cc vv tt : Int} {RO RF M : List Blk} {nd : Int} (HND : RowKit.Hid (needI nn cc = nd)) (h : nd < 0) {B bw : Nat} {w0 w : World} {K : List Blk} (hR : RowKit.Hid (HvR (⟨od, oa, os, oc, nx, t0, t1, t2, t3, fa, fs, fc⟩ : Hv) RO RF M)) (hp : Hp B w0 w (⟨bw, hvL (⟨od, oa, os, oc, nx, t0, t1, t2, t3, fa, fs, fc⟩ : Hv), 135, 8⟩ :: (RO ++ (RF ++ (M ++ K))))) :
    Calls Try.prog 123 #[.pointer (some ⟨bw, 0, none⟩), .agg #[.int .i64 kk, .int .i64 hh, .int .i64 ii, .int .i64 nn, .int .i64 cc, .int .i64 vv, .int .i64 tt]] w (WorkPost B w0 bw (⟨od, oa, os, oc, nx, t0, t1, t2, t3, fa, fs, fc⟩ : Hv) 53 0 K) := by
  simp only [hvL] at hp
  have e0 : decide (nd < 0) = true := decide_eq_true h
  clear h
  go_enter Try.func123, Try.ntmps123
  go_wp2_with (first | (go_at_call 38; (with_reducible refine (need38 _ _ _).mono ?_); rintro e w' ⟨rfl, rfl⟩; rw [HND.out]) | (go_at_call 75; (with_reducible refine (no75 _ _).mono ?_); rintro e w1 ⟨rfl, hb⟩; replace hp := hp.call hb; clear hb; unfold resV) | go_skip | ((first | ((with_reducible refine pre_alloc _ rfl ?_); refine lZ hp rfl (by with_reducible first | exact zero63 | exact zero44) ?_; clear hp; intro b w1 hp) | ((with_reducible refine pre_box _ _ rfl ?_); refine lB hp rfl (slot_tmp rfl) rfl ?_; clear hp; intro b w1 hp) | ((with_reducible refine pre_load _ _ rfl ?_); first | refine lO hp rfl (slot_tmp rfl) ceDA1 aa14 ?_ | refine lA hp rfl (slot_tmp rfl) gaDA0 aa14 ?_) | ((with_reducible refine pre_store _ _ _ rfl ?_); (first | refine sO hp rfl (slot_tmp rfl) ceDA1 aa14 ?_ | refine sA hp rfl (slot_tmp rfl) (slot_tmp rfl) gaDA0 aa14 ?_ | refine sG hp rfl (slot_tmp rfl) (slot_tmp rfl) gaDA0 aa14 ?_); clear hp; intro w1 hp; simp only [spl, List.set_cons_zero, List.set_cons_succ] at hp) | ((with_reducible refine pre_build _ _ _ rfl ?_); refine lS hp rfl (by intro w; go_simp; rfl) ?_; clear hp; intro b w1 hp; simp only [List.length_cons, List.length_nil, Nat.reduceAdd] at hp)); simp only [put_some, put_none, List.set_cons_succ, List.set_cons_zero]))
  exact bodyPost_ret (results_one (rs := [.cell 4 63]) Try.results123 (.cell rfl (hp.loadAgg agg63 at0 0 _ (by rfl) (by rfl)) .nil)) rfl (WorkAt.sm ⟨RO, RF, M, hR.out, hp.tail.tail⟩ rfl)
set_option maxRecDepth 100000 in
set_option maxHeartbeats 8000000 in
theorem alloc123_limit {od : Int} {oa : Option Addr} {os : List Ob} {oc : Nat} {nx t0 t1 t2 t3 : Int} {fa : Option Addr} {fs : List Bl} {fc : Nat} {kk hh ii nn cc vv tt : Int} {RO RF M : List Blk} {nd : Int} (HND : RowKit.Hid (needI nn cc = nd)) (h : 0 ≤ nd) (h2 : 1000000 < nx) {B bw : Nat} {w0 w : World} {K : List Blk} (hR : RowKit.Hid (HvR (⟨od, oa, os, oc, nx, t0, t1, t2, t3, fa, fs, fc⟩ : Hv) RO RF M)) (hp : Hp B w0 w (⟨bw, hvL (⟨od, oa, os, oc, nx, t0, t1, t2, t3, fa, fs, fc⟩ : Hv), 135, 8⟩ :: (RO ++ (RF ++ (M ++ K))))) :
    Calls Try.prog 123 #[.pointer (some ⟨bw, 0, none⟩), .agg #[.int .i64 kk, .int .i64 hh, .int .i64 ii, .int .i64 nn, .int .i64 cc, .int .i64 vv, .int .i64 tt]] w (WorkPost B w0 bw (⟨od, oa, os, oc, nx, t0, t1, t2, t3, fa, fs, fc⟩ : Hv) 2 0 K) := by
  simp only [hvL] at hp
  have e0 : decide (nd < 0) = false := decide_eq_false (by omega)
  have e1 : decide (1000000 < nx) = true := decide_eq_true h2
  clear h h2
  go_enter Try.func123, Try.ntmps123
  go_wp2_with (first | (go_at_call 38; (with_reducible refine (need38 _ _ _).mono ?_); rintro e w' ⟨rfl, rfl⟩; rw [HND.out]) | (go_at_call 75; (with_reducible refine (no75 _ _).mono ?_); rintro e w1 ⟨rfl, hb⟩; replace hp := hp.call hb; clear hb; unfold resV) | go_skip | ((first | ((with_reducible refine pre_alloc _ rfl ?_); refine lZ hp rfl (by with_reducible first | exact zero63 | exact zero44) ?_; clear hp; intro b w1 hp) | ((with_reducible refine pre_box _ _ rfl ?_); refine lB hp rfl (slot_tmp rfl) rfl ?_; clear hp; intro b w1 hp) | ((with_reducible refine pre_load _ _ rfl ?_); first | refine lO hp rfl (slot_tmp rfl) ceDA1 aa14 ?_ | refine lA hp rfl (slot_tmp rfl) gaDA0 aa14 ?_) | ((with_reducible refine pre_store _ _ _ rfl ?_); (first | refine sO hp rfl (slot_tmp rfl) ceDA1 aa14 ?_ | refine sA hp rfl (slot_tmp rfl) (slot_tmp rfl) gaDA0 aa14 ?_ | refine sG hp rfl (slot_tmp rfl) (slot_tmp rfl) gaDA0 aa14 ?_); clear hp; intro w1 hp; simp only [spl, List.set_cons_zero, List.set_cons_succ] at hp) | ((with_reducible refine pre_build _ _ _ rfl ?_); refine lS hp rfl (by intro w; go_simp; rfl) ?_; clear hp; intro b w1 hp; simp only [List.length_cons, List.length_nil, Nat.reduceAdd] at hp)); simp only [put_some, put_none, List.set_cons_succ, List.set_cons_zero]))
  exact bodyPost_ret (results_one (rs := [.cell 4 63]) Try.results123 (.cell rfl (hp.loadAgg agg63 at0 0 _ (by rfl) (by rfl)) .nil)) rfl (WorkAt.sm ⟨RO, RF, M, hR.out, hp.tail.tail⟩ rfl)
set_option maxRecDepth 100000 in
set_option maxHeartbeats 8000000 in
theorem alloc123_space {od : Int} {oa : Option Addr} {os : List Ob} {oc : Nat} {nx t0 t1 t2 t3 : Int} {fa : Option Addr} {fs : List Bl} {fc : Nat} {kk hh ii nn cc vv tt : Int} {RO RF M : List Blk} {nd c : Int} (HND : RowKit.Hid (needI nn cc = nd)) (h : 0 ≤ nd) (h2 : nx ≤ 1000000) (hc : c = 1 ∨ c = 40) (KT : RowKit.Hid (∀ a k (w : World), RowIs w a (fs.flatMap blV) → Calls Try.prog 24 #[.int .i64 od, .slice a fs.length k, .int .i64 nd] w (TakeNo w c)))
    {B bw : Nat} {w0 w : World} {K : List Blk} (hR : RowKit.Hid (HvR (⟨od, oa, os, oc, nx, t0, t1, t2, t3, fa, fs, fc⟩ : Hv) RO RF M)) (hp : Hp B w0 w (⟨bw, hvL (⟨od, oa, os, oc, nx, t0, t1, t2, t3, fa, fs, fc⟩ : Hv), 135, 8⟩ :: (RO ++ (RF ++ (M ++ K))))) :
    Calls Try.prog 123 #[.pointer (some ⟨bw, 0, none⟩), .agg #[.int .i64 kk, .int .i64 hh, .int .i64 ii, .int .i64 nn, .int .i64 cc, .int .i64 vv, .int .i64 tt]] w (WorkPost B w0 bw (⟨od, oa, os, oc, nx, t0, t1, t2, t3, fa, fs, fc⟩ : Hv) 50 0 K) := by
  simp only [hvL] at hp
  have HRF : RowKit.Hid (Kept RF fun w => RowIs w fa (fs.flatMap blV)) := Lib.hid hR.out.free.keptS
  have e0 : decide (nd < 0) = false := decide_eq_false (by omega)
  have e1 : decide (1000000 < nx) = false := decide_eq_false (by omega)
  clear h h2
  rcases hc with rfl | rfl
  all_goals
    go_enter Try.func123, Try.ntmps123
    go_wp2_with (first | (go_at_call 38; (with_reducible refine (need38 _ _ _).mono ?_); rintro e w' ⟨rfl, rfl⟩; rw [HND.out]) | (go_at_call 75; (with_reducible refine (no75 _ _).mono ?_); rintro e w1 ⟨rfl, hb⟩; replace hp := hp.call hb; clear hb; unfold resV) | go_skip | ((first | ((with_reducible refine pre_alloc _ rfl ?_); refine lZ hp rfl (by with_reducible first | exact zero63 | exact zero44) ?_; clear hp; intro b w1 hp) | ((with_reducible refine pre_box _ _ rfl ?_); refine lB hp rfl (slot_tmp rfl) rfl ?_; clear hp; intro b w1 hp) | ((with_reducible refine pre_load _ _ rfl ?_); first | refine lO hp rfl (slot_tmp rfl) ceDA1 aa14 ?_ | refine lA hp rfl (slot_tmp rfl) gaDA0 aa14 ?_) | ((with_reducible refine pre_store _ _ _ rfl ?_); (first | refine sO hp rfl (slot_tmp rfl) ceDA1 aa14 ?_ | refine sA hp rfl (slot_tmp rfl) (slot_tmp rfl) gaDA0 aa14 ?_ | refine sG hp rfl (slot_tmp rfl) (slot_tmp rfl) gaDA0 aa14 ?_); clear hp; intro w1 hp; simp only [spl, List.set_cons_zero, List.set_cons_succ] at hp) | ((with_reducible refine pre_build _ _ _ rfl ?_); refine lS hp rfl (by intro w; go_simp; rfl) ?_; clear hp; intro b w1 hp; simp only [List.length_cons, List.length_nil, Nat.reduceAdd] at hp)); simp only [put_some, put_none, List.set_cons_succ, List.set_cons_zero]))
    refine wp_region_keepsT [_] (Keeps.one hp.drew at2) [] (.take 0 (.take 1 (.take 2 (.take 3 (.take 4 (.take 5 (.take 6 (.take 7 (.take 8 (.take 9 (.take 10 (.two 11 (.take 12 (.take 13 (.take 14 (.take 15 (.one 16 (.one 17 (.one 18 (.one 19 .nil)))))))) 16 (.one 11 (.take 12 (.take 13 (.take 14 (.take 15 (.one 17 (.one 18 (.one 19 .nil)))))))))))))))))))) (by kernel_rfl) (by kernel_rfl) (by kernel_rfl) (by kernel_rfl) (fun _ _ d _ _ h => by cases d <;> exact h) ?_
    replace hp := hp.drew
    focus
      refine tree_take ?_
      (refine plan_move rfl _ rfl wy ?_)
      refine tree_on ?_
      try simp only [put_some, put_none, eval_tmp, eval_const, List.set_cons_succ, List.set_cons_zero, List.getD_cons_succ, List.getD_cons_zero, wrap_eq]
      refine tree_take ?_
      (refine plan_take rfl wy (fun w _ => (by go_simp; try rfl)) ?_)
      refine tree_on ?_
      try simp only [put_some, put_none, eval_tmp, eval_const, List.set_cons_succ, List.set_cons_zero, List.getD_cons_succ, List.getD_cons_zero, wrap_eq]
      refine tree_take ?_
      (refine plan_take rfl wy (fun w _ => (by go_simp; try rfl)) ?_)
      refine tree_on ?_
      try simp only [put_some, put_none, eval_tmp, eval_const, List.set_cons_succ, List.set_cons_zero, List.getD_cons_succ, List.getD_cons_zero, wrap_eq]
      refine tree_take ?_
      (refine plan_take rfl wy (fun w _ => (by go_simp; try rfl)) ?_)
      refine tree_on ?_
      try simp only [put_some, put_none, eval_tmp, eval_const, List.set_cons_succ, List.set_cons_zero, List.getD_cons_succ, List.getD_cons_zero, wrap_eq]
      refine tree_take ?_
      (first | (refine pO rfl rfl (slot_tmp rfl) cell3 aa5 ?_))
      refine tree_on ?_
      try simp only [put_some, put_none, eval_tmp, eval_const, List.set_cons_succ, List.set_cons_zero, List.getD_cons_succ, List.getD_cons_zero, wrap_eq]
      refine tree_take ?_
      (refine plan_move rfl _ rfl wy ?_)
      refine tree_on ?_
      try simp only [put_some, put_none, eval_tmp, eval_const, List.set_cons_succ, List.set_cons_zero, List.getD_cons_succ, List.getD_cons_zero, wrap_eq]
      refine tree_take ?_
      (refine plan_take rfl wy (fun w _ => (by go_simp; try rfl)) ?_)
      refine tree_on ?_
      try simp only [put_some, put_none, eval_tmp, eval_const, List.set_cons_succ, List.set_cons_zero, List.getD_cons_succ, List.getD_cons_zero, wrap_eq]
      refine tree_take ?_
      (refine plan_take rfl wy (fun w _ => (by go_simp; try rfl)) ?_)
      refine tree_on ?_
      try simp only [put_some, put_none, eval_tmp, eval_const, List.set_cons_succ, List.set_cons_zero, List.getD_cons_succ, List.getD_cons_zero, wrap_eq]
      refine tree_take ?_
      (refine plan_take rfl wy (fun w _ => (by go_simp; try rfl)) ?_)
      refine tree_on ?_
      try simp only [put_some, put_none, eval_tmp, eval_const, List.set_cons_succ, List.set_cons_zero, List.getD_cons_succ, List.getD_cons_zero, wrap_eq]
      refine tree_take ?_
      (first | (refine pO rfl rfl (slot_tmp rfl) cell24 aa5 ?_))
      refine tree_on ?_
      try simp only [put_some, put_none, eval_tmp, eval_const, List.set_cons_succ, List.set_cons_zero, List.getD_cons_succ, List.getD_cons_zero, wrap_eq]
      refine tree_take ?_
      (refine plan_move rfl _ rfl wy ?_)
      refine tree_on ?_
      try simp only [put_some, put_none, eval_tmp, eval_const, List.set_cons_succ, List.set_cons_zero, List.getD_cons_succ, List.getD_cons_zero, wrap_eq]
      refine tree_two (doT_of rfl (fun K hK => ?_)) (doT_of rfl (fun K hK => ?_))
      focus
        go_wp2_with (first | go_skip | (go_at_call 24; (with_reducible refine (KT.out fa fc _ (HRF.out.at hp (fun p hm => by simp [hm]))).mono ?_); rintro e w1 ⟨rfl, hb⟩; replace hp := hp.call hb; clear hb))
        refine hK.out _ _ (.inr (Keeps.one hp aa5)) ?_
        clear hK K
        try simp only [put_some, put_none, eval_tmp, eval_const, List.set_cons_succ, List.set_cons_zero, List.getD_cons_succ, List.getD_cons_zero, wrap_eq]
        refine tree_take ?_
        (refine plan_move rfl _ rfl wy ?_)
        refine tree_on ?_
        try simp only [put_some, put_none, eval_tmp, eval_const, List.set_cons_succ, List.set_cons_zero, List.getD_cons_succ, List.getD_cons_zero, wrap_eq]
        refine tree_take ?_
        (refine plan_take rfl wy (fun w _ => (by go_simp; try rfl)) ?_)
        refine tree_on ?_
        try simp only [put_some, put_none, eval_tmp, eval_const, List.set_cons_succ, List.set_cons_zero, List.getD_cons_succ, List.getD_cons_zero, wrap_eq]
        refine tree_take ?_
        (refine plan_take rfl wy (fun w _ => (by go_simp; try rfl)) ?_)
        refine tree_on ?_
        try simp only [put_some, put_none, eval_tmp, eval_const, List.set_cons_succ, List.set_cons_zero, List.getD_cons_succ, List.getD_cons_zero, wrap_eq]
        refine tree_take ?_
        (refine plan_take rfl wy (fun w _ => (by go_simp; try rfl)) ?_)
        refine tree_on ?_
        try simp only [put_some, put_none, eval_tmp, eval_const, List.set_cons_succ, List.set_cons_zero, List.getD_cons_succ, List.getD_cons_zero, wrap_eq]
        refine tree_one (doT_of rfl (fun K hK => ?_))
        go_wp2_with (first | go_skip | (((with_reducible refine pre_alloc _ rfl ?_); refine lZ hp rfl (by with_reducible first | exact zero63 | exact zero44) ?_; clear hp; intro b w1 hp); simp only [put_some, put_none, List.set_cons_succ, List.set_cons_zero]))
        refine hK.out _ _ (.inr (Keeps.one hp aa5)) ?_
        clear hK K
        try simp only [put_some, put_none, eval_tmp, eval_const, List.set_cons_succ, List.set_cons_zero, List.getD_cons_succ, List.getD_cons_zero, wrap_eq]
        refine tree_one (doT_of rfl (fun K hK => ?_))
        go_wp2_with (first | go_skip | (((with_reducible refine pre_store _ _ _ rfl ?_); (first | refine sO hp rfl (slot_tmp rfl) ceDA1 aa14 ?_ | refine sA hp rfl (slot_tmp rfl) (slot_tmp rfl) gaDA0 aa14 ?_ | refine sG hp rfl (slot_tmp rfl) (slot_tmp rfl) gaDA0 aa14 ?_); clear hp; intro w1 hp; simp only [spl, List.set_cons_zero, List.set_cons_succ] at hp); simp only [put_some, put_none, List.set_cons_succ, List.set_cons_zero]))
        refine hK.out _ _ (.inr (Keeps.one hp aa5)) ?_
        clear hK K
        try simp only [put_some, put_none, eval_tmp, eval_const, List.set_cons_succ, List.set_cons_zero, List.getD_cons_succ, List.getD_cons_zero, wrap_eq]
        refine tree_one (doT_of rfl (fun K hK => ?_))
        go_wp2_with (first | go_skip | ((first | ((with_reducible refine pre_alloc _ rfl ?_); refine lZ hp rfl (by with_reducible first | exact zero63 | exact zero44) ?_; clear hp; intro b w1 hp) | ((with_reducible refine pre_box _ _ rfl ?_); refine lB hp rfl (slot_tmp rfl) rfl ?_; clear hp; intro b w1 hp) | ((with_reducible refine pre_load _ _ rfl ?_); first | refine lO hp rfl (slot_tmp rfl) ceDA1 aa14 ?_ | refine lA hp rfl (slot_tmp rfl) gaDA0 aa14 ?_) | ((with_reducible refine pre_store _ _ _ rfl ?_); (first | refine sO hp rfl (slot_tmp rfl) ceDA1 aa14 ?_ | refine sA hp rfl (slot_tmp rfl) (slot_tmp rfl) gaDA0 aa14 ?_ | refine sG hp rfl (slot_tmp rfl) (slot_tmp rfl) gaDA0 aa14 ?_); clear hp; intro w1 hp; simp only [spl, List.set_cons_zero, List.set_cons_succ] at hp) | ((with_reducible refine pre_build _ _ _ rfl ?_); refine lS hp rfl (by intro w; go_simp; rfl) ?_; clear hp; intro b w1 hp; simp only [List.length_cons, List.length_nil, Nat.reduceAdd] at hp)); simp only [put_some, put_none, List.set_cons_succ, List.set_cons_zero]))
        refine hK.out _ _ (.inr (Keeps.one hp aa5)) ?_
        clear hK K
        try simp only [put_some, put_none, eval_tmp, eval_const, List.set_cons_succ, List.set_cons_zero, List.getD_cons_succ, List.getD_cons_zero, wrap_eq]
        refine tree_one (doT_of rfl (fun K hK => ?_))
        go_wp2_with (first | go_skip | ((first | ((with_reducible refine pre_alloc _ rfl ?_); refine lZ hp rfl (by with_reducible first | exact zero63 | exact zero44) ?_; clear hp; intro b w1 hp) | ((with_reducible refine pre_box _ _ rfl ?_); refine lB hp rfl (slot_tmp rfl) rfl ?_; clear hp; intro b w1 hp) | ((with_reducible refine pre_load _ _ rfl ?_); first | refine lO hp rfl (slot_tmp rfl) ceDA1 aa14 ?_ | refine lA hp rfl (slot_tmp rfl) gaDA0 aa14 ?_) | ((with_reducible refine pre_store _ _ _ rfl ?_); (first | refine sO hp rfl (slot_tmp rfl) ceDA1 aa14 ?_ | refine sA hp rfl (slot_tmp rfl) (slot_tmp rfl) gaDA0 aa14 ?_ | refine sG hp rfl (slot_tmp rfl) (slot_tmp rfl) gaDA0 aa14 ?_); clear hp; intro w1 hp; simp only [spl, List.set_cons_zero, List.set_cons_succ] at hp) | ((with_reducible refine pre_build _ _ _ rfl ?_); refine lS hp rfl (by intro w; go_simp; rfl) ?_; clear hp; intro b w1 hp; simp only [List.length_cons, List.length_nil, Nat.reduceAdd] at hp)); simp only [put_some, put_none, List.set_cons_succ, List.set_cons_zero]))
        refine hK.out _ _ (.inr (Keeps.one hp aa5)) ?_
        clear hK K
        try simp only [put_some, put_none, eval_tmp, eval_const, List.set_cons_succ, List.set_cons_zero, List.getD_cons_succ, List.getD_cons_zero, wrap_eq]
        refine tree_nil ?_
      rotate_left 1
      focus
        go_wp2_with (first | go_skip | (((with_reducible refine pre_alloc _ rfl ?_); refine lZ hp rfl (by with_reducible first | exact zero63 | exact zero44) ?_; clear hp; intro b w1 hp); simp only [put_some, put_none, List.set_cons_succ, List.set_cons_zero]))
        refine hK.out _ _ (.inr (Keeps.one hp aa5)) ?_
        clear hK K
        try simp only [put_some, put_none, eval_tmp, eval_const, List.set_cons_succ, List.set_cons_zero, List.getD_cons_succ, List.getD_cons_zero, wrap_eq]
        refine tree_one (doT_of rfl (fun K hK => ?_))
        go_wp2_with (first | go_skip | (go_at_call 24; (with_reducible refine (KT.out fa fc _ (HRF.out.at hp (fun p hm => by simp [hm]))).mono ?_); rintro e w1 ⟨rfl, hb⟩; replace hp := hp.call hb; clear hb))
        refine hK.out _ _ (.inr (Keeps.one hp aa5)) ?_
        clear hK K
        try simp only [put_some, put_none, eval_tmp, eval_const, List.set_cons_succ, List.set_cons_zero, List.getD_cons_succ, List.getD_cons_zero, wrap_eq]
        refine tree_take ?_
        (refine plan_move rfl _ rfl wy ?_)
        refine tree_on ?_
        try simp only [put_some, put_none, eval_tmp, eval_const, List.set_cons_succ, List.set_cons_zero, List.getD_cons_succ, List.getD_cons_zero, wrap_eq]
        refine tree_take ?_
        (refine plan_take rfl wy (fun w _ => (by go_simp; try rfl)) ?_)
        refine tree_on ?_
        try simp only [put_some, put_none, eval_tmp, eval_const, List.set_cons_succ, List.set_cons_zero, List.getD_cons_succ, List.getD_cons_zero, wrap_eq]
        refine tree_take ?_
        (refine plan_take rfl wy (fun w _ => (by go_simp; try rfl)) ?_)
        refine tree_on ?_
        try simp only [put_some, put_none, eval_tmp, eval_const, List.set_cons_succ, List.set_cons_zero, List.getD_cons_succ, List.getD_cons_zero, wrap_eq]
        refine tree_take ?_
        (refine plan_take rfl wy (fun w _ => (by go_simp; try rfl)) ?_)
        refine tree_on ?_
        try simp only [put_some, put_none, eval_tmp, eval_const, List.set_cons_succ, List.set_cons_zero, List.getD_cons_succ, List.getD_cons_zero, wrap_eq]
        refine tree_one (doT_of rfl (fun K hK => ?_))
        go_wp2_with (first | go_skip | (((with_reducible refine pre_store _ _ _ rfl ?_); (first | refine sO hp rfl (slot_tmp rfl) ceDA1 aa14 ?_ | refine sA hp rfl (slot_tmp rfl) (slot_tmp rfl) gaDA0 aa14 ?_ | refine sG hp rfl (slot_tmp rfl) (slot_tmp rfl) gaDA0 aa14 ?_); clear hp; intro w1 hp; simp only [spl, List.set_cons_zero, List.set_cons_succ] at hp); simp only [put_some, put_none, List.set_cons_succ, List.set_cons_zero]))
        refine hK.out _ _ (.inr (Keeps.one hp aa5)) ?_
        clear hK K
        try simp only [put_some, put_none, eval_tmp, eval_const, List.set_cons_succ, List.set_cons_zero, List.getD_cons_succ, List.getD_cons_zero, wrap_eq]
        refine tree_one (doT_of rfl (fun K hK => ?_))
        go_wp2_with (first | go_skip | ((first | ((with_reducible refine pre_alloc _ rfl ?_); refine lZ hp rfl (by with_reducible first | exact zero63 | exact zero44) ?_; clear hp; intro b w1 hp) | ((with_reducible refine pre_box _ _ rfl ?_); refine lB hp rfl (slot_tmp rfl) rfl ?_; clear hp; intro b w1 hp) | ((with_reducible refine pre_load _ _ rfl ?_); first | refine lO hp rfl (slot_tmp rfl) ceDA1 aa14 ?_ | refine lA hp rfl (slot_tmp rfl) gaDA0 aa14 ?_) | ((with_reducible refine pre_store _ _ _ rfl ?_); (first | refine sO hp rfl (slot_tmp rfl) ceDA1 aa14 ?_ | refine sA hp rfl (slot_tmp rfl) (slot_tmp rfl) gaDA0 aa14 ?_ | refine sG hp rfl (slot_tmp rfl) (slot_tmp rfl) gaDA0 aa14 ?_); clear hp; intro w1 hp; simp only [spl, List.set_cons_zero, List.set_cons_succ] at hp) | ((with_reducible refine pre_build _ _ _ rfl ?_); refine lS hp rfl (by intro w; go_simp; rfl) ?_; clear hp; intro b w1 hp; simp only [List.length_cons, List.length_nil, Nat.reduceAdd] at hp)); simp only [put_some, put_none, List.set_cons_succ, List.set_cons_zero]))
        refine hK.out _ _ (.inr (Keeps.one hp aa5)) ?_
        clear hK K
        try simp only [put_some, put_none, eval_tmp, eval_const, List.set_cons_succ, List.set_cons_zero, List.getD_cons_succ, List.getD_cons_zero, wrap_eq]
        refine tree_one (doT_of rfl (fun K hK => ?_))
        go_wp2_with (first | go_skip | ((first | ((with_reducible refine pre_alloc _ rfl ?_); refine lZ hp rfl (by with_reducible first | exact zero63 | exact zero44) ?_; clear hp; intro b w1 hp) | ((with_reducible refine pre_box _ _ rfl ?_); refine lB hp rfl (slot_tmp rfl) rfl ?_; clear hp; intro b w1 hp) | ((with_reducible refine pre_load _ _ rfl ?_); first | refine lO hp rfl (slot_tmp rfl) ceDA1 aa14 ?_ | refine lA hp rfl (slot_tmp rfl) gaDA0 aa14 ?_) | ((with_reducible refine pre_store _ _ _ rfl ?_); (first | refine sO hp rfl (slot_tmp rfl) ceDA1 aa14 ?_ | refine sA hp rfl (slot_tmp rfl) (slot_tmp rfl) gaDA0 aa14 ?_ | refine sG hp rfl (slot_tmp rfl) (slot_tmp rfl) gaDA0 aa14 ?_); clear hp; intro w1 hp; simp only [spl, List.set_cons_zero, List.set_cons_succ] at hp) | ((with_reducible refine pre_build _ _ _ rfl ?_); refine lS hp rfl (by intro w; go_simp; rfl) ?_; clear hp; intro b w1 hp; simp only [List.length_cons, List.length_nil, Nat.reduceAdd] at hp)); simp only [put_some, put_none, List.set_cons_succ, List.set_cons_zero]))
        refine hK.out _ _ (.inr (Keeps.one hp aa5)) ?_
        clear hK K
        try simp only [put_some, put_none, eval_tmp, eval_const, List.set_cons_succ, List.set_cons_zero, List.getD_cons_succ, List.getD_cons_zero, wrap_eq]
        refine tree_nil ?_
      rotate_left 1
  all_goals
    go_wp2_with (first | (go_at_call 38; (with_reducible refine (need38 _ _ _).mono ?_); rintro e w' ⟨rfl, rfl⟩; rw [HND.out]) | (go_at_call 75; (with_reducible refine (no75 _ _).mono ?_); rintro e w1 ⟨rfl, hb⟩; replace hp := hp.call hb; clear hb; unfold resV) | go_skip | ((first | ((with_reducible refine pre_alloc _ rfl ?_); refine lZ hp rfl (by with_reducible first | exact zero63 | exact zero44) ?_; clear hp; intro b w1 hp) | ((with_reducible refine pre_box _ _ rfl ?_); refine lB hp rfl (slot_tmp rfl) rfl ?_; clear hp; intro b w1 hp) | ((with_reducible refine pre_load _ _ rfl ?_); first | refine lO hp rfl (slot_tmp rfl) ceDA1 aa14 ?_ | refine lA hp rfl (slot_tmp rfl) gaDA0 aa14 ?_) | ((with_reducible refine pre_store _ _ _ rfl ?_); (first | refine sO hp rfl (slot_tmp rfl) ceDA1 aa14 ?_ | refine sA hp rfl (slot_tmp rfl) (slot_tmp rfl) gaDA0 aa14 ?_ | refine sG hp rfl (slot_tmp rfl) (slot_tmp rfl) gaDA0 aa14 ?_); clear hp; intro w1 hp; simp only [spl, List.set_cons_zero, List.set_cons_succ] at hp) | ((with_reducible refine pre_build _ _ _ rfl ?_); refine lS hp rfl (by intro w; go_simp; rfl) ?_; clear hp; intro b w1 hp; simp only [List.length_cons, List.length_nil, Nat.reduceAdd] at hp)); simp only [put_some, put_none, List.set_cons_succ, List.set_cons_zero]))
    exact bodyPost_ret (results_one (rs := [.cell 4 63]) Try.results123 (.cell rfl (hp.loadAgg agg63 at1 0 _ (by rfl) (by rfl)) .nil)) rfl (WorkAt.sm ⟨RO, RF, M, hR.out, hp.tail.tail.tail⟩ rfl)
theorem zeros_cells (m : Nat) : (zerosI m).flatMap iV = List.replicate m (.int .i64 0) := by
  rw [ints_map]; simp [zerosI]
theorem own_zeros (g m : Nat) (hm : m ≤ 100) : OwnRow 3 1 (.slice (some ⟨g, 0, none⟩) (zerosI m).length m) (zerosI m).length ((zerosI m).flatMap iV) [⟨g, List.replicate m (.int .i64 0), 3, m⟩] := by
  have hl : (zerosI m).length = m := by simp [zerosI]
  refine ⟨ints_len _, .inr ⟨g, m, rfl, by rw [hl]; exact Nat.le_refl _, by unfold maxLen; omega, ?_⟩⟩
  rw [zeros_cells, Nat.mul_one]
theorem zeros_len (m : Nat) : (zerosI m).length = m := by simp [zerosI]
theorem ObsSm.snocs (l : List Ob) {x y : Ob} (h : x.Sm y) : ObsSm (l ++ [x]) (l ++ [y]) := by
  refine ⟨by simp, fun i a b h1 h2 => ?_⟩
  rcases Nat.lt_or_ge i l.length with hi | hi
  · rw [List.getElem?_append_left hi] at h1 h2
    rw [h1] at h2; injection h2 with h2; subst h2; exact Ob.Sm.rfl_ _
  · rw [List.getElem?_append_right hi] at h1 h2
    have h3 : i - l.length = 0 := by
      have := (List.getElem?_eq_some_iff.1 h1).1
      simp at this; omega
    rw [h3] at h1 h2
    simp at h1 h2
    subst h1 h2
    exact h
theorem pre_mk {P : Program} {ops : Array Oper} {rest : List Oper} {o : Oper} {a : Act} {w : World} {Q : Exit → Act → World → Prop} (t : TypeId) (x y : Operand) (_ : o.op = .makeSlice t x y) (h : wpList P ops Q (o :: rest) a w) : wpList P ops Q (o :: rest) a w := h
set_option maxRecDepth 100000 in
set_option maxHeartbeats 16000000 in
theorem alloc123_ok {od : Int} {oa : Option Addr} {os : List Ob} {oc : Nat} {nx t0 t1 t2 t3 : Int} {fa : Option Addr} {fs : List Bl} {fc : Nat} {kk hh ii vv tt : Int} {m k : Nat} {RO RF M : List Blk} {nd tp to : Int}
    (HND : RowKit.Hid (needI m k = nd)) (h : 0 ≤ nd) (h1 : nd ≤ od) (hmm : m ≤ 32) (hkk : k ≤ 16) (h2 : nx ≤ 1000000) (h3 : 1 ≤ nx) (hol : os.length ≤ 256) (hfl : fs.length ≤ 600) (HFR : RowKit.Hid (rightB od fs = true)) (HGR : RowKit.Hid (greatB fs nd = true))
    (HUQ : RowKit.Hid (∀ (b : Bl) s, LeastT nd fs b → TakenP nd fs b s → b = ⟨tp, to⟩ ∧ s = takenL fs ⟨tp, to⟩ nd)) {B bw : Nat} {w0 w : World} {KF : List Blk} (hR : RowKit.Hid (HvR (⟨od, oa, os, oc, nx, t0, t1, t2, t3, fa, fs, fc⟩ : Hv) RO RF M)) (hp : Hp B w0 w (⟨bw, hvL (⟨od, oa, os, oc, nx, t0, t1, t2, t3, fa, fs, fc⟩ : Hv), 135, 8⟩ :: (RO ++ (RF ++ (M ++ KF))))) :
    Calls Try.prog 123 #[.pointer (some ⟨bw, 0, none⟩), .agg #[.int .i64 kk, .int .i64 hh, .int .i64 ii, .int .i64 m, .int .i64 k, .int .i64 vv, .int .i64 tt]] w (WorkPost B w0 bw (bornH (⟨od, oa, os, oc, nx, t0, t1, t2, t3, fa, fs, fc⟩ : Hv) ⟨tp, to⟩ nd (zerosI m) (zerosI k)) 0 nx KF) := by
  obtain ⟨i0, hi0, hz0, hz1, hz2⟩ := info_parts info76
  obtain ⟨i1, hi1, hy0, hy1, hy2⟩ := info_parts info3
  simp only [hvL] at hp
  have HRF : RowKit.Hid (Kept RF fun w => RowIs w fa (fs.flatMap blV)) := Lib.hid hR.out.free.keptS
  have HRO : RowKit.Hid (OwnRow 76 5 (.slice oa os.length oc) os.length (os.flatMap obV) RO) := Lib.hid hR.out.objs
  have HN0 := Lib.hid h
  have HND2 := Lib.hid h1
  have sm1 : os.length + 1 ≤ maxLen := by unfold maxLen; omega
  have sm2 : (os.length + 1) * 72 ≤ 140737488355328 := by omega
  have e0 : decide (nd < 0) = false := decide_eq_false (by omega)
  have e1 : decide (1000000 < nx) = false := decide_eq_false (by omega)
  clear h h1
  go_enter Try.func123, Try.ntmps123
  go_wp2_with (first | (go_at_call 38; (with_reducible refine (need38 _ _ _).mono ?_); rintro e w' ⟨rfl, rfl⟩; rw [HND.out]) | go_skip | ((first | ((with_reducible refine pre_alloc _ rfl ?_); refine lZ hp rfl (by with_reducible first | exact zero63 | exact zero44) ?_; clear hp; intro b w1 hp) | ((with_reducible refine pre_box _ _ rfl ?_); refine lB hp rfl (slot_tmp rfl) rfl ?_; clear hp; intro b w1 hp) | ((with_reducible refine pre_load _ _ rfl ?_); first | refine lO hp rfl (slot_tmp rfl) ceDA1 aa14 ?_ | refine lA hp rfl (slot_tmp rfl) gaDA0 aa14 ?_) | ((with_reducible refine pre_store _ _ _ rfl ?_); (first | refine sO hp rfl (slot_tmp rfl) ceDA1 aa14 ?_ | refine sA hp rfl (slot_tmp rfl) (slot_tmp rfl) gaDA0 aa14 ?_ | refine sG hp rfl (slot_tmp rfl) (slot_tmp rfl) gaDA0 aa14 ?_); clear hp; intro w1 hp; simp only [spl, List.set_cons_zero, List.set_cons_succ] at hp) | ((with_reducible refine pre_build _ _ _ rfl ?_); refine lS hp rfl (by intro w; go_simp; rfl) ?_; clear hp; intro b w1 hp; simp only [List.length_cons, List.length_nil, Nat.reduceAdd] at hp)); simp only [put_some, put_none, List.set_cons_succ, List.set_cons_zero]))
  refine wp_region_keepsT [_] (Keeps.one hp.drew at2) [] (.take 0 (.take 1 (.take 2 (.take 3 (.take 4 (.take 5 (.take 6 (.take 7 (.take 8 (.take 9 (.take 10 (.two 11 (.take 12 (.take 13 (.take 14 (.take 15 (.one 16 (.one 17 (.one 18 (.one 19 .nil)))))))) 16 (.one 11 (.take 12 (.take 13 (.take 14 (.take 15 (.one 17 (.one 18 (.one 19 .nil)))))))))))))))))))) (by kernel_rfl) (by kernel_rfl) (by kernel_rfl) (by kernel_rfl) (fun _ _ d _ _ h => by cases d <;> exact h) ?_
  replace hp := hp.drew
  focus
    refine tree_take ?_
    (refine plan_move rfl _ rfl wy ?_)
    refine tree_on ?_
    try simp only [put_some, put_none, eval_tmp, eval_const, List.set_cons_succ, List.set_cons_zero, List.getD_cons_succ, List.getD_cons_zero, wrap_eq]
    refine tree_take ?_
    (refine plan_take rfl wy (fun w _ => (by go_simp; try rfl)) ?_)
    refine tree_on ?_
    try simp only [put_some, put_none, eval_tmp, eval_const, List.set_cons_succ, List.set_cons_zero, List.getD_cons_succ, List.getD_cons_zero, wrap_eq]
    refine tree_take ?_
    (refine plan_take rfl wy (fun w _ => (by go_simp; try rfl)) ?_)
    refine tree_on ?_
    try simp only [put_some, put_none, eval_tmp, eval_const, List.set_cons_succ, List.set_cons_zero, List.getD_cons_succ, List.getD_cons_zero, wrap_eq]
    refine tree_take ?_
    (refine plan_take rfl wy (fun w _ => (by go_simp; try rfl)) ?_)
    refine tree_on ?_
    try simp only [put_some, put_none, eval_tmp, eval_const, List.set_cons_succ, List.set_cons_zero, List.getD_cons_succ, List.getD_cons_zero, wrap_eq]
    refine tree_take ?_
    (first | (refine pO rfl rfl (slot_tmp rfl) cell3 aa5 ?_))
    refine tree_on ?_
    try simp only [put_some, put_none, eval_tmp, eval_const, List.set_cons_succ, List.set_cons_zero, List.getD_cons_succ, List.getD_cons_zero, wrap_eq]
    refine tree_take ?_
    (refine plan_move rfl _ rfl wy ?_)
    refine tree_on ?_
    try simp only [put_some, put_none, eval_tmp, eval_const, List.set_cons_succ, List.set_cons_zero, List.getD_cons_succ, List.getD_cons_zero, wrap_eq]
    refine tree_take ?_
    (refine plan_take rfl wy (fun w _ => (by go_simp; try rfl)) ?_)
    refine tree_on ?_
    try simp only [put_some, put_none, eval_tmp, eval_const, List.set_cons_succ, List.set_cons_zero, List.getD_cons_succ, List.getD_cons_zero, wrap_eq]
    refine tree_take ?_
    (refine plan_take rfl wy (fun w _ => (by go_simp; try rfl)) ?_)
    refine tree_on ?_
    try simp only [put_some, put_none, eval_tmp, eval_const, List.set_cons_succ, List.set_cons_zero, List.getD_cons_succ, List.getD_cons_zero, wrap_eq]
    refine tree_take ?_
    (refine plan_take rfl wy (fun w _ => (by go_simp; try rfl)) ?_)
    refine tree_on ?_
    try simp only [put_some, put_none, eval_tmp, eval_const, List.set_cons_succ, List.set_cons_zero, List.getD_cons_succ, List.getD_cons_zero, wrap_eq]
    refine tree_take ?_
    (first | (refine pO rfl rfl (slot_tmp rfl) cell24 aa5 ?_))
    refine tree_on ?_
    try simp only [put_some, put_none, eval_tmp, eval_const, List.set_cons_succ, List.set_cons_zero, List.getD_cons_succ, List.getD_cons_zero, wrap_eq]
    refine tree_take ?_
    (refine plan_move rfl _ rfl wy ?_)
    refine tree_on ?_
    try simp only [put_some, put_none, eval_tmp, eval_const, List.set_cons_succ, List.set_cons_zero, List.getD_cons_succ, List.getD_cons_zero, wrap_eq]
    refine tree_two (doT_of rfl (fun K hK => ?_)) (doT_of rfl (fun K hK => ?_))
    focus
      go_wp2_with (first | go_skip | (go_at_call 24; (with_reducible refine (take24_ok od nd fs fa fc hfl _ (HRF.out.at hp (fun p hm => by simp [hm])) HFR.out HN0.out HND2.out HGR.out).mono ?_); rintro e w1 ⟨tb, a1, k1, R1, s, rfl, hlt, htk, hr1, hpx⟩; obtain ⟨rfl, rfl⟩ := HUQ.out tb s hlt htk; dsimp only; replace hp := hp.join hpx; have HR1 := Lib.hid hr1; clear hpx hlt htk hr1; try simp only [List.cons_append, List.nil_append, List.append_assoc] at hp))
      refine hK.out _ _ (.inr (Keeps.one hp aa5)) ?_
      clear hK K
      try simp only [put_some, put_none, eval_tmp, eval_const, List.set_cons_succ, List.set_cons_zero, List.getD_cons_succ, List.getD_cons_zero, wrap_eq]
      refine tree_take ?_
      (refine plan_move rfl _ rfl wy ?_)
      refine tree_on ?_
      try simp only [put_some, put_none, eval_tmp, eval_const, List.set_cons_succ, List.set_cons_zero, List.getD_cons_succ, List.getD_cons_zero, wrap_eq]
      refine tree_take ?_
      (refine plan_take rfl wy (fun w _ => (by go_simp; try rfl)) ?_)
      refine tree_on ?_
      try simp only [put_some, put_none, eval_tmp, eval_const, List.set_cons_succ, List.set_cons_zero, List.getD_cons_succ, List.getD_cons_zero, wrap_eq]
      refine tree_take ?_
      (refine plan_take rfl wy (fun w _ => (by go_simp; try rfl)) ?_)
      refine tree_on ?_
      try simp only [put_some, put_none, eval_tmp, eval_const, List.set_cons_succ, List.set_cons_zero, List.getD_cons_succ, List.getD_cons_zero, wrap_eq]
      refine tree_take ?_
      (refine plan_take rfl wy (fun w _ => (by go_simp; try rfl)) ?_)
      refine tree_on ?_
      try simp only [put_some, put_none, eval_tmp, eval_const, List.set_cons_succ, List.set_cons_zero, List.getD_cons_succ, List.getD_cons_zero, wrap_eq]
      refine tree_one (doT_of rfl (fun K hK => ?_))
      go_wp2_with (first | go_skip | (((with_reducible refine pre_alloc _ rfl ?_); refine lZ hp rfl (by with_reducible first | exact zero63 | exact zero44) ?_; clear hp; intro b w1 hp); simp only [put_some, put_none, List.set_cons_succ, List.set_cons_zero]))
      refine hK.out _ _ (.inr (Keeps.one hp aa5)) ?_
      clear hK K
      try simp only [put_some, put_none, eval_tmp, eval_const, List.set_cons_succ, List.set_cons_zero, List.getD_cons_succ, List.getD_cons_zero, wrap_eq]
      refine tree_one (doT_of rfl (fun K hK => ?_))
      go_wp2_with (first | go_skip | (((with_reducible refine pre_store _ _ _ rfl ?_); (first | refine sO hp rfl (slot_tmp rfl) ceDA1 aa14 ?_ | refine sA hp rfl (slot_tmp rfl) (slot_tmp rfl) gaDA0 aa14 ?_ | refine sG hp rfl (slot_tmp rfl) (slot_tmp rfl) gaDA0 aa14 ?_); clear hp; intro w1 hp; simp only [spl, List.set_cons_zero, List.set_cons_succ] at hp); simp only [put_some, put_none, List.set_cons_succ, List.set_cons_zero]))
      refine hK.out _ _ (.inr (Keeps.one hp aa5)) ?_
      clear hK K
      try simp only [put_some, put_none, eval_tmp, eval_const, List.set_cons_succ, List.set_cons_zero, List.getD_cons_succ, List.getD_cons_zero, wrap_eq]
      refine tree_one (doT_of rfl (fun K hK => ?_))
      go_wp2_with (first | go_skip | ((first | ((with_reducible refine pre_alloc _ rfl ?_); refine lZ hp rfl (by with_reducible first | exact zero63 | exact zero44) ?_; clear hp; intro b w1 hp) | ((with_reducible refine pre_box _ _ rfl ?_); refine lB hp rfl (slot_tmp rfl) rfl ?_; clear hp; intro b w1 hp) | ((with_reducible refine pre_load _ _ rfl ?_); first | refine lO hp rfl (slot_tmp rfl) ceDA1 aa14 ?_ | refine lA hp rfl (slot_tmp rfl) gaDA0 aa14 ?_) | ((with_reducible refine pre_store _ _ _ rfl ?_); (first | refine sO hp rfl (slot_tmp rfl) ceDA1 aa14 ?_ | refine sA hp rfl (slot_tmp rfl) (slot_tmp rfl) gaDA0 aa14 ?_ | refine sG hp rfl (slot_tmp rfl) (slot_tmp rfl) gaDA0 aa14 ?_); clear hp; intro w1 hp; simp only [spl, List.set_cons_zero, List.set_cons_succ] at hp) | ((with_reducible refine pre_build _ _ _ rfl ?_); refine lS hp rfl (by intro w; go_simp; rfl) ?_; clear hp; intro b w1 hp; simp only [List.length_cons, List.length_nil, Nat.reduceAdd] at hp)); simp only [put_some, put_none, List.set_cons_succ, List.set_cons_zero]))
      refine hK.out _ _ (.inr (Keeps.one hp aa5)) ?_
      clear hK K
      try simp only [put_some, put_none, eval_tmp, eval_const, List.set_cons_succ, List.set_cons_zero, List.getD_cons_succ, List.getD_cons_zero, wrap_eq]
      refine tree_one (doT_of rfl (fun K hK => ?_))
      go_wp2_with (first | go_skip | ((first | ((with_reducible refine pre_alloc _ rfl ?_); refine lZ hp rfl (by with_reducible first | exact zero63 | exact zero44) ?_; clear hp; intro b w1 hp) | ((with_reducible refine pre_box _ _ rfl ?_); refine lB hp rfl (slot_tmp rfl) rfl ?_; clear hp; intro b w1 hp) | ((with_reducible refine pre_load _ _ rfl ?_); first | refine lO hp rfl (slot_tmp rfl) ceDA1 aa14 ?_ | refine lA hp rfl (slot_tmp rfl) gaDA0 aa14 ?_) | ((with_reducible refine pre_store _ _ _ rfl ?_); (first | refine sO hp rfl (slot_tmp rfl) ceDA1 aa14 ?_ | refine sA hp rfl (slot_tmp rfl) (slot_tmp rfl) gaDA0 aa14 ?_ | refine sG hp rfl (slot_tmp rfl) (slot_tmp rfl) gaDA0 aa14 ?_); clear hp; intro w1 hp; simp only [spl, List.set_cons_zero, List.set_cons_succ] at hp) | ((with_reducible refine pre_build _ _ _ rfl ?_); refine lS hp rfl (by intro w; go_simp; rfl) ?_; clear hp; intro b w1 hp; simp only [List.length_cons, List.length_nil, Nat.reduceAdd] at hp)); simp only [put_some, put_none, List.set_cons_succ, List.set_cons_zero]))
      refine hK.out _ _ (.inr (Keeps.one hp aa5)) ?_
      clear hK K
      try simp only [put_some, put_none, eval_tmp, eval_const, List.set_cons_succ, List.set_cons_zero, List.getD_cons_succ, List.getD_cons_zero, wrap_eq]
      refine tree_nil ?_
    rotate_left 1
    focus
      go_wp2_with (first | go_skip | (((with_reducible refine pre_alloc _ rfl ?_); refine lZ hp rfl (by with_reducible first | exact zero63 | exact zero44) ?_; clear hp; intro b w1 hp); simp only [put_some, put_none, List.set_cons_succ, List.set_cons_zero]))
      refine hK.out _ _ (.inr (Keeps.one hp aa5)) ?_
      clear hK K
      try simp only [put_some, put_none, eval_tmp, eval_const, List.set_cons_succ, List.set_cons_zero, List.getD_cons_succ, List.getD_cons_zero, wrap_eq]
      refine tree_one (doT_of rfl (fun K hK => ?_))
      go_wp2_with (first | go_skip | (go_at_call 24; (with_reducible refine (take24_ok od nd fs fa fc hfl _ (HRF.out.at hp (fun p hm => by simp [hm])) HFR.out HN0.out HND2.out HGR.out).mono ?_); rintro e w1 ⟨tb, a1, k1, R1, s, rfl, hlt, htk, hr1, hpx⟩; obtain ⟨rfl, rfl⟩ := HUQ.out tb s hlt htk; dsimp only; replace hp := hp.join hpx; have HR1 := Lib.hid hr1; clear hpx hlt htk hr1; try simp only [List.cons_append, List.nil_append, List.append_assoc] at hp))
      refine hK.out _ _ (.inr (Keeps.one hp aa5)) ?_
      clear hK K
      try simp only [put_some, put_none, eval_tmp, eval_const, List.set_cons_succ, List.set_cons_zero, List.getD_cons_succ, List.getD_cons_zero, wrap_eq]
      refine tree_take ?_
      (refine plan_move rfl _ rfl wy ?_)
      refine tree_on ?_
      try simp only [put_some, put_none, eval_tmp, eval_const, List.set_cons_succ, List.set_cons_zero, List.getD_cons_succ, List.getD_cons_zero, wrap_eq]
      refine tree_take ?_
      (refine plan_take rfl wy (fun w _ => (by go_simp; try rfl)) ?_)
      refine tree_on ?_
      try simp only [put_some, put_none, eval_tmp, eval_const, List.set_cons_succ, List.set_cons_zero, List.getD_cons_succ, List.getD_cons_zero, wrap_eq]
      refine tree_take ?_
      (refine plan_take rfl wy (fun w _ => (by go_simp; try rfl)) ?_)
      refine tree_on ?_
      try simp only [put_some, put_none, eval_tmp, eval_const, List.set_cons_succ, List.set_cons_zero, List.getD_cons_succ, List.getD_cons_zero, wrap_eq]
      refine tree_take ?_
      (refine plan_take rfl wy (fun w _ => (by go_simp; try rfl)) ?_)
      refine tree_on ?_
      try simp only [put_some, put_none, eval_tmp, eval_const, List.set_cons_succ, List.set_cons_zero, List.getD_cons_succ, List.getD_cons_zero, wrap_eq]
      refine tree_one (doT_of rfl (fun K hK => ?_))
      go_wp2_with (first | go_skip | (((with_reducible refine pre_store _ _ _ rfl ?_); (first | refine sO hp rfl (slot_tmp rfl) ceDA1 aa14 ?_ | refine sA hp rfl (slot_tmp rfl) (slot_tmp rfl) gaDA0 aa14 ?_ | refine sG hp rfl (slot_tmp rfl) (slot_tmp rfl) gaDA0 aa14 ?_); clear hp; intro w1 hp; simp only [spl, List.set_cons_zero, List.set_cons_succ] at hp); simp only [put_some, put_none, List.set_cons_succ, List.set_cons_zero]))
      refine hK.out _ _ (.inr (Keeps.one hp aa5)) ?_
      clear hK K
      try simp only [put_some, put_none, eval_tmp, eval_const, List.set_cons_succ, List.set_cons_zero, List.getD_cons_succ, List.getD_cons_zero, wrap_eq]
      refine tree_one (doT_of rfl (fun K hK => ?_))
      go_wp2_with (first | go_skip | ((first | ((with_reducible refine pre_alloc _ rfl ?_); refine lZ hp rfl (by with_reducible first | exact zero63 | exact zero44) ?_; clear hp; intro b w1 hp) | ((with_reducible refine pre_box _ _ rfl ?_); refine lB hp rfl (slot_tmp rfl) rfl ?_; clear hp; intro b w1 hp) | ((with_reducible refine pre_load _ _ rfl ?_); first | refine lO hp rfl (slot_tmp rfl) ceDA1 aa14 ?_ | refine lA hp rfl (slot_tmp rfl) gaDA0 aa14 ?_) | ((with_reducible refine pre_store _ _ _ rfl ?_); (first | refine sO hp rfl (slot_tmp rfl) ceDA1 aa14 ?_ | refine sA hp rfl (slot_tmp rfl) (slot_tmp rfl) gaDA0 aa14 ?_ | refine sG hp rfl (slot_tmp rfl) (slot_tmp rfl) gaDA0 aa14 ?_); clear hp; intro w1 hp; simp only [spl, List.set_cons_zero, List.set_cons_succ] at hp) | ((with_reducible refine pre_build _ _ _ rfl ?_); refine lS hp rfl (by intro w; go_simp; rfl) ?_; clear hp; intro b w1 hp; simp only [List.length_cons, List.length_nil, Nat.reduceAdd] at hp)); simp only [put_some, put_none, List.set_cons_succ, List.set_cons_zero]))
      refine hK.out _ _ (.inr (Keeps.one hp aa5)) ?_
      clear hK K
      try simp only [put_some, put_none, eval_tmp, eval_const, List.set_cons_succ, List.set_cons_zero, List.getD_cons_succ, List.getD_cons_zero, wrap_eq]
      refine tree_one (doT_of rfl (fun K hK => ?_))
      go_wp2_with (first | go_skip | ((first | ((with_reducible refine pre_alloc _ rfl ?_); refine lZ hp rfl (by with_reducible first | exact zero63 | exact zero44) ?_; clear hp; intro b w1 hp) | ((with_reducible refine pre_box _ _ rfl ?_); refine lB hp rfl (slot_tmp rfl) rfl ?_; clear hp; intro b w1 hp) | ((with_reducible refine pre_load _ _ rfl ?_); first | refine lO hp rfl (slot_tmp rfl) ceDA1 aa14 ?_ | refine lA hp rfl (slot_tmp rfl) gaDA0 aa14 ?_) | ((with_reducible refine pre_store _ _ _ rfl ?_); (first | refine sO hp rfl (slot_tmp rfl) ceDA1 aa14 ?_ | refine sA hp rfl (slot_tmp rfl) (slot_tmp rfl) gaDA0 aa14 ?_ | refine sG hp rfl (slot_tmp rfl) (slot_tmp rfl) gaDA0 aa14 ?_); clear hp; intro w1 hp; simp only [spl, List.set_cons_zero, List.set_cons_succ] at hp) | ((with_reducible refine pre_build _ _ _ rfl ?_); refine lS hp rfl (by intro w; go_simp; rfl) ?_; clear hp; intro b w1 hp; simp only [List.length_cons, List.length_nil, Nat.reduceAdd] at hp)); simp only [put_some, put_none, List.set_cons_succ, List.set_cons_zero]))
      refine hK.out _ _ (.inr (Keeps.one hp aa5)) ?_
      clear hK K
      try simp only [put_some, put_none, eval_tmp, eval_const, List.set_cons_succ, List.set_cons_zero, List.getD_cons_succ, List.getD_cons_zero, wrap_eq]
      refine tree_nil ?_
    rotate_left 1
  all_goals
    go_wp2_with (first | go_skip | ((first | ((with_reducible refine pre_alloc _ rfl ?_); refine lZ hp rfl (by with_reducible first | exact zero63 | exact zero44) ?_; clear hp; intro b w1 hp) | ((with_reducible refine pre_box _ _ rfl ?_); refine lB hp rfl (slot_tmp rfl) rfl ?_; clear hp; intro b w1 hp) | ((with_reducible refine pre_load _ _ rfl ?_); first | refine lO hp rfl (slot_tmp rfl) ceDA1 aa14 ?_ | refine lA hp rfl (slot_tmp rfl) gaDA0 aa14 ?_) | ((with_reducible refine pre_store _ _ _ rfl ?_); (first | refine sO hp rfl (slot_tmp rfl) ceDA1 aa14 ?_ | refine sA hp rfl (slot_tmp rfl) (slot_tmp rfl) gaDA0 aa14 ?_ | refine sG hp rfl (slot_tmp rfl) (slot_tmp rfl) gaDA0 aa14 ?_); clear hp; intro w1 hp; simp only [spl, List.set_cons_zero, List.set_cons_succ] at hp) | ((with_reducible refine pre_build _ _ _ rfl ?_); refine lS hp rfl (by intro w; go_simp; rfl) ?_; clear hp; intro b w1 hp; simp only [List.length_cons, List.length_nil, Nat.reduceAdd] at hp)); simp only [put_some, put_none, List.set_cons_succ, List.set_cons_zero]))
    obtain ⟨bb, rfl⟩ := hp.id0
    obtain ⟨br, rfl⟩ := hp.id1
    obtain ⟨bo, rfl⟩ := hp.id2
    refine wp_region_keepsT [_, _, _] (Keeps.three hp.drew at0 at2 at3) [] (.take 0 (.take 1 (.take 2 (.take 3 (.take 4 (.take 5 (.take 6 (.take 7 (.take 9 (.take 10 (.three 8 (.two 11 (.take 12 (.one 13 (.one 14 .nil))) 13 (.one 11 (.take 12 (.one 14 .nil)))) 11 (.two 8 (.take 12 (.one 13 (.one 14 .nil))) 13 (.one 8 (.take 12 (.one 14 .nil)))) 13 (.two 8 (.one 11 (.take 12 (.one 14 .nil))) 11 (.one 8 (.take 12 (.one 14 .nil))))))))))))))) (by kernel_rfl) (by kernel_rfl) (by kernel_rfl) (by kernel_rfl) (fun _ _ d _ _ h => by cases d <;> exact h) ?_
    replace hp := hp.drew
    focus
      refine tree_take ?_
      (refine plan_move rfl _ rfl wy ?_)
      refine tree_on ?_
      try simp only [put_some, put_none, eval_tmp, eval_const, List.set_cons_succ, List.set_cons_zero, List.getD_cons_succ, List.getD_cons_zero, wrap_eq]
      refine tree_take ?_
      (refine plan_take rfl wy (fun w _ => (by go_simp; try rfl)) ?_)
      refine tree_on ?_
      try simp only [put_some, put_none, eval_tmp, eval_const, List.set_cons_succ, List.set_cons_zero, List.getD_cons_succ, List.getD_cons_zero, wrap_eq]
      refine tree_take ?_
      (refine plan_take rfl wy (fun w _ => (by go_simp; try rfl)) ?_)
      refine tree_on ?_
      try simp only [put_some, put_none, eval_tmp, eval_const, List.set_cons_succ, List.set_cons_zero, List.getD_cons_succ, List.getD_cons_zero, wrap_eq]
      refine tree_take ?_
      (refine plan_take rfl wy (fun w _ => (by go_simp; try rfl)) ?_)
      refine tree_on ?_
      try simp only [put_some, put_none, eval_tmp, eval_const, List.set_cons_succ, List.set_cons_zero, List.getD_cons_succ, List.getD_cons_zero, wrap_eq]
      refine tree_take ?_
      (first | (refine pO rfl rfl (slot_tmp rfl) cell3 aa14 ?_))
      refine tree_on ?_
      try simp only [put_some, put_none, eval_tmp, eval_const, List.set_cons_succ, List.set_cons_zero, List.getD_cons_succ, List.getD_cons_zero, wrap_eq]
      refine tree_take ?_
      (first | (refine pA rfl rfl (slot_tmp rfl) agg44 aa14 ?_))
      refine tree_on ?_
      try simp only [put_some, put_none, eval_tmp, eval_const, List.set_cons_succ, List.set_cons_zero, List.getD_cons_succ, List.getD_cons_zero, wrap_eq]
      refine tree_take ?_
      (refine plan_take rfl wy (fun w _ => (by go_simp; try rfl)) ?_)
      refine tree_on ?_
      try simp only [put_some, put_none, eval_tmp, eval_const, List.set_cons_succ, List.set_cons_zero, List.getD_cons_succ, List.getD_cons_zero, wrap_eq]
      refine tree_take ?_
      (first | (refine pO rfl rfl (slot_tmp rfl) cell3 aa14 ?_))
      refine tree_on ?_
      try simp only [put_some, put_none, eval_tmp, eval_const, List.set_cons_succ, List.set_cons_zero, List.getD_cons_succ, List.getD_cons_zero, wrap_eq]
      refine tree_take ?_
      (refine plan_take rfl wy (fun w _ => (by go_simp; try rfl)) ?_)
      refine tree_on ?_
      try simp only [put_some, put_none, eval_tmp, eval_const, List.set_cons_succ, List.set_cons_zero, List.getD_cons_succ, List.getD_cons_zero, wrap_eq]
      refine tree_take ?_
      (first | (refine pO rfl rfl (slot_tmp rfl) cell3 aa14 ?_))
      refine tree_on ?_
      try simp only [put_some, put_none, eval_tmp, eval_const, List.set_cons_succ, List.set_cons_zero, List.getD_cons_succ, List.getD_cons_zero, wrap_eq]
      refine tree_three (doT_of rfl (fun K hK => ?_)) (doT_of rfl (fun K hK => ?_)) (doT_of rfl (fun K hK => ?_))
      focus
        go_wp2_with (first | ((with_reducible refine pre_mk _ _ _ rfl ?_); refine wpList_makeSlice_hp hp _ _ _ rfl wy 3 i1 _ Try.underlying74 hi1 hy0 hy1 rfl _ (slot_tmp rfl) (slot_tmp rfl) m rfl (by rw [hy2]; omega) (by omega) ?_; clear hp; intro bwd w1 hp; simp only [put_some, put_none, List.set_cons_succ, List.set_cons_zero]) | ((with_reducible refine pre_mk _ _ _ rfl ?_); refine wpList_makeSlice_hp hp _ _ _ rfl wy 3 i1 _ Try.underlying74 hi1 hy0 hy1 rfl _ (slot_tmp rfl) (slot_tmp rfl) k rfl (by rw [hy2]; omega) (by omega) ?_; clear hp; intro bln w1 hp; simp only [put_some, put_none, List.set_cons_succ, List.set_cons_zero]) | ((with_reducible refine pre_alloc 76 rfl ?_); refine lZ hp rfl zero76 ?_; clear hp; intro bx w1 hp; simp only [put_some, put_none, List.set_cons_succ, List.set_cons_zero]) | go_skip | ((first | ((with_reducible refine pre_alloc _ rfl ?_); refine lZ hp rfl (by with_reducible first | exact zero63 | exact zero44) ?_; clear hp; intro b w1 hp) | ((with_reducible refine pre_box _ _ rfl ?_); refine lB hp rfl (slot_tmp rfl) rfl ?_; clear hp; intro b w1 hp) | ((with_reducible refine pre_load _ _ rfl ?_); first | refine lO hp rfl (slot_tmp rfl) ceDA1 aa14 ?_ | refine lA hp rfl (slot_tmp rfl) gaDA0 aa14 ?_) | ((with_reducible refine pre_store _ _ _ rfl ?_); (first | refine sO hp rfl (slot_tmp rfl) ceDA1 aa14 ?_ | refine sA hp rfl (slot_tmp rfl) (slot_tmp rfl) gaDA0 aa14 ?_ | refine sG hp rfl (slot_tmp rfl) (slot_tmp rfl) gaDA0 aa14 ?_); clear hp; intro w1 hp; simp only [spl, List.set_cons_zero, List.set_cons_succ] at hp) | ((with_reducible refine pre_build _ _ _ rfl ?_); refine lS hp rfl (by intro w; go_simp; rfl) ?_; clear hp; intro b w1 hp; simp only [List.length_cons, List.length_nil, Nat.reduceAdd] at hp)); simp only [put_some, put_none, List.set_cons_succ, List.set_cons_zero]))
        refine hK.out _ _ (.inr (Keeps.three hp aa14 aa14 aa14)) ?_
        clear hK K
        try simp only [put_some, put_none, eval_tmp, eval_const, List.set_cons_succ, List.set_cons_zero, List.getD_cons_succ, List.getD_cons_zero, wrap_eq]
        refine tree_two (doT_of rfl (fun K hK => ?_)) (doT_of rfl (fun K hK => ?_))
        focus
          go_wp2_with (first | ((with_reducible refine pre_mk _ _ _ rfl ?_); refine wpList_makeSlice_hp hp _ _ _ rfl wy 3 i1 _ Try.underlying74 hi1 hy0 hy1 rfl _ (slot_tmp rfl) (slot_tmp rfl) m rfl (by rw [hy2]; omega) (by omega) ?_; clear hp; intro bwd w1 hp; simp only [put_some, put_none, List.set_cons_succ, List.set_cons_zero]) | ((with_reducible refine pre_mk _ _ _ rfl ?_); refine wpList_makeSlice_hp hp _ _ _ rfl wy 3 i1 _ Try.underlying74 hi1 hy0 hy1 rfl _ (slot_tmp rfl) (slot_tmp rfl) k rfl (by rw [hy2]; omega) (by omega) ?_; clear hp; intro bln w1 hp; simp only [put_some, put_none, List.set_cons_succ, List.set_cons_zero]) | ((with_reducible refine pre_alloc 76 rfl ?_); refine lZ hp rfl zero76 ?_; clear hp; intro bx w1 hp; simp only [put_some, put_none, List.set_cons_succ, List.set_cons_zero]) | go_skip | ((first | ((with_reducible refine pre_alloc _ rfl ?_); refine lZ hp rfl (by with_reducible first | exact zero63 | exact zero44) ?_; clear hp; intro b w1 hp) | ((with_reducible refine pre_box _ _ rfl ?_); refine lB hp rfl (slot_tmp rfl) rfl ?_; clear hp; intro b w1 hp) | ((with_reducible refine pre_load _ _ rfl ?_); first | refine lO hp rfl (slot_tmp rfl) ceDA1 aa14 ?_ | refine lA hp rfl (slot_tmp rfl) gaDA0 aa14 ?_) | ((with_reducible refine pre_store _ _ _ rfl ?_); (first | refine sO hp rfl (slot_tmp rfl) ceDA1 aa14 ?_ | refine sA hp rfl (slot_tmp rfl) (slot_tmp rfl) gaDA0 aa14 ?_ | refine sG hp rfl (slot_tmp rfl) (slot_tmp rfl) gaDA0 aa14 ?_); clear hp; intro w1 hp; simp only [spl, List.set_cons_zero, List.set_cons_succ] at hp) | ((with_reducible refine pre_build _ _ _ rfl ?_); refine lS hp rfl (by intro w; go_simp; rfl) ?_; clear hp; intro b w1 hp; simp only [List.length_cons, List.length_nil, Nat.reduceAdd] at hp)); simp only [put_some, put_none, List.set_cons_succ, List.set_cons_zero]))
          refine hK.out _ _ (.inr (Keeps.three hp aa14 aa14 aa14)) ?_
          clear hK K
          try simp only [put_some, put_none, eval_tmp, eval_const, List.set_cons_succ, List.set_cons_zero, List.getD_cons_succ, List.getD_cons_zero, wrap_eq]
          refine tree_take ?_
          (refine plan_take rfl wy (fun w _ => (by go_simp; try rfl)) ?_)
          refine tree_on ?_
          try simp only [put_some, put_none, eval_tmp, eval_const, List.set_cons_succ, List.set_cons_zero, List.getD_cons_succ, List.getD_cons_zero, wrap_eq]
          refine tree_one (doT_of rfl (fun K hK => ?_))
          go_wp2_with (first | ((with_reducible refine pre_alloc 76 rfl ?_); refine lZ hp rfl zero76 ?_; clear hp; intro bx w1 hp; simp only [put_some, put_none, List.set_cons_succ, List.set_cons_zero]) | go_skip | (((with_reducible refine pre_alloc _ rfl ?_); refine lZ hp rfl (by with_reducible first | exact zero63 | exact zero44) ?_; clear hp; intro b w1 hp); simp only [put_some, put_none, List.set_cons_succ, List.set_cons_zero]))
          refine hK.out _ _ (.inr (Keeps.three hp aa14 aa14 aa14)) ?_
          clear hK K
          try simp only [put_some, put_none, eval_tmp, eval_const, List.set_cons_succ, List.set_cons_zero, List.getD_cons_succ, List.getD_cons_zero, wrap_eq]
          refine tree_one (doT_of rfl (fun K hK => ?_))
          go_wp2_with (first | go_skip | (((with_reducible refine pre_store _ _ _ rfl ?_); (first | refine sO hp rfl (slot_tmp rfl) ceDA1 aa14 ?_ | refine sA hp rfl (slot_tmp rfl) (slot_tmp rfl) gaDA0 aa14 ?_ | refine sG hp rfl (slot_tmp rfl) (slot_tmp rfl) gaDA0 aa14 ?_); clear hp; intro w1 hp; simp only [spl, List.set_cons_zero, List.set_cons_succ] at hp); simp only [put_some, put_none, List.set_cons_succ, List.set_cons_zero]))
          refine hK.out _ _ (.inr (Keeps.three hp aa14 aa14 aa14)) ?_
          clear hK K
          try simp only [put_some, put_none, eval_tmp, eval_const, List.set_cons_succ, List.set_cons_zero, List.getD_cons_succ, List.getD_cons_zero, wrap_eq]
          refine tree_nil ?_
        rotate_left 1
        focus
          go_wp2_with (first | ((with_reducible refine pre_alloc 76 rfl ?_); refine lZ hp rfl zero76 ?_; clear hp; intro bx w1 hp; simp only [put_some, put_none, List.set_cons_succ, List.set_cons_zero]) | go_skip | (((with_reducible refine pre_alloc _ rfl ?_); refine lZ hp rfl (by with_reducible first | exact zero63 | exact zero44) ?_; clear hp; intro b w1 hp); simp only [put_some, put_none, List.set_cons_succ, List.set_cons_zero]))
          refine hK.out _ _ (.inr (Keeps.three hp aa14 aa14 aa14)) ?_
          clear hK K
          try simp only [put_some, put_none, eval_tmp, eval_const, List.set_cons_succ, List.set_cons_zero, List.getD_cons_succ, List.getD_cons_zero, wrap_eq]
          refine tree_one (doT_of rfl (fun K hK => ?_))
          go_wp2_with (first | ((with_reducible refine pre_mk _ _ _ rfl ?_); refine wpList_makeSlice_hp hp _ _ _ rfl wy 3 i1 _ Try.underlying74 hi1 hy0 hy1 rfl _ (slot_tmp rfl) (slot_tmp rfl) m rfl (by rw [hy2]; omega) (by omega) ?_; clear hp; intro bwd w1 hp; simp only [put_some, put_none, List.set_cons_succ, List.set_cons_zero]) | ((with_reducible refine pre_mk _ _ _ rfl ?_); refine wpList_makeSlice_hp hp _ _ _ rfl wy 3 i1 _ Try.underlying74 hi1 hy0 hy1 rfl _ (slot_tmp rfl) (slot_tmp rfl) k rfl (by rw [hy2]; omega) (by omega) ?_; clear hp; intro bln w1 hp; simp only [put_some, put_none, List.set_cons_succ, List.set_cons_zero]) | ((with_reducible refine pre_alloc 76 rfl ?_); refine lZ hp rfl zero76 ?_; clear hp; intro bx w1 hp; simp only [put_some, put_none, List.set_cons_succ, List.set_cons_zero]) | go_skip | ((first | ((with_reducible refine pre_alloc _ rfl ?_); refine lZ hp rfl (by with_reducible first | exact zero63 | exact zero44) ?_; clear hp; intro b w1 hp) | ((with_reducible refine pre_box _ _ rfl ?_); refine lB hp rfl (slot_tmp rfl) rfl ?_; clear hp; intro b w1 hp) | ((with_reducible refine pre_load _ _ rfl ?_); first | refine lO hp rfl (slot_tmp rfl) ceDA1 aa14 ?_ | refine lA hp rfl (slot_tmp rfl) gaDA0 aa14 ?_) | ((with_reducible refine pre_store _ _ _ rfl ?_); (first | refine sO hp rfl (slot_tmp rfl) ceDA1 aa14 ?_ | refine sA hp rfl (slot_tmp rfl) (slot_tmp rfl) gaDA0 aa14 ?_ | refine sG hp rfl (slot_tmp rfl) (slot_tmp rfl) gaDA0 aa14 ?_); clear hp; intro w1 hp; simp only [spl, List.set_cons_zero, List.set_cons_succ] at hp) | ((with_reducible refine pre_build _ _ _ rfl ?_); refine lS hp rfl (by intro w; go_simp; rfl) ?_; clear hp; intro b w1 hp; simp only [List.length_cons, List.length_nil, Nat.reduceAdd] at hp)); simp only [put_some, put_none, List.set_cons_succ, List.set_cons_zero]))
          refine hK.out _ _ (.inr (Keeps.three hp aa14 aa14 aa14)) ?_
          clear hK K
          try simp only [put_some, put_none, eval_tmp, eval_const, List.set_cons_succ, List.set_cons_zero, List.getD_cons_succ, List.getD_cons_zero, wrap_eq]
          refine tree_take ?_
          (refine plan_take rfl wy (fun w _ => (by go_simp; try rfl)) ?_)
          refine tree_on ?_
          try simp only [put_some, put_none, eval_tmp, eval_const, List.set_cons_succ, List.set_cons_zero, List.getD_cons_succ, List.getD_cons_zero, wrap_eq]
          refine tree_one (doT_of rfl (fun K hK => ?_))
          go_wp2_with (first | go_skip | (((with_reducible refine pre_store _ _ _ rfl ?_); (first | refine sO hp rfl (slot_tmp rfl) ceDA1 aa14 ?_ | refine sA hp rfl (slot_tmp rfl) (slot_tmp rfl) gaDA0 aa14 ?_ | refine sG hp rfl (slot_tmp rfl) (slot_tmp rfl) gaDA0 aa14 ?_); clear hp; intro w1 hp; simp only [spl, List.set_cons_zero, List.set_cons_succ] at hp); simp only [put_some, put_none, List.set_cons_succ, List.set_cons_zero]))
          refine hK.out _ _ (.inr (Keeps.three hp aa14 aa14 aa14)) ?_
          clear hK K
          try simp only [put_some, put_none, eval_tmp, eval_const, List.set_cons_succ, List.set_cons_zero, List.getD_cons_succ, List.getD_cons_zero, wrap_eq]
          refine tree_nil ?_
        rotate_left 1
      rotate_left 2
      focus
        go_wp2_with (first | ((with_reducible refine pre_mk _ _ _ rfl ?_); refine wpList_makeSlice_hp hp _ _ _ rfl wy 3 i1 _ Try.underlying74 hi1 hy0 hy1 rfl _ (slot_tmp rfl) (slot_tmp rfl) m rfl (by rw [hy2]; omega) (by omega) ?_; clear hp; intro bwd w1 hp; simp only [put_some, put_none, List.set_cons_succ, List.set_cons_zero]) | ((with_reducible refine pre_mk _ _ _ rfl ?_); refine wpList_makeSlice_hp hp _ _ _ rfl wy 3 i1 _ Try.underlying74 hi1 hy0 hy1 rfl _ (slot_tmp rfl) (slot_tmp rfl) k rfl (by rw [hy2]; omega) (by omega) ?_; clear hp; intro bln w1 hp; simp only [put_some, put_none, List.set_cons_succ, List.set_cons_zero]) | ((with_reducible refine pre_alloc 76 rfl ?_); refine lZ hp rfl zero76 ?_; clear hp; intro bx w1 hp; simp only [put_some, put_none, List.set_cons_succ, List.set_cons_zero]) | go_skip | ((first | ((with_reducible refine pre_alloc _ rfl ?_); refine lZ hp rfl (by with_reducible first | exact zero63 | exact zero44) ?_; clear hp; intro b w1 hp) | ((with_reducible refine pre_box _ _ rfl ?_); refine lB hp rfl (slot_tmp rfl) rfl ?_; clear hp; intro b w1 hp) | ((with_reducible refine pre_load _ _ rfl ?_); first | refine lO hp rfl (slot_tmp rfl) ceDA1 aa14 ?_ | refine lA hp rfl (slot_tmp rfl) gaDA0 aa14 ?_) | ((with_reducible refine pre_store _ _ _ rfl ?_); (first | refine sO hp rfl (slot_tmp rfl) ceDA1 aa14 ?_ | refine sA hp rfl (slot_tmp rfl) (slot_tmp rfl) gaDA0 aa14 ?_ | refine sG hp rfl (slot_tmp rfl) (slot_tmp rfl) gaDA0 aa14 ?_); clear hp; intro w1 hp; simp only [spl, List.set_cons_zero, List.set_cons_succ] at hp) | ((with_reducible refine pre_build _ _ _ rfl ?_); refine lS hp rfl (by intro w; go_simp; rfl) ?_; clear hp; intro b w1 hp; simp only [List.length_cons, List.length_nil, Nat.reduceAdd] at hp)); simp only [put_some, put_none, List.set_cons_succ, List.set_cons_zero]))
        refine hK.out _ _ (.inr (Keeps.three hp aa14 aa14 aa14)) ?_
        clear hK K
        try simp only [put_some, put_none, eval_tmp, eval_const, List.set_cons_succ, List.set_cons_zero, List.getD_cons_succ, List.getD_cons_zero, wrap_eq]
        refine tree_two (doT_of rfl (fun K hK => ?_)) (doT_of rfl (fun K hK => ?_))
        focus
          go_wp2_with (first | ((with_reducible refine pre_mk _ _ _ rfl ?_); refine wpList_makeSlice_hp hp _ _ _ rfl wy 3 i1 _ Try.underlying74 hi1 hy0 hy1 rfl _ (slot_tmp rfl) (slot_tmp rfl) m rfl (by rw [hy2]; omega) (by omega) ?_; clear hp; intro bwd w1 hp; simp only [put_some, put_none, List.set_cons_succ, List.set_cons_zero]) | ((with_reducible refine pre_mk _ _ _ rfl ?_); refine wpList_makeSlice_hp hp _ _ _ rfl wy 3 i1 _ Try.underlying74 hi1 hy0 hy1 rfl _ (slot_tmp rfl) (slot_tmp rfl) k rfl (by rw [hy2]; omega) (by omega) ?_; clear hp; intro bln w1 hp; simp only [put_some, put_none, List.set_cons_succ, List.set_cons_zero]) | ((with_reducible refine pre_alloc 76 rfl ?_); refine lZ hp rfl zero76 ?_; clear hp; intro bx w1 hp; simp only [put_some, put_none, List.set_cons_succ, List.set_cons_zero]) | go_skip | ((first | ((with_reducible refine pre_alloc _ rfl ?_); refine lZ hp rfl (by with_reducible first | exact zero63 | exact zero44) ?_; clear hp; intro b w1 hp) | ((with_reducible refine pre_box _ _ rfl ?_); refine lB hp rfl (slot_tmp rfl) rfl ?_; clear hp; intro b w1 hp) | ((with_reducible refine pre_load _ _ rfl ?_); first | refine lO hp rfl (slot_tmp rfl) ceDA1 aa14 ?_ | refine lA hp rfl (slot_tmp rfl) gaDA0 aa14 ?_) | ((with_reducible refine pre_store _ _ _ rfl ?_); (first | refine sO hp rfl (slot_tmp rfl) ceDA1 aa14 ?_ | refine sA hp rfl (slot_tmp rfl) (slot_tmp rfl) gaDA0 aa14 ?_ | refine sG hp rfl (slot_tmp rfl) (slot_tmp rfl) gaDA0 aa14 ?_); clear hp; intro w1 hp; simp only [spl, List.set_cons_zero, List.set_cons_succ] at hp) | ((with_reducible refine pre_build _ _ _ rfl ?_); refine lS hp rfl (by intro w; go_simp; rfl) ?_; clear hp; intro b w1 hp; simp only [List.length_cons, List.length_nil, Nat.reduceAdd] at hp)); simp only [put_some, put_none, List.set_cons_succ, List.set_cons_zero]))
          refine hK.out _ _ (.inr (Keeps.three hp aa14 aa14 aa14)) ?_
          clear hK K
          try simp only [put_some, put_none, eval_tmp, eval_const, List.set_cons_succ, List.set_cons_zero, List.getD_cons_succ, List.getD_cons_zero, wrap_eq]
          refine tree_take ?_
          (refine plan_take rfl wy (fun w _ => (by go_simp; try rfl)) ?_)
          refine tree_on ?_
          try simp only [put_some, put_none, eval_tmp, eval_const, List.set_cons_succ, List.set_cons_zero, List.getD_cons_succ, List.getD_cons_zero, wrap_eq]
          refine tree_one (doT_of rfl (fun K hK => ?_))
          go_wp2_with (first | ((with_reducible refine pre_alloc 76 rfl ?_); refine lZ hp rfl zero76 ?_; clear hp; intro bx w1 hp; simp only [put_some, put_none, List.set_cons_succ, List.set_cons_zero]) | go_skip | (((with_reducible refine pre_alloc _ rfl ?_); refine lZ hp rfl (by with_reducible first | exact zero63 | exact zero44) ?_; clear hp; intro b w1 hp); simp only [put_some, put_none, List.set_cons_succ, List.set_cons_zero]))
          refine hK.out _ _ (.inr (Keeps.three hp aa14 aa14 aa14)) ?_
          clear hK K
          try simp only [put_some, put_none, eval_tmp, eval_const, List.set_cons_succ, List.set_cons_zero, List.getD_cons_succ, List.getD_cons_zero, wrap_eq]
          refine tree_one (doT_of rfl (fun K hK => ?_))
          go_wp2_with (first | go_skip | (((with_reducible refine pre_store _ _ _ rfl ?_); (first | refine sO hp rfl (slot_tmp rfl) ceDA1 aa14 ?_ | refine sA hp rfl (slot_tmp rfl) (slot_tmp rfl) gaDA0 aa14 ?_ | refine sG hp rfl (slot_tmp rfl) (slot_tmp rfl) gaDA0 aa14 ?_); clear hp; intro w1 hp; simp only [spl, List.set_cons_zero, List.set_cons_succ] at hp); simp only [put_some, put_none, List.set_cons_succ, List.set_cons_zero]))
          refine hK.out _ _ (.inr (Keeps.three hp aa14 aa14 aa14)) ?_
          clear hK K
          try simp only [put_some, put_none, eval_tmp, eval_const, List.set_cons_succ, List.set_cons_zero, List.getD_cons_succ, List.getD_cons_zero, wrap_eq]
          refine tree_nil ?_
        rotate_left 1
        focus
          go_wp2_with (first | ((with_reducible refine pre_alloc 76 rfl ?_); refine lZ hp rfl zero76 ?_; clear hp; intro bx w1 hp; simp only [put_some, put_none, List.set_cons_succ, List.set_cons_zero]) | go_skip | (((with_reducible refine pre_alloc _ rfl ?_); refine lZ hp rfl (by with_reducible first | exact zero63 | exact zero44) ?_; clear hp; intro b w1 hp); simp only [put_some, put_none, List.set_cons_succ, List.set_cons_zero]))
          refine hK.out _ _ (.inr (Keeps.three hp aa14 aa14 aa14)) ?_
          clear hK K
          try simp only [put_some, put_none, eval_tmp, eval_const, List.set_cons_succ, List.set_cons_zero, List.getD_cons_succ, List.getD_cons_zero, wrap_eq]
          refine tree_one (doT_of rfl (fun K hK => ?_))
          go_wp2_with (first | ((with_reducible refine pre_mk _ _ _ rfl ?_); refine wpList_makeSlice_hp hp _ _ _ rfl wy 3 i1 _ Try.underlying74 hi1 hy0 hy1 rfl _ (slot_tmp rfl) (slot_tmp rfl) m rfl (by rw [hy2]; omega) (by omega) ?_; clear hp; intro bwd w1 hp; simp only [put_some, put_none, List.set_cons_succ, List.set_cons_zero]) | ((with_reducible refine pre_mk _ _ _ rfl ?_); refine wpList_makeSlice_hp hp _ _ _ rfl wy 3 i1 _ Try.underlying74 hi1 hy0 hy1 rfl _ (slot_tmp rfl) (slot_tmp rfl) k rfl (by rw [hy2]; omega) (by omega) ?_; clear hp; intro bln w1 hp; simp only [put_some, put_none, List.set_cons_succ, List.set_cons_zero]) | ((with_reducible refine pre_alloc 76 rfl ?_); refine lZ hp rfl zero76 ?_; clear hp; intro bx w1 hp; simp only [put_some, put_none, List.set_cons_succ, List.set_cons_zero]) | go_skip | ((first | ((with_reducible refine pre_alloc _ rfl ?_); refine lZ hp rfl (by with_reducible first | exact zero63 | exact zero44) ?_; clear hp; intro b w1 hp) | ((with_reducible refine pre_box _ _ rfl ?_); refine lB hp rfl (slot_tmp rfl) rfl ?_; clear hp; intro b w1 hp) | ((with_reducible refine pre_load _ _ rfl ?_); first | refine lO hp rfl (slot_tmp rfl) ceDA1 aa14 ?_ | refine lA hp rfl (slot_tmp rfl) gaDA0 aa14 ?_) | ((with_reducible refine pre_store _ _ _ rfl ?_); (first | refine sO hp rfl (slot_tmp rfl) ceDA1 aa14 ?_ | refine sA hp rfl (slot_tmp rfl) (slot_tmp rfl) gaDA0 aa14 ?_ | refine sG hp rfl (slot_tmp rfl) (slot_tmp rfl) gaDA0 aa14 ?_); clear hp; intro w1 hp; simp only [spl, List.set_cons_zero, List.set_cons_succ] at hp) | ((with_reducible refine pre_build _ _ _ rfl ?_); refine lS hp rfl (by intro w; go_simp; rfl) ?_; clear hp; intro b w1 hp; simp only [List.length_cons, List.length_nil, Nat.reduceAdd] at hp)); simp only [put_some, put_none, List.set_cons_succ, List.set_cons_zero]))
          refine hK.out _ _ (.inr (Keeps.three hp aa14 aa14 aa14)) ?_
          clear hK K
          try simp only [put_some, put_none, eval_tmp, eval_const, List.set_cons_succ, List.set_cons_zero, List.getD_cons_succ, List.getD_cons_zero, wrap_eq]
          refine tree_take ?_
          (refine plan_take rfl wy (fun w _ => (by go_simp; try rfl)) ?_)
          refine tree_on ?_
          try simp only [put_some, put_none, eval_tmp, eval_const, List.set_cons_succ, List.set_cons_zero, List.getD_cons_succ, List.getD_cons_zero, wrap_eq]
          refine tree_one (doT_of rfl (fun K hK => ?_))
          go_wp2_with (first | go_skip | (((with_reducible refine pre_store _ _ _ rfl ?_); (first | refine sO hp rfl (slot_tmp rfl) ceDA1 aa14 ?_ | refine sA hp rfl (slot_tmp rfl) (slot_tmp rfl) gaDA0 aa14 ?_ | refine sG hp rfl (slot_tmp rfl) (slot_tmp rfl) gaDA0 aa14 ?_); clear hp; intro w1 hp; simp only [spl, List.set_cons_zero, List.set_cons_succ] at hp); simp only [put_some, put_none, List.set_cons_succ, List.set_cons_zero]))
          refine hK.out _ _ (.inr (Keeps.three hp aa14 aa14 aa14)) ?_
          clear hK K
          try simp only [put_some, put_none, eval_tmp, eval_const, List.set_cons_succ, List.set_cons_zero, List.getD_cons_succ, List.getD_cons_zero, wrap_eq]
          refine tree_nil ?_
        rotate_left 1
      rotate_left 2
      focus
        go_wp2_with (first | ((with_reducible refine pre_alloc 76 rfl ?_); refine lZ hp rfl zero76 ?_; clear hp; intro bx w1 hp; simp only [put_some, put_none, List.set_cons_succ, List.set_cons_zero]) | go_skip | (((with_reducible refine pre_alloc _ rfl ?_); refine lZ hp rfl (by with_reducible first | exact zero63 | exact zero44) ?_; clear hp; intro b w1 hp); simp only [put_some, put_none, List.set_cons_succ, List.set_cons_zero]))
        refine hK.out _ _ (.inr (Keeps.three hp aa14 aa14 aa14)) ?_
        clear hK K
        try simp only [put_some, put_none, eval_tmp, eval_const, List.set_cons_succ, List.set_cons_zero, List.getD_cons_succ, List.getD_cons_zero, wrap_eq]
        refine tree_two (doT_of rfl (fun K hK => ?_)) (doT_of rfl (fun K hK => ?_))
        focus
          go_wp2_with (first | ((with_reducible refine pre_mk _ _ _ rfl ?_); refine wpList_makeSlice_hp hp _ _ _ rfl wy 3 i1 _ Try.underlying74 hi1 hy0 hy1 rfl _ (slot_tmp rfl) (slot_tmp rfl) m rfl (by rw [hy2]; omega) (by omega) ?_; clear hp; intro bwd w1 hp; simp only [put_some, put_none, List.set_cons_succ, List.set_cons_zero]) | ((with_reducible refine pre_mk _ _ _ rfl ?_); refine wpList_makeSlice_hp hp _ _ _ rfl wy 3 i1 _ Try.underlying74 hi1 hy0 hy1 rfl _ (slot_tmp rfl) (slot_tmp rfl) k rfl (by rw [hy2]; omega) (by omega) ?_; clear hp; intro bln w1 hp; simp only [put_some, put_none, List.set_cons_succ, List.set_cons_zero]) | ((with_reducible refine pre_alloc 76 rfl ?_); refine lZ hp rfl zero76 ?_; clear hp; intro bx w1 hp; simp only [put_some, put_none, List.set_cons_succ, List.set_cons_zero]) | go_skip | ((first | ((with_reducible refine pre_alloc _ rfl ?_); refine lZ hp rfl (by with_reducible first | exact zero63 | exact zero44) ?_; clear hp; intro b w1 hp) | ((with_reducible refine pre_box _ _ rfl ?_); refine lB hp rfl (slot_tmp rfl) rfl ?_; clear hp; intro b w1 hp) | ((with_reducible refine pre_load _ _ rfl ?_); first | refine lO hp rfl (slot_tmp rfl) ceDA1 aa14 ?_ | refine lA hp rfl (slot_tmp rfl) gaDA0 aa14 ?_) | ((with_reducible refine pre_store _ _ _ rfl ?_); (first | refine sO hp rfl (slot_tmp rfl) ceDA1 aa14 ?_ | refine sA hp rfl (slot_tmp rfl) (slot_tmp rfl) gaDA0 aa14 ?_ | refine sG hp rfl (slot_tmp rfl) (slot_tmp rfl) gaDA0 aa14 ?_); clear hp; intro w1 hp; simp only [spl, List.set_cons_zero, List.set_cons_succ] at hp) | ((with_reducible refine pre_build _ _ _ rfl ?_); refine lS hp rfl (by intro w; go_simp; rfl) ?_; clear hp; intro b w1 hp; simp only [List.length_cons, List.length_nil, Nat.reduceAdd] at hp)); simp only [put_some, put_none, List.set_cons_succ, List.set_cons_zero]))
          refine hK.out _ _ (.inr (Keeps.three hp aa14 aa14 aa14)) ?_
          clear hK K
          try simp only [put_some, put_none, eval_tmp, eval_const, List.set_cons_succ, List.set_cons_zero, List.getD_cons_succ, List.getD_cons_zero, wrap_eq]
          refine tree_one (doT_of rfl (fun K hK => ?_))
          go_wp2_with (first | ((with_reducible refine pre_mk _ _ _ rfl ?_); refine wpList_makeSlice_hp hp _ _ _ rfl wy 3 i1 _ Try.underlying74 hi1 hy0 hy1 rfl _ (slot_tmp rfl) (slot_tmp rfl) m rfl (by rw [hy2]; omega) (by omega) ?_; clear hp; intro bwd w1 hp; simp only [put_some, put_none, List.set_cons_succ, List.set_cons_zero]) | ((with_reducible refine pre_mk _ _ _ rfl ?_); refine wpList_makeSlice_hp hp _ _ _ rfl wy 3 i1 _ Try.underlying74 hi1 hy0 hy1 rfl _ (slot_tmp rfl) (slot_tmp rfl) k rfl (by rw [hy2]; omega) (by omega) ?_; clear hp; intro bln w1 hp; simp only [put_some, put_none, List.set_cons_succ, List.set_cons_zero]) | ((with_reducible refine pre_alloc 76 rfl ?_); refine lZ hp rfl zero76 ?_; clear hp; intro bx w1 hp; simp only [put_some, put_none, List.set_cons_succ, List.set_cons_zero]) | go_skip | ((first | ((with_reducible refine pre_alloc _ rfl ?_); refine lZ hp rfl (by with_reducible first | exact zero63 | exact zero44) ?_; clear hp; intro b w1 hp) | ((with_reducible refine pre_box _ _ rfl ?_); refine lB hp rfl (slot_tmp rfl) rfl ?_; clear hp; intro b w1 hp) | ((with_reducible refine pre_load _ _ rfl ?_); first | refine lO hp rfl (slot_tmp rfl) ceDA1 aa14 ?_ | refine lA hp rfl (slot_tmp rfl) gaDA0 aa14 ?_) | ((with_reducible refine pre_store _ _ _ rfl ?_); (first | refine sO hp rfl (slot_tmp rfl) ceDA1 aa14 ?_ | refine sA hp rfl (slot_tmp rfl) (slot_tmp rfl) gaDA0 aa14 ?_ | refine sG hp rfl (slot_tmp rfl) (slot_tmp rfl) gaDA0 aa14 ?_); clear hp; intro w1 hp; simp only [spl, List.set_cons_zero, List.set_cons_succ] at hp) | ((with_reducible refine pre_build _ _ _ rfl ?_); refine lS hp rfl (by intro w; go_simp; rfl) ?_; clear hp; intro b w1 hp; simp only [List.length_cons, List.length_nil, Nat.reduceAdd] at hp)); simp only [put_some, put_none, List.set_cons_succ, List.set_cons_zero]))
          refine hK.out _ _ (.inr (Keeps.three hp aa14 aa14 aa14)) ?_
          clear hK K
          try simp only [put_some, put_none, eval_tmp, eval_const, List.set_cons_succ, List.set_cons_zero, List.getD_cons_succ, List.getD_cons_zero, wrap_eq]
          refine tree_take ?_
          (refine plan_take rfl wy (fun w _ => (by go_simp; try rfl)) ?_)
          refine tree_on ?_
          try simp only [put_some, put_none, eval_tmp, eval_const, List.set_cons_succ, List.set_cons_zero, List.getD_cons_succ, List.getD_cons_zero, wrap_eq]
          refine tree_one (doT_of rfl (fun K hK => ?_))
          go_wp2_with (first | go_skip | (((with_reducible refine pre_store _ _ _ rfl ?_); (first | refine sO hp rfl (slot_tmp rfl) ceDA1 aa14 ?_ | refine sA hp rfl (slot_tmp rfl) (slot_tmp rfl) gaDA0 aa14 ?_ | refine sG hp rfl (slot_tmp rfl) (slot_tmp rfl) gaDA0 aa14 ?_); clear hp; intro w1 hp; simp only [spl, List.set_cons_zero, List.set_cons_succ] at hp); simp only [put_some, put_none, List.set_cons_succ, List.set_cons_zero]))
          refine hK.out _ _ (.inr (Keeps.three hp aa14 aa14 aa14)) ?_
          clear hK K
          try simp only [put_some, put_none, eval_tmp, eval_const, List.set_cons_succ, List.set_cons_zero, List.getD_cons_succ, List.getD_cons_zero, wrap_eq]
          refine tree_nil ?_
        rotate_left 1
        focus
          go_wp2_with (first | ((with_reducible refine pre_mk _ _ _ rfl ?_); refine wpList_makeSlice_hp hp _ _ _ rfl wy 3 i1 _ Try.underlying74 hi1 hy0 hy1 rfl _ (slot_tmp rfl) (slot_tmp rfl) m rfl (by rw [hy2]; omega) (by omega) ?_; clear hp; intro bwd w1 hp; simp only [put_some, put_none, List.set_cons_succ, List.set_cons_zero]) | ((with_reducible refine pre_mk _ _ _ rfl ?_); refine wpList_makeSlice_hp hp _ _ _ rfl wy 3 i1 _ Try.underlying74 hi1 hy0 hy1 rfl _ (slot_tmp rfl) (slot_tmp rfl) k rfl (by rw [hy2]; omega) (by omega) ?_; clear hp; intro bln w1 hp; simp only [put_some, put_none, List.set_cons_succ, List.set_cons_zero]) | ((with_reducible refine pre_alloc 76 rfl ?_); refine lZ hp rfl zero76 ?_; clear hp; intro bx w1 hp; simp only [put_some, put_none, List.set_cons_succ, List.set_cons_zero]) | go_skip | ((first | ((with_reducible refine pre_alloc _ rfl ?_); refine lZ hp rfl (by with_reducible first | exact zero63 | exact zero44) ?_; clear hp; intro b w1 hp) | ((with_reducible refine pre_box _ _ rfl ?_); refine lB hp rfl (slot_tmp rfl) rfl ?_; clear hp; intro b w1 hp) | ((with_reducible refine pre_load _ _ rfl ?_); first | refine lO hp rfl (slot_tmp rfl) ceDA1 aa14 ?_ | refine lA hp rfl (slot_tmp rfl) gaDA0 aa14 ?_) | ((with_reducible refine pre_store _ _ _ rfl ?_); (first | refine sO hp rfl (slot_tmp rfl) ceDA1 aa14 ?_ | refine sA hp rfl (slot_tmp rfl) (slot_tmp rfl) gaDA0 aa14 ?_ | refine sG hp rfl (slot_tmp rfl) (slot_tmp rfl) gaDA0 aa14 ?_); clear hp; intro w1 hp; simp only [spl, List.set_cons_zero, List.set_cons_succ] at hp) | ((with_reducible refine pre_build _ _ _ rfl ?_); refine lS hp rfl (by intro w; go_simp; rfl) ?_; clear hp; intro b w1 hp; simp only [List.length_cons, List.length_nil, Nat.reduceAdd] at hp)); simp only [put_some, put_none, List.set_cons_succ, List.set_cons_zero]))
          refine hK.out _ _ (.inr (Keeps.three hp aa14 aa14 aa14)) ?_
          clear hK K
          try simp only [put_some, put_none, eval_tmp, eval_const, List.set_cons_succ, List.set_cons_zero, List.getD_cons_succ, List.getD_cons_zero, wrap_eq]
          refine tree_one (doT_of rfl (fun K hK => ?_))
          go_wp2_with (first | ((with_reducible refine pre_mk _ _ _ rfl ?_); refine wpList_makeSlice_hp hp _ _ _ rfl wy 3 i1 _ Try.underlying74 hi1 hy0 hy1 rfl _ (slot_tmp rfl) (slot_tmp rfl) m rfl (by rw [hy2]; omega) (by omega) ?_; clear hp; intro bwd w1 hp; simp only [put_some, put_none, List.set_cons_succ, List.set_cons_zero]) | ((with_reducible refine pre_mk _ _ _ rfl ?_); refine wpList_makeSlice_hp hp _ _ _ rfl wy 3 i1 _ Try.underlying74 hi1 hy0 hy1 rfl _ (slot_tmp rfl) (slot_tmp rfl) k rfl (by rw [hy2]; omega) (by omega) ?_; clear hp; intro bln w1 hp; simp only [put_some, put_none, List.set_cons_succ, List.set_cons_zero]) | ((with_reducible refine pre_alloc 76 rfl ?_); refine lZ hp rfl zero76 ?_; clear hp; intro bx w1 hp; simp only [put_some, put_none, List.set_cons_succ, List.set_cons_zero]) | go_skip | ((first | ((with_reducible refine pre_alloc _ rfl ?_); refine lZ hp rfl (by with_reducible first | exact zero63 | exact zero44) ?_; clear hp; intro b w1 hp) | ((with_reducible refine pre_box _ _ rfl ?_); refine lB hp rfl (slot_tmp rfl) rfl ?_; clear hp; intro b w1 hp) | ((with_reducible refine pre_load _ _ rfl ?_); first | refine lO hp rfl (slot_tmp rfl) ceDA1 aa14 ?_ | refine lA hp rfl (slot_tmp rfl) gaDA0 aa14 ?_) | ((with_reducible refine pre_store _ _ _ rfl ?_); (first | refine sO hp rfl (slot_tmp rfl) ceDA1 aa14 ?_ | refine sA hp rfl (slot_tmp rfl) (slot_tmp rfl) gaDA0 aa14 ?_ | refine sG hp rfl (slot_tmp rfl) (slot_tmp rfl) gaDA0 aa14 ?_); clear hp; intro w1 hp; simp only [spl, List.set_cons_zero, List.set_cons_succ] at hp) | ((with_reducible refine pre_build _ _ _ rfl ?_); refine lS hp rfl (by intro w; go_simp; rfl) ?_; clear hp; intro b w1 hp; simp only [List.length_cons, List.length_nil, Nat.reduceAdd] at hp)); simp only [put_some, put_none, List.set_cons_succ, List.set_cons_zero]))
          refine hK.out _ _ (.inr (Keeps.three hp aa14 aa14 aa14)) ?_
          clear hK K
          try simp only [put_some, put_none, eval_tmp, eval_const, List.set_cons_succ, List.set_cons_zero, List.getD_cons_succ, List.getD_cons_zero, wrap_eq]
          refine tree_take ?_
          (refine plan_take rfl wy (fun w _ => (by go_simp; try rfl)) ?_)
          refine tree_on ?_
          try simp only [put_some, put_none, eval_tmp, eval_const, List.set_cons_succ, List.set_cons_zero, List.getD_cons_succ, List.getD_cons_zero, wrap_eq]
          refine tree_one (doT_of rfl (fun K hK => ?_))
          go_wp2_with (first | go_skip | (((with_reducible refine pre_store _ _ _ rfl ?_); (first | refine sO hp rfl (slot_tmp rfl) ceDA1 aa14 ?_ | refine sA hp rfl (slot_tmp rfl) (slot_tmp rfl) gaDA0 aa14 ?_ | refine sG hp rfl (slot_tmp rfl) (slot_tmp rfl) gaDA0 aa14 ?_); clear hp; intro w1 hp; simp only [spl, List.set_cons_zero, List.set_cons_succ] at hp); simp only [put_some, put_none, List.set_cons_succ, List.set_cons_zero]))
          refine hK.out _ _ (.inr (Keeps.three hp aa14 aa14 aa14)) ?_
          clear hK K
          try simp only [put_some, put_none, eval_tmp, eval_const, List.set_cons_succ, List.set_cons_zero, List.getD_cons_succ, List.getD_cons_zero, wrap_eq]
          refine tree_nil ?_
        rotate_left 1
      rotate_left 2
  all_goals
    replace hp := hp.keep (L' := ⟨bx, [.int .i64 nx, .int .i64 tp, .int .i64 nd, .slice (some ⟨bwd, 0, none⟩) m m, .slice (some ⟨bln, 0, none⟩) k k], 76, 5⟩ :: ⟨bln, List.replicate k (.int .i64 0), 3, k⟩ :: ⟨bwd, List.replicate m (.int .i64 0), 3, m⟩ ::
      ⟨bb, [.int .i64 tp, .int .i64 nd], 44, 2⟩ :: ⟨br, [.int .i64 0, .int .i64 0], 63, 2⟩ :: ⟨bo, [.int .i64 kk, .int .i64 hh, .int .i64 ii, .int .i64 m, .int .i64 k, .int .i64 vv, .int .i64 tt], 61, 7⟩ ::
      ⟨bw, [.int .i64 od, .slice oa os.length oc, .int .i64 nx, .int .i64 t0, .int .i64 t1, .int .i64 t2, .int .i64 t3, .slice fa fs.length fc], 135, 8⟩ :: (RO ++ (RF ++ (M ++ (KF ++ R1))))) (fun f => by (simp only [List.map_append, List.map_cons, List.map_nil, List.sum_append, List.sum_cons, List.sum_nil, List.cons_append, List.nil_append, List.append_nil]; omega))
    go_wp2_with (first | go_skip | ((first | ((with_reducible refine pre_alloc _ rfl ?_); refine lZ hp rfl (by with_reducible first | exact zero63 | exact zero44) ?_; clear hp; intro b w1 hp) | ((with_reducible refine pre_box _ _ rfl ?_); refine lB hp rfl (slot_tmp rfl) rfl ?_; clear hp; intro b w1 hp) | ((with_reducible refine pre_load _ _ rfl ?_); first | refine lO hp rfl (slot_tmp rfl) ceDA1 aa14 ?_ | refine lA hp rfl (slot_tmp rfl) gaDA0 aa14 ?_) | ((with_reducible refine pre_store _ _ _ rfl ?_); (first | refine sO hp rfl (slot_tmp rfl) ceDA1 aa14 ?_ | refine sA hp rfl (slot_tmp rfl) (slot_tmp rfl) gaDA0 aa14 ?_ | refine sG hp rfl (slot_tmp rfl) (slot_tmp rfl) gaDA0 aa14 ?_); clear hp; intro w1 hp; simp only [spl, List.set_cons_zero, List.set_cons_succ] at hp) | ((with_reducible refine pre_build _ _ _ rfl ?_); refine lS hp rfl (by intro w; go_simp; rfl) ?_; clear hp; intro b w1 hp; simp only [List.length_cons, List.length_nil, Nat.reduceAdd] at hp)); simp only [put_some, put_none, List.set_cons_succ, List.set_cons_zero]))
    refine wp_region_keepsP [_, _] (Keeps.two hp.drew at0 at6) [14, 15, 16, 17, 18] [(0, true), (1, true), (2, true), (3, true), (4, true), (5, true), (6, true), (7, true), (10, true), (8, false), (9, false), (11, true), (12, true), (13, true), (14, false), (15, false), (16, false), (17, false), (18, false)] (by kernel_rfl) (by kernel_rfl) rfl (by kernel_rfl) (fun _ _ d _ _ h => by cases d <;> exact h) ?_
    replace hp := hp.drew
    (refine plan_move rfl _ rfl wy ?_)
    try simp only [put_some, put_none, eval_tmp, eval_const, List.set_cons_succ, List.set_cons_zero, List.getD_cons_succ, List.getD_cons_zero, wrap_eq]
    (refine plan_move rfl _ rfl wy ?_)
    try simp only [put_some, put_none, eval_tmp, eval_const, List.set_cons_succ, List.set_cons_zero, List.getD_cons_succ, List.getD_cons_zero, wrap_eq]
    (refine plan_move rfl _ rfl wy ?_)
    try simp only [put_some, put_none, eval_tmp, eval_const, List.set_cons_succ, List.set_cons_zero, List.getD_cons_succ, List.getD_cons_zero, wrap_eq]
    (refine plan_take rfl wy (fun w _ => (by go_simp; try rfl)) ?_)
    try simp only [put_some, put_none, eval_tmp, eval_const, List.set_cons_succ, List.set_cons_zero, List.getD_cons_succ, List.getD_cons_zero, wrap_eq]
    (refine plan_take rfl wy (fun w _ => (by go_simp; try rfl)) ?_)
    try simp only [put_some, put_none, eval_tmp, eval_const, List.set_cons_succ, List.set_cons_zero, List.getD_cons_succ, List.getD_cons_zero, wrap_eq]
    (refine plan_take rfl wy (fun w _ => (by go_simp; try rfl)) ?_)
    try simp only [put_some, put_none, eval_tmp, eval_const, List.set_cons_succ, List.set_cons_zero, List.getD_cons_succ, List.getD_cons_zero, wrap_eq]
    (first | (refine pO rfl rfl (slot_tmp rfl) cell22 aa14 ?_))
    try simp only [put_some, put_none, eval_tmp, eval_const, List.set_cons_succ, List.set_cons_zero, List.getD_cons_succ, List.getD_cons_zero, wrap_eq]
    (first | (refine pA rfl rfl (slot_tmp rfl) agg76 aa14 ?_))
    try simp only [put_some, put_none, eval_tmp, eval_const, List.set_cons_succ, List.set_cons_zero, List.getD_cons_succ, List.getD_cons_zero, wrap_eq]
    (refine plan_move rfl _ rfl wy ?_)
    try simp only [put_some, put_none, eval_tmp, eval_const, List.set_cons_succ, List.set_cons_zero, List.getD_cons_succ, List.getD_cons_zero, wrap_eq]
    refine plan_do rfl (fun K hK => ?_)
    go_wp2_with (first | ((with_reducible refine pre_append _ _ 22 rfl ?_); refine wpList_appendGrow (K := [_, _, _, _, _, _, _]) (R := RO) (M := RF ++ (M ++ (KF ++ R1))) hp _ _ _ rfl wy i0 _ 72 Try.underlying22 hi0 hz0 hz1 hz2 rfl (by decide) (slot_tmp rfl) HRO.out 1 1 (slot_tmp rfl) (by rfl) (by decide) (by rfl) sm1 sm2 ?_; clear hp; intro v2 RO2 w1 hra hp; obtain ⟨a2, c2, rfl⟩ := hra.val; have HRA := Lib.hid hra; clear hra; simp only [List.cons_append, List.nil_append] at hp; simp only [put_some, put_none, List.set_cons_succ, List.set_cons_zero]) | go_skip | ((first | ((with_reducible refine pre_alloc _ rfl ?_); refine lZ hp rfl (by with_reducible first | exact zero63 | exact zero44) ?_; clear hp; intro b w1 hp) | ((with_reducible refine pre_box _ _ rfl ?_); refine lB hp rfl (slot_tmp rfl) rfl ?_; clear hp; intro b w1 hp) | ((with_reducible refine pre_load _ _ rfl ?_); first | refine lO hp rfl (slot_tmp rfl) ceDA1 aa14 ?_ | refine lA hp rfl (slot_tmp rfl) gaDA0 aa14 ?_) | ((with_reducible refine pre_store _ _ _ rfl ?_); (first | refine sO hp rfl (slot_tmp rfl) ceDA1 aa14 ?_ | refine sA hp rfl (slot_tmp rfl) (slot_tmp rfl) gaDA0 aa14 ?_ | refine sG hp rfl (slot_tmp rfl) (slot_tmp rfl) gaDA0 aa14 ?_); clear hp; intro w1 hp; simp only [spl, List.set_cons_zero, List.set_cons_succ] at hp) | ((with_reducible refine pre_build _ _ _ rfl ?_); refine lS hp rfl (by intro w; go_simp; rfl) ?_; clear hp; intro b w1 hp; simp only [List.length_cons, List.length_nil, Nat.reduceAdd] at hp)); simp only [put_some, put_none, List.set_cons_succ, List.set_cons_zero]))
    refine hK.out _ _ (.inr (Keeps.two hp aa14 aa14)) ?_
    clear hK K
    try simp only [put_some, put_none, eval_tmp, eval_const, List.set_cons_succ, List.set_cons_zero, List.getD_cons_succ, List.getD_cons_zero, wrap_eq]
    refine plan_do rfl (fun K hK => ?_)
    go_wp2_with (first | go_skip | ((with_reducible refine pre_append _ _ 22 rfl ?_); refine wpList_appendGrow (K := [_, _, _, _, _, _, _]) (R := RO) (M := RF ++ (M ++ (KF ++ R1))) hp _ _ _ rfl wy i0 _ 72 Try.underlying22 hi0 hz0 hz1 hz2 rfl (by decide) (slot_tmp rfl) HRO.out 1 1 (slot_tmp rfl) (by rfl) (by decide) (by rfl) sm1 sm2 ?_; clear hp; intro v2 RO2 w1 hra hp; obtain ⟨a2, c2, rfl⟩ := hra.val; have HRA := Lib.hid hra; clear hra; simp only [List.cons_append, List.nil_append] at hp; simp only [put_some, put_none, List.set_cons_succ, List.set_cons_zero]))
    refine hK.out _ _ (.inr (Keeps.two hp aa14 aa14)) ?_
    clear hK K
    try simp only [put_some, put_none, eval_tmp, eval_const, List.set_cons_succ, List.set_cons_zero, List.getD_cons_succ, List.getD_cons_zero, wrap_eq]
    (refine plan_take rfl wy (fun w _ => (by go_simp; try rfl)) ?_)
    try simp only [put_some, put_none, eval_tmp, eval_const, List.set_cons_succ, List.set_cons_zero, List.getD_cons_succ, List.getD_cons_zero, wrap_eq]
    (refine plan_take rfl wy (fun w _ => (by go_simp; try rfl)) ?_)
    try simp only [put_some, put_none, eval_tmp, eval_const, List.set_cons_succ, List.set_cons_zero, List.getD_cons_succ, List.getD_cons_zero, wrap_eq]
    (refine plan_take rfl wy (fun w _ => (by go_simp; try rfl)) ?_)
    try simp only [put_some, put_none, eval_tmp, eval_const, List.set_cons_succ, List.set_cons_zero, List.getD_cons_succ, List.getD_cons_zero, wrap_eq]
    refine plan_do rfl (fun K hK => ?_)
    go_wp2_with (first | ((with_reducible refine pre_append _ _ 22 rfl ?_); refine wpList_appendGrow (K := [_, _, _, _, _, _, _]) (R := RO) (M := RF ++ (M ++ (KF ++ R1))) hp _ _ _ rfl wy i0 _ 72 Try.underlying22 hi0 hz0 hz1 hz2 rfl (by decide) (slot_tmp rfl) HRO.out 1 1 (slot_tmp rfl) (by rfl) (by decide) (by rfl) sm1 sm2 ?_; clear hp; intro v2 RO2 w1 hra hp; obtain ⟨a2, c2, rfl⟩ := hra.val; have HRA := Lib.hid hra; clear hra; simp only [List.cons_append, List.nil_append] at hp; simp only [put_some, put_none, List.set_cons_succ, List.set_cons_zero]) | go_skip | ((first | ((with_reducible refine pre_alloc _ rfl ?_); refine lZ hp rfl (by with_reducible first | exact zero63 | exact zero44) ?_; clear hp; intro b w1 hp) | ((with_reducible refine pre_box _ _ rfl ?_); refine lB hp rfl (slot_tmp rfl) rfl ?_; clear hp; intro b w1 hp) | ((with_reducible refine pre_load _ _ rfl ?_); first | refine lO hp rfl (slot_tmp rfl) ceDA1 aa14 ?_ | refine lA hp rfl (slot_tmp rfl) gaDA0 aa14 ?_) | ((with_reducible refine pre_store _ _ _ rfl ?_); (first | refine sO hp rfl (slot_tmp rfl) ceDA1 aa14 ?_ | refine sA hp rfl (slot_tmp rfl) (slot_tmp rfl) gaDA0 aa14 ?_ | refine sG hp rfl (slot_tmp rfl) (slot_tmp rfl) gaDA0 aa14 ?_); clear hp; intro w1 hp; simp only [spl, List.set_cons_zero, List.set_cons_succ] at hp) | ((with_reducible refine pre_build _ _ _ rfl ?_); refine lS hp rfl (by intro w; go_simp; rfl) ?_; clear hp; intro b w1 hp; simp only [List.length_cons, List.length_nil, Nat.reduceAdd] at hp)); simp only [put_some, put_none, List.set_cons_succ, List.set_cons_zero]))
    refine hK.out _ _ (.inl rfl) ?_
    clear hK K
    try simp only [put_some, put_none, eval_tmp, eval_const, List.set_cons_succ, List.set_cons_zero, List.getD_cons_succ, List.getD_cons_zero, wrap_eq]
    refine plan_do rfl (fun K hK => ?_)
    go_wp2_with (first | ((with_reducible refine pre_append _ _ 22 rfl ?_); refine wpList_appendGrow (K := [_, _, _, _, _, _, _]) (R := RO) (M := RF ++ (M ++ (KF ++ R1))) hp _ _ _ rfl wy i0 _ 72 Try.underlying22 hi0 hz0 hz1 hz2 rfl (by decide) (slot_tmp rfl) HRO.out 1 1 (slot_tmp rfl) (by rfl) (by decide) (by rfl) sm1 sm2 ?_; clear hp; intro v2 RO2 w1 hra hp; obtain ⟨a2, c2, rfl⟩ := hra.val; have HRA := Lib.hid hra; clear hra; simp only [List.cons_append, List.nil_append] at hp; simp only [put_some, put_none, List.set_cons_succ, List.set_cons_zero]) | go_skip | ((first | ((with_reducible refine pre_alloc _ rfl ?_); refine lZ hp rfl (by with_reducible first | exact zero63 | exact zero44) ?_; clear hp; intro b w1 hp) | ((with_reducible refine pre_box _ _ rfl ?_); refine lB hp rfl (slot_tmp rfl) rfl ?_; clear hp; intro b w1 hp) | ((with_reducible refine pre_load _ _ rfl ?_); first | refine lO hp rfl (slot_tmp rfl) ceDA1 aa14 ?_ | refine lA hp rfl (slot_tmp rfl) gaDA0 aa14 ?_) | ((with_reducible refine pre_store _ _ _ rfl ?_); (first | refine sO hp rfl (slot_tmp rfl) ceDA1 aa14 ?_ | refine sA hp rfl (slot_tmp rfl) (slot_tmp rfl) gaDA0 aa14 ?_ | refine sG hp rfl (slot_tmp rfl) (slot_tmp rfl) gaDA0 aa14 ?_); clear hp; intro w1 hp; simp only [spl, List.set_cons_zero, List.set_cons_succ] at hp) | ((with_reducible refine pre_build _ _ _ rfl ?_); refine lS hp rfl (by intro w; go_simp; rfl) ?_; clear hp; intro b w1 hp; simp only [List.length_cons, List.length_nil, Nat.reduceAdd] at hp)); simp only [put_some, put_none, List.set_cons_succ, List.set_cons_zero]))
    refine hK.out _ _ (.inl rfl) ?_
    clear hK K
    try simp only [put_some, put_none, eval_tmp, eval_const, List.set_cons_succ, List.set_cons_zero, List.getD_cons_succ, List.getD_cons_zero, wrap_eq]
    refine plan_do rfl (fun K hK => ?_)
    go_wp2_with (first | ((with_reducible refine pre_append _ _ 22 rfl ?_); refine wpList_appendGrow (K := [_, _, _, _, _, _, _]) (R := RO) (M := RF ++ (M ++ (KF ++ R1))) hp _ _ _ rfl wy i0 _ 72 Try.underlying22 hi0 hz0 hz1 hz2 rfl (by decide) (slot_tmp rfl) HRO.out 1 1 (slot_tmp rfl) (by rfl) (by decide) (by rfl) sm1 sm2 ?_; clear hp; intro v2 RO2 w1 hra hp; obtain ⟨a2, c2, rfl⟩ := hra.val; have HRA := Lib.hid hra; clear hra; simp only [List.cons_append, List.nil_append] at hp; simp only [put_some, put_none, List.set_cons_succ, List.set_cons_zero]) | go_skip | ((first | ((with_reducible refine pre_alloc _ rfl ?_); refine lZ hp rfl (by with_reducible first | exact zero63 | exact zero44) ?_; clear hp; intro b w1 hp) | ((with_reducible refine pre_box _ _ rfl ?_); refine lB hp rfl (slot_tmp rfl) rfl ?_; clear hp; intro b w1 hp) | ((with_reducible refine pre_load _ _ rfl ?_); first | refine lO hp rfl (slot_tmp rfl) ceDA1 aa14 ?_ | refine lA hp rfl (slot_tmp rfl) gaDA0 aa14 ?_) | ((with_reducible refine pre_store _ _ _ rfl ?_); (first | refine sO hp rfl (slot_tmp rfl) ceDA1 aa14 ?_ | refine sA hp rfl (slot_tmp rfl) (slot_tmp rfl) gaDA0 aa14 ?_ | refine sG hp rfl (slot_tmp rfl) (slot_tmp rfl) gaDA0 aa14 ?_); clear hp; intro w1 hp; simp only [spl, List.set_cons_zero, List.set_cons_succ] at hp) | ((with_reducible refine pre_build _ _ _ rfl ?_); refine lS hp rfl (by intro w; go_simp; rfl) ?_; clear hp; intro b w1 hp; simp only [List.length_cons, List.length_nil, Nat.reduceAdd] at hp)); simp only [put_some, put_none, List.set_cons_succ, List.set_cons_zero]))
    refine hK.out _ _ (.inl rfl) ?_
    clear hK K
    try simp only [put_some, put_none, eval_tmp, eval_const, List.set_cons_succ, List.set_cons_zero, List.getD_cons_succ, List.getD_cons_zero, wrap_eq]
    refine plan_do rfl (fun K hK => ?_)
    go_wp2_with (first | ((with_reducible refine pre_append _ _ 22 rfl ?_); refine wpList_appendGrow (K := [_, _, _, _, _, _, _]) (R := RO) (M := RF ++ (M ++ (KF ++ R1))) hp _ _ _ rfl wy i0 _ 72 Try.underlying22 hi0 hz0 hz1 hz2 rfl (by decide) (slot_tmp rfl) HRO.out 1 1 (slot_tmp rfl) (by rfl) (by decide) (by rfl) sm1 sm2 ?_; clear hp; intro v2 RO2 w1 hra hp; obtain ⟨a2, c2, rfl⟩ := hra.val; have HRA := Lib.hid hra; clear hra; simp only [List.cons_append, List.nil_append] at hp; simp only [put_some, put_none, List.set_cons_succ, List.set_cons_zero]) | go_skip | ((first | ((with_reducible refine pre_alloc _ rfl ?_); refine lZ hp rfl (by with_reducible first | exact zero63 | exact zero44) ?_; clear hp; intro b w1 hp) | ((with_reducible refine pre_box _ _ rfl ?_); refine lB hp rfl (slot_tmp rfl) rfl ?_; clear hp; intro b w1 hp) | ((with_reducible refine pre_load _ _ rfl ?_); first | refine lO hp rfl (slot_tmp rfl) ceDA1 aa14 ?_ | refine lA hp rfl (slot_tmp rfl) gaDA0 aa14 ?_) | ((with_reducible refine pre_store _ _ _ rfl ?_); (first | refine sO hp rfl (slot_tmp rfl) ceDA1 aa14 ?_ | refine sA hp rfl (slot_tmp rfl) (slot_tmp rfl) gaDA0 aa14 ?_ | refine sG hp rfl (slot_tmp rfl) (slot_tmp rfl) gaDA0 aa14 ?_); clear hp; intro w1 hp; simp only [spl, List.set_cons_zero, List.set_cons_succ] at hp) | ((with_reducible refine pre_build _ _ _ rfl ?_); refine lS hp rfl (by intro w; go_simp; rfl) ?_; clear hp; intro b w1 hp; simp only [List.length_cons, List.length_nil, Nat.reduceAdd] at hp)); simp only [put_some, put_none, List.set_cons_succ, List.set_cons_zero]))
    refine hK.out _ _ (.inl rfl) ?_
    clear hK K
    try simp only [put_some, put_none, eval_tmp, eval_const, List.set_cons_succ, List.set_cons_zero, List.getD_cons_succ, List.getD_cons_zero, wrap_eq]
    refine plan_do rfl (fun K hK => ?_)
    go_wp2_with (first | ((with_reducible refine pre_append _ _ 22 rfl ?_); refine wpList_appendGrow (K := [_, _, _, _, _, _, _]) (R := RO) (M := RF ++ (M ++ (KF ++ R1))) hp _ _ _ rfl wy i0 _ 72 Try.underlying22 hi0 hz0 hz1 hz2 rfl (by decide) (slot_tmp rfl) HRO.out 1 1 (slot_tmp rfl) (by rfl) (by decide) (by rfl) sm1 sm2 ?_; clear hp; intro v2 RO2 w1 hra hp; obtain ⟨a2, c2, rfl⟩ := hra.val; have HRA := Lib.hid hra; clear hra; simp only [List.cons_append, List.nil_append] at hp; simp only [put_some, put_none, List.set_cons_succ, List.set_cons_zero]) | go_skip | ((first | ((with_reducible refine pre_alloc _ rfl ?_); refine lZ hp rfl (by with_reducible first | exact zero63 | exact zero44) ?_; clear hp; intro b w1 hp) | ((with_reducible refine pre_box _ _ rfl ?_); refine lB hp rfl (slot_tmp rfl) rfl ?_; clear hp; intro b w1 hp) | ((with_reducible refine pre_load _ _ rfl ?_); first | refine lO hp rfl (slot_tmp rfl) ceDA1 aa14 ?_ | refine lA hp rfl (slot_tmp rfl) gaDA0 aa14 ?_) | ((with_reducible refine pre_store _ _ _ rfl ?_); (first | refine sO hp rfl (slot_tmp rfl) ceDA1 aa14 ?_ | refine sA hp rfl (slot_tmp rfl) (slot_tmp rfl) gaDA0 aa14 ?_ | refine sG hp rfl (slot_tmp rfl) (slot_tmp rfl) gaDA0 aa14 ?_); clear hp; intro w1 hp; simp only [spl, List.set_cons_zero, List.set_cons_succ] at hp) | ((with_reducible refine pre_build _ _ _ rfl ?_); refine lS hp rfl (by intro w; go_simp; rfl) ?_; clear hp; intro b w1 hp; simp only [List.length_cons, List.length_nil, Nat.reduceAdd] at hp)); simp only [put_some, put_none, List.set_cons_succ, List.set_cons_zero]))
    refine hK.out _ _ (.inl rfl) ?_
    clear hK K
    try simp only [put_some, put_none, eval_tmp, eval_const, List.set_cons_succ, List.set_cons_zero, List.getD_cons_succ, List.getD_cons_zero, wrap_eq]
    refine plan_nil ?_
    go_wp2_with (first | go_skip | ((first | ((with_reducible refine pre_alloc _ rfl ?_); refine lZ hp rfl (by with_reducible first | exact zero63 | exact zero44) ?_; clear hp; intro b w1 hp) | ((with_reducible refine pre_box _ _ rfl ?_); refine lB hp rfl (slot_tmp rfl) rfl ?_; clear hp; intro b w1 hp) | ((with_reducible refine pre_load _ _ rfl ?_); first | refine lO hp rfl (slot_tmp rfl) ceDA1 aa14 ?_ | refine lA hp rfl (slot_tmp rfl) gaDA0 aa14 ?_) | ((with_reducible refine pre_store _ _ _ rfl ?_); (first | refine sO hp rfl (slot_tmp rfl) ceDA1 aa14 ?_ | refine sA hp rfl (slot_tmp rfl) (slot_tmp rfl) gaDA0 aa14 ?_ | refine sG hp rfl (slot_tmp rfl) (slot_tmp rfl) gaDA0 aa14 ?_); clear hp; intro w1 hp; simp only [spl, List.set_cons_zero, List.set_cons_succ] at hp) | ((with_reducible refine pre_build _ _ _ rfl ?_); refine lS hp rfl (by intro w; go_simp; rfl) ?_; clear hp; intro b w1 hp; simp only [List.length_cons, List.length_nil, Nat.reduceAdd] at hp)); simp only [put_some, put_none, List.set_cons_succ, List.set_cons_zero]))
    refine bodyPost_ret (results_one (rs := [.cell 4 63]) Try.results123 (.cell rfl (hp.loadAgg agg63 at4 0 _ (by rfl) (by rfl)) .nil)) rfl ⟨rfl, ⟨od, a2, os ++ [⟨nx, tp, nd, some ⟨bwd, 0, none⟩, zerosI m, m, some ⟨bln, 0, none⟩, zerosI k, k⟩], c2, nx + 1, t0, t1, t2, t3, a1, takenL fs ⟨tp, to⟩ nd, k1⟩, ?_, RO2, R1, M ++ ([⟨bwd, List.replicate m (.int .i64 0), 3, m⟩] ++ [⟨bln, List.replicate k (.int .i64 0), 3, k⟩]), ⟨?_, HR1.out, ?_⟩, ?_⟩
    · exact ⟨rfl, rfl, rfl, rfl, rfl, rfl, ObsSm.snocs os ⟨rfl, rfl, rfl, rfl, rfl⟩, rfl⟩
    · have h := HRA.out
      simp only [List.length_append, List.length_singleton, obs_snoc]
      simpa [obV, zeros_len] using h
    · exact hR.out.rows.snoc ⟨_, _, rfl, own_zeros bwd m (by omega), own_zeros bln k (by omega)⟩
    · simp only [hvL, List.length_append, List.length_singleton]
      exact hp.keep (fun f => by (simp only [List.map_append, List.map_cons, List.map_nil, List.sum_append, List.sum_cons, List.sum_nil, List.cons_append, List.nil_append, List.append_nil]; omega))
end Go.Proofs.Ytbflmnoaiklnbaa
