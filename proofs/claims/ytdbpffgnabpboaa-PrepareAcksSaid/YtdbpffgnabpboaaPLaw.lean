/- The walks of the document's rows of PrepareAcks and of the law. -/
import Derived.Test.YtdbpffgnabpboaaPAck
set_option linter.unusedSimpArgs false
set_option linter.unusedVariables false
namespace Go.Proofs.Ytdbpffgnabpboaa
open Go.RowKit
theorem Keeps.keptAgg {P : Program} {w0 w : World} {M : List Blk} (h : Keeps w0.heap.size w0 M w) {ty : TypeId} {k : Nat} (ha : aggB P ty k = true) {R : List Blk} (hR : ∀ p ∈ R, p ∈ M) {b off : Nat} {vs : List Value} (hk : vs.length = k) (hc : Kept R fun w => ∀ k v, vs[k]? = some v → w.cell? ⟨b, off + k, none⟩ = some v) :
    (loadVar ty ⟨b, off, none⟩).run P w = .ok (.agg vs.toArray) w := by
  obtain ⟨L, hp, hm⟩ := h
  obtain ⟨h1, h2⟩ := run_isAgg_agg ha w
  have hcc := hc.at hp (fun p hp2 => hm p (hR p hp2))
  have := run_loadCells_list (P := P) w ⟨b, off, none⟩ vs (fun j v hj => by rw [add_addr]; exact hcc j v hj)
  rw [hk] at this
  simp [loadVar, Sem.run_bind, h1, h2, this]
theorem adj_one (x : Ak) : Adj [x] [x].length := fun i u v hi => by simp at hi
theorem ack_a (b : Nat) (w : World) (h : RowIs w (some ⟨b, 0, none⟩) [.int .i64 2, .int .i64 5]) : Calls Try.prog 32 #[.slice (some ⟨b, 0, none⟩) 1 1, .int .i64 3, .int .i64 4] w (AckPost w [⟨2, 5⟩, ⟨3, 4⟩]) :=
  ack32 [⟨2, 5⟩] (some ⟨b, 0, none⟩) 1 (by decide) 3 4 1 ⟨by decide, fun j y hj hk => by
    obtain rfl : j = 0 := by omega
    simp at hj; subst hj; decide, fun j y hj hk => by have := (List.getElem?_eq_some_iff.1 hj).1; simp at this; omega⟩ (adj_one _) w h
theorem ack_b (b : Nat) (w : World) (h : RowIs w (some ⟨b, 0, none⟩) [.int .i64 2, .int .i64 5]) : Calls Try.prog 32 #[.slice (some ⟨b, 0, none⟩) 1 1, .int .i64 2, .int .i64 4] w (AckPost w [⟨2, 5⟩]) :=
  ack32 [⟨2, 5⟩] (some ⟨b, 0, none⟩) 1 (by decide) 2 4 0 ⟨by decide, fun j y hj hk => by omega, fun j y hj hk => by
    have := (List.getElem?_eq_some_iff.1 hj).1
    obtain rfl : j = 0 := by simp at this; omega
    simp at hj; subst hj; decide⟩ (adj_one _) w h
set_option maxRecDepth 100000 in
set_option maxHeartbeats 4000000 in
theorem acks35 (w : World) : Calls Try.prog 35 #[] w fun e w' => e = .returned (.bool true) ∧ Below w.heap.size w w' := by
  have hp := Hp.start w
  go_enter Try.func35, Try.ntmps35
  go_wp2_with (first | (go_at_call 32; (with_reducible refine (ack_a _ _ (hp.rowIs at0)).mono ?_); rintro e w1 ⟨va, RA, rfl, hRA, hp2⟩; replace hp := hp.join hp2; obtain ⟨aa, ca, rfl, hka⟩ := hRA.kept; have HKA := Lib.hid hka; clear hRA hp2 hka; simp only [List.cons_append, List.nil_append] at hp) | (go_at_call 32; (with_reducible refine (ack_b _ _ (hp.rowIs at0)).mono ?_); rintro e w1 ⟨vb, RB, rfl, hRB, hp2⟩; replace hp := hp.join hp2; obtain ⟨ab, cb, rfl, hkb⟩ := hRB.kept; have HKB := Lib.hid hkb; clear hRB hp2 hkb; simp only [List.cons_append, List.nil_append, List.append_assoc] at hp) | go_skip | ((with_reducible refine pre_box _ _ rfl ?_); refine wpList_box_hp hp _ _ rfl (by first | exact wanted_none rfl | exact wanted_yes rfl rfl rfl rfl) _ (slot_tmp rfl) _ rfl _ (by simp only [List.length_cons, List.length_nil, Nat.reduceAdd]; rfl) ?_; clear hp; intro b w1 hp; simp only [put_some, put_none, List.set_cons_succ, List.set_cons_zero]) | ((with_reducible refine pre_load 72 _ rfl ?_); (refine wpList_loadAgg_hp hp _ _ rfl (by first | exact wanted_none rfl | exact wanted_yes rfl rfl rfl rfl) _ _ (slot_tmp rfl) _ agg72 _ _ _ _ (by first | exact at0 | exact at1 | exact at2 | exact at3 | exact at4 | exact at5 | exact at6 | exact at7 | exact at8 | exact at9 | exact at10 | exact at11 | exact at12 | exact at13) _ (by simp only [List.drop_zero, List.drop_succ_cons, List.take_succ_cons, List.take_zero, List.take_nil]; rfl) (by rfl) ?_; simp only [put_some, put_none, List.set_cons_succ, List.set_cons_zero])) | ((with_reducible refine pre_load 3 _ rfl ?_); (refine wpList_loadOne_hp hp _ _ rfl (by first | exact wanted_none rfl | exact wanted_yes rfl rfl rfl rfl) _ _ (slot_tmp rfl) cell3 _ _ _ _ (by first | exact at0 | exact at1 | exact at2 | exact at3 | exact at4 | exact at5 | exact at6 | exact at7 | exact at8 | exact at9 | exact at10 | exact at11 | exact at12 | exact at13) _ (by rfl) ?_; simp only [put_some, put_none, List.set_cons_succ, List.set_cons_zero])) | ((with_reducible refine pre_load 4 _ rfl ?_); (refine wpList_loadOne_hp hp _ _ rfl (by first | exact wanted_none rfl | exact wanted_yes rfl rfl rfl rfl) _ _ (slot_tmp rfl) cell4 _ _ _ _ (by first | exact at0 | exact at1 | exact at2 | exact at3 | exact at4 | exact at5 | exact at6 | exact at7 | exact at8 | exact at9 | exact at10 | exact at11 | exact at12 | exact at13) _ (by rfl) ?_; simp only [put_some, put_none, List.set_cons_succ, List.set_cons_zero])) | ((with_reducible refine pre_load 68 _ rfl ?_); (refine wpList_loadOne_hp hp _ _ rfl (by first | exact wanted_none rfl | exact wanted_yes rfl rfl rfl rfl) _ _ (slot_tmp rfl) cell68 _ _ _ _ (by first | exact at0 | exact at1 | exact at2 | exact at3 | exact at4 | exact at5 | exact at6 | exact at7 | exact at8 | exact at9 | exact at10 | exact at11 | exact at12 | exact at13) _ (by rfl) ?_; simp only [put_some, put_none, List.set_cons_succ, List.set_cons_zero])) | ((with_reducible refine pre_store 72 _ _ rfl ?_); first | (refine wpList_storeAll_hp hp _ _ _ rfl (by first | exact wanted_none rfl | exact wanted_yes rfl rfl rfl rfl) _ (slot_tmp rfl) _ (slot_tmp rfl) agg72 _ _ _ _ (by first | exact at0 | exact at1 | exact at2 | exact at3 | exact at4 | exact at5 | exact at6 | exact at7 | exact at8 | exact at9 | exact at10 | exact at11 | exact at12 | exact at13) (by rfl) (by first | rfl | simp [*]) ?_; clear hp; intro w1 hp; simp only [List.set_cons_zero, List.set_cons_succ] at hp; simp only [put_some, put_none, List.set_cons_succ, List.set_cons_zero]) | (refine wpList_storeAgg_hp hp _ _ _ rfl (by first | exact wanted_none rfl | exact wanted_yes rfl rfl rfl rfl) _ _ (slot_tmp rfl) _ (slot_tmp rfl) agg72 _ _ _ _ (by first | exact at0 | exact at1 | exact at2 | exact at3 | exact at4 | exact at5 | exact at6 | exact at7 | exact at8 | exact at9 | exact at10 | exact at11 | exact at12 | exact at13) (by simp only [List.length_cons, List.length_nil]; omega) (by first | rfl | simp [*]) ?_; clear hp; intro w1 hp; simp only [spl, List.set_cons_zero, List.set_cons_succ] at hp; simp only [put_some, put_none, List.set_cons_succ, List.set_cons_zero])) | ((with_reducible refine pre_store 3 _ _ rfl ?_); refine wpList_storeOne_hp hp _ _ _ rfl (by first | exact wanted_none rfl | exact wanted_yes rfl rfl rfl rfl) _ _ (slot_tmp rfl) _ (by first | exact slot_tmp rfl | exact slot_const) cell3 _ _ _ _ (by first | exact at0 | exact at1 | exact at2 | exact at3 | exact at4 | exact at5 | exact at6 | exact at7 | exact at8 | exact at9 | exact at10 | exact at11 | exact at12 | exact at13) (by simp only [List.length_cons, List.length_nil]; omega) (by first | rfl | assumption) ?_; clear hp; intro w1 hp; simp only [List.set_cons_zero, List.set_cons_succ] at hp; simp only [put_some, put_none, List.set_cons_succ, List.set_cons_zero]) | ((with_reducible refine pre_store 4 _ _ rfl ?_); refine wpList_storeOne_hp hp _ _ _ rfl (by first | exact wanted_none rfl | exact wanted_yes rfl rfl rfl rfl) _ _ (slot_tmp rfl) _ (by first | exact slot_tmp rfl | exact slot_const) cell4 _ _ _ _ (by first | exact at0 | exact at1 | exact at2 | exact at3 | exact at4 | exact at5 | exact at6 | exact at7 | exact at8 | exact at9 | exact at10 | exact at11 | exact at12 | exact at13) (by simp only [List.length_cons, List.length_nil]; omega) (by first | rfl | assumption) ?_; clear hp; intro w1 hp; simp only [List.set_cons_zero, List.set_cons_succ] at hp; simp only [put_some, put_none, List.set_cons_succ, List.set_cons_zero]) | ((with_reducible refine pre_store 68 _ _ rfl ?_); refine wpList_storeOne_hp hp _ _ _ rfl (by first | exact wanted_none rfl | exact wanted_yes rfl rfl rfl rfl) _ _ (slot_tmp rfl) _ (by first | exact slot_tmp rfl | exact slot_const) cell68 _ _ _ _ (by first | exact at0 | exact at1 | exact at2 | exact at3 | exact at4 | exact at5 | exact at6 | exact at7 | exact at8 | exact at9 | exact at10 | exact at11 | exact at12 | exact at13) (by simp only [List.length_cons, List.length_nil]; omega) (by first | rfl | assumption) ?_; clear hp; intro w1 hp; simp only [List.set_cons_zero, List.set_cons_succ] at hp; simp only [put_some, put_none, List.set_cons_succ, List.set_cons_zero]) | ((with_reducible refine pre_build _ _ _ rfl ?_); refine wpList_buildSlice_hp hp _ _ _ rfl (by first | exact wanted_none rfl | exact wanted_yes rfl rfl rfl rfl) _ _ (by intro w; go_simp; rfl) ?_; clear hp; intro b w1 hp; simp only [List.length_cons, List.length_nil, Nat.reduceAdd] at hp; simp only [put_some, put_none, List.set_cons_succ, List.set_cons_zero]))
  obtain ⟨b1, o1, rfl, hE1⟩ := HKA.out.elem (x := ⟨3, 4⟩) (j := 1) 2 akV_len (by decide) rfl hp (fun p h => by simp [h])
  obtain ⟨b2, o2, rfl, hE2⟩ := HKB.out.elem (x := ⟨2, 5⟩) (j := 0) 2 akV_len (by decide) rfl hp (fun p h => by simp [h])
  have HE1 := Lib.hid hE1
  have HE2 := Lib.hid hE2
  clear hE1 hE2
  refine wp_region_keeps _ (Keeps.all hp.drew) [] [(0, true), (1, true), (2, true), (3, true), (4, true), (5, true), (6, true), (7, true), (8, true), (9, true), (10, true), (11, true), (12, true), (13, true), (14, true), (15, true), (16, true), (17, true), (18, true), (19, true), (20, true), (21, true), (22, true), (23, true), (24, false)] (by kernel_rfl) (by kernel_rfl) rfl (by kernel_rfl) (fun _ _ d _ _ h => by cases d <;> exact h) ?_
  replace hp := hp.drew
  (refine plan_move rfl _ rfl (by first | exact wanted_none rfl | exact wanted_yes rfl rfl rfl rfl) ?_)
  try simp only [put_some, put_none, eval_tmp, eval_const, List.set_cons_succ, List.set_cons_zero, List.getD_cons_succ, List.getD_cons_zero, wrap_eq]
  (refine plan_take rfl (by first | exact wanted_none rfl | exact wanted_yes rfl rfl rfl rfl) (fun w _ => (by go_simp; try rfl)) ?_)
  try simp only [put_some, put_none, eval_tmp, eval_const, List.set_cons_succ, List.set_cons_zero, List.getD_cons_succ, List.getD_cons_zero, wrap_eq]
  (refine plan_take rfl (by first | exact wanted_none rfl | exact wanted_yes rfl rfl rfl rfl) (fun w _ => (by go_simp; try rfl)) ?_)
  try simp only [put_some, put_none, eval_tmp, eval_const, List.set_cons_succ, List.set_cons_zero, List.getD_cons_succ, List.getD_cons_zero, wrap_eq]
  (refine plan_move rfl _ rfl (by first | exact wanted_none rfl | exact wanted_yes rfl rfl rfl rfl) ?_)
  try simp only [put_some, put_none, eval_tmp, eval_const, List.set_cons_succ, List.set_cons_zero, List.getD_cons_succ, List.getD_cons_zero, wrap_eq]
  first | (refine plan_skip rfl (wanted_no rfl rfl rfl rfl) ?_) | (refine plan_skip rfl (wanted_nu rfl rfl rfl rfl) ?_) | (refine plan_move rfl _ rfl (by first | exact wanted_none rfl | exact wanted_yes rfl rfl rfl rfl) ?_)
  try simp only [put_some, put_none, eval_tmp, eval_const, List.set_cons_succ, List.set_cons_zero, List.getD_cons_succ, List.getD_cons_zero, wrap_eq]
  first | (refine plan_skip rfl (wanted_no rfl rfl rfl rfl) ?_) | (refine plan_skip rfl (wanted_nu rfl rfl rfl rfl) ?_) | (refine plan_take rfl (by first | exact wanted_none rfl | exact wanted_yes rfl rfl rfl rfl) (fun w _ => (by go_simp; try rfl)) ?_)
  try simp only [put_some, put_none, eval_tmp, eval_const, List.set_cons_succ, List.set_cons_zero, List.getD_cons_succ, List.getD_cons_zero, wrap_eq]
  first | (refine plan_skip rfl (wanted_no rfl rfl rfl rfl) ?_) | (refine plan_skip rfl (wanted_nu rfl rfl rfl rfl) ?_) | (first | (refine plan_loadAgg rfl _ _ rfl (by first | exact wanted_none rfl | exact wanted_yes rfl rfl rfl rfl) _ _ (slot_tmp rfl) _ (fun w hS => hS.keptAgg agg72 (fun p h => by simp [h]) rfl HE1.out) ?_) | (refine plan_loadAgg rfl _ _ rfl (by first | exact wanted_none rfl | exact wanted_yes rfl rfl rfl rfl) _ _ (slot_tmp rfl) _ (fun w hS => hS.keptAgg agg72 (fun p h => by simp [h]) rfl HE2.out) ?_) | (refine plan_loadAgg rfl _ _ rfl (by first | exact wanted_none rfl | exact wanted_yes rfl rfl rfl rfl) _ _ (slot_tmp rfl) _ (fun w hS => hS.loadAgg agg72 (by first | exact at0 | exact at1 | exact at2 | exact at3 | exact at4 | exact at5 | exact at6 | exact at7 | exact at8 | exact at9 | exact at10 | exact at11 | exact at12 | exact at13) _ _ (by simp only [List.drop_zero, List.drop_succ_cons, List.take_succ_cons, List.take_zero, List.take_nil]; rfl) (by rfl)) ?_))
  try simp only [put_some, put_none, eval_tmp, eval_const, List.set_cons_succ, List.set_cons_zero, List.getD_cons_succ, List.getD_cons_zero, wrap_eq]
  first | (refine plan_skip rfl (wanted_no rfl rfl rfl rfl) ?_) | (refine plan_skip rfl (wanted_nu rfl rfl rfl rfl) ?_) | (refine plan_take rfl (by first | exact wanted_none rfl | exact wanted_yes rfl rfl rfl rfl) (fun w _ => (by go_simp; try rfl)) ?_)
  try simp only [put_some, put_none, eval_tmp, eval_const, List.set_cons_succ, List.set_cons_zero, List.getD_cons_succ, List.getD_cons_zero, wrap_eq]
  first | (refine plan_skip rfl (wanted_no rfl rfl rfl rfl) ?_) | (refine plan_skip rfl (wanted_nu rfl rfl rfl rfl) ?_) | (refine plan_take rfl (by first | exact wanted_none rfl | exact wanted_yes rfl rfl rfl rfl) (fun w _ => (by go_simp; try rfl)) ?_)
  try simp only [put_some, put_none, eval_tmp, eval_const, List.set_cons_succ, List.set_cons_zero, List.getD_cons_succ, List.getD_cons_zero, wrap_eq]
  (refine plan_take rfl (by first | exact wanted_none rfl | exact wanted_yes rfl rfl rfl rfl) (fun w _ => (by go_simp; try rfl)) ?_)
  try simp only [put_some, put_none, eval_tmp, eval_const, List.set_cons_succ, List.set_cons_zero, List.getD_cons_succ, List.getD_cons_zero, wrap_eq]
  (refine plan_move rfl _ rfl (by first | exact wanted_none rfl | exact wanted_yes rfl rfl rfl rfl) ?_)
  try simp only [put_some, put_none, eval_tmp, eval_const, List.set_cons_succ, List.set_cons_zero, List.getD_cons_succ, List.getD_cons_zero, wrap_eq]
  first | (refine plan_skip rfl (wanted_no rfl rfl rfl rfl) ?_) | (refine plan_skip rfl (wanted_nu rfl rfl rfl rfl) ?_) | (refine plan_move rfl _ rfl (by first | exact wanted_none rfl | exact wanted_yes rfl rfl rfl rfl) ?_)
  try simp only [put_some, put_none, eval_tmp, eval_const, List.set_cons_succ, List.set_cons_zero, List.getD_cons_succ, List.getD_cons_zero, wrap_eq]
  first | (refine plan_skip rfl (wanted_no rfl rfl rfl rfl) ?_) | (refine plan_skip rfl (wanted_nu rfl rfl rfl rfl) ?_) | (refine plan_take rfl (by first | exact wanted_none rfl | exact wanted_yes rfl rfl rfl rfl) (fun w _ => (by go_simp; try rfl)) ?_)
  try simp only [put_some, put_none, eval_tmp, eval_const, List.set_cons_succ, List.set_cons_zero, List.getD_cons_succ, List.getD_cons_zero, wrap_eq]
  first | (refine plan_skip rfl (wanted_no rfl rfl rfl rfl) ?_) | (refine plan_skip rfl (wanted_nu rfl rfl rfl rfl) ?_) | (refine plan_take rfl (by first | exact wanted_none rfl | exact wanted_yes rfl rfl rfl rfl) (fun w _ => (by go_simp; try rfl)) ?_)
  try simp only [put_some, put_none, eval_tmp, eval_const, List.set_cons_succ, List.set_cons_zero, List.getD_cons_succ, List.getD_cons_zero, wrap_eq]
  (refine plan_take rfl (by first | exact wanted_none rfl | exact wanted_yes rfl rfl rfl rfl) (fun w _ => (by go_simp; try rfl)) ?_)
  try simp only [put_some, put_none, eval_tmp, eval_const, List.set_cons_succ, List.set_cons_zero, List.getD_cons_succ, List.getD_cons_zero, wrap_eq]
  (refine plan_move rfl _ rfl (by first | exact wanted_none rfl | exact wanted_yes rfl rfl rfl rfl) ?_)
  try simp only [put_some, put_none, eval_tmp, eval_const, List.set_cons_succ, List.set_cons_zero, List.getD_cons_succ, List.getD_cons_zero, wrap_eq]
  first | (refine plan_skip rfl (wanted_no rfl rfl rfl rfl) ?_) | (refine plan_skip rfl (wanted_nu rfl rfl rfl rfl) ?_) | (refine plan_move rfl _ rfl (by first | exact wanted_none rfl | exact wanted_yes rfl rfl rfl rfl) ?_)
  try simp only [put_some, put_none, eval_tmp, eval_const, List.set_cons_succ, List.set_cons_zero, List.getD_cons_succ, List.getD_cons_zero, wrap_eq]
  first | (refine plan_skip rfl (wanted_no rfl rfl rfl rfl) ?_) | (refine plan_skip rfl (wanted_nu rfl rfl rfl rfl) ?_) | (refine plan_take rfl (by first | exact wanted_none rfl | exact wanted_yes rfl rfl rfl rfl) (fun w _ => (by go_simp; try rfl)) ?_)
  try simp only [put_some, put_none, eval_tmp, eval_const, List.set_cons_succ, List.set_cons_zero, List.getD_cons_succ, List.getD_cons_zero, wrap_eq]
  first | (refine plan_skip rfl (wanted_no rfl rfl rfl rfl) ?_) | (refine plan_skip rfl (wanted_nu rfl rfl rfl rfl) ?_) | (first | (refine plan_loadAgg rfl _ _ rfl (by first | exact wanted_none rfl | exact wanted_yes rfl rfl rfl rfl) _ _ (slot_tmp rfl) _ (fun w hS => hS.keptAgg agg72 (fun p h => by simp [h]) rfl HE1.out) ?_) | (refine plan_loadAgg rfl _ _ rfl (by first | exact wanted_none rfl | exact wanted_yes rfl rfl rfl rfl) _ _ (slot_tmp rfl) _ (fun w hS => hS.keptAgg agg72 (fun p h => by simp [h]) rfl HE2.out) ?_) | (refine plan_loadAgg rfl _ _ rfl (by first | exact wanted_none rfl | exact wanted_yes rfl rfl rfl rfl) _ _ (slot_tmp rfl) _ (fun w hS => hS.loadAgg agg72 (by first | exact at0 | exact at1 | exact at2 | exact at3 | exact at4 | exact at5 | exact at6 | exact at7 | exact at8 | exact at9 | exact at10 | exact at11 | exact at12 | exact at13) _ _ (by simp only [List.drop_zero, List.drop_succ_cons, List.take_succ_cons, List.take_zero, List.take_nil]; rfl) (by rfl)) ?_))
  try simp only [put_some, put_none, eval_tmp, eval_const, List.set_cons_succ, List.set_cons_zero, List.getD_cons_succ, List.getD_cons_zero, wrap_eq]
  first | (refine plan_skip rfl (wanted_no rfl rfl rfl rfl) ?_) | (refine plan_skip rfl (wanted_nu rfl rfl rfl rfl) ?_) | (refine plan_move rfl _ rfl (by first | exact wanted_none rfl | exact wanted_yes rfl rfl rfl rfl) ?_)
  try simp only [put_some, put_none, eval_tmp, eval_const, List.set_cons_succ, List.set_cons_zero, List.getD_cons_succ, List.getD_cons_zero, wrap_eq]
  first | (refine plan_skip rfl (wanted_no rfl rfl rfl rfl) ?_) | (refine plan_skip rfl (wanted_nu rfl rfl rfl rfl) ?_) | (refine plan_take rfl (by first | exact wanted_none rfl | exact wanted_yes rfl rfl rfl rfl) (fun w _ => (by go_simp; try rfl)) ?_)
  try simp only [put_some, put_none, eval_tmp, eval_const, List.set_cons_succ, List.set_cons_zero, List.getD_cons_succ, List.getD_cons_zero, wrap_eq]
  first | (refine plan_skip rfl (wanted_no rfl rfl rfl rfl) ?_) | (refine plan_skip rfl (wanted_nu rfl rfl rfl rfl) ?_) | (first | (refine plan_loadAgg rfl _ _ rfl (by first | exact wanted_none rfl | exact wanted_yes rfl rfl rfl rfl) _ _ (slot_tmp rfl) _ (fun w hS => hS.keptAgg agg72 (fun p h => by simp [h]) rfl HE1.out) ?_) | (refine plan_loadAgg rfl _ _ rfl (by first | exact wanted_none rfl | exact wanted_yes rfl rfl rfl rfl) _ _ (slot_tmp rfl) _ (fun w hS => hS.keptAgg agg72 (fun p h => by simp [h]) rfl HE2.out) ?_) | (refine plan_loadAgg rfl _ _ rfl (by first | exact wanted_none rfl | exact wanted_yes rfl rfl rfl rfl) _ _ (slot_tmp rfl) _ (fun w hS => hS.loadAgg agg72 (by first | exact at0 | exact at1 | exact at2 | exact at3 | exact at4 | exact at5 | exact at6 | exact at7 | exact at8 | exact at9 | exact at10 | exact at11 | exact at12 | exact at13) _ _ (by simp only [List.drop_zero, List.drop_succ_cons, List.take_succ_cons, List.take_zero, List.take_nil]; rfl) (by rfl)) ?_))
  try simp only [put_some, put_none, eval_tmp, eval_const, List.set_cons_succ, List.set_cons_zero, List.getD_cons_succ, List.getD_cons_zero, wrap_eq]
  first | (refine plan_skip rfl (wanted_no rfl rfl rfl rfl) ?_) | (refine plan_skip rfl (wanted_nu rfl rfl rfl rfl) ?_) | (refine plan_take rfl (by first | exact wanted_none rfl | exact wanted_yes rfl rfl rfl rfl) (fun w _ => (by go_simp; try rfl)) ?_)
  try simp only [put_some, put_none, eval_tmp, eval_const, List.set_cons_succ, List.set_cons_zero, List.getD_cons_succ, List.getD_cons_zero, wrap_eq]
  (refine plan_take rfl (by first | exact wanted_none rfl | exact wanted_yes rfl rfl rfl rfl) (fun w _ => (by go_simp; try rfl)) ?_)
  try simp only [put_some, put_none, eval_tmp, eval_const, List.set_cons_succ, List.set_cons_zero, List.getD_cons_succ, List.getD_cons_zero, wrap_eq]
  refine plan_do rfl (fun K hK => ?_)
  go_wp2_with (go_skip)
  refine hK.out _ _ (.inr (by first | exact Keeps.all hp | exact ⟨_, hp, fun p h => List.mem_cons_of_mem _ h⟩ | exact ⟨_, hp, fun p h => List.mem_cons_of_mem _ (List.mem_cons_of_mem _ h)⟩ | exact ⟨_, hp, fun p h => by (simp only [List.mem_cons, List.mem_append] at h ⊢; rcases h with h | h | h <;> simp [h])⟩ | exact ⟨_, hp, fun p h => by (simp only [List.mem_cons, List.mem_append] at h ⊢; rcases h with h | h | h | h <;> simp [h])⟩)) ?_
  clear hK K
  try simp only [put_some, put_none, eval_tmp, eval_const, List.set_cons_succ, List.set_cons_zero, List.getD_cons_succ, List.getD_cons_zero, wrap_eq]
  refine plan_nil ?_
  go_wp2_with fail
  go_ret
  exact ⟨rfl, hp.below⟩
theorem law6_big (a : Option Addr) (n c : Nat) (hn : 300 < n) (t m : Int) (w : World) : Calls Try.prog 6 #[.slice a n c, .int .i64 t, .int .i64 m] w fun e w' => e = .returned (.bool true) ∧ Below w.heap.size w w' := by
  have e1 : (300 : Int) < (n : Int) := by omega
  go_enter Try.func6, Try.ntmps6
  go_wp2
  go_ret
  exact ⟨rfl, Below.refl _ _⟩
set_option maxRecDepth 100000 in
set_option maxHeartbeats 8000000 in
theorem law6_c (l S : List Ak) (a : Option Addr) (c : Nat) (hl : l.length ≤ 300) (hS : S.length ≤ 301) (t m : Int)
    (kp : ∀ (a : Option Addr) (c : Nat) (w : World), RowIs w a (l.flatMap akV) → Calls Try.prog 32 #[.slice a l.length c, .int .i64 t, .int .i64 m] w (AckPost w S))
    (kr : ∀ (a : Option Addr) (c : Nat) (w : World), RowIs w a (l.flatMap akV) → Calls Try.prog 34 #[.slice a l.length c, .int .i64 t, .int .i64 m] w (AckPost w S))
    (w : World) (ha : RowIs w a (l.flatMap akV)) :
    Calls Try.prog 6 #[.slice a l.length c, .int .i64 t, .int .i64 m] w fun e w' => e = .returned (.bool true) ∧ Below w.heap.size w w' := by
  obtain ⟨i0, hi0, hz0, hz1, hz2⟩ := info_parts info72
  have hp := Hp.start w
  have HA := Lib.hid ha
  have KP := Lib.hid kp
  have KR := Lib.hid kr
  have sm1 : l.length ≤ maxLen := by unfold maxLen; omega
  have sm2 : l.length * 16 ≤ 140737488355328 := by omega
  have hS1 : S.length ≤ 1001 := by omega
  have hl1 : l.length ≤ 1001 := by omega
  have e1 : decide ((300 : Int) < (l.length : Int)) = false := by simp; omega
  clear ha kp kr
  go_enter Try.func6, Try.ntmps6
  go_wp2_with (first | ((with_reducible refine pre_append _ _ 68 rfl ?_); refine wpList_appendRowK hp _ _ _ rfl (by first | exact wanted_none rfl | exact wanted_yes rfl rfl rfl rfl) 72 i0 _ 2 16 Try.underlying68 hi0 hz0 hz1 hz2 rfl (by decide) (slot_tmp rfl) a l.length c (slot_tmp rfl) _ (by rw [flat_len akV 2 akV_len]) (HA.out.below hp.below) (aks_one l) sm1 sm2 ?_; clear hp; intro a0 c0 R0 w1 hk0 _ hp; have HK0 := Lib.hid hk0; clear hk0; simp only [List.nil_append] at hp; simp only [put_some, put_none, List.set_cons_succ, List.set_cons_zero]) | (go_at_call 32; (with_reducible refine (KP.out _ _ _ (HA.out.below hp.below)).mono ?_); rintro e w1 ⟨vx, RX, rfl, hRX, hp2⟩; replace hp := hp.join hp2; obtain ⟨ax, cx, rfl, hkx⟩ := hRX.kept; have HKX := Lib.hid hkx; have HRX := Lib.hid hRX; clear hRX hp2 hkx) | (go_at_call 34; (with_reducible refine (KR.out _ _ _ (HK0.out.at hp (by intro p hp2; simp [hp2]))).mono ?_); rintro e w1 ⟨vy, RY, rfl, hRY, hp2⟩; replace hp := hp.join hp2; obtain ⟨ay, cy, rfl, hky⟩ := hRY.kept; have HKY := Lib.hid hky; clear hRY hp2 hky) | (go_at_call 33; (with_reducible refine (acks33 S ax ay cx cy hS1 _ (HKX.out.at hp (by intro p hp2; simp [hp2])) (HKY.out.at hp (by intro p hp2; simp [hp2]))).mono ?_); rintro e w1 ⟨rfl, hb⟩; replace hp := hp.call hb; clear hb) | go_skip)
  have hro := HRX.out
  obtain ⟨hxl, ⟨h0, hv, hxs, hrr⟩ | ⟨g, cap, hv, hnc, hcm, hrr⟩⟩ := hro
  · injection hv with h1 h2 h3
    obtain rfl : S = [] := List.eq_nil_of_length_eq_zero h0
    go_loopg [10] 1 (fun k i wr => i = .int .i64 0 ∧ Hp w.heap.size w wr ((R0 ++ RX) ++ RY))
    case atStart => exact ⟨rfl, hp⟩
    case round =>
      clear hp
      obtain ⟨rfl, hp⟩ := hrel
      clear hxl h0 h1 h2 h3 hxs hrr
      go_wp2_with (first | (go_at_call 35; (with_reducible refine (acks35 _).mono ?_); rintro e w1 ⟨rfl, hb⟩; replace hp := hp.call hb; clear hb) | (go_at_call 33; (with_reducible refine (acks33 l a a0 c c0 hl1 _ (HA.out.below hp.below) (HK0.out.at hp (by intro p hp2; simp [hp2]))).mono ?_); rintro e w1 ⟨rfl, hb⟩; replace hp := hp.call hb; clear hb) | go_skip)
      go_ret
      exact ⟨rfl, hp.below⟩
  · injection hv with h1 h2 h3
    subst h1 h3 hrr
    replace hp : Hp w.heap.size w _ (⟨g, S.flatMap akV, 72, _⟩ :: (R0 ++ RY)) := hp.reorder (by rw [List.append_assoc]; exact List.perm_middle)
    have HCL0 := Lib.hid hxl
    clear hxl
    go_loopg [10] S.length (fun k i wr => ∃ (j : Nat) (cs : List Value), k + j = S.length ∧ i = .int .i64 j ∧ RowKit.Hid (cs.length = S.length * 2) ∧ Hp w.heap.size w wr (⟨g, cs, 72, cx * 2⟩ :: (R0 ++ RY)))
    case atStart => exact ⟨0, _, by omega, rfl, HCL0, hp⟩
    case round =>
      clear hp
      obtain ⟨j, cs, hkj, rfl, HCL, hp⟩ := hrel
      by_cases hlt : j < S.length
      · have e3 : (0 : Int) ≤ (j : Int) := by omega
        have e4 : (j : Int) < (S.length : Int) := by omega
        go_wp2_with (first | ((with_reducible refine pre_store 3 _ _ rfl ?_); refine wpList_storeOne_hp hp _ _ _ rfl (by first | exact wanted_none rfl | exact wanted_yes rfl rfl rfl rfl) _ _ (slot_tmp rfl) _ slot_const cell3 _ _ _ _ at0 (by have := HCL.out; omega) rfl ?_; clear hp; intro w1 hp; simp only [List.set_cons_zero] at hp; simp only [put_some, put_none, List.set_cons_succ, List.set_cons_zero]) | go_skip)
        go_roundg (gk - 1)
        case measure => omega
        case rel => exact ⟨j + 1, _, by omega, by go_num, Lib.hid (by rw [List.length_set]; exact HCL.out), hp⟩
      · have e4 : decide ((j : Int) < (S.length : Int)) = false := by simp; omega
        go_wp2_with (first | (go_at_call 35; (with_reducible refine (acks35 _).mono ?_); rintro e w1 ⟨rfl, hb⟩; replace hp := hp.call hb; clear hb) | (go_at_call 33; (with_reducible refine (acks33 l a a0 c c0 hl1 _ (HA.out.below hp.below) (HK0.out.at hp (by intro p hp2; simp [hp2]))).mono ?_); rintro e w1 ⟨rfl, hb⟩; replace hp := hp.call hb; clear hb) | go_skip)
        go_ret
        exact ⟨rfl, hp.below⟩
theorem ack_len (l : List Ak) (t m : Int) (k : Nat) : (ackS l t m k).length ≤ l.length + 1 := by
  unfold ackS
  cases hj : l[k]? with
  | none => simp only [List.length_append, List.length_take, List.length_singleton]; omega
  | some y =>
    have := mid_len y t m
    have := (List.getElem?_eq_some_iff.1 hj).1
    simp only [List.length_append, List.length_take, List.length_drop]; omega
theorem law6 (l : List Ak) (a : Option Addr) (c : Nat) (t m : Int) (w : World) (ha : RowIs w a (l.flatMap akV)) :
    Calls Try.prog 6 #[.slice a l.length c, .int .i64 t, .int .i64 m] w fun e w' => e = .returned (.bool true) ∧ Below w.heap.size w w' := by
  by_cases hb : 300 < l.length
  · exact law6_big a _ c hb t m w
  by_cases hr : Adj l l.length
  · obtain ⟨k, hk⟩ := at_ex (adj_sorted hr) t
    have hrb : riseB l = true := by unfold riseB; simp [hr]
    exact law6_c l (ackS l t m k) a c (by omega) (by have := ack_len l t m k; omega) t m
      (fun a c w h => ack32 l a c (by omega) t m k hk hr w h) (fun a c w h => ack34 l a c (by omega) t m k hk hrb w h) w ha
  · have hrb : riseB l = false := by unfold riseB; simp [hr]
    exact law6_c l l a c (by omega) (by omega) t m
      (fun a c w h => ack32_no l a c (by omega) t m hr w h) (fun a c w h => ack34_no l a c (by omega) t m hrb w h) w ha
end Go.Proofs.Ytdbpffgnabpboaa
