/- The walk of the document's alloc. -/
import Derived.Test.YtppdjlgjcdmiaaaGreatET
import Derived.Test.YtppdjlgjcdmiaaaGreatRV
set_option linter.unusedSimpArgs false
set_option linter.unusedVariables false
namespace Go.Proofs.YtppdjlgjcdmiaaaGreat
open Go.RowKit
theorem zeEA0 {ty : TypeId} {l : List Value} {n : Nat} (h : zeroL Tryz.prog ty = some (l, n) := by with_reducible first | exact zero26 | exact zero34 | exact zero64) : zeroL Tryz.prog ty = some (l, n) := h
theorem gaEA1 {ty : TypeId} {k : Nat} (h : aggB Tryz.prog ty k = true := by with_reducible first | exact agg26 | exact agg67 | exact agg64 | exact agg29 | exact agg34) : aggB Tryz.prog ty k = true := h
theorem ceEA2 {ty : TypeId} (h : cellB Tryz.prog ty = true := by with_reducible first | exact cell3 | exact cell4 | exact cell65 | exact cell22 | exact cell24 | exact cell32) : cellB Tryz.prog ty = true := h
set_option maxRecDepth 100000 in
set_option maxHeartbeats 8000000 in
theorem alloc72_large {od : Int} {oa : Option Addr} {os : List Ob} {oc : Nat} {nx t0 t1 t2 t3 : Int} {fa : Option Addr} {fs : List Bl} {fc : Nat} {kk hh ii nn cc vv tt : Int} {RO RF M : List Blk} {nd : Int} (HND : RowKit.Hid (needI nn cc = nd)) (h : nd < 0) {B : Nat} {w0 w : World} {K : List Blk} (hR : RowKit.Hid (HvR (⟨od, oa, os, oc, nx, t0, t1, t2, t3, fa, fs, fc⟩ : Hv) RO RF M)) (hp : Hp B w0 w (RO ++ (RF ++ (M ++ K)))) : Calls Tryz.prog 72 #[.agg (hvL (⟨od, oa, os, oc, nx, t0, t1, t2, t3, fa, fs, fc⟩ : Hv)).toArray, .agg #[.int .i64 kk, .int .i64 hh, .int .i64 ii, .int .i64 nn, .int .i64 cc, .int .i64 vv, .int .i64 tt]] w (RefPost B w0 (⟨od, oa, os, oc, nx, t0, t1, t2, t3, fa, fs, fc⟩ : Hv) 53 0 K) := by
  simp only [hvL]
  have e0 : decide (nd < 0) = true := decide_eq_true h
  clear h
  go_enter Tryz.func72, Tryz.ntmps72
  go_wp2_with (first | (go_at_call 65; (with_reducible refine (need65 _ _ _).mono ?_); rintro e w' ⟨rfl, rfl⟩; rw [HND.out]) | go_skip | ((first | ((with_reducible refine pre_alloc _ rfl ?_); refine lZ hp rfl zeEA0 ?_; clear hp; intro b w1 hp) | ((with_reducible refine pre_box _ _ rfl ?_); refine lB hp rfl (slot_tmp rfl) rfl ?_; clear hp; intro b w1 hp) | ((with_reducible refine pre_load _ _ rfl ?_); first | refine lO hp rfl (slot_tmp rfl) ceEA2 aa14 ?_ | refine lA hp rfl (slot_tmp rfl) gaEA1 aa14 ?_) | ((with_reducible refine pre_store _ _ _ rfl ?_); (first | refine sO hp rfl (slot_tmp rfl) ceEA2 aa14 ?_ | refine sA hp rfl (slot_tmp rfl) (slot_tmp rfl) gaEA1 aa14 ?_ | refine sG hp rfl (slot_tmp rfl) (slot_tmp rfl) gaEA1 aa14 ?_); clear hp; intro w1 hp; simp only [spl, List.set_cons_zero, List.set_cons_succ] at hp) | ((with_reducible refine pre_build _ _ _ rfl ?_); refine lS hp rfl (by intro w; go_simp; rfl) ?_; clear hp; intro b w1 hp; simp only [List.length_cons, List.length_nil, Nat.reduceAdd] at hp)); simp only [put_some, put_none, List.set_cons_succ, List.set_cons_zero]))
  exact bodyPost_ret (results_many (rs := [.cell 4 26, .cell 5 34]) Tryz.results72 (.cell rfl (hp.loadAgg agg26 at1 0 _ (by rfl) (by rfl)) (.cell rfl (hp.loadAgg agg34 at0 0 _ (by rfl) (by rfl)) .nil))) rfl ⟨⟨od, oa, os, oc, nx, t0, t1, t2, t3, fa, fs, fc⟩, rfl, Hv.Sm.refl _, RO, RF, M, hR.out, hp.kp⟩
set_option maxRecDepth 100000 in
set_option maxHeartbeats 8000000 in
theorem alloc72_limit {od : Int} {oa : Option Addr} {os : List Ob} {oc : Nat} {nx t0 t1 t2 t3 : Int} {fa : Option Addr} {fs : List Bl} {fc : Nat} {kk hh ii nn cc vv tt : Int} {RO RF M : List Blk} {nd : Int} (HND : RowKit.Hid (needI nn cc = nd)) (h : 0 ≤ nd) (h2 : 1000000 < nx) {B : Nat} {w0 w : World} {K : List Blk} (hR : RowKit.Hid (HvR (⟨od, oa, os, oc, nx, t0, t1, t2, t3, fa, fs, fc⟩ : Hv) RO RF M)) (hp : Hp B w0 w (RO ++ (RF ++ (M ++ K)))) : Calls Tryz.prog 72 #[.agg (hvL (⟨od, oa, os, oc, nx, t0, t1, t2, t3, fa, fs, fc⟩ : Hv)).toArray, .agg #[.int .i64 kk, .int .i64 hh, .int .i64 ii, .int .i64 nn, .int .i64 cc, .int .i64 vv, .int .i64 tt]] w (RefPost B w0 (⟨od, oa, os, oc, nx, t0, t1, t2, t3, fa, fs, fc⟩ : Hv) 2 0 K) := by
  simp only [hvL]
  have e0 : decide (nd < 0) = false := decide_eq_false (by omega)
  have e1 : decide (1000000 < nx) = true := decide_eq_true h2
  clear h h2
  go_enter Tryz.func72, Tryz.ntmps72
  go_wp2_with (first | (go_at_call 65; (with_reducible refine (need65 _ _ _).mono ?_); rintro e w' ⟨rfl, rfl⟩; rw [HND.out]) | go_skip | ((first | ((with_reducible refine pre_alloc _ rfl ?_); refine lZ hp rfl zeEA0 ?_; clear hp; intro b w1 hp) | ((with_reducible refine pre_box _ _ rfl ?_); refine lB hp rfl (slot_tmp rfl) rfl ?_; clear hp; intro b w1 hp) | ((with_reducible refine pre_load _ _ rfl ?_); first | refine lO hp rfl (slot_tmp rfl) ceEA2 aa14 ?_ | refine lA hp rfl (slot_tmp rfl) gaEA1 aa14 ?_) | ((with_reducible refine pre_store _ _ _ rfl ?_); (first | refine sO hp rfl (slot_tmp rfl) ceEA2 aa14 ?_ | refine sA hp rfl (slot_tmp rfl) (slot_tmp rfl) gaEA1 aa14 ?_ | refine sG hp rfl (slot_tmp rfl) (slot_tmp rfl) gaEA1 aa14 ?_); clear hp; intro w1 hp; simp only [spl, List.set_cons_zero, List.set_cons_succ] at hp) | ((with_reducible refine pre_build _ _ _ rfl ?_); refine lS hp rfl (by intro w; go_simp; rfl) ?_; clear hp; intro b w1 hp; simp only [List.length_cons, List.length_nil, Nat.reduceAdd] at hp)); simp only [put_some, put_none, List.set_cons_succ, List.set_cons_zero]))
  exact bodyPost_ret (results_many (rs := [.cell 4 26, .cell 5 34]) Tryz.results72 (.cell rfl (hp.loadAgg agg26 at1 0 _ (by rfl) (by rfl)) (.cell rfl (hp.loadAgg agg34 at0 0 _ (by rfl) (by rfl)) .nil))) rfl ⟨⟨od, oa, os, oc, nx, t0, t1, t2, t3, fa, fs, fc⟩, rfl, Hv.Sm.refl _, RO, RF, M, hR.out, hp.kp⟩
set_option maxRecDepth 100000 in
set_option maxHeartbeats 8000000 in
theorem alloc72_space1 {od : Int} {oa : Option Addr} {os : List Ob} {oc : Nat} {nx t0 t1 t2 t3 : Int} {fa : Option Addr} {fs : List Bl} {fc : Nat} {kk hh ii nn cc vv tt : Int} {RO RF M : List Blk} {nd : Int} (HND : RowKit.Hid (needI nn cc = nd)) (h : 0 ≤ nd) (h2 : nx ≤ 1000000) (h3 : od < nd) {B : Nat} {w0 w : World} {K : List Blk} (hR : RowKit.Hid (HvR (⟨od, oa, os, oc, nx, t0, t1, t2, t3, fa, fs, fc⟩ : Hv) RO RF M)) (hp : Hp B w0 w (RO ++ (RF ++ (M ++ K)))) : Calls Tryz.prog 72 #[.agg (hvL (⟨od, oa, os, oc, nx, t0, t1, t2, t3, fa, fs, fc⟩ : Hv)).toArray, .agg #[.int .i64 kk, .int .i64 hh, .int .i64 ii, .int .i64 nn, .int .i64 cc, .int .i64 vv, .int .i64 tt]] w (RefPost B w0 (⟨od, oa, os, oc, nx, t0, t1, t2, t3, fa, fs, fc⟩ : Hv) 50 0 K) := by
  simp only [hvL]
  have e0 : decide (nd < 0) = false := decide_eq_false (by omega)
  have e1 : decide (1000000 < nx) = false := decide_eq_false (by omega)
  have e2 : decide (od < nd) = true := decide_eq_true h3
  clear h h2 h3
  go_enter Tryz.func72, Tryz.ntmps72
  go_wp2_with (first | (go_at_call 65; (with_reducible refine (need65 _ _ _).mono ?_); rintro e w' ⟨rfl, rfl⟩; rw [HND.out]) | go_skip | ((first | ((with_reducible refine pre_alloc _ rfl ?_); refine lZ hp rfl zeEA0 ?_; clear hp; intro b w1 hp) | ((with_reducible refine pre_box _ _ rfl ?_); refine lB hp rfl (slot_tmp rfl) rfl ?_; clear hp; intro b w1 hp) | ((with_reducible refine pre_load _ _ rfl ?_); first | refine lO hp rfl (slot_tmp rfl) ceEA2 aa14 ?_ | refine lA hp rfl (slot_tmp rfl) gaEA1 aa14 ?_) | ((with_reducible refine pre_store _ _ _ rfl ?_); (first | refine sO hp rfl (slot_tmp rfl) ceEA2 aa14 ?_ | refine sA hp rfl (slot_tmp rfl) (slot_tmp rfl) gaEA1 aa14 ?_ | refine sG hp rfl (slot_tmp rfl) (slot_tmp rfl) gaEA1 aa14 ?_); clear hp; intro w1 hp; simp only [spl, List.set_cons_zero, List.set_cons_succ] at hp) | ((with_reducible refine pre_build _ _ _ rfl ?_); refine lS hp rfl (by intro w; go_simp; rfl) ?_; clear hp; intro b w1 hp; simp only [List.length_cons, List.length_nil, Nat.reduceAdd] at hp)); simp only [put_some, put_none, List.set_cons_succ, List.set_cons_zero]))
  exact bodyPost_ret (results_many (rs := [.cell 4 26, .cell 5 34]) Tryz.results72 (.cell rfl (hp.loadAgg agg26 at1 0 _ (by rfl) (by rfl)) (.cell rfl (hp.loadAgg agg34 at0 0 _ (by rfl) (by rfl)) .nil))) rfl ⟨⟨od, oa, os, oc, nx, t0, t1, t2, t3, fa, fs, fc⟩, rfl, Hv.Sm.refl _, RO, RF, M, hR.out, hp.kp⟩
set_option maxRecDepth 100000 in
set_option maxHeartbeats 8000000 in
theorem alloc72_space2 {od : Int} {oa : Option Addr} {os : List Ob} {oc : Nat} {nx t0 t1 t2 t3 : Int} {fa : Option Addr} {fs : List Bl} {fc : Nat} {kk hh ii nn cc vv tt : Int} {RO RF M : List Blk} {nd : Int} (HND : RowKit.Hid (needI nn cc = nd)) (h : 0 ≤ nd) (h2 : nx ≤ 1000000) (h3 : nd ≤ od) (hfl : fs.length ≤ 600) (HFR : RowKit.Hid (rightB od fs = true)) (HGR : RowKit.Hid (greatB fs nd = false)) {B : Nat} {w0 w : World} {K : List Blk} (hR : RowKit.Hid (HvR (⟨od, oa, os, oc, nx, t0, t1, t2, t3, fa, fs, fc⟩ : Hv) RO RF M)) (hp : Hp B w0 w (RO ++ (RF ++ (M ++ K)))) : Calls Tryz.prog 72 #[.agg (hvL (⟨od, oa, os, oc, nx, t0, t1, t2, t3, fa, fs, fc⟩ : Hv)).toArray, .agg #[.int .i64 kk, .int .i64 hh, .int .i64 ii, .int .i64 nn, .int .i64 cc, .int .i64 vv, .int .i64 tt]] w (RefPost B w0 (⟨od, oa, os, oc, nx, t0, t1, t2, t3, fa, fs, fc⟩ : Hv) 50 0 K) := by
  simp only [hvL]
  have HRF : RowKit.Hid (Kept RF fun w => RowIs w fa (fs.flatMap blV)) := Lib.hid hR.out.free.keptS
  have HN0 := Lib.hid h
  have HND2 := Lib.hid h3
  have e0 : decide (nd < 0) = false := decide_eq_false (by omega)
  have e1 : decide (1000000 < nx) = false := decide_eq_false (by omega)
  have e2 : decide (od < nd) = false := decide_eq_false (by omega)
  clear h h2 h3
  go_enter Tryz.func72, Tryz.ntmps72
  go_wp2_with (first | (go_at_call 65; (with_reducible refine (need65 _ _ _).mono ?_); rintro e w' ⟨rfl, rfl⟩; rw [HND.out]) | (go_at_call 95; (with_reducible refine (take95_full od nd fs fa fc hfl _ (HRF.out.at hp (fun p hm => by simp [hm])) HFR.out HN0.out HND2.out HGR.out).mono ?_); rintro e w1 ⟨rfl, hb⟩; replace hp := hp.call hb; clear hb) | go_skip | ((first | ((with_reducible refine pre_alloc _ rfl ?_); refine lZ hp rfl zeEA0 ?_; clear hp; intro b w1 hp) | ((with_reducible refine pre_box _ _ rfl ?_); refine lB hp rfl (slot_tmp rfl) rfl ?_; clear hp; intro b w1 hp) | ((with_reducible refine pre_load _ _ rfl ?_); first | refine lO hp rfl (slot_tmp rfl) ceEA2 aa14 ?_ | refine lA hp rfl (slot_tmp rfl) gaEA1 aa14 ?_) | ((with_reducible refine pre_store _ _ _ rfl ?_); (first | refine sO hp rfl (slot_tmp rfl) ceEA2 aa14 ?_ | refine sA hp rfl (slot_tmp rfl) (slot_tmp rfl) gaEA1 aa14 ?_ | refine sG hp rfl (slot_tmp rfl) (slot_tmp rfl) gaEA1 aa14 ?_); clear hp; intro w1 hp; simp only [spl, List.set_cons_zero, List.set_cons_succ] at hp) | ((with_reducible refine pre_build _ _ _ rfl ?_); refine lS hp rfl (by intro w; go_simp; rfl) ?_; clear hp; intro b w1 hp; simp only [List.length_cons, List.length_nil, Nat.reduceAdd] at hp)); simp only [put_some, put_none, List.set_cons_succ, List.set_cons_zero]))
  exact bodyPost_ret (results_many (rs := [.cell 4 26, .cell 5 34]) Tryz.results72 (.cell rfl (hp.loadAgg agg26 at2 0 _ (by rfl) (by rfl)) (.cell rfl (hp.loadAgg agg34 at1 0 _ (by rfl) (by rfl)) .nil))) rfl ⟨⟨od, oa, os, oc, nx, t0, t1, t2, t3, fa, fs, fc⟩, rfl, Hv.Sm.refl _, RO, RF, M, hR.out, hp.kp⟩
theorem Hp.id4 {B : Nat} {w0 w : World} {L : List Blk} {p q r s : Blk} {j : Nat} {l : List Value} {t : TypeId} {n : Nat} (_ : Hp B w0 w (p :: q :: r :: s :: ⟨j, l, t, n⟩ :: L)) : ∃ x, x = j := ⟨_, rfl⟩
set_option maxRecDepth 100000 in
set_option maxHeartbeats 16000000 in
theorem alloc72_ok {od : Int} {oa : Option Addr} {os : List Ob} {oc : Nat} {nx t0 t1 t2 t3 : Int} {fa : Option Addr} {fs : List Bl} {fc : Nat} {kk hh ii vv tt : Int} {m k : Nat} {RO RF M : List Blk} {nd tp to : Int}
    (HND : RowKit.Hid (needI m k = nd)) (h : 0 ≤ nd) (h1 : nd ≤ od) (hmm : m ≤ 32) (hkk : k ≤ 16) (h2 : nx ≤ 1000000) (h3 : 1 ≤ nx) (hol : os.length ≤ 256) (hfl : fs.length ≤ 600) (HFR : RowKit.Hid (rightB od fs = true)) (HGR : RowKit.Hid (greatB fs nd = true))
    (HUQ : RowKit.Hid (∀ (b : Bl), LeastT nd fs b → b = ⟨tp, to⟩)) {B : Nat} {w0 w : World} {KF : List Blk} (hR : RowKit.Hid (HvR (⟨od, oa, os, oc, nx, t0, t1, t2, t3, fa, fs, fc⟩ : Hv) RO RF M)) (hp : Hp B w0 w (RO ++ (RF ++ (M ++ KF)))) :
    Calls Tryz.prog 72 #[.agg (hvL (⟨od, oa, os, oc, nx, t0, t1, t2, t3, fa, fs, fc⟩ : Hv)).toArray, .agg #[.int .i64 kk, .int .i64 hh, .int .i64 ii, .int .i64 m, .int .i64 k, .int .i64 vv, .int .i64 tt]] w (RefPost B w0 (bornH (⟨od, oa, os, oc, nx, t0, t1, t2, t3, fa, fs, fc⟩ : Hv) ⟨tp, to⟩ nd (zerosI m) (zerosI k)) 0 nx KF) := by
  obtain ⟨i0, hi0, hz0, hz1, hz2⟩ := info_parts info67
  obtain ⟨i1, hi1, hy0, hy1, hy2⟩ := info_parts info3
  simp only [hvL]
  have HRF : RowKit.Hid (Kept RF fun w => RowIs w fa (fs.flatMap blV)) := Lib.hid hR.out.free.keptS
  have HRO : RowKit.Hid (OwnRow 67 5 (.slice oa os.length oc) os.length (os.flatMap obV) RO) := Lib.hid hR.out.objs
  have HN0 := Lib.hid h
  have HND2 := Lib.hid h1
  have sm1 : os.length + 1 ≤ maxLen := by unfold maxLen; omega
  have sm2 : (os.length + 1) * 72 ≤ 140737488355328 := by omega
  have e0 : decide (nd < 0) = false := decide_eq_false (by omega)
  have e1 : decide (1000000 < nx) = false := decide_eq_false (by omega)
  have e2 : decide (od < nd) = false := decide_eq_false (by omega)
  clear h h1
  go_enter Tryz.func72, Tryz.ntmps72
  go_wp2_with (first | (go_at_call 65; (with_reducible refine (need65 _ _ _).mono ?_); rintro e w' ⟨rfl, rfl⟩; rw [HND.out]) | (go_at_call 95; (with_reducible refine (take95_ok od nd fs fa fc hfl _ (HRF.out.at hp (fun p hm => by simp [hm])) HFR.out HN0.out HND2.out HGR.out).mono ?_); rintro e w1 ⟨tb, a1, k1, R1, rfl, hlt, hr1, hpx⟩; obtain rfl := HUQ.out tb hlt; dsimp only; replace hp := hp.join hpx; have HR1 := Lib.hid hr1; clear hpx hlt hr1; try simp only [List.cons_append, List.nil_append, List.append_assoc] at hp) | go_skip | ((first | ((with_reducible refine pre_alloc _ rfl ?_); refine lZ hp rfl zeEA0 ?_; clear hp; intro b w1 hp) | ((with_reducible refine pre_box _ _ rfl ?_); refine lB hp rfl (slot_tmp rfl) rfl ?_; clear hp; intro b w1 hp) | ((with_reducible refine pre_load _ _ rfl ?_); first | refine lO hp rfl (slot_tmp rfl) ceEA2 aa14 ?_ | refine lA hp rfl (slot_tmp rfl) gaEA1 aa14 ?_) | ((with_reducible refine pre_store _ _ _ rfl ?_); (first | refine sO hp rfl (slot_tmp rfl) ceEA2 aa14 ?_ | refine sA hp rfl (slot_tmp rfl) (slot_tmp rfl) gaEA1 aa14 ?_ | refine sG hp rfl (slot_tmp rfl) (slot_tmp rfl) gaEA1 aa14 ?_); clear hp; intro w1 hp; simp only [spl, List.set_cons_zero, List.set_cons_succ] at hp) | ((with_reducible refine pre_build _ _ _ rfl ?_); refine lS hp rfl (by intro w; go_simp; rfl) ?_; clear hp; intro b w1 hp; simp only [List.length_cons, List.length_nil, Nat.reduceAdd] at hp)); simp only [put_some, put_none, List.set_cons_succ, List.set_cons_zero]))
  obtain ⟨bb, rfl⟩ := hp.id0
  obtain ⟨br, rfl⟩ := hp.id1
  obtain ⟨bg, rfl⟩ := hp.id2
  obtain ⟨bo, rfl⟩ := hp.id3
  obtain ⟨bH, rfl⟩ := hp.id4
  refine wp_region_keepsT [_, _, _] (Keeps.three hp.drew at0 at3 at4) [] (.take 0 (.take 1 (.take 2 (.take 3 (.take 4 (.take 6 (.take 7 (.three 5 (.two 8 (.take 9 (.one 10 (.one 11 .nil))) 10 (.one 8 (.take 9 (.one 11 .nil)))) 8 (.two 5 (.take 9 (.one 10 (.one 11 .nil))) 10 (.one 5 (.take 9 (.one 11 .nil)))) 10 (.two 5 (.one 8 (.take 9 (.one 11 .nil))) 8 (.one 5 (.take 9 (.one 11 .nil)))))))))))) (by kernel_rfl) (by kernel_rfl) (by kernel_rfl) (by kernel_rfl) (fun _ _ d _ _ h => by cases d <;> exact h) ?_
  replace hp := hp.drew
  repeat' (with_reducible refine tree_is ?_); first | (with_reducible refine tree_nil ?_) | ((with_reducible refine tree_take ?_); refine plan_tk rfl ?_; (first | ((with_reducible refine tk_ld _ _ rfl ?_); first | refine tA rfl (slot_tmp rfl) agg64 aa14 ?_ | refine tO rfl (slot_tmp rfl) cell3 aa14 ?_) | refine tG (fun w _ => (by go_simp; try rfl)) ?_); refine tree_on ?_; try simp only [put_some, put_none, eval_tmp, eval_const, List.set_cons_succ, List.set_cons_zero, List.getD_cons_succ, List.getD_cons_zero, wrap_eq]) | ((first | refine tree_one (doT_of rfl (fun K hK => ?_)) | refine tree_two (doT_of rfl (fun K hK => ?_)) (doT_of rfl (fun K hK => ?_)) | refine tree_three (doT_of rfl (fun K hK => ?_)) (doT_of rfl (fun K hK => ?_)) (doT_of rfl (fun K hK => ?_))) <;> (go_wp2_with (first | ((with_reducible refine pre_mk _ _ _ rfl ?_); refine wpList_makeSlice_hp hp _ _ _ rfl wy 3 i1 _ Tryz.underlying65 hi1 hy0 hy1 rfl _ (slot_tmp rfl) (slot_tmp rfl) m rfl (by rw [hy2]; omega) (by omega) ?_; clear hp; intro bwd w1 hp; simp only [put_some, put_none, List.set_cons_succ, List.set_cons_zero]) | ((with_reducible refine pre_mk _ _ _ rfl ?_); refine wpList_makeSlice_hp hp _ _ _ rfl wy 3 i1 _ Tryz.underlying65 hi1 hy0 hy1 rfl _ (slot_tmp rfl) (slot_tmp rfl) k rfl (by rw [hy2]; omega) (by omega) ?_; clear hp; intro bln w1 hp; simp only [put_some, put_none, List.set_cons_succ, List.set_cons_zero]) | ((with_reducible refine pre_alloc 67 rfl ?_); refine lZ hp rfl zero67 ?_; clear hp; intro bx w1 hp; simp only [put_some, put_none, List.set_cons_succ, List.set_cons_zero]) | go_skip | ((first | ((with_reducible refine pre_alloc _ rfl ?_); refine lZ hp rfl zeEA0 ?_; clear hp; intro b w1 hp) | ((with_reducible refine pre_store _ _ _ rfl ?_); (first | refine sO hp rfl (slot_tmp rfl) ceEA2 aa14 ?_ | refine sA hp rfl (slot_tmp rfl) (slot_tmp rfl) gaEA1 aa14 ?_ | refine sG hp rfl (slot_tmp rfl) (slot_tmp rfl) gaEA1 aa14 ?_); clear hp; intro w1 hp; simp only [spl, List.set_cons_zero, List.set_cons_succ] at hp)); simp only [put_some, put_none, List.set_cons_succ, List.set_cons_zero])); (refine hK.out _ _ (.inr (Keeps.three hp aa14 aa14 aa14)) ?_); clear hK K; try simp only [put_some, put_none, eval_tmp, eval_const, List.set_cons_succ, List.set_cons_zero, List.getD_cons_succ, List.getD_cons_zero, wrap_eq]))
  all_goals
    replace hp := hp.kp (L' := ⟨bx, [.int .i64 nx, .int .i64 tp, .int .i64 nd, .slice (some ⟨bwd, 0, none⟩) m m, .slice (some ⟨bln, 0, none⟩) k k], 67, 5⟩ :: ⟨bln, List.replicate k (.int .i64 0), 3, k⟩ :: ⟨bwd, List.replicate m (.int .i64 0), 3, m⟩ ::
      ⟨bb, [.int .i64 tp, .int .i64 nd], 64, 2⟩ :: ⟨br, [.int .i64 0, .int .i64 0], 34, 2⟩ :: ⟨bg, [.int .i64 0, .slice none 0 0, .int .i64 0, .int .i64 0, .int .i64 0, .int .i64 0, .int .i64 0, .slice none 0 0], 26, 8⟩ :: ⟨bo, [.int .i64 kk, .int .i64 hh, .int .i64 ii, .int .i64 m, .int .i64 k, .int .i64 vv, .int .i64 tt], 29, 7⟩ ::
      ⟨bH, [.int .i64 od, .slice oa os.length oc, .int .i64 nx, .int .i64 t0, .int .i64 t1, .int .i64 t2, .int .i64 t3, .slice fa fs.length fc], 26, 8⟩ :: (RO ++ (RF ++ (M ++ (KF ++ R1)))))
    go_wp2_with (first | ((with_reducible refine pre_append _ _ 22 rfl ?_); refine wpList_appendGrow (K := [_, _, _, _, _, _, _, _]) (R := RO) (M := RF ++ (M ++ (KF ++ R1))) hp _ _ _ rfl wy i0 _ 72 Tryz.underlying22 hi0 hz0 hz1 hz2 rfl (by decide) (slot_tmp rfl) HRO.out 1 1 (slot_tmp rfl) (by rfl) (by decide) (by rfl) sm1 sm2 ?_; clear hp; intro v2 RO2 w1 hra hp; obtain ⟨a2, c2, rfl⟩ := hra.val; have HRA := Lib.hid hra; clear hra; simp only [List.cons_append, List.nil_append] at hp; simp only [put_some, put_none, List.set_cons_succ, List.set_cons_zero]) | go_skip | ((first | ((with_reducible refine pre_alloc _ rfl ?_); refine lZ hp rfl zeEA0 ?_; clear hp; intro b w1 hp) | ((with_reducible refine pre_box _ _ rfl ?_); refine lB hp rfl (slot_tmp rfl) rfl ?_; clear hp; intro b w1 hp) | ((with_reducible refine pre_load _ _ rfl ?_); first | refine lO hp rfl (slot_tmp rfl) ceEA2 aa14 ?_ | refine lA hp rfl (slot_tmp rfl) gaEA1 aa14 ?_) | ((with_reducible refine pre_store _ _ _ rfl ?_); (first | refine sO hp rfl (slot_tmp rfl) ceEA2 aa14 ?_ | refine sA hp rfl (slot_tmp rfl) (slot_tmp rfl) gaEA1 aa14 ?_ | refine sG hp rfl (slot_tmp rfl) (slot_tmp rfl) gaEA1 aa14 ?_); clear hp; intro w1 hp; simp only [spl, List.set_cons_zero, List.set_cons_succ] at hp) | ((with_reducible refine pre_build _ _ _ rfl ?_); refine lS hp rfl (by intro w; go_simp; rfl) ?_; clear hp; intro b w1 hp; simp only [List.length_cons, List.length_nil, Nat.reduceAdd] at hp)); simp only [put_some, put_none, List.set_cons_succ, List.set_cons_zero]))
    refine wp_region_keeps [_, _] (Keeps.two hp.drew at0 at7) [5] [(0, true), (1, true), (2, true), (3, true), (4, false), (5, false)] (by kernel_rfl) (by kernel_rfl) rfl (by kernel_rfl) (fun _ _ d _ _ h => by cases d <;> exact h) ?_
    replace hp := hp.drew
    repeat' (with_reducible refine plan_is ?_); first | (with_reducible refine plan_nil ?_) | ((with_reducible refine plan_t ?_); refine plan_tk rfl ?_; (first | ((with_reducible refine tk_ld _ _ rfl ?_); first | refine tA rfl (slot_tmp rfl) agg26 aa14 ?_ | refine tO rfl (slot_tmp rfl) cell3 aa14 ?_) | refine tG (fun w _ => (by go_simp; try rfl)) ?_); try simp only [put_some, put_none, eval_tmp, eval_const, List.set_cons_succ, List.set_cons_zero, List.getD_cons_succ, List.getD_cons_zero, wrap_eq]) | (refine plan_do rfl (fun K hK => ?_); go_wp2_with (first | go_skip | (((with_reducible refine pre_store _ _ _ rfl ?_); (first | refine sO hp rfl (slot_tmp rfl) ceEA2 aa14 ?_ | refine sA hp rfl (slot_tmp rfl) (slot_tmp rfl) gaEA1 aa14 ?_ | refine sG hp rfl (slot_tmp rfl) (slot_tmp rfl) gaEA1 aa14 ?_); clear hp; intro w1 hp; simp only [spl, List.set_cons_zero, List.set_cons_succ] at hp); simp only [put_some, put_none, List.set_cons_succ, List.set_cons_zero])); (first | refine hK.out _ _ (.inl rfl) ?_ | refine hK.out _ _ (.inr (Keeps.two hp aa14 aa14)) ?_); clear hK K; try simp only [put_some, put_none, eval_tmp, eval_const, List.set_cons_succ, List.set_cons_zero, List.getD_cons_succ, List.getD_cons_zero, wrap_eq])
    go_wp2_with (first | go_skip | ((first | ((with_reducible refine pre_alloc _ rfl ?_); refine lZ hp rfl zeEA0 ?_; clear hp; intro b w1 hp) | ((with_reducible refine pre_box _ _ rfl ?_); refine lB hp rfl (slot_tmp rfl) rfl ?_; clear hp; intro b w1 hp) | ((with_reducible refine pre_load _ _ rfl ?_); first | refine lO hp rfl (slot_tmp rfl) ceEA2 aa14 ?_ | refine lA hp rfl (slot_tmp rfl) gaEA1 aa14 ?_) | ((with_reducible refine pre_store _ _ _ rfl ?_); (first | refine sO hp rfl (slot_tmp rfl) ceEA2 aa14 ?_ | refine sA hp rfl (slot_tmp rfl) (slot_tmp rfl) gaEA1 aa14 ?_ | refine sG hp rfl (slot_tmp rfl) (slot_tmp rfl) gaEA1 aa14 ?_); clear hp; intro w1 hp; simp only [spl, List.set_cons_zero, List.set_cons_succ] at hp) | ((with_reducible refine pre_build _ _ _ rfl ?_); refine lS hp rfl (by intro w; go_simp; rfl) ?_; clear hp; intro b w1 hp; simp only [List.length_cons, List.length_nil, Nat.reduceAdd] at hp)); simp only [put_some, put_none, List.set_cons_succ, List.set_cons_zero]))
    refine bodyPost_ret (results_many (rs := [.cell 4 26, .cell 5 34]) Tryz.results72 (.cell rfl (hp.loadAgg agg26 at5 0 _ (by rfl) (by rfl)) (.cell rfl (hp.loadAgg agg34 at4 0 _ (by rfl) (by rfl)) .nil))) rfl ⟨⟨od, a2, os ++ [⟨nx, tp, nd, some ⟨bwd, 0, none⟩, zerosI m, m, some ⟨bln, 0, none⟩, zerosI k, k⟩], c2, nx + 1, t0, t1, t2, t3, a1, takenL fs ⟨tp, to⟩ nd, k1⟩, ?_, ?_, RO2, R1, M ++ ([⟨bwd, List.replicate m (.int .i64 0), 3, m⟩] ++ [⟨bln, List.replicate k (.int .i64 0), 3, k⟩]), ⟨?_, HR1.out, ?_⟩, hp.kp⟩
    · simp only [hvL, List.length_append, List.length_singleton]; rfl
    · exact ⟨rfl, rfl, rfl, rfl, rfl, rfl, ObsSm.snocs os ⟨rfl, rfl, rfl, rfl, rfl⟩, rfl⟩
    · have h := HRA.out
      simp only [List.length_append, List.length_singleton, obs_snoc]
      simpa [obV, zeros_len] using h
    · exact hR.out.rows.snoc ⟨_, _, rfl, own_zeros bwd m (by omega), own_zeros bln k (by omega)⟩
theorem alloc72 {x : Hv} (hx : HRight x) {kk hh ii nn cc vv tt : Int} {B : Nat} {w0 w : World} {K : List Blk} (hW : RefAt B w0 w x K) :
    Calls Tryz.prog 72 #[.agg (hvL x).toArray, .agg #[.int .i64 kk, .int .i64 hh, .int .i64 ii, .int .i64 nn, .int .i64 cc, .int .i64 vv, .int .i64 tt]] w (RefPost B w0 (allocC x ⟨kk, hh, ii, nn, cc, vv, tt⟩).1 (allocC x ⟨kk, hh, ii, nn, cc, vv, tt⟩).2.1 (allocC x ⟨kk, hh, ii, nn, cc, vv, tt⟩).2.2 K) := by
  obtain ⟨RO, RF, M, hR, hp⟩ := hW
  obtain ⟨h3, h8, hcan⟩ := right_can hx.free
  have hsm := hx.small
  have hlen := hx.len
  have hlo := hx.lo
  have hfree := hx.free
  have hfl : x.fs.length ≤ 600 := hsm.2
  obtain ⟨od, oa, os, oc, nx, t0, t1, t2, t3, fa, fs, fc⟩ := x
  simp only at h3 h8 hcan hlen hlo hfree hfl
  unfold allocC
  simp only
  by_cases hn : needI nn cc < 0
  · rw [if_pos hn]
    exact alloc72_large (Lib.hid rfl) hn (Lib.hid hR) hp
  · rw [if_neg hn]
    by_cases hl : 1000000 < nx
    · rw [if_pos hl]
      exact alloc72_limit (Lib.hid rfl) (by omega) hl (Lib.hid hR) hp
    · rw [if_neg hl]
      cases hb : bestB fs (needI nn cc) with
      | none =>
        have hg := bestB_none.1 hb
        by_cases ho : od < needI nn cc
        · exact alloc72_space1 (Lib.hid rfl) (by omega) (by omega) ho (Lib.hid hR) hp
        · exact alloc72_space2 (Lib.hid rfl) (by omega) (by omega) (by omega) hfl (Lib.hid hfree) (Lib.hid hg) (Lib.hid hR) hp
      | some b =>
        have hlt := bestB_least hcan.disj hb
        have hmay := hcan.may b hlt.mem
        have hgr := hlt.great
        obtain ⟨n1, n2, n3, n4⟩ := needI_ok (a := nn) (b := cc) (by omega)
        obtain ⟨m, rfl⟩ := Int.eq_ofNat_of_zero_le n1
        obtain ⟨k, rfl⟩ := Int.eq_ofNat_of_zero_le n3
        refine alloc72_ok (Lib.hid rfl) (by omega) (by have := hmay.2.1; omega) (by omega) (by omega) (by omega) hlo hlen hfl (Lib.hid hfree) (Lib.hid ?_) (Lib.hid fun b' hl' => hl'.uniq hlt) (Lib.hid hR) hp
        cases hq : greatB fs (needI m k) with
        | true => rfl
        | false => rw [bestB_none.2 hq] at hb; cases hb
end Go.Proofs.YtppdjlgjcdmiaaaGreat
