/- The walk of the document's top. -/
import Derived.Test.YtppdjlgjcdmiaaaGreatEO
import Derived.Test.YtppdjlgjcdmiaaaGreatDX
set_option linter.unusedSimpArgs false
set_option linter.unusedVariables false
namespace Go.Proofs.YtppdjlgjcdmiaaaGreat
open Go.RowKit
theorem gaET0 {ty : TypeId} {k : Nat} (h : aggB Tryz.prog ty k = true := by with_reducible first | exact agg26 | exact agg67 | exact agg29 | exact agg34) : aggB Tryz.prog ty k = true := h
theorem ceET1 {ty : TypeId} (h : cellB Tryz.prog ty = true := by with_reducible first | exact cell3 | exact cell4 | exact cell22 | exact cell27) : cellB Tryz.prog ty = true := h
def RefAt (B : Nat) (w0 w : World) (x : Hv) (K : List Blk) : Prop := ∃ RO RF M, HvR x RO RF M ∧ Hp B w0 w (RO ++ (RF ++ (M ++ K)))
def RefPost (B : Nat) (w0 : World) (s : Hv) (c v : Int) (K : List Blk) (e : Ending) (w' : World) : Prop :=
  ∃ y : Hv, e = .returned (.tuple #[.agg (hvL y).toArray, .agg #[.int .i64 c, .int .i64 v]]) ∧ y.Sm s ∧ RefAt B w0 w' y K
set_option maxRecDepth 100000 in
set_option maxHeartbeats 8000000 in
theorem top75_noidx {x : Hv} {kk hh ii nn cc vv tt : Int} {B : Nat} {w0 w : World} {K : List Blk} (hi : ii < 0 ∨ 3 < ii) (hW : RefAt B w0 w x K) : Calls Tryz.prog 75 #[.agg (hvL x).toArray, .agg #[.int .i64 kk, .int .i64 hh, .int .i64 ii, .int .i64 nn, .int .i64 cc, .int .i64 vv, .int .i64 tt]] w (RefPost B w0 x 52 0 K) := by
  obtain ⟨RO, RF, M, hR, hp⟩ := hW
  have HR := Lib.hid hR
  clear hR
  obtain ⟨od, oa, os, oc, nx, t0, t1, t2, t3, fa, fs, fc⟩ := x
  simp only [hvL]
  have hw : decide (ii < 0) = true ∨ (decide (ii < 0) = false ∧ decide (4 ≤ ii) = true) := by
    by_cases h : ii < 0
    · exact .inl (decide_eq_true h)
    · exact .inr ⟨decide_eq_false h, decide_eq_true (by omega)⟩
  clear hi
  rcases hw with e1 | ⟨e1, e2⟩
  all_goals
    go_enter Tryz.func75, Tryz.ntmps75
    go_wp2_with (first | go_skip | ((first | ((with_reducible refine pre_alloc _ rfl ?_); refine lZ hp rfl (by with_reducible first | exact zero26 | exact zero34) ?_; clear hp; intro b w1 hp) | ((with_reducible refine pre_box _ _ rfl ?_); refine lB hp rfl (slot_tmp rfl) rfl ?_; clear hp; intro b w1 hp) | ((with_reducible refine pre_load _ _ rfl ?_); first | refine lO hp rfl (slot_tmp rfl) ceET1 aa5 ?_ | refine lA hp rfl (slot_tmp rfl) gaET0 aa5 ?_) | ((with_reducible refine pre_store _ _ _ rfl ?_); (first | refine sO hp rfl (slot_tmp rfl) ceET1 aa5 ?_ | refine sA hp rfl (slot_tmp rfl) (slot_tmp rfl) gaET0 aa5 ?_ | refine sG hp rfl (slot_tmp rfl) (slot_tmp rfl) gaET0 aa5 ?_); clear hp; intro w1 hp; simp only [spl, List.set_cons_zero, List.set_cons_succ] at hp) | ((with_reducible refine pre_build _ _ _ rfl ?_); refine lS hp rfl (by intro w; go_simp; rfl) ?_; clear hp; intro b w1 hp; simp only [List.length_cons, List.length_nil, Nat.reduceAdd] at hp)); simp only [put_some, put_none, List.set_cons_succ, List.set_cons_zero]))
    exact bodyPost_ret (results_many (rs := [.cell 4 26, .cell 5 34]) Tryz.results75 (.cell rfl (hp.loadAgg agg26 at1 0 _ (by rfl) (by rfl)) (.cell rfl (hp.loadAgg agg34 at0 0 _ (by rfl) (by rfl)) .nil))) rfl ⟨⟨od, oa, os, oc, nx, t0, t1, t2, t3, fa, fs, fc⟩, rfl, Hv.Sm.refl _, RO, RF, M, HR.out, hp.tail.tail.tail.tail⟩
set_option maxRecDepth 100000 in
set_option maxHeartbeats 8000000 in
theorem top75_top {x : Hv} {kk hh ii nn cc vv tt : Int} {B : Nat} {w0 w : World} {K : List Blk} (hk : kk = 8) (hi : ii = 0 ∨ ii = 1 ∨ ii = 2 ∨ ii = 3) (hW : RefAt B w0 w x K) : Calls Tryz.prog 75 #[.agg (hvL x).toArray, .agg #[.int .i64 kk, .int .i64 hh, .int .i64 ii, .int .i64 nn, .int .i64 cc, .int .i64 vv, .int .i64 tt]] w (RefPost B w0 x 0 ((tops x).getD ii.toNat 0) K) := by
  subst hk
  obtain ⟨RO, RF, M, hR, hp⟩ := hW
  have HR := Lib.hid hR
  clear hR
  obtain ⟨od, oa, os, oc, nx, t0, t1, t2, t3, fa, fs, fc⟩ := x
  simp only [hvL]
  rcases hi with rfl | rfl | rfl | rfl
  all_goals
    go_enter Tryz.func75, Tryz.ntmps75
    go_wp2_with (first | go_skip | ((first | ((with_reducible refine pre_alloc _ rfl ?_); refine lZ hp rfl (by with_reducible first | exact zero26 | exact zero34) ?_; clear hp; intro b w1 hp) | ((with_reducible refine pre_box _ _ rfl ?_); refine lB hp rfl (slot_tmp rfl) rfl ?_; clear hp; intro b w1 hp) | ((with_reducible refine pre_load _ _ rfl ?_); first | refine lO hp rfl (slot_tmp rfl) ceET1 aa5 ?_ | refine lA hp rfl (slot_tmp rfl) gaET0 aa5 ?_) | ((with_reducible refine pre_store _ _ _ rfl ?_); (first | refine sO hp rfl (slot_tmp rfl) ceET1 aa5 ?_ | refine sA hp rfl (slot_tmp rfl) (slot_tmp rfl) gaET0 aa5 ?_ | refine sG hp rfl (slot_tmp rfl) (slot_tmp rfl) gaET0 aa5 ?_); clear hp; intro w1 hp; simp only [spl, List.set_cons_zero, List.set_cons_succ] at hp) | ((with_reducible refine pre_build _ _ _ rfl ?_); refine lS hp rfl (by intro w; go_simp; rfl) ?_; clear hp; intro b w1 hp; simp only [List.length_cons, List.length_nil, Nat.reduceAdd] at hp)); simp only [put_some, put_none, List.set_cons_succ, List.set_cons_zero]))
    refine wp_region_keeps [_, _] (Keeps.two hp.drew at2 at3) [8] [(0, true), (1, true), (2, true), (3, true), (4, true), (5, true), (6, true), (7, false), (8, false)] (by kernel_rfl) (by kernel_rfl) rfl (by kernel_rfl) (fun _ _ d _ _ h => by cases d <;> exact h) ?_
    replace hp := hp.drew
    repeat' (with_reducible refine plan_is ?_); first | (with_reducible refine plan_nil ?_) | ((with_reducible refine plan_t ?_); refine plan_tk rfl ?_; (first | ((with_reducible refine tk_ld _ _ rfl ?_); first | refine tA rfl (slot_tmp rfl) agg26 aa5 ?_ | refine tO rfl (slot_tmp rfl) cell3 aa5 ?_) | refine tG (fun w _ => (by go_simp; try rfl)) ?_); try simp only [put_some, put_none, eval_tmp, eval_const, List.set_cons_succ, List.set_cons_zero, List.getD_cons_succ, List.getD_cons_zero, wrap_eq]) | (refine plan_do rfl (fun K hK => ?_); go_wp2_with (first | go_skip | (((with_reducible refine pre_store _ _ _ rfl ?_); (first | refine sO hp rfl (slot_tmp rfl) ceET1 aa5 ?_ | refine sA hp rfl (slot_tmp rfl) (slot_tmp rfl) gaET0 aa5 ?_ | refine sG hp rfl (slot_tmp rfl) (slot_tmp rfl) gaET0 aa5 ?_); clear hp; intro w1 hp; simp only [spl, List.set_cons_zero, List.set_cons_succ] at hp); simp only [put_some, put_none, List.set_cons_succ, List.set_cons_zero])); (first | refine hK.out _ _ (.inl rfl) ?_ | refine hK.out _ _ (.inr (Keeps.two hp aa5 aa5)) ?_); clear hK K; try simp only [put_some, put_none, eval_tmp, eval_const, List.set_cons_succ, List.set_cons_zero, List.getD_cons_succ, List.getD_cons_zero, wrap_eq])
    go_wp2_with (first | go_skip | ((first | ((with_reducible refine pre_alloc _ rfl ?_); refine lZ hp rfl (by with_reducible first | exact zero26 | exact zero34) ?_; clear hp; intro b w1 hp) | ((with_reducible refine pre_box _ _ rfl ?_); refine lB hp rfl (slot_tmp rfl) rfl ?_; clear hp; intro b w1 hp) | ((with_reducible refine pre_load _ _ rfl ?_); first | refine lO hp rfl (slot_tmp rfl) ceET1 aa5 ?_ | refine lA hp rfl (slot_tmp rfl) gaET0 aa5 ?_) | ((with_reducible refine pre_store _ _ _ rfl ?_); (first | refine sO hp rfl (slot_tmp rfl) ceET1 aa5 ?_ | refine sA hp rfl (slot_tmp rfl) (slot_tmp rfl) gaET0 aa5 ?_ | refine sG hp rfl (slot_tmp rfl) (slot_tmp rfl) gaET0 aa5 ?_); clear hp; intro w1 hp; simp only [spl, List.set_cons_zero, List.set_cons_succ] at hp) | ((with_reducible refine pre_build _ _ _ rfl ?_); refine lS hp rfl (by intro w; go_simp; rfl) ?_; clear hp; intro b w1 hp; simp only [List.length_cons, List.length_nil, Nat.reduceAdd] at hp)); simp only [put_some, put_none, List.set_cons_succ, List.set_cons_zero]))
    exact bodyPost_ret (results_many (rs := [.cell 4 26, .cell 5 34]) Tryz.results75 (.cell rfl (hp.loadAgg agg26 at1 0 _ (by rfl) (by rfl)) (.cell rfl (hp.loadAgg agg34 at0 0 _ (by rfl) (by rfl)) .nil))) rfl ⟨⟨od, oa, os, oc, nx, t0, t1, t2, t3, fa, fs, fc⟩, rfl, Hv.Sm.refl _, RO, RF, M, HR.out, hp.tail.tail.tail.tail⟩
set_option maxRecDepth 100000 in
set_option maxHeartbeats 8000000 in
theorem top75_no {x : Hv} {kk hh ii nn cc vv tt : Int} {B : Nat} {w0 w : World} {K : List Blk} (hk : kk = 5) (hol : x.os.length ≤ 1000) (hto : leadsC x.os tt = false) (hi : ii = 0 ∨ ii = 1 ∨ ii = 2 ∨ ii = 3) (hW : RefAt B w0 w x K) : Calls Tryz.prog 75 #[.agg (hvL x).toArray, .agg #[.int .i64 kk, .int .i64 hh, .int .i64 ii, .int .i64 nn, .int .i64 cc, .int .i64 vv, .int .i64 tt]] w (RefPost B w0 x 51 0 K) := by
  subst hk
  obtain ⟨RO, RF, M, hR, hp⟩ := hW
  have HR := Lib.hid hR
  rw [leadsC_B] at hto
  have HTO := Lib.hid hto
  obtain ⟨od, oa, os, oc, nx, t0, t1, t2, t3, fa, fs, fc⟩ := x
  have HRO : RowKit.Hid (Kept RO fun w => RowIs w oa (os.flatMap obV)) := Lib.hid hR.objs.keptS
  simp only at hol HTO
  clear hR hto
  simp only [hvL]
  rcases hi with rfl | rfl | rfl | rfl
  all_goals
    go_enter Tryz.func75, Tryz.ntmps75
    go_wp2_with (first | (go_at_call 67; (with_reducible refine (leads67 od oa os oc nx t0 t1 t2 t3 fa fs.length fc hol tt _ (HRO.out.at hp (fun p hm => by simp [hm]))).mono ?_); rintro e w1 ⟨rfl, hb⟩; replace hp := hp.call hb; clear hb; rw [HTO.out]) | go_skip | ((first | ((with_reducible refine pre_alloc _ rfl ?_); refine lZ hp rfl (by with_reducible first | exact zero26 | exact zero34) ?_; clear hp; intro b w1 hp) | ((with_reducible refine pre_box _ _ rfl ?_); refine lB hp rfl (slot_tmp rfl) rfl ?_; clear hp; intro b w1 hp) | ((with_reducible refine pre_load _ _ rfl ?_); first | refine lO hp rfl (slot_tmp rfl) ceET1 aa5 ?_ | refine lA hp rfl (slot_tmp rfl) gaET0 aa5 ?_) | ((with_reducible refine pre_store _ _ _ rfl ?_); (first | refine sO hp rfl (slot_tmp rfl) ceET1 aa5 ?_ | refine sA hp rfl (slot_tmp rfl) (slot_tmp rfl) gaET0 aa5 ?_ | refine sG hp rfl (slot_tmp rfl) (slot_tmp rfl) gaET0 aa5 ?_); clear hp; intro w1 hp; simp only [spl, List.set_cons_zero, List.set_cons_succ] at hp) | ((with_reducible refine pre_build _ _ _ rfl ?_); refine lS hp rfl (by intro w; go_simp; rfl) ?_; clear hp; intro b w1 hp; simp only [List.length_cons, List.length_nil, Nat.reduceAdd] at hp)); simp only [put_some, put_none, List.set_cons_succ, List.set_cons_zero]))
    exact bodyPost_ret (results_many (rs := [.cell 4 26, .cell 5 34]) Tryz.results75 (.cell rfl (hp.loadAgg agg26 at1 0 _ (by rfl) (by rfl)) (.cell rfl (hp.loadAgg agg34 at0 0 _ (by rfl) (by rfl)) .nil))) rfl ⟨⟨od, oa, os, oc, nx, t0, t1, t2, t3, fa, fs, fc⟩, rfl, Hv.Sm.refl _, RO, RF, M, HR.out, hp.tail.tail.tail.tail⟩
set_option maxRecDepth 100000 in
set_option maxHeartbeats 8000000 in
theorem top75_root {x : Hv} {kk hh ii nn cc vv tt : Int} {B : Nat} {w0 w : World} {K : List Blk} (hk : kk = 5) (hol : x.os.length ≤ 1000) (hto : leadsC x.os tt = true) (hi : ii = 0 ∨ ii = 1 ∨ ii = 2 ∨ ii = 3) (hW : RefAt B w0 w x K) : Calls Tryz.prog 75 #[.agg (hvL x).toArray, .agg #[.int .i64 kk, .int .i64 hh, .int .i64 ii, .int .i64 nn, .int .i64 cc, .int .i64 vv, .int .i64 tt]] w (RefPost B w0 (topH x ii.toNat tt) 0 0 K) := by
  subst hk
  obtain ⟨RO, RF, M, hR, hp⟩ := hW
  have HR := Lib.hid hR
  rw [leadsC_B] at hto
  have HTO := Lib.hid hto
  obtain ⟨od, oa, os, oc, nx, t0, t1, t2, t3, fa, fs, fc⟩ := x
  have HRO : RowKit.Hid (Kept RO fun w => RowIs w oa (os.flatMap obV)) := Lib.hid hR.objs.keptS
  simp only at hol HTO
  clear hR hto
  simp only [hvL]
  rcases hi with rfl | rfl | rfl | rfl
  all_goals
    go_enter Tryz.func75, Tryz.ntmps75
    go_wp2_with (first | (go_at_call 67; (with_reducible refine (leads67 od oa os oc nx t0 t1 t2 t3 fa fs.length fc hol tt _ (HRO.out.at hp (fun p hm => by simp [hm]))).mono ?_); rintro e w1 ⟨rfl, hb⟩; replace hp := hp.call hb; clear hb; rw [HTO.out]) | go_skip | ((first | ((with_reducible refine pre_alloc _ rfl ?_); refine lZ hp rfl (by with_reducible first | exact zero26 | exact zero34) ?_; clear hp; intro b w1 hp) | ((with_reducible refine pre_box _ _ rfl ?_); refine lB hp rfl (slot_tmp rfl) rfl ?_; clear hp; intro b w1 hp) | ((with_reducible refine pre_load _ _ rfl ?_); first | refine lO hp rfl (slot_tmp rfl) ceET1 aa5 ?_ | refine lA hp rfl (slot_tmp rfl) gaET0 aa5 ?_) | ((with_reducible refine pre_store _ _ _ rfl ?_); (first | refine sO hp rfl (slot_tmp rfl) ceET1 aa5 ?_ | refine sA hp rfl (slot_tmp rfl) (slot_tmp rfl) gaET0 aa5 ?_ | refine sG hp rfl (slot_tmp rfl) (slot_tmp rfl) gaET0 aa5 ?_); clear hp; intro w1 hp; simp only [spl, List.set_cons_zero, List.set_cons_succ] at hp) | ((with_reducible refine pre_build _ _ _ rfl ?_); refine lS hp rfl (by intro w; go_simp; rfl) ?_; clear hp; intro b w1 hp; simp only [List.length_cons, List.length_nil, Nat.reduceAdd] at hp)); simp only [put_some, put_none, List.set_cons_succ, List.set_cons_zero]))
    exact bodyPost_ret (results_many (rs := [.cell 4 26, .cell 5 34]) Tryz.results75 (.cell rfl (hp.loadAgg agg26 at1 0 _ (by rfl) (by rfl)) (.cell rfl (hp.loadAgg agg34 at0 0 _ (by rfl) (by rfl)) .nil))) rfl ⟨_, rfl, Hv.Sm.refl _, RO, RF, M, ⟨HR.out.1, HR.out.2, HR.out.3⟩, hp.tail.tail.tail.tail⟩
theorem top75 {x : Hv} {kk hh ii nn cc vv tt : Int} {B : Nat} {w0 w : World} {K : List Blk} (hk : kk = 5 ∨ kk = 8) (hol : x.os.length ≤ 1000) (hW : RefAt B w0 w x K) :
    Calls Tryz.prog 75 #[.agg (hvL x).toArray, .agg #[.int .i64 kk, .int .i64 hh, .int .i64 ii, .int .i64 nn, .int .i64 cc, .int .i64 vv, .int .i64 tt]] w (RefPost B w0 (topC x ⟨kk, hh, ii, nn, cc, vv, tt⟩).1 (topC x ⟨kk, hh, ii, nn, cc, vv, tt⟩).2.1 (topC x ⟨kk, hh, ii, nn, cc, vv, tt⟩).2.2 K) := by
  unfold topC
  simp only
  by_cases hi : ii < 0 ∨ 3 < ii
  · rw [if_pos hi]; exact top75_noidx hi hW
  · rw [if_neg hi]
    have hi4 : ii = 0 ∨ ii = 1 ∨ ii = 2 ∨ ii = 3 := by omega
    rcases hk with hk | hk
    · rw [if_neg (by omega)]
      cases hto : leadsC x.os tt with
      | true => exact top75_root hk hol hto hi4 hW
      | false => exact top75_no hk hol hto hi4 hW
    · rw [if_pos hk]; exact top75_top hk hi4 hW
end Go.Proofs.YtppdjlgjcdmiaaaGreat
