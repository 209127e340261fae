import Derived.Test.YtcjbepaclbhjaaaTjDA
/- The walk of at. -/
set_option linter.unusedSimpArgs false
set_option linter.unusedVariables false
namespace Go.Proofs.Ytcjbepaclbhjaaa
open Go.RowKit
theorem gaDT0 {ty : TypeId} {k : Nat} (h : aggB Try.prog ty k = true := by with_reducible first | exact agg27 | exact agg48 | exact agg62 | exact agg34 | exact agg39) : aggB Try.prog ty k = true := h
theorem ceDT1 {ty : TypeId} (h : cellB Try.prog ty = true := by with_reducible first | exact cell3 | exact cell4 | exact cell46 | exact cell23 | exact cell37) : cellB Try.prog ty = true := h
theorem find43_no {l : List Ob} {h : Int} (hn : placeO l h = none) (a : Option Addr) (c : Nat) (hl : l.length ≤ 1000) (hs : SortedO l) (w : World) (ha : RowIs w a (l.flatMap obV)) :
    Calls Try.prog 43 #[.slice a l.length c, .int .i64 h] w fun e w' => (∃ k : Nat, e = .returned (.tuple #[.int .i64 k, .bool false])) ∧ Below w.heap.size w w' :=
  (find43 l a c hl hs h w ha).mono fun e w' ⟨k, he, hk, hb⟩ => ⟨⟨k, by
    have := place_has hs hk
    rw [hn] at this
    cases hq : hasBO l h k with
    | false => rw [hq] at he; exact he
    | true => rw [hq] at this; cases this⟩, hb⟩
theorem find43_yes {l : List Ob} {h : Int} {i : Nat} (hn : placeO l h = some i) (a : Option Addr) (c : Nat) (hl : l.length ≤ 1000) (hs : SortedO l) (w : World) (ha : RowIs w a (l.flatMap obV)) :
    Calls Try.prog 43 #[.slice a l.length c, .int .i64 h] w fun e w' => e = .returned (.tuple #[.int .i64 i, .bool true]) ∧ Below w.heap.size w w' :=
  (find43 l a c hl hs h w ha).mono fun e w' ⟨k, he, hk, hb⟩ => ⟨by
    have := place_has hs hk
    rw [hn] at this
    cases hq : hasBO l h k with
    | false => rw [hq] at this; cases this
    | true => rw [hq] at this he; injection this with this; subst this; exact he, hb⟩
set_option maxRecDepth 100000 in
set_option maxHeartbeats 8000000 in
theorem at36_none {x : Hv} (hx : HRight x) {kk hh ii nn cc vv tt : Int} (hn : placeO x.os hh = none) {B bw : Nat} {w0 w : World} {K : List Blk} (hW : WorkAt B w0 w bw x K) : Calls Try.prog 36 #[.pointer (some ⟨bw, 0, none⟩), .agg #[.int .i64 kk, .int .i64 hh, .int .i64 ii, .int .i64 nn, .int .i64 cc, .int .i64 vv, .int .i64 tt]] w (WorkPost B w0 bw x 51 0 K) := by
  obtain ⟨RO, RF, M, hR, hp⟩ := hW
  have HR := Lib.hid hR
  have HS := Lib.hid hx.sorted
  have hol : x.os.length ≤ 1000 := by have := hx.len; omega
  obtain ⟨od, oa, os, oc, nx, t0, t1, t2, t3, fa, fs, fc⟩ := x
  simp only [hvL] at hp
  simp only at hn hol HS
  have HPL := Lib.hid hn
  have HRO : RowKit.Hid (Kept RO fun w => RowIs w oa (os.flatMap obV)) := Lib.hid hR.objs.keptS
  clear hn hR hx
  go_enter Try.func36, Try.ntmps36
  go_wp2_with (first | go_skip | ((first | ((with_reducible refine pre_alloc _ rfl ?_); refine lZ hp rfl zero34 ?_; clear hp; intro b w1 hp) | ((with_reducible refine pre_box _ _ rfl ?_); refine lB hp rfl (slot_tmp rfl) rfl ?_; clear hp; intro b w1 hp) | ((with_reducible refine pre_load _ _ rfl ?_); first | refine lO hp rfl (slot_tmp rfl) ceDT1 aa14 ?_ | refine lA hp rfl (slot_tmp rfl) gaDT0 aa14 ?_) | ((with_reducible refine pre_store _ _ _ rfl ?_); (first | refine sO hp rfl (slot_tmp rfl) ceDT1 aa14 ?_ | refine sA hp rfl (slot_tmp rfl) (slot_tmp rfl) gaDT0 aa14 ?_ | refine sG hp rfl (slot_tmp rfl) (slot_tmp rfl) gaDT0 aa14 ?_); clear hp; intro w1 hp; simp only [spl, List.set_cons_zero, List.set_cons_succ] at hp)); simp only [put_some, put_none, List.set_cons_succ, List.set_cons_zero]))
  refine wp_region_keeps [_, _] (Keeps.two hp.drew at1 at2) [] [(0, true), (1, true), (2, true), (3, true), (4, true), (5, true), (6, true), (7, false), (8, true), (9, true), (10, true), (11, false), (12, false)] (by kernel_rfl) (by kernel_rfl) rfl (by kernel_rfl) (fun _ _ d _ _ h => by cases d <;> exact h) ?_
  replace hp := hp.drew
  repeat' (with_reducible refine plan_is ?_); first | (with_reducible refine plan_nil ?_) | ((with_reducible refine plan_t ?_); refine plan_tk rfl ?_; (first | ((with_reducible refine tk_mv _ rfl ?_); refine tM rfl ?_) | ((with_reducible refine tk_ld _ _ rfl ?_); refine tO rfl (slot_tmp rfl) (by with_reducible first | exact cell3 | exact cell23) aa5 ?_) | refine tG (fun w _ => (by go_simp; try rfl)) ?_); try simp only [put_some, put_none, eval_tmp, eval_const, List.set_cons_succ, List.set_cons_zero, List.getD_cons_succ, List.getD_cons_zero, wrap_eq]) | (refine plan_do rfl (fun K hK => ?_); go_wp2_with (first | (go_at_call 43; (with_reducible refine (find43_no HPL.out oa oc hol HS.out _ (HRO.out.at hp (fun p hm => by simp [hm]))).mono ?_); rintro e w1 ⟨⟨kf, rfl⟩, hb⟩; replace hp := hp.call hb; clear hb) | go_skip); (refine hK.out _ _ (.inr (Keeps.two hp aa5 aa5)) ?_); clear hK K; try simp only [put_some, put_none, eval_tmp, eval_const, List.set_cons_succ, List.set_cons_zero, List.getD_cons_succ, List.getD_cons_zero, wrap_eq])
  go_wp2_with (first | (go_at_call 17; (with_reducible refine (no17 _ _).mono ?_); rintro e w1 ⟨rfl, hb⟩; replace hp := hp.call hb; clear hb; unfold resV) | go_skip | ((first | ((with_reducible refine pre_alloc _ rfl ?_); refine lZ hp rfl zero34 ?_; clear hp; intro b w1 hp) | ((with_reducible refine pre_box _ _ rfl ?_); refine lB hp rfl (slot_tmp rfl) rfl ?_; clear hp; intro b w1 hp) | ((with_reducible refine pre_load _ _ rfl ?_); first | refine lO hp rfl (slot_tmp rfl) ceDT1 aa14 ?_ | refine lA hp rfl (slot_tmp rfl) gaDT0 aa14 ?_) | ((with_reducible refine pre_store _ _ _ rfl ?_); (first | refine sO hp rfl (slot_tmp rfl) ceDT1 aa14 ?_ | refine sA hp rfl (slot_tmp rfl) (slot_tmp rfl) gaDT0 aa14 ?_ | refine sG hp rfl (slot_tmp rfl) (slot_tmp rfl) gaDT0 aa14 ?_); clear hp; intro w1 hp; simp only [spl, List.set_cons_zero, List.set_cons_succ] at hp)); simp only [put_some, put_none, List.set_cons_succ, List.set_cons_zero]))
  exact bodyPost_ret (results_one (rs := [.cell 4 34]) Try.results36 (.cell rfl (hp.loadAgg agg34 at0 0 _ (by rfl) (by rfl)) .nil)) rfl (WorkAt.sm ⟨RO, RF, M, HR.out, hp.tail.tail⟩ rfl)
theorem workAt_of {x : Hv} {RO RF M K : List Blk} (hR : HvR x RO RF M) {br bo b : Nat} {c d : List Value} {B : Nat} {w0 w : World} (hp : Hp B w0 w (⟨br, c, 34, 2⟩ :: ⟨bo, d, 39, 7⟩ :: ⟨b, hvL x, 62, 8⟩ :: (RO ++ (RF ++ (M ++ K))))) :
    WorkAt B w0 w b x (K ++ [⟨br, c, 34, 2⟩, ⟨bo, d, 39, 7⟩]) := ⟨RO, RF, M, hR, hp.kp⟩
set_option maxRecDepth 100000 in
set_option maxHeartbeats 8000000 in
theorem at36_free {x : Hv} (hx : HRight x) {hh ii nn cc vv tt : Int} {i : Nat} {g : Ob} (hn : placeO x.os hh = some i) (hg : x.os[i]? = some g) {B bw : Nat} {w0 w : World} {K9 : List Blk} (hW : WorkAt B w0 w bw x K9) :
    Calls Try.prog 36 #[.pointer (some ⟨bw, 0, none⟩), .agg #[.int .i64 2, .int .i64 hh, .int .i64 ii, .int .i64 nn, .int .i64 cc, .int .i64 vv, .int .i64 tt]] w (WorkPost B w0 bw (freeH x i g) 0 0 K9) := by
  obtain ⟨RO, RF, M, hR, hp⟩ := hW
  have HR := Lib.hid hR
  have HS := Lib.hid hx.sorted
  have HG := Lib.hid hg
  have hol : x.os.length ≤ 1000 := by have := hx.len; omega
  have HFREE : RowKit.Hid (∀ {K : List Blk} {w : World}, WorkAt B w0 w bw x K → Calls Try.prog 46 #[.pointer (some ⟨bw, 0, none⟩), .int .i64 i] w (WorkPost B w0 bw (freeH x i g) 0 0 K)) := Lib.hid (fun h => free46 x hx i g hg h)
  have HWK : RowKit.Hid (∀ {br bo : Nat} {c d : List Value} {w : World}, Hp B w0 w (⟨br, c, 34, 2⟩ :: ⟨bo, d, 39, 7⟩ :: ⟨bw, hvL x, 62, 8⟩ :: (RO ++ (RF ++ (M ++ K9)))) → WorkAt B w0 w bw x (K9 ++ [⟨br, c, 34, 2⟩, ⟨bo, d, 39, 7⟩])) := Lib.hid (fun h => workAt_of hR h)
  generalize freeH x i g = s at HFREE ⊢
  obtain ⟨od, oa, os, oc, nx, t0, t1, t2, t3, fa, fs, fc⟩ := x
  simp only [hvL] at hp HWK
  simp only at hn hol HS
  have HPL := Lib.hid hn
  have HRO : RowKit.Hid (Kept RO fun w => RowIs w oa (os.flatMap obV)) := Lib.hid hR.objs.keptS
  clear hn hR hx hg HG
  go_enter Try.func36, Try.ntmps36
  go_wp2_with (first | go_skip | ((first | ((with_reducible refine pre_alloc _ rfl ?_); refine lZ hp rfl zero34 ?_; clear hp; intro b w1 hp) | ((with_reducible refine pre_box _ _ rfl ?_); refine lB hp rfl (slot_tmp rfl) rfl ?_; clear hp; intro b w1 hp) | ((with_reducible refine pre_load _ _ rfl ?_); first | refine lO hp rfl (slot_tmp rfl) ceDT1 aa14 ?_ | refine lA hp rfl (slot_tmp rfl) gaDT0 aa14 ?_) | ((with_reducible refine pre_store _ _ _ rfl ?_); (first | refine sO hp rfl (slot_tmp rfl) ceDT1 aa14 ?_ | refine sA hp rfl (slot_tmp rfl) (slot_tmp rfl) gaDT0 aa14 ?_ | refine sG hp rfl (slot_tmp rfl) (slot_tmp rfl) gaDT0 aa14 ?_); clear hp; intro w1 hp; simp only [spl, List.set_cons_zero, List.set_cons_succ] at hp)); simp only [put_some, put_none, List.set_cons_succ, List.set_cons_zero]))
  refine wp_region_keeps [_, _] (Keeps.two hp.drew at1 at2) [] [(0, true), (1, true), (2, true), (3, true), (4, true), (5, true), (6, true), (7, false), (8, true), (9, true), (10, true), (11, false), (12, false)] (by kernel_rfl) (by kernel_rfl) rfl (by kernel_rfl) (fun _ _ d _ _ h => by cases d <;> exact h) ?_
  replace hp := hp.drew
  repeat' (with_reducible refine plan_is ?_); first | (with_reducible refine plan_nil ?_) | ((with_reducible refine plan_t ?_); refine plan_tk rfl ?_; (first | ((with_reducible refine tk_mv _ rfl ?_); refine tM rfl ?_) | ((with_reducible refine tk_ld _ _ rfl ?_); refine tO rfl (slot_tmp rfl) (by with_reducible first | exact cell3 | exact cell23) aa5 ?_) | refine tG (fun w _ => (by go_simp; try rfl)) ?_); try simp only [put_some, put_none, eval_tmp, eval_const, List.set_cons_succ, List.set_cons_zero, List.getD_cons_succ, List.getD_cons_zero, wrap_eq]) | (refine plan_do rfl (fun K hK => ?_); go_wp2_with (first | (go_at_call 43; (with_reducible refine (find43_yes HPL.out oa oc hol HS.out _ (HRO.out.at hp (fun p hm => by simp [hm]))).mono ?_); rintro e w1 ⟨rfl, hb⟩; replace hp := hp.call hb; clear hb) | go_skip); (refine hK.out _ _ (.inr (Keeps.two hp aa5 aa5)) ?_); clear hK K; try simp only [put_some, put_none, eval_tmp, eval_const, List.set_cons_succ, List.set_cons_zero, List.getD_cons_succ, List.getD_cons_zero, wrap_eq])
  obtain ⟨br, rfl⟩ := hp.id0
  obtain ⟨bo, rfl⟩ := hp.id1
  go_wp2_with (first | (go_at_call 46; (with_reducible refine (HFREE.out (HWK.out hp)).mono ?_); clear hp; rintro e w1 ⟨rfl, y, hy, RO2, RF2, M2, hR2, hp⟩; replace hp := hp.kp (L' := ⟨br, [.int .i64 0, .int .i64 0], 34, 2⟩ :: ⟨bw, hvL y, 62, 8⟩ :: (RO2 ++ (RF2 ++ (M2 ++ K9)))); have HR2 := Lib.hid hR2; have HY := Lib.hid hy; clear hy hR2; unfold resV) | go_skip | ((first | ((with_reducible refine pre_alloc _ rfl ?_); refine lZ hp rfl zero34 ?_; clear hp; intro b w1 hp) | ((with_reducible refine pre_box _ _ rfl ?_); refine lB hp rfl (slot_tmp rfl) rfl ?_; clear hp; intro b w1 hp) | ((with_reducible refine pre_load _ _ rfl ?_); first | refine lO hp rfl (slot_tmp rfl) ceDT1 aa14 ?_ | refine lA hp rfl (slot_tmp rfl) gaDT0 aa14 ?_) | ((with_reducible refine pre_store _ _ _ rfl ?_); (first | refine sO hp rfl (slot_tmp rfl) ceDT1 aa14 ?_ | refine sA hp rfl (slot_tmp rfl) (slot_tmp rfl) gaDT0 aa14 ?_ | refine sG hp rfl (slot_tmp rfl) (slot_tmp rfl) gaDT0 aa14 ?_); clear hp; intro w1 hp; simp only [spl, List.set_cons_zero, List.set_cons_succ] at hp)); simp only [put_some, put_none, List.set_cons_succ, List.set_cons_zero]))
  exact bodyPost_ret (results_one (rs := [.cell 4 34]) Try.results36 (.cell rfl (hp.loadAgg agg34 at0 0 _ (by rfl) (by rfl)) .nil)) rfl ⟨rfl, y, HY.out, RO2, RF2, M2, HR2.out, hp.tail⟩
end Go.Proofs.Ytcjbepaclbhjaaa
