/- Parts of the proof. -/
import Derived.Test.YtaafajaadfgaoaaGreatAz18
open List renaming set_cons_zero → zSet, set_cons_succ → sSet
/- The walk of at. -/
set_option linter.unusedSimpArgs false
set_option linter.unusedVariables false
namespace Go.Proofs.YtaafajaadfgaoaaGreat
open Go.RowKit
theorem gaDT0 {ty : TypeId} {k : Nat} (h : aggB Tryz.prog ty k = true := by with_reducible first | exact agg47 | exact agg126 | exact agg113 | exact agg54 | exact agg29) : aggB Tryz.prog ty k = true := h
theorem ceDT1 {ty : TypeId} (h : cellB Tryz.prog ty = true := by with_reducible first | exact cell3 | exact cell4 | exact cell122 | exact cell43 | exact cell27) : cellB Tryz.prog ty = true := h
theorem find200_no {l : List Ob} {h : Int} (hn : placeO l h = none) (a : Option Addr) (c : Nat) (hl : l.length ≤ 1000) (hs : SortedO l) (w : World) (ha : RowIs w a (l.flatMap obV)) :
    Calls Tryz.prog 200 #[.slice a l.length c, .int .i64 h] w fun e w' => (∃ k : Nat, e = .returned (.tuple #[.int .i64 k, .bool false])) ∧ Below w.heap.size w w' :=
  (find200 l a c hl hs h w ha).mono fun e w' ⟨k, he, hk, hb⟩ => ⟨⟨k, by
    have := place_has hs hk
    rw [hn] at this
    cases hq : hasBO l h k with
    | false => rw [hq] at he; exact he
    | true => rw [hq] at this; cases this⟩, hb⟩
theorem find200_yes {l : List Ob} {h : Int} {i : Nat} (hn : placeO l h = some i) (a : Option Addr) (c : Nat) (hl : l.length ≤ 1000) (hs : SortedO l) (w : World) (ha : RowIs w a (l.flatMap obV)) :
    Calls Tryz.prog 200 #[.slice a l.length c, .int .i64 h] w fun e w' => e = .returned (.tuple #[.int .i64 i, .bool true]) ∧ Below w.heap.size w w' :=
  (find200 l a c hl hs h w ha).mono fun e w' ⟨k, he, hk, hb⟩ => ⟨by
    have := place_has hs hk
    rw [hn] at this
    cases hq : hasBO l h k with
    | false => rw [hq] at this; cases this
    | true => rw [hq] at this he; injection this with this; subst this; exact he, hb⟩
set_option maxRecDepth 100000 in
set_option maxHeartbeats 8000000 in
theorem at152_none {x : Hv} (hx : HRight x) {kk hh ii nn cc vv tt : Int} (hn : placeO x.os hh = none) {B bw : Nat} {w0 w : World} {K : List Blk} (hW : WorkAt B w0 w bw x K) : Calls Tryz.prog 152 #[.pointer (some ⟨bw, 0, none⟩), .agg #[.int .i64 kk, .int .i64 hh, .int .i64 ii, .int .i64 nn, .int .i64 cc, .int .i64 vv, .int .i64 tt]] w (WorkPost B w0 bw x 51 0 K) := by
  obtain ⟨RO, RF, M, hR, hp⟩ := hW
  have HR := Lib.hid hR
  have HS := Lib.hid hx.sorted
  have hol : x.os.length ≤ 1000 := by have := hx.len; omega
  obtain ⟨od, oa, os, oc, nx, t0, t1, t2, t3, fa, fs, fc⟩ := x
  simp only [hvL] at hp
  simp only at hn hol HS
  have HPL := Lib.hid hn
  have HRO : RowKit.Hid (Kept RO fun w => RowIs w oa (os.flatMap obV)) := Lib.hid hR.objs.keptS
  clear hn hR hx
  go_enter Tryz.func152, Tryz.ntmps152
  go_wp2_with (first | go_skip | ((first | ((with_reducible refine pre_alloc _ rfl ?_); refine lZ hp rfl zero54 ?_; clear hp; intro b w1 hp) | ((with_reducible refine pre_box _ _ rfl ?_); refine lB hp rfl (sTm rfl) rfl ?_; clear hp; intro b w1 hp) | ((with_reducible refine pre_load _ _ rfl ?_); first | refine lO hp rfl (sTm rfl) ceDT1 aa14 ?_ | refine lA hp rfl (sTm rfl) gaDT0 aa14 ?_) | ((with_reducible refine pre_store _ _ _ rfl ?_); (first | refine sO hp rfl (sTm rfl) ceDT1 aa14 ?_ | refine sA hp rfl (sTm rfl) (sTm rfl) gaDT0 aa14 ?_ | refine sG hp rfl (sTm rfl) (sTm rfl) gaDT0 aa14 ?_); clear hp; intro w1 hp; simp only [spl, zSet, sSet] at hp)); simp only [put_some, put_none, sSet, zSet]))
  refine wp_region_keeps [_, _] (Keeps.two hp.drew at1 at2) [] [(0, true), (1, true), (2, true), (3, true), (4, true), (5, true), (6, true), (7, false), (8, true), (9, true), (10, true), (11, false), (12, false)] (by kernel_rfl) (by kernel_rfl) rfl (by kernel_rfl) (fun _ _ d _ _ h => by cases d <;> exact h) ?_
  replace hp := hp.drew
  repeat' (with_reducible refine plan_is ?_); first | (with_reducible refine plan_nil ?_) | ((with_reducible refine plan_t ?_); refine plan_tk rfl ?_; (first | ((with_reducible refine tk_mv _ rfl ?_); refine tM rfl ?_) | ((with_reducible refine tk_ld _ _ rfl ?_); refine tO rfl (sTm rfl) (by with_reducible first | exact cell3 | exact cell43) aa5 ?_) | refine tG (fun w _ => (by go_simp; try rfl)) ?_); try simp only [put_some, put_none, eval_tmp, eval_const, sSet, zSet, List.getD_cons_succ, List.getD_cons_zero, wrap_eq]) | (refine plan_do rfl (fun K hK => ?_); go_wp2_with (first | (go_at_call 200; (with_reducible refine (find200_no HPL.out oa oc hol HS.out _ (HRO.out.at hp (fun p hm => by simp [hm]))).mono ?_); rintro e w1 ⟨⟨kf, rfl⟩, hb⟩; replace hp := hp.call hb; clear hb) | go_skip); (refine hK.out _ _ (.inr (Keeps.two hp aa5 aa5)) ?_); clear hK K; try simp only [put_some, put_none, eval_tmp, eval_const, sSet, zSet, List.getD_cons_succ, List.getD_cons_zero, wrap_eq])
  go_wp2_with (first | (go_at_call 75; (with_reducible refine (no75 _ _).mono ?_); rintro e w1 ⟨rfl, hb⟩; replace hp := hp.call hb; clear hb; unfold resV) | go_skip | ((first | ((with_reducible refine pre_alloc _ rfl ?_); refine lZ hp rfl zero54 ?_; clear hp; intro b w1 hp) | ((with_reducible refine pre_box _ _ rfl ?_); refine lB hp rfl (sTm rfl) rfl ?_; clear hp; intro b w1 hp) | ((with_reducible refine pre_load _ _ rfl ?_); first | refine lO hp rfl (sTm rfl) ceDT1 aa14 ?_ | refine lA hp rfl (sTm rfl) gaDT0 aa14 ?_) | ((with_reducible refine pre_store _ _ _ rfl ?_); (first | refine sO hp rfl (sTm rfl) ceDT1 aa14 ?_ | refine sA hp rfl (sTm rfl) (sTm rfl) gaDT0 aa14 ?_ | refine sG hp rfl (sTm rfl) (sTm rfl) gaDT0 aa14 ?_); clear hp; intro w1 hp; simp only [spl, zSet, sSet] at hp)); simp only [put_some, put_none, sSet, zSet]))
  exact bodyPost_ret (results_one (rs := [.cell 4 54]) Tryz.results152 (.cell rfl (hp.loadAgg agg54 at0 0 _ (by rfl) (by rfl)) .nil)) rfl (WorkAt.sm ⟨RO, RF, M, HR.out, hp.tail.tail⟩ rfl)
theorem workAt_of {x : Hv} {RO RF M K : List Blk} (hR : HvR x RO RF M) {br bo b : Nat} {c d : List Value} {B : Nat} {w0 w : World} (hp : Hp B w0 w (⟨br, c, 54, 2⟩ :: ⟨bo, d, 29, 7⟩ :: ⟨b, hvL x, 113, 8⟩ :: (RO ++ (RF ++ (M ++ K))))) :
    WorkAt B w0 w b x (K ++ [⟨br, c, 54, 2⟩, ⟨bo, d, 29, 7⟩]) := ⟨RO, RF, M, hR, hp.kp⟩
set_option maxRecDepth 100000 in
set_option maxHeartbeats 8000000 in
theorem at152_free {x : Hv} (hx : HRight x) {hh ii nn cc vv tt : Int} {i : Nat} {g : Ob} (hn : placeO x.os hh = some i) (hg : x.os[i]? = some g) {B bw : Nat} {w0 w : World} {K9 : List Blk} (hW : WorkAt B w0 w bw x K9) :
    Calls Tryz.prog 152 #[.pointer (some ⟨bw, 0, none⟩), .agg #[.int .i64 2, .int .i64 hh, .int .i64 ii, .int .i64 nn, .int .i64 cc, .int .i64 vv, .int .i64 tt]] w (WorkPost B w0 bw (freeH x i g) 0 0 K9) := by
  obtain ⟨RO, RF, M, hR, hp⟩ := hW
  have HR := Lib.hid hR
  have HS := Lib.hid hx.sorted
  have HG := Lib.hid hg
  have hol : x.os.length ≤ 1000 := by have := hx.len; omega
  have HFREE : RowKit.Hid (∀ {K : List Blk} {w : World}, WorkAt B w0 w bw x K → Calls Tryz.prog 203 #[.pointer (some ⟨bw, 0, none⟩), .int .i64 i] w (WorkPost B w0 bw (freeH x i g) 0 0 K)) := Lib.hid (fun h => free203 x hx i g hg h)
  have HWK : RowKit.Hid (∀ {br bo : Nat} {c d : List Value} {w : World}, Hp B w0 w (⟨br, c, 54, 2⟩ :: ⟨bo, d, 29, 7⟩ :: ⟨bw, hvL x, 113, 8⟩ :: (RO ++ (RF ++ (M ++ K9)))) → WorkAt B w0 w bw x (K9 ++ [⟨br, c, 54, 2⟩, ⟨bo, d, 29, 7⟩])) := Lib.hid (fun h => workAt_of hR h)
  generalize freeH x i g = s at HFREE ⊢
  obtain ⟨od, oa, os, oc, nx, t0, t1, t2, t3, fa, fs, fc⟩ := x
  simp only [hvL] at hp HWK
  simp only at hn hol HS
  have HPL := Lib.hid hn
  have HRO : RowKit.Hid (Kept RO fun w => RowIs w oa (os.flatMap obV)) := Lib.hid hR.objs.keptS
  clear hn hR hx hg HG
  go_enter Tryz.func152, Tryz.ntmps152
  go_wp2_with (first | go_skip | ((first | ((with_reducible refine pre_alloc _ rfl ?_); refine lZ hp rfl zero54 ?_; clear hp; intro b w1 hp) | ((with_reducible refine pre_box _ _ rfl ?_); refine lB hp rfl (sTm rfl) rfl ?_; clear hp; intro b w1 hp) | ((with_reducible refine pre_load _ _ rfl ?_); first | refine lO hp rfl (sTm rfl) ceDT1 aa14 ?_ | refine lA hp rfl (sTm rfl) gaDT0 aa14 ?_) | ((with_reducible refine pre_store _ _ _ rfl ?_); (first | refine sO hp rfl (sTm rfl) ceDT1 aa14 ?_ | refine sA hp rfl (sTm rfl) (sTm rfl) gaDT0 aa14 ?_ | refine sG hp rfl (sTm rfl) (sTm rfl) gaDT0 aa14 ?_); clear hp; intro w1 hp; simp only [spl, zSet, sSet] at hp)); simp only [put_some, put_none, sSet, zSet]))
  refine wp_region_keeps [_, _] (Keeps.two hp.drew at1 at2) [] [(0, true), (1, true), (2, true), (3, true), (4, true), (5, true), (6, true), (7, false), (8, true), (9, true), (10, true), (11, false), (12, false)] (by kernel_rfl) (by kernel_rfl) rfl (by kernel_rfl) (fun _ _ d _ _ h => by cases d <;> exact h) ?_
  replace hp := hp.drew
  repeat' (with_reducible refine plan_is ?_); first | (with_reducible refine plan_nil ?_) | ((with_reducible refine plan_t ?_); refine plan_tk rfl ?_; (first | ((with_reducible refine tk_mv _ rfl ?_); refine tM rfl ?_) | ((with_reducible refine tk_ld _ _ rfl ?_); refine tO rfl (sTm rfl) (by with_reducible first | exact cell3 | exact cell43) aa5 ?_) | refine tG (fun w _ => (by go_simp; try rfl)) ?_); try simp only [put_some, put_none, eval_tmp, eval_const, sSet, zSet, List.getD_cons_succ, List.getD_cons_zero, wrap_eq]) | (refine plan_do rfl (fun K hK => ?_); go_wp2_with (first | (go_at_call 200; (with_reducible refine (find200_yes HPL.out oa oc hol HS.out _ (HRO.out.at hp (fun p hm => by simp [hm]))).mono ?_); rintro e w1 ⟨rfl, hb⟩; replace hp := hp.call hb; clear hb) | go_skip); (refine hK.out _ _ (.inr (Keeps.two hp aa5 aa5)) ?_); clear hK K; try simp only [put_some, put_none, eval_tmp, eval_const, sSet, zSet, List.getD_cons_succ, List.getD_cons_zero, wrap_eq])
  obtain ⟨br, rfl⟩ := hp.id0
  obtain ⟨bo, rfl⟩ := hp.id1
  go_wp2_with (first | (go_at_call 203; (with_reducible refine (HFREE.out (HWK.out hp)).mono ?_); clear hp; rintro e w1 ⟨rfl, y, hy, RO2, RF2, M2, hR2, hp⟩; replace hp := hp.kp (L' := ⟨br, [.int .i64 0, .int .i64 0], 54, 2⟩ :: ⟨bw, hvL y, 113, 8⟩ :: (RO2 ++ (RF2 ++ (M2 ++ K9)))); have HR2 := Lib.hid hR2; have HY := Lib.hid hy; clear hy hR2; unfold resV) | go_skip | ((first | ((with_reducible refine pre_alloc _ rfl ?_); refine lZ hp rfl zero54 ?_; clear hp; intro b w1 hp) | ((with_reducible refine pre_box _ _ rfl ?_); refine lB hp rfl (sTm rfl) rfl ?_; clear hp; intro b w1 hp) | ((with_reducible refine pre_load _ _ rfl ?_); first | refine lO hp rfl (sTm rfl) ceDT1 aa14 ?_ | refine lA hp rfl (sTm rfl) gaDT0 aa14 ?_) | ((with_reducible refine pre_store _ _ _ rfl ?_); (first | refine sO hp rfl (sTm rfl) ceDT1 aa14 ?_ | refine sA hp rfl (sTm rfl) (sTm rfl) gaDT0 aa14 ?_ | refine sG hp rfl (sTm rfl) (sTm rfl) gaDT0 aa14 ?_); clear hp; intro w1 hp; simp only [spl, zSet, sSet] at hp)); simp only [put_some, put_none, sSet, zSet]))
  exact bodyPost_ret (results_one (rs := [.cell 4 54]) Tryz.results152 (.cell rfl (hp.loadAgg agg54 at0 0 _ (by rfl) (by rfl)) .nil)) rfl ⟨rfl, y, HY.out, RO2, RF2, M2, HR2.out, hp.tail⟩
end Go.Proofs.YtaafajaadfgaoaaGreat
