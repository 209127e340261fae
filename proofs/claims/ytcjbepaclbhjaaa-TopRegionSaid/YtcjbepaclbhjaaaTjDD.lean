import Derived.Test.YtcjbepaclbhjaaaTjDU
import Derived.Test.YtcjbepaclbhjaaaTjQF
/- The walks of do and of heap.Do. -/
set_option linter.unusedSimpArgs false
set_option linter.unusedVariables false
namespace Go.Proofs.Ytcjbepaclbhjaaa
open Go.RowKit
theorem gaDD0 {ty : TypeId} {k : Nat} (h : aggB Try.prog ty k = true := by with_reducible first | exact agg27 | exact agg48 | exact agg62 | exact agg34 | exact agg39) : aggB Try.prog ty k = true := h
theorem ceDD1 {ty : TypeId} (h : cellB Try.prog ty = true := by with_reducible first | exact cell3 | exact cell4 | exact cell46 | exact cell23 | exact cell37 | exact cell28) : cellB Try.prog ty = true := h
theorem alloc35 {x : Hv} (hx : HRight x) {kk hh ii nn cc vv tt : Int} {B bw : Nat} {w0 w : World} {K : List Blk} (hW : WorkAt B w0 w bw x K) :
    Calls Try.prog 35 #[.pointer (some ⟨bw, 0, none⟩), .agg #[.int .i64 kk, .int .i64 hh, .int .i64 ii, .int .i64 nn, .int .i64 cc, .int .i64 vv, .int .i64 tt]] w (WorkPost B w0 bw (allocC x ⟨kk, hh, ii, nn, cc, vv, tt⟩).1 (allocC x ⟨kk, hh, ii, nn, cc, vv, tt⟩).2.1 (allocC x ⟨kk, hh, ii, nn, cc, vv, tt⟩).2.2 K) := by
  obtain ⟨RO, RF, M, hR, hp⟩ := hW
  obtain ⟨h3, h8, hcan⟩ := right_can hx.free
  have hsm := hx.small
  have hlen := hx.len
  have hlo := hx.lo
  have hfree := hx.free
  obtain ⟨od, oa, os, oc, nx, t0, t1, t2, t3, fa, fs, fc⟩ := x
  simp only at h3 h8 hcan hlen hlo hfree
  unfold allocC
  simp only
  by_cases hn : needI nn cc < 0
  · rw [if_pos hn]
    exact alloc35_large (Lib.hid rfl) hn (Lib.hid hR) hp
  · rw [if_neg hn]
    by_cases hl : 1000000 < nx
    · rw [if_pos hl]
      exact alloc35_limit (Lib.hid rfl) (by omega) hl (Lib.hid hR) hp
    · rw [if_neg hl]
      cases hb : bestB fs (needI nn cc) with
      | none =>
        have hg := bestB_none.1 hb
        by_cases ho : od < needI nn cc
        · exact alloc35_space (Lib.hid rfl) (by omega) (by omega) (.inl rfl) (Lib.hid fun a k w h => take45_arg od (needI nn cc) fs a k hsm.2 w h (.inr (.inr ho))) (Lib.hid hR) hp
        · exact alloc35_space (Lib.hid rfl) (by omega) (by omega) (.inr rfl) (Lib.hid fun a k w h => take45_full od (needI nn cc) fs a k hsm.2 w h hfree (by omega) (by omega) hg) (Lib.hid hR) hp
      | some b =>
        have hlt := bestB_least hcan.disj hb
        have hmay := hcan.may b hlt.mem
        have hgr := hlt.great
        obtain ⟨n1, n2, n3, n4⟩ := needI_ok (a := nn) (b := cc) (by omega)
        obtain ⟨m, rfl⟩ := Int.eq_ofNat_of_zero_le n1
        obtain ⟨k, rfl⟩ := Int.eq_ofNat_of_zero_le n3
        refine alloc35_ok (Lib.hid rfl) (by omega) (by have := hmay.2.1; omega) (by omega) (by omega) (by omega) hlo hlen hsm.2 (Lib.hid hfree) (Lib.hid ?_) (Lib.hid fun b' s hl' ht => ?_) (Lib.hid hR) hp
        · cases hq : greatB fs (needI m k) with
          | true => rfl
          | false => rw [bestB_none.2 hq] at hb; cases hb
        · have e := hl'.uniq hlt
          subst e
          exact ⟨rfl, taken_eq hcan.disj hl'.mem (by omega) hl'.great ht⟩
theorem at36 {x : Hv} (hx : HRight x) {kk hh ii nn cc vv tt : Int} (hk : kk = 2 ∨ kk = 3 ∨ kk = 4 ∨ kk = 6 ∨ kk = 7) {B bw : Nat} {w0 w : World} {K : List Blk} (hW : WorkAt B w0 w bw x K) :
    Calls Try.prog 36 #[.pointer (some ⟨bw, 0, none⟩), .agg #[.int .i64 kk, .int .i64 hh, .int .i64 ii, .int .i64 nn, .int .i64 cc, .int .i64 vv, .int .i64 tt]] w (WorkPost B w0 bw (atC x ⟨kk, hh, ii, nn, cc, vv, tt⟩).1 (atC x ⟨kk, hh, ii, nn, cc, vv, tt⟩).2.1 (atC x ⟨kk, hh, ii, nn, cc, vv, tt⟩).2.2 K) := by
  unfold atC
  simp only
  cases hn : placeO x.os hh with
  | none => exact at36_none hx hn hW
  | some i =>
    obtain ⟨g, hg, _⟩ := place_some hn
    simp only [hg]
    have hin : ∀ {n : Nat}, (ii < 0 ∨ (n : Int) ≤ ii) → inB ii 0 ((n : Int) - 1) = false := fun h => by simp [inB]; omega
    have hnat : ∀ {n : Nat}, ¬ (ii < 0 ∨ (n : Int) ≤ ii) → ∃ q : Nat, ii = q ∧ q < n := fun h => ⟨ii.toNat, by omega, by omega⟩
    rcases hk with rfl | rfl | rfl | rfl | rfl
    · exact at36_free hx hn hg hW
    · simp only [rowC, Int.reduceEq, or_self, if_false, if_true]
      by_cases h : ii < 0 ∨ (g.ws.length : Int) ≤ ii
      · rw [if_pos h]; exact at36_noidx3 hx hn hg (hin h) hW
      · obtain ⟨q, rfl, hq⟩ := hnat h
        rw [if_neg h]; exact at36_write hx hn hg hq hW
    · simp only [rowC, Int.reduceEq, or_false, false_or, if_false, if_true]
      by_cases h : ii < 0 ∨ (g.ls.length : Int) ≤ ii
      · rw [if_pos h]; exact at36_noidx4 hx hn hg (hin h) hW
      · obtain ⟨q, rfl, hq⟩ := hnat h
        rw [if_neg h]
        cases hto : leadsC x.os tt with
        | true => exact at36_link hx hn hg hq hto hW
        | false => exact at36_nolink hx hn hg hq hto hW
    · simp only [rowC, Int.reduceEq, or_self, if_false, if_true]
      by_cases h : ii < 0 ∨ (g.ws.length : Int) ≤ ii
      · rw [if_pos h]; exact at36_noidx6 hx hn hg (hin h) hW
      · obtain ⟨q, rfl, hq⟩ := hnat h
        rw [if_neg h]
        have hv := List.getElem?_eq_getElem hq
        have he : g.ws.getD q 0 = g.ws[q] := by simp [hq]
        simp only [Int.toNat_natCast, he]
        exact at36_read hx hn hg hv hW
    · simp only [rowC, Int.reduceEq, or_true, if_false, if_true]
      by_cases h : ii < 0 ∨ (g.ls.length : Int) ≤ ii
      · rw [if_pos h]; exact at36_noidx7 hx hn hg (hin h) hW
      · obtain ⟨q, rfl, hq⟩ := hnat h
        rw [if_neg h]
        have hv := List.getElem?_eq_getElem hq
        have he : g.ls.getD q 0 = g.ls[q] := by simp [hq]
        simp only [Int.toNat_natCast, he]
        exact at36_follow hx hn hg hv hW
theorem two_of {x : Hv} {RO RF M K : List Blk} (hR : HvR x RO RF M) {br bo b : Nat} {c d : List Value} {B : Nat} {w0 w : World} (hp : Hp B w0 w (⟨br, c, 34, 2⟩ :: ⟨bo, d, 39, 7⟩ :: ⟨b, hvL x, 62, 8⟩ :: (RO ++ (RF ++ (M ++ K))))) : WorkAt B w0 w b x K :=
  ⟨RO, RF, M, hR, hp.tail.tail⟩
set_option maxRecDepth 100000 in
set_option maxHeartbeats 8000000 in
theorem do19_call {x : Hv} {kk hh ii nn cc vv tt : Int} {s : Hv} {c v : Int} {B bw : Nat} {w0 w : World} {K9 : List Blk} (hW : WorkAt B w0 w bw x K9)
    (h : (kk = 1 ∧ RowKit.Hid (∀ {K : List Blk} {w : World}, WorkAt B w0 w bw x K → Calls Try.prog 35 #[.pointer (some ⟨bw, 0, none⟩), .agg #[.int .i64 kk, .int .i64 hh, .int .i64 ii, .int .i64 nn, .int .i64 cc, .int .i64 vv, .int .i64 tt]] w (WorkPost B w0 bw s c v K))) ∨ ((kk = 2 ∨ kk = 3 ∨ kk = 4 ∨ kk = 6 ∨ kk = 7) ∧ RowKit.Hid (∀ {K : List Blk} {w : World}, WorkAt B w0 w bw x K → Calls Try.prog 36 #[.pointer (some ⟨bw, 0, none⟩), .agg #[.int .i64 kk, .int .i64 hh, .int .i64 ii, .int .i64 nn, .int .i64 cc, .int .i64 vv, .int .i64 tt]] w (WorkPost B w0 bw s c v K)))) :
    Calls Try.prog 19 #[.pointer (some ⟨bw, 0, none⟩), .agg #[.int .i64 kk, .int .i64 hh, .int .i64 ii, .int .i64 nn, .int .i64 cc, .int .i64 vv, .int .i64 tt]] w (WorkPost B w0 bw s c v K9) := by
  obtain ⟨RO, RF, M, hR, hp⟩ := hW
  have HWK : RowKit.Hid (∀ {br bo : Nat} {c d : List Value} {w : World}, Hp B w0 w (⟨br, c, 34, 2⟩ :: ⟨bo, d, 39, 7⟩ :: ⟨bw, hvL x, 62, 8⟩ :: (RO ++ (RF ++ (M ++ K9)))) → WorkAt B w0 w bw x (K9 ++ [⟨br, c, 34, 2⟩, ⟨bo, d, 39, 7⟩])) := Lib.hid (fun h => workAt_of hR h)
  clear hR
  rcases h with ⟨rfl, HAL⟩ | ⟨hk, HAL⟩
  · go_enter Try.func19, Try.ntmps19
    go_wp2_with (first | go_skip | ((first | ((with_reducible refine pre_alloc _ rfl ?_); refine lZ hp rfl (by with_reducible first | exact zero34 | exact zero27) ?_; clear hp; intro b w1 hp) | ((with_reducible refine pre_box _ _ rfl ?_); refine lB hp rfl (slot_tmp rfl) rfl ?_; clear hp; intro b w1 hp) | ((with_reducible refine pre_load _ _ rfl ?_); first | refine lO hp rfl (slot_tmp rfl) ceDD1 aa5 ?_ | refine lA hp rfl (slot_tmp rfl) gaDD0 aa5 ?_) | ((with_reducible refine pre_store _ _ _ rfl ?_); (first | refine sO hp rfl (slot_tmp rfl) ceDD1 aa5 ?_ | refine sA hp rfl (slot_tmp rfl) (slot_tmp rfl) gaDD0 aa5 ?_ | refine sG hp rfl (slot_tmp rfl) (slot_tmp rfl) gaDD0 aa5 ?_); clear hp; intro w1 hp; simp only [spl, List.set_cons_zero, List.set_cons_succ] at hp)); simp only [put_some, put_none, List.set_cons_succ, List.set_cons_zero]))
    obtain ⟨br, rfl⟩ := hp.id0
    obtain ⟨bo, rfl⟩ := hp.id1
    go_wp2_with (first | (go_at_call 35; (with_reducible refine (HAL.out (HWK.out hp)).mono ?_); clear hp; rintro e w1 ⟨rfl, y, hy, RO2, RF2, M2, hR2, hp⟩; replace hp := hp.kp (L' := ⟨br, [.int .i64 0, .int .i64 0], 34, 2⟩ :: ⟨bw, hvL y, 62, 8⟩ :: (RO2 ++ (RF2 ++ (M2 ++ K9)))); have HR2 := Lib.hid hR2; have HY := Lib.hid hy; clear hy hR2; unfold resV) | go_skip | ((first | ((with_reducible refine pre_alloc _ rfl ?_); refine lZ hp rfl (by with_reducible first | exact zero34 | exact zero27) ?_; clear hp; intro b w1 hp) | ((with_reducible refine pre_box _ _ rfl ?_); refine lB hp rfl (slot_tmp rfl) rfl ?_; clear hp; intro b w1 hp) | ((with_reducible refine pre_load _ _ rfl ?_); first | refine lO hp rfl (slot_tmp rfl) ceDD1 aa5 ?_ | refine lA hp rfl (slot_tmp rfl) gaDD0 aa5 ?_) | ((with_reducible refine pre_store _ _ _ rfl ?_); (first | refine sO hp rfl (slot_tmp rfl) ceDD1 aa5 ?_ | refine sA hp rfl (slot_tmp rfl) (slot_tmp rfl) gaDD0 aa5 ?_ | refine sG hp rfl (slot_tmp rfl) (slot_tmp rfl) gaDD0 aa5 ?_); clear hp; intro w1 hp; simp only [spl, List.set_cons_zero, List.set_cons_succ] at hp)); simp only [put_some, put_none, List.set_cons_succ, List.set_cons_zero]))
    exact bodyPost_ret (results_one (rs := [.cell 4 34]) Try.results19 (.cell rfl (hp.loadAgg agg34 at0 0 _ (by rfl) (by rfl)) .nil)) rfl ⟨rfl, y, HY.out, RO2, RF2, M2, HR2.out, hp.tail⟩
  · rcases hk with rfl | rfl | rfl | rfl | rfl
    all_goals
      go_enter Try.func19, Try.ntmps19
      go_wp2_with (first | go_skip | ((first | ((with_reducible refine pre_alloc _ rfl ?_); refine lZ hp rfl (by with_reducible first | exact zero34 | exact zero27) ?_; clear hp; intro b w1 hp) | ((with_reducible refine pre_box _ _ rfl ?_); refine lB hp rfl (slot_tmp rfl) rfl ?_; clear hp; intro b w1 hp) | ((with_reducible refine pre_load _ _ rfl ?_); first | refine lO hp rfl (slot_tmp rfl) ceDD1 aa5 ?_ | refine lA hp rfl (slot_tmp rfl) gaDD0 aa5 ?_) | ((with_reducible refine pre_store _ _ _ rfl ?_); (first | refine sO hp rfl (slot_tmp rfl) ceDD1 aa5 ?_ | refine sA hp rfl (slot_tmp rfl) (slot_tmp rfl) gaDD0 aa5 ?_ | refine sG hp rfl (slot_tmp rfl) (slot_tmp rfl) gaDD0 aa5 ?_); clear hp; intro w1 hp; simp only [spl, List.set_cons_zero, List.set_cons_succ] at hp)); simp only [put_some, put_none, List.set_cons_succ, List.set_cons_zero]))
      obtain ⟨br, rfl⟩ := hp.id0
      obtain ⟨bo, rfl⟩ := hp.id1
      go_wp2_with (first | (go_at_call 36; (with_reducible refine (HAL.out (HWK.out hp)).mono ?_); clear hp; rintro e w1 ⟨rfl, y, hy, RO2, RF2, M2, hR2, hp⟩; replace hp := hp.kp (L' := ⟨br, [.int .i64 0, .int .i64 0], 34, 2⟩ :: ⟨bw, hvL y, 62, 8⟩ :: (RO2 ++ (RF2 ++ (M2 ++ K9)))); have HR2 := Lib.hid hR2; have HY := Lib.hid hy; clear hy hR2; unfold resV) | go_skip | ((first | ((with_reducible refine pre_alloc _ rfl ?_); refine lZ hp rfl (by with_reducible first | exact zero34 | exact zero27) ?_; clear hp; intro b w1 hp) | ((with_reducible refine pre_box _ _ rfl ?_); refine lB hp rfl (slot_tmp rfl) rfl ?_; clear hp; intro b w1 hp) | ((with_reducible refine pre_load _ _ rfl ?_); first | refine lO hp rfl (slot_tmp rfl) ceDD1 aa5 ?_ | refine lA hp rfl (slot_tmp rfl) gaDD0 aa5 ?_) | ((with_reducible refine pre_store _ _ _ rfl ?_); (first | refine sO hp rfl (slot_tmp rfl) ceDD1 aa5 ?_ | refine sA hp rfl (slot_tmp rfl) (slot_tmp rfl) gaDD0 aa5 ?_ | refine sG hp rfl (slot_tmp rfl) (slot_tmp rfl) gaDD0 aa5 ?_); clear hp; intro w1 hp; simp only [spl, List.set_cons_zero, List.set_cons_succ] at hp)); simp only [put_some, put_none, List.set_cons_succ, List.set_cons_zero]))
      exact bodyPost_ret (results_one (rs := [.cell 4 34]) Try.results19 (.cell rfl (hp.loadAgg agg34 at0 0 _ (by rfl) (by rfl)) .nil)) rfl ⟨rfl, y, HY.out, RO2, RF2, M2, HR2.out, hp.tail⟩
set_option maxRecDepth 100000 in
set_option maxHeartbeats 8000000 in
theorem do19_form {x : Hv} {kk hh ii nn cc vv tt : Int} (hk : kk ≠ 1 ∧ kk ≠ 2 ∧ kk ≠ 3 ∧ kk ≠ 4 ∧ kk ≠ 5 ∧ kk ≠ 6 ∧ kk ≠ 7 ∧ kk ≠ 8) {B bw : Nat} {w0 w : World} {K9 : List Blk} (hW : WorkAt B w0 w bw x K9) :
    Calls Try.prog 19 #[.pointer (some ⟨bw, 0, none⟩), .agg #[.int .i64 kk, .int .i64 hh, .int .i64 ii, .int .i64 nn, .int .i64 cc, .int .i64 vv, .int .i64 tt]] w (WorkPost B w0 bw x 54 0 K9) := by
  obtain ⟨RO, RF, M, hR, hp⟩ := hW
  have HR := Lib.hid hR
  obtain ⟨k1, k2, k3, k4, k5, k6, k7, k8⟩ := hk
  have e1 : (kk == 1) = false := by simp [k1]
  have e2 : (kk == 2) = false := by simp [k2]
  have e3 : (kk == 3) = false := by simp [k3]
  have e4 : (kk == 4) = false := by simp [k4]
  have e5 : (kk == 5) = false := by simp [k5]
  have e6 : (kk == 6) = false := by simp [k6]
  have e7 : (kk == 7) = false := by simp [k7]
  have e8 : (kk == 8) = false := by simp [k8]
  clear hR k1 k2 k3 k4 k5 k6 k7 k8
  go_enter Try.func19, Try.ntmps19
  go_wp2_with (first | (go_at_call 17; (with_reducible refine (no17 _ _).mono ?_); rintro e w1 ⟨rfl, hb⟩; replace hp := hp.call hb; clear hb; unfold resV) | go_skip | ((first | ((with_reducible refine pre_alloc _ rfl ?_); refine lZ hp rfl (by with_reducible first | exact zero34 | exact zero27) ?_; clear hp; intro b w1 hp) | ((with_reducible refine pre_box _ _ rfl ?_); refine lB hp rfl (slot_tmp rfl) rfl ?_; clear hp; intro b w1 hp) | ((with_reducible refine pre_load _ _ rfl ?_); first | refine lO hp rfl (slot_tmp rfl) ceDD1 aa5 ?_ | refine lA hp rfl (slot_tmp rfl) gaDD0 aa5 ?_) | ((with_reducible refine pre_store _ _ _ rfl ?_); (first | refine sO hp rfl (slot_tmp rfl) ceDD1 aa5 ?_ | refine sA hp rfl (slot_tmp rfl) (slot_tmp rfl) gaDD0 aa5 ?_ | refine sG hp rfl (slot_tmp rfl) (slot_tmp rfl) gaDD0 aa5 ?_); clear hp; intro w1 hp; simp only [spl, List.set_cons_zero, List.set_cons_succ] at hp)); simp only [put_some, put_none, List.set_cons_succ, List.set_cons_zero]))
  exact bodyPost_ret (results_one (rs := [.cell 4 34]) Try.results19 (.cell rfl (hp.loadAgg agg34 at0 0 _ (by rfl) (by rfl)) .nil)) rfl (WorkAt.sm (two_of HR.out hp) rfl)
set_option maxRecDepth 100000 in
set_option maxHeartbeats 8000000 in
theorem do19_noidx {x : Hv} {kk hh ii nn cc vv tt : Int} (hk : kk = 5 ∨ kk = 8) (hi : inB ii 0 3 = false) {B bw : Nat} {w0 w : World} {K9 : List Blk} (hW : WorkAt B w0 w bw x K9) :
    Calls Try.prog 19 #[.pointer (some ⟨bw, 0, none⟩), .agg #[.int .i64 kk, .int .i64 hh, .int .i64 ii, .int .i64 nn, .int .i64 cc, .int .i64 vv, .int .i64 tt]] w (WorkPost B w0 bw x 52 0 K9) := by
  obtain ⟨RO, RF, M, hR, hp⟩ := hW
  have HR := Lib.hid hR
  have HIN := Lib.hid hi
  clear hR hi
  rcases hk with rfl | rfl
  all_goals
    go_enter Try.func19, Try.ntmps19
    go_wp2_with (first | (go_at_call 24; (with_reducible refine (within24 _ _ _ _).mono ?_); rintro e w' ⟨rfl, rfl⟩; rw [HIN.out]) | (go_at_call 17; (with_reducible refine (no17 _ _).mono ?_); rintro e w1 ⟨rfl, hb⟩; replace hp := hp.call hb; clear hb; unfold resV) | go_skip | ((first | ((with_reducible refine pre_alloc _ rfl ?_); refine lZ hp rfl (by with_reducible first | exact zero34 | exact zero27) ?_; clear hp; intro b w1 hp) | ((with_reducible refine pre_box _ _ rfl ?_); refine lB hp rfl (slot_tmp rfl) rfl ?_; clear hp; intro b w1 hp) | ((with_reducible refine pre_load _ _ rfl ?_); first | refine lO hp rfl (slot_tmp rfl) ceDD1 aa5 ?_ | refine lA hp rfl (slot_tmp rfl) gaDD0 aa5 ?_) | ((with_reducible refine pre_store _ _ _ rfl ?_); (first | refine sO hp rfl (slot_tmp rfl) ceDD1 aa5 ?_ | refine sA hp rfl (slot_tmp rfl) (slot_tmp rfl) gaDD0 aa5 ?_ | refine sG hp rfl (slot_tmp rfl) (slot_tmp rfl) gaDD0 aa5 ?_); clear hp; intro w1 hp; simp only [spl, List.set_cons_zero, List.set_cons_succ] at hp)); simp only [put_some, put_none, List.set_cons_succ, List.set_cons_zero]))
    exact bodyPost_ret (results_one (rs := [.cell 4 34]) Try.results19 (.cell rfl (hp.loadAgg agg34 at0 0 _ (by rfl) (by rfl)) .nil)) rfl (WorkAt.sm (two_of HR.out hp) rfl)
set_option maxRecDepth 100000 in
set_option maxHeartbeats 8000000 in
theorem do19_top {x : Hv} {hh nn cc vv tt : Int} {q : Nat} (hq : q = 0 ∨ q = 1 ∨ q = 2 ∨ q = 3) {B bw : Nat} {w0 w : World} {K9 : List Blk} (hW : WorkAt B w0 w bw x K9) :
    Calls Try.prog 19 #[.pointer (some ⟨bw, 0, none⟩), .agg #[.int .i64 8, .int .i64 hh, .int .i64 q, .int .i64 nn, .int .i64 cc, .int .i64 vv, .int .i64 tt]] w (WorkPost B w0 bw x 0 ((tops x).getD q 0) K9) := by
  obtain ⟨RO, RF, M, hR, hp⟩ := hW
  have HR := Lib.hid hR
  clear hR
  obtain ⟨od, oa, os, oc, nx, t0, t1, t2, t3, fa, fs, fc⟩ := x
  simp only [hvL] at hp
  rcases hq with rfl | rfl | rfl | rfl
  · have HIN : RowKit.Hid (inB 0 0 3 = true) := Lib.hid (by decide)
    show Calls Try.prog 19 #[.pointer (some ⟨bw, 0, none⟩), .agg #[.int .i64 8, .int .i64 hh, .int .i64 0, .int .i64 nn, .int .i64 cc, .int .i64 vv, .int .i64 tt]] w (WorkPost B w0 bw _ 0 t0 K9)
    go_enter Try.func19, Try.ntmps19
    go_wp2_with (first | (go_at_call 24; (with_reducible refine (within24 _ _ _ _).mono ?_); rintro e w' ⟨rfl, rfl⟩; rw [HIN.out]) | (go_at_call 17; (with_reducible refine (no17 _ _).mono ?_); rintro e w1 ⟨rfl, hb⟩; replace hp := hp.call hb; clear hb; unfold resV) | go_skip | ((first | ((with_reducible refine pre_alloc _ rfl ?_); refine lZ hp rfl (by with_reducible first | exact zero34 | exact zero27) ?_; clear hp; intro b w1 hp) | ((with_reducible refine pre_box _ _ rfl ?_); refine lB hp rfl (slot_tmp rfl) rfl ?_; clear hp; intro b w1 hp) | ((with_reducible refine pre_load _ _ rfl ?_); first | refine lO hp rfl (slot_tmp rfl) ceDD1 aa5 ?_ | refine lA hp rfl (slot_tmp rfl) gaDD0 aa5 ?_) | ((with_reducible refine pre_store _ _ _ rfl ?_); (first | refine sO hp rfl (slot_tmp rfl) ceDD1 aa5 ?_ | refine sA hp rfl (slot_tmp rfl) (slot_tmp rfl) gaDD0 aa5 ?_ | refine sG hp rfl (slot_tmp rfl) (slot_tmp rfl) gaDD0 aa5 ?_); clear hp; intro w1 hp; simp only [spl, List.set_cons_zero, List.set_cons_succ] at hp)); simp only [put_some, put_none, List.set_cons_succ, List.set_cons_zero]))
    refine wp_region_keeps [_, _] (Keeps.two hp.drew at1 at2) [9] [(0, true), (1, true), (2, true), (3, true), (4, true), (5, true), (6, true), (7, true), (8, true), (9, false)] (by kernel_rfl) (by kernel_rfl) rfl (by kernel_rfl) (fun _ _ d _ _ h => by cases d <;> exact h) ?_
    replace hp := hp.drew
    repeat' (with_reducible refine plan_is ?_); first | (with_reducible refine plan_nil ?_) | ((with_reducible refine plan_t ?_); refine plan_tk rfl ?_; (first | ((with_reducible refine tk_mv _ rfl ?_); refine tM rfl ?_) | ((with_reducible refine tk_ld _ _ rfl ?_); refine tO rfl (slot_tmp rfl) cell3 aa5 ?_) | refine tG (fun w _ => (by go_simp; try rfl)) ?_); try simp only [put_some, put_none, eval_tmp, eval_const, List.set_cons_succ, List.set_cons_zero, List.getD_cons_succ, List.getD_cons_zero, wrap_eq]) | (refine plan_do rfl (fun K hK => ?_); go_wp2_with (first | go_skip | (((with_reducible refine pre_store _ _ _ rfl ?_); (first | refine sO hp rfl (slot_tmp rfl) ceDD1 aa5 ?_ | refine sA hp rfl (slot_tmp rfl) (slot_tmp rfl) gaDD0 aa5 ?_ | refine sG hp rfl (slot_tmp rfl) (slot_tmp rfl) gaDD0 aa5 ?_); clear hp; intro w1 hp; simp only [spl, List.set_cons_zero, List.set_cons_succ] at hp); simp only [put_some, put_none, List.set_cons_succ, List.set_cons_zero])); (first | refine hK.out _ _ (.inl rfl) ?_ | refine hK.out _ _ (.inr (Keeps.two hp aa5 aa5)) ?_); clear hK K; try simp only [put_some, put_none, eval_tmp, eval_const, List.set_cons_succ, List.set_cons_zero, List.getD_cons_succ, List.getD_cons_zero, wrap_eq])
    go_wp2_with (first | go_skip | ((first | ((with_reducible refine pre_alloc _ rfl ?_); refine lZ hp rfl (by with_reducible first | exact zero34 | exact zero27) ?_; clear hp; intro b w1 hp) | ((with_reducible refine pre_box _ _ rfl ?_); refine lB hp rfl (slot_tmp rfl) rfl ?_; clear hp; intro b w1 hp) | ((with_reducible refine pre_load _ _ rfl ?_); first | refine lO hp rfl (slot_tmp rfl) ceDD1 aa5 ?_ | refine lA hp rfl (slot_tmp rfl) gaDD0 aa5 ?_) | ((with_reducible refine pre_store _ _ _ rfl ?_); (first | refine sO hp rfl (slot_tmp rfl) ceDD1 aa5 ?_ | refine sA hp rfl (slot_tmp rfl) (slot_tmp rfl) gaDD0 aa5 ?_ | refine sG hp rfl (slot_tmp rfl) (slot_tmp rfl) gaDD0 aa5 ?_); clear hp; intro w1 hp; simp only [spl, List.set_cons_zero, List.set_cons_succ] at hp)); simp only [put_some, put_none, List.set_cons_succ, List.set_cons_zero]))
    exact bodyPost_ret (results_one (rs := [.cell 4 34]) Try.results19 (.cell rfl (hp.loadAgg agg34 at0 0 _ (by rfl) (by rfl)) .nil)) rfl (WorkAt.sm (two_of HR.out hp) rfl)
  · have HIN : RowKit.Hid (inB 1 0 3 = true) := Lib.hid (by decide)
    show Calls Try.prog 19 #[.pointer (some ⟨bw, 0, none⟩), .agg #[.int .i64 8, .int .i64 hh, .int .i64 1, .int .i64 nn, .int .i64 cc, .int .i64 vv, .int .i64 tt]] w (WorkPost B w0 bw _ 0 t1 K9)
    go_enter Try.func19, Try.ntmps19
    go_wp2_with (first | (go_at_call 24; (with_reducible refine (within24 _ _ _ _).mono ?_); rintro e w' ⟨rfl, rfl⟩; rw [HIN.out]) | (go_at_call 17; (with_reducible refine (no17 _ _).mono ?_); rintro e w1 ⟨rfl, hb⟩; replace hp := hp.call hb; clear hb; unfold resV) | go_skip | ((first | ((with_reducible refine pre_alloc _ rfl ?_); refine lZ hp rfl (by with_reducible first | exact zero34 | exact zero27) ?_; clear hp; intro b w1 hp) | ((with_reducible refine pre_box _ _ rfl ?_); refine lB hp rfl (slot_tmp rfl) rfl ?_; clear hp; intro b w1 hp) | ((with_reducible refine pre_load _ _ rfl ?_); first | refine lO hp rfl (slot_tmp rfl) ceDD1 aa5 ?_ | refine lA hp rfl (slot_tmp rfl) gaDD0 aa5 ?_) | ((with_reducible refine pre_store _ _ _ rfl ?_); (first | refine sO hp rfl (slot_tmp rfl) ceDD1 aa5 ?_ | refine sA hp rfl (slot_tmp rfl) (slot_tmp rfl) gaDD0 aa5 ?_ | refine sG hp rfl (slot_tmp rfl) (slot_tmp rfl) gaDD0 aa5 ?_); clear hp; intro w1 hp; simp only [spl, List.set_cons_zero, List.set_cons_succ] at hp)); simp only [put_some, put_none, List.set_cons_succ, List.set_cons_zero]))
    refine wp_region_keeps [_, _] (Keeps.two hp.drew at1 at2) [9] [(0, true), (1, true), (2, true), (3, true), (4, true), (5, true), (6, true), (7, true), (8, true), (9, false)] (by kernel_rfl) (by kernel_rfl) rfl (by kernel_rfl) (fun _ _ d _ _ h => by cases d <;> exact h) ?_
    replace hp := hp.drew
    repeat' (with_reducible refine plan_is ?_); first | (with_reducible refine plan_nil ?_) | ((with_reducible refine plan_t ?_); refine plan_tk rfl ?_; (first | ((with_reducible refine tk_mv _ rfl ?_); refine tM rfl ?_) | ((with_reducible refine tk_ld _ _ rfl ?_); refine tO rfl (slot_tmp rfl) cell3 aa5 ?_) | refine tG (fun w _ => (by go_simp; try rfl)) ?_); try simp only [put_some, put_none, eval_tmp, eval_const, List.set_cons_succ, List.set_cons_zero, List.getD_cons_succ, List.getD_cons_zero, wrap_eq]) | (refine plan_do rfl (fun K hK => ?_); go_wp2_with (first | go_skip | (((with_reducible refine pre_store _ _ _ rfl ?_); (first | refine sO hp rfl (slot_tmp rfl) ceDD1 aa5 ?_ | refine sA hp rfl (slot_tmp rfl) (slot_tmp rfl) gaDD0 aa5 ?_ | refine sG hp rfl (slot_tmp rfl) (slot_tmp rfl) gaDD0 aa5 ?_); clear hp; intro w1 hp; simp only [spl, List.set_cons_zero, List.set_cons_succ] at hp); simp only [put_some, put_none, List.set_cons_succ, List.set_cons_zero])); (first | refine hK.out _ _ (.inl rfl) ?_ | refine hK.out _ _ (.inr (Keeps.two hp aa5 aa5)) ?_); clear hK K; try simp only [put_some, put_none, eval_tmp, eval_const, List.set_cons_succ, List.set_cons_zero, List.getD_cons_succ, List.getD_cons_zero, wrap_eq])
    go_wp2_with (first | go_skip | ((first | ((with_reducible refine pre_alloc _ rfl ?_); refine lZ hp rfl (by with_reducible first | exact zero34 | exact zero27) ?_; clear hp; intro b w1 hp) | ((with_reducible refine pre_box _ _ rfl ?_); refine lB hp rfl (slot_tmp rfl) rfl ?_; clear hp; intro b w1 hp) | ((with_reducible refine pre_load _ _ rfl ?_); first | refine lO hp rfl (slot_tmp rfl) ceDD1 aa5 ?_ | refine lA hp rfl (slot_tmp rfl) gaDD0 aa5 ?_) | ((with_reducible refine pre_store _ _ _ rfl ?_); (first | refine sO hp rfl (slot_tmp rfl) ceDD1 aa5 ?_ | refine sA hp rfl (slot_tmp rfl) (slot_tmp rfl) gaDD0 aa5 ?_ | refine sG hp rfl (slot_tmp rfl) (slot_tmp rfl) gaDD0 aa5 ?_); clear hp; intro w1 hp; simp only [spl, List.set_cons_zero, List.set_cons_succ] at hp)); simp only [put_some, put_none, List.set_cons_succ, List.set_cons_zero]))
    exact bodyPost_ret (results_one (rs := [.cell 4 34]) Try.results19 (.cell rfl (hp.loadAgg agg34 at0 0 _ (by rfl) (by rfl)) .nil)) rfl (WorkAt.sm (two_of HR.out hp) rfl)
  · have HIN : RowKit.Hid (inB 2 0 3 = true) := Lib.hid (by decide)
    show Calls Try.prog 19 #[.pointer (some ⟨bw, 0, none⟩), .agg #[.int .i64 8, .int .i64 hh, .int .i64 2, .int .i64 nn, .int .i64 cc, .int .i64 vv, .int .i64 tt]] w (WorkPost B w0 bw _ 0 t2 K9)
    go_enter Try.func19, Try.ntmps19
    go_wp2_with (first | (go_at_call 24; (with_reducible refine (within24 _ _ _ _).mono ?_); rintro e w' ⟨rfl, rfl⟩; rw [HIN.out]) | (go_at_call 17; (with_reducible refine (no17 _ _).mono ?_); rintro e w1 ⟨rfl, hb⟩; replace hp := hp.call hb; clear hb; unfold resV) | go_skip | ((first | ((with_reducible refine pre_alloc _ rfl ?_); refine lZ hp rfl (by with_reducible first | exact zero34 | exact zero27) ?_; clear hp; intro b w1 hp) | ((with_reducible refine pre_box _ _ rfl ?_); refine lB hp rfl (slot_tmp rfl) rfl ?_; clear hp; intro b w1 hp) | ((with_reducible refine pre_load _ _ rfl ?_); first | refine lO hp rfl (slot_tmp rfl) ceDD1 aa5 ?_ | refine lA hp rfl (slot_tmp rfl) gaDD0 aa5 ?_) | ((with_reducible refine pre_store _ _ _ rfl ?_); (first | refine sO hp rfl (slot_tmp rfl) ceDD1 aa5 ?_ | refine sA hp rfl (slot_tmp rfl) (slot_tmp rfl) gaDD0 aa5 ?_ | refine sG hp rfl (slot_tmp rfl) (slot_tmp rfl) gaDD0 aa5 ?_); clear hp; intro w1 hp; simp only [spl, List.set_cons_zero, List.set_cons_succ] at hp)); simp only [put_some, put_none, List.set_cons_succ, List.set_cons_zero]))
    refine wp_region_keeps [_, _] (Keeps.two hp.drew at1 at2) [9] [(0, true), (1, true), (2, true), (3, true), (4, true), (5, true), (6, true), (7, true), (8, true), (9, false)] (by kernel_rfl) (by kernel_rfl) rfl (by kernel_rfl) (fun _ _ d _ _ h => by cases d <;> exact h) ?_
    replace hp := hp.drew
    repeat' (with_reducible refine plan_is ?_); first | (with_reducible refine plan_nil ?_) | ((with_reducible refine plan_t ?_); refine plan_tk rfl ?_; (first | ((with_reducible refine tk_mv _ rfl ?_); refine tM rfl ?_) | ((with_reducible refine tk_ld _ _ rfl ?_); refine tO rfl (slot_tmp rfl) cell3 aa5 ?_) | refine tG (fun w _ => (by go_simp; try rfl)) ?_); try simp only [put_some, put_none, eval_tmp, eval_const, List.set_cons_succ, List.set_cons_zero, List.getD_cons_succ, List.getD_cons_zero, wrap_eq]) | (refine plan_do rfl (fun K hK => ?_); go_wp2_with (first | go_skip | (((with_reducible refine pre_store _ _ _ rfl ?_); (first | refine sO hp rfl (slot_tmp rfl) ceDD1 aa5 ?_ | refine sA hp rfl (slot_tmp rfl) (slot_tmp rfl) gaDD0 aa5 ?_ | refine sG hp rfl (slot_tmp rfl) (slot_tmp rfl) gaDD0 aa5 ?_); clear hp; intro w1 hp; simp only [spl, List.set_cons_zero, List.set_cons_succ] at hp); simp only [put_some, put_none, List.set_cons_succ, List.set_cons_zero])); (first | refine hK.out _ _ (.inl rfl) ?_ | refine hK.out _ _ (.inr (Keeps.two hp aa5 aa5)) ?_); clear hK K; try simp only [put_some, put_none, eval_tmp, eval_const, List.set_cons_succ, List.set_cons_zero, List.getD_cons_succ, List.getD_cons_zero, wrap_eq])
    go_wp2_with (first | go_skip | ((first | ((with_reducible refine pre_alloc _ rfl ?_); refine lZ hp rfl (by with_reducible first | exact zero34 | exact zero27) ?_; clear hp; intro b w1 hp) | ((with_reducible refine pre_box _ _ rfl ?_); refine lB hp rfl (slot_tmp rfl) rfl ?_; clear hp; intro b w1 hp) | ((with_reducible refine pre_load _ _ rfl ?_); first | refine lO hp rfl (slot_tmp rfl) ceDD1 aa5 ?_ | refine lA hp rfl (slot_tmp rfl) gaDD0 aa5 ?_) | ((with_reducible refine pre_store _ _ _ rfl ?_); (first | refine sO hp rfl (slot_tmp rfl) ceDD1 aa5 ?_ | refine sA hp rfl (slot_tmp rfl) (slot_tmp rfl) gaDD0 aa5 ?_ | refine sG hp rfl (slot_tmp rfl) (slot_tmp rfl) gaDD0 aa5 ?_); clear hp; intro w1 hp; simp only [spl, List.set_cons_zero, List.set_cons_succ] at hp)); simp only [put_some, put_none, List.set_cons_succ, List.set_cons_zero]))
    exact bodyPost_ret (results_one (rs := [.cell 4 34]) Try.results19 (.cell rfl (hp.loadAgg agg34 at0 0 _ (by rfl) (by rfl)) .nil)) rfl (WorkAt.sm (two_of HR.out hp) rfl)
  · have HIN : RowKit.Hid (inB 3 0 3 = true) := Lib.hid (by decide)
    show Calls Try.prog 19 #[.pointer (some ⟨bw, 0, none⟩), .agg #[.int .i64 8, .int .i64 hh, .int .i64 3, .int .i64 nn, .int .i64 cc, .int .i64 vv, .int .i64 tt]] w (WorkPost B w0 bw _ 0 t3 K9)
    go_enter Try.func19, Try.ntmps19
    go_wp2_with (first | (go_at_call 24; (with_reducible refine (within24 _ _ _ _).mono ?_); rintro e w' ⟨rfl, rfl⟩; rw [HIN.out]) | (go_at_call 17; (with_reducible refine (no17 _ _).mono ?_); rintro e w1 ⟨rfl, hb⟩; replace hp := hp.call hb; clear hb; unfold resV) | go_skip | ((first | ((with_reducible refine pre_alloc _ rfl ?_); refine lZ hp rfl (by with_reducible first | exact zero34 | exact zero27) ?_; clear hp; intro b w1 hp) | ((with_reducible refine pre_box _ _ rfl ?_); refine lB hp rfl (slot_tmp rfl) rfl ?_; clear hp; intro b w1 hp) | ((with_reducible refine pre_load _ _ rfl ?_); first | refine lO hp rfl (slot_tmp rfl) ceDD1 aa5 ?_ | refine lA hp rfl (slot_tmp rfl) gaDD0 aa5 ?_) | ((with_reducible refine pre_store _ _ _ rfl ?_); (first | refine sO hp rfl (slot_tmp rfl) ceDD1 aa5 ?_ | refine sA hp rfl (slot_tmp rfl) (slot_tmp rfl) gaDD0 aa5 ?_ | refine sG hp rfl (slot_tmp rfl) (slot_tmp rfl) gaDD0 aa5 ?_); clear hp; intro w1 hp; simp only [spl, List.set_cons_zero, List.set_cons_succ] at hp)); simp only [put_some, put_none, List.set_cons_succ, List.set_cons_zero]))
    refine wp_region_keeps [_, _] (Keeps.two hp.drew at1 at2) [9] [(0, true), (1, true), (2, true), (3, true), (4, true), (5, true), (6, true), (7, true), (8, true), (9, false)] (by kernel_rfl) (by kernel_rfl) rfl (by kernel_rfl) (fun _ _ d _ _ h => by cases d <;> exact h) ?_
    replace hp := hp.drew
    repeat' (with_reducible refine plan_is ?_); first | (with_reducible refine plan_nil ?_) | ((with_reducible refine plan_t ?_); refine plan_tk rfl ?_; (first | ((with_reducible refine tk_mv _ rfl ?_); refine tM rfl ?_) | ((with_reducible refine tk_ld _ _ rfl ?_); refine tO rfl (slot_tmp rfl) cell3 aa5 ?_) | refine tG (fun w _ => (by go_simp; try rfl)) ?_); try simp only [put_some, put_none, eval_tmp, eval_const, List.set_cons_succ, List.set_cons_zero, List.getD_cons_succ, List.getD_cons_zero, wrap_eq]) | (refine plan_do rfl (fun K hK => ?_); go_wp2_with (first | go_skip | (((with_reducible refine pre_store _ _ _ rfl ?_); (first | refine sO hp rfl (slot_tmp rfl) ceDD1 aa5 ?_ | refine sA hp rfl (slot_tmp rfl) (slot_tmp rfl) gaDD0 aa5 ?_ | refine sG hp rfl (slot_tmp rfl) (slot_tmp rfl) gaDD0 aa5 ?_); clear hp; intro w1 hp; simp only [spl, List.set_cons_zero, List.set_cons_succ] at hp); simp only [put_some, put_none, List.set_cons_succ, List.set_cons_zero])); (first | refine hK.out _ _ (.inl rfl) ?_ | refine hK.out _ _ (.inr (Keeps.two hp aa5 aa5)) ?_); clear hK K; try simp only [put_some, put_none, eval_tmp, eval_const, List.set_cons_succ, List.set_cons_zero, List.getD_cons_succ, List.getD_cons_zero, wrap_eq])
    go_wp2_with (first | go_skip | ((first | ((with_reducible refine pre_alloc _ rfl ?_); refine lZ hp rfl (by with_reducible first | exact zero34 | exact zero27) ?_; clear hp; intro b w1 hp) | ((with_reducible refine pre_box _ _ rfl ?_); refine lB hp rfl (slot_tmp rfl) rfl ?_; clear hp; intro b w1 hp) | ((with_reducible refine pre_load _ _ rfl ?_); first | refine lO hp rfl (slot_tmp rfl) ceDD1 aa5 ?_ | refine lA hp rfl (slot_tmp rfl) gaDD0 aa5 ?_) | ((with_reducible refine pre_store _ _ _ rfl ?_); (first | refine sO hp rfl (slot_tmp rfl) ceDD1 aa5 ?_ | refine sA hp rfl (slot_tmp rfl) (slot_tmp rfl) gaDD0 aa5 ?_ | refine sG hp rfl (slot_tmp rfl) (slot_tmp rfl) gaDD0 aa5 ?_); clear hp; intro w1 hp; simp only [spl, List.set_cons_zero, List.set_cons_succ] at hp)); simp only [put_some, put_none, List.set_cons_succ, List.set_cons_zero]))
    exact bodyPost_ret (results_one (rs := [.cell 4 34]) Try.results19 (.cell rfl (hp.loadAgg agg34 at0 0 _ (by rfl) (by rfl)) .nil)) rfl (WorkAt.sm (two_of HR.out hp) rfl)
theorem kept_mid {RO A Z : List Blk} {Q : World → Prop} (h : Kept RO Q) : Kept (A ++ (RO ++ Z)) Q := h.mono (fun p hm => by simp [hm]) (fun _ h => h)
set_option maxRecDepth 100000 in
set_option maxHeartbeats 8000000 in
theorem do19_root0 {x : Hv} (hx : HRight x) {hh nn cc vv tt : Int} (hto : leadsC x.os tt = true) {B bw : Nat} {w0 w : World} {K9 : List Blk} (hW : WorkAt B w0 w bw x K9) :
    Calls Try.prog 19 #[.pointer (some ⟨bw, 0, none⟩), .agg #[.int .i64 5, .int .i64 hh, .int .i64 0, .int .i64 nn, .int .i64 cc, .int .i64 vv, .int .i64 tt]] w (WorkPost B w0 bw (topH x 0 tt) 0 0 K9) := by
  obtain ⟨RO, RF, M, hR, hp⟩ := hW
  have HR := Lib.hid hR
  have hs := hx.sorted
  have hol : x.os.length ≤ 1000 := by have := hx.len; omega
  obtain ⟨od, oa, os, oc, nx, t0, t1, t2, t3, fa, fs, fc⟩ := x
  simp only [hvL] at hp
  simp only at hs hol hto
  have hro : Kept RO fun w => RowIs w oa (os.flatMap obV) := hR.objs.keptS
  have HLD : RowKit.Hid (∀ (y z : Blk) (w : World), Hp B w0 w (y :: z :: ⟨bw, [.int .i64 od, .slice oa os.length oc, .int .i64 nx, .int .i64 t0, .int .i64 t1, .int .i64 t2, .int .i64 t3, .slice fa fs.length fc], 62, 8⟩ :: (RO ++ (RF ++ (M ++ K9)))) →
      Calls Try.prog 37 #[.pointer (some ⟨bw, 0, none⟩), .pointer (some ⟨bw, 3, none⟩), .int .i64 tt] w fun e w' => e = .returned (resV 0 0) ∧ Hp B w0 w' (y :: z :: ⟨bw, [.int .i64 od, .slice oa os.length oc, .int .i64 nx, .int .i64 tt, .int .i64 t1, .int .i64 t2, .int .i64 t3, .slice fa fs.length fc], 62, 8⟩ :: (RO ++ (RF ++ (M ++ K9))))) :=
    Lib.hid (fun y z w hp => lead37_yes hol hs hto (j := 2) (i := 2) rfl rfl (kept_mid (A := [y, z, _]) hro) rfl (by simp) hp)
  have HIN : RowKit.Hid (inB 0 0 3 = true) := Lib.hid (by decide)
  clear hx hs hol hto hro hR
  go_enter Try.func19, Try.ntmps19
  go_wp2_with (first | (go_at_call 24; (with_reducible refine (within24 _ _ _ _).mono ?_); rintro e w' ⟨rfl, rfl⟩; rw [HIN.out]) | (go_at_call 17; (with_reducible refine (no17 _ _).mono ?_); rintro e w1 ⟨rfl, hb⟩; replace hp := hp.call hb; clear hb; unfold resV) | go_skip | ((first | ((with_reducible refine pre_alloc _ rfl ?_); refine lZ hp rfl (by with_reducible first | exact zero34 | exact zero27) ?_; clear hp; intro b w1 hp) | ((with_reducible refine pre_box _ _ rfl ?_); refine lB hp rfl (slot_tmp rfl) rfl ?_; clear hp; intro b w1 hp) | ((with_reducible refine pre_load _ _ rfl ?_); first | refine lO hp rfl (slot_tmp rfl) ceDD1 aa5 ?_ | refine lA hp rfl (slot_tmp rfl) gaDD0 aa5 ?_) | ((with_reducible refine pre_store _ _ _ rfl ?_); (first | refine sO hp rfl (slot_tmp rfl) ceDD1 aa5 ?_ | refine sA hp rfl (slot_tmp rfl) (slot_tmp rfl) gaDD0 aa5 ?_ | refine sG hp rfl (slot_tmp rfl) (slot_tmp rfl) gaDD0 aa5 ?_); clear hp; intro w1 hp; simp only [spl, List.set_cons_zero, List.set_cons_succ] at hp)); simp only [put_some, put_none, List.set_cons_succ, List.set_cons_zero]))
  refine wp_region_keeps [_] (Keeps.one hp.drew at1) [10, 11] [(0, true), (1, true), (2, true), (3, true), (4, true), (5, true), (6, true), (7, true), (8, true), (9, true), (10, false), (11, false)] (by kernel_rfl) (by kernel_rfl) rfl (by kernel_rfl) (fun _ _ d _ _ h => by cases d <;> exact h) ?_
  replace hp := hp.drew
  repeat' (with_reducible refine plan_is ?_); first | (with_reducible refine plan_nil ?_) | ((with_reducible refine plan_t ?_); refine plan_tk rfl ?_; (first | ((with_reducible refine tk_mv _ rfl ?_); refine tM rfl ?_) | ((with_reducible refine tk_ld _ _ rfl ?_); refine tO rfl (slot_tmp rfl) cell3 aa5 ?_) | refine tG (fun w _ => (by go_simp; try rfl)) ?_); try simp only [put_some, put_none, eval_tmp, eval_const, List.set_cons_succ, List.set_cons_zero, List.getD_cons_succ, List.getD_cons_zero, wrap_eq]) | (refine plan_do rfl (fun K hK => ?_); go_wp2_with (first | (go_at_call 37; (with_reducible refine (HLD.out _ _ _ hp).mono ?_); clear hp; rintro e w1 ⟨rfl, hp⟩; unfold resV) | go_skip | (((with_reducible refine pre_store _ _ _ rfl ?_); (first | refine sO hp rfl (slot_tmp rfl) ceDD1 aa5 ?_ | refine sA hp rfl (slot_tmp rfl) (slot_tmp rfl) gaDD0 aa5 ?_ | refine sG hp rfl (slot_tmp rfl) (slot_tmp rfl) gaDD0 aa5 ?_); clear hp; intro w1 hp; simp only [spl, List.set_cons_zero, List.set_cons_succ] at hp); simp only [put_some, put_none, List.set_cons_succ, List.set_cons_zero])); (first | refine hK.out _ _ (.inl rfl) ?_ | refine hK.out _ _ (.inr (Keeps.one hp aa5)) ?_); clear hK K; try simp only [put_some, put_none, eval_tmp, eval_const, List.set_cons_succ, List.set_cons_zero, List.getD_cons_succ, List.getD_cons_zero, wrap_eq])
  go_wp2_with (first | go_skip | ((first | ((with_reducible refine pre_alloc _ rfl ?_); refine lZ hp rfl (by with_reducible first | exact zero34 | exact zero27) ?_; clear hp; intro b w1 hp) | ((with_reducible refine pre_box _ _ rfl ?_); refine lB hp rfl (slot_tmp rfl) rfl ?_; clear hp; intro b w1 hp) | ((with_reducible refine pre_load _ _ rfl ?_); first | refine lO hp rfl (slot_tmp rfl) ceDD1 aa5 ?_ | refine lA hp rfl (slot_tmp rfl) gaDD0 aa5 ?_) | ((with_reducible refine pre_store _ _ _ rfl ?_); (first | refine sO hp rfl (slot_tmp rfl) ceDD1 aa5 ?_ | refine sA hp rfl (slot_tmp rfl) (slot_tmp rfl) gaDD0 aa5 ?_ | refine sG hp rfl (slot_tmp rfl) (slot_tmp rfl) gaDD0 aa5 ?_); clear hp; intro w1 hp; simp only [spl, List.set_cons_zero, List.set_cons_succ] at hp)); simp only [put_some, put_none, List.set_cons_succ, List.set_cons_zero]))
  exact bodyPost_ret (results_one (rs := [.cell 4 34]) Try.results19 (.cell rfl (hp.loadAgg agg34 at0 0 _ (by rfl) (by rfl)) .nil)) rfl ⟨rfl, _, Hv.Sm.refl _, two_of (x := ⟨od, oa, os, oc, nx, tt, t1, t2, t3, fa, fs, fc⟩) ⟨HR.out.1, HR.out.2, HR.out.3⟩ hp⟩
set_option maxRecDepth 100000 in
set_option maxHeartbeats 8000000 in
theorem do19_root0n {x : Hv} (hx : HRight x) {hh nn cc vv tt : Int} (hto : leadsC x.os tt = false) {B bw : Nat} {w0 w : World} {K9 : List Blk} (hW : WorkAt B w0 w bw x K9) :
    Calls Try.prog 19 #[.pointer (some ⟨bw, 0, none⟩), .agg #[.int .i64 5, .int .i64 hh, .int .i64 0, .int .i64 nn, .int .i64 cc, .int .i64 vv, .int .i64 tt]] w (WorkPost B w0 bw x 51 0 K9) := by
  obtain ⟨RO, RF, M, hR, hp⟩ := hW
  have HR := Lib.hid hR
  have hs := hx.sorted
  have hol : x.os.length ≤ 1000 := by have := hx.len; omega
  obtain ⟨od, oa, os, oc, nx, t0, t1, t2, t3, fa, fs, fc⟩ := x
  simp only [hvL] at hp
  simp only at hs hol hto
  have hro : Kept RO fun w => RowIs w oa (os.flatMap obV) := hR.objs.keptS
  have HLD : RowKit.Hid (∀ (y z : Blk) (w : World), Hp B w0 w (y :: z :: ⟨bw, [.int .i64 od, .slice oa os.length oc, .int .i64 nx, .int .i64 t0, .int .i64 t1, .int .i64 t2, .int .i64 t3, .slice fa fs.length fc], 62, 8⟩ :: (RO ++ (RF ++ (M ++ K9)))) →
      Calls Try.prog 37 #[.pointer (some ⟨bw, 0, none⟩), .pointer (some ⟨bw, 3, none⟩), .int .i64 tt] w fun e w' => e = .returned (resV 51 0) ∧ Hp B w0 w' (y :: z :: ⟨bw, [.int .i64 od, .slice oa os.length oc, .int .i64 nx, .int .i64 t0, .int .i64 t1, .int .i64 t2, .int .i64 t3, .slice fa fs.length fc], 62, 8⟩ :: (RO ++ (RF ++ (M ++ K9))))) :=
    Lib.hid (fun y z w hp => lead37_no hol hs hto (j := 2) (i := 2) rfl rfl (kept_mid (A := [y, z, _]) hro) rfl (by simp) hp)
  have HIN : RowKit.Hid (inB 0 0 3 = true) := Lib.hid (by decide)
  clear hx hs hol hto hro hR
  go_enter Try.func19, Try.ntmps19
  go_wp2_with (first | (go_at_call 24; (with_reducible refine (within24 _ _ _ _).mono ?_); rintro e w' ⟨rfl, rfl⟩; rw [HIN.out]) | (go_at_call 17; (with_reducible refine (no17 _ _).mono ?_); rintro e w1 ⟨rfl, hb⟩; replace hp := hp.call hb; clear hb; unfold resV) | go_skip | ((first | ((with_reducible refine pre_alloc _ rfl ?_); refine lZ hp rfl (by with_reducible first | exact zero34 | exact zero27) ?_; clear hp; intro b w1 hp) | ((with_reducible refine pre_box _ _ rfl ?_); refine lB hp rfl (slot_tmp rfl) rfl ?_; clear hp; intro b w1 hp) | ((with_reducible refine pre_load _ _ rfl ?_); first | refine lO hp rfl (slot_tmp rfl) ceDD1 aa5 ?_ | refine lA hp rfl (slot_tmp rfl) gaDD0 aa5 ?_) | ((with_reducible refine pre_store _ _ _ rfl ?_); (first | refine sO hp rfl (slot_tmp rfl) ceDD1 aa5 ?_ | refine sA hp rfl (slot_tmp rfl) (slot_tmp rfl) gaDD0 aa5 ?_ | refine sG hp rfl (slot_tmp rfl) (slot_tmp rfl) gaDD0 aa5 ?_); clear hp; intro w1 hp; simp only [spl, List.set_cons_zero, List.set_cons_succ] at hp)); simp only [put_some, put_none, List.set_cons_succ, List.set_cons_zero]))
  refine wp_region_keeps [_] (Keeps.one hp.drew at1) [10, 11] [(0, true), (1, true), (2, true), (3, true), (4, true), (5, true), (6, true), (7, true), (8, true), (9, true), (10, false), (11, false)] (by kernel_rfl) (by kernel_rfl) rfl (by kernel_rfl) (fun _ _ d _ _ h => by cases d <;> exact h) ?_
  replace hp := hp.drew
  repeat' (with_reducible refine plan_is ?_); first | (with_reducible refine plan_nil ?_) | ((with_reducible refine plan_t ?_); refine plan_tk rfl ?_; (first | ((with_reducible refine tk_mv _ rfl ?_); refine tM rfl ?_) | ((with_reducible refine tk_ld _ _ rfl ?_); refine tO rfl (slot_tmp rfl) cell3 aa5 ?_) | refine tG (fun w _ => (by go_simp; try rfl)) ?_); try simp only [put_some, put_none, eval_tmp, eval_const, List.set_cons_succ, List.set_cons_zero, List.getD_cons_succ, List.getD_cons_zero, wrap_eq]) | (refine plan_do rfl (fun K hK => ?_); go_wp2_with (first | (go_at_call 37; (with_reducible refine (HLD.out _ _ _ hp).mono ?_); clear hp; rintro e w1 ⟨rfl, hp⟩; unfold resV) | go_skip | (((with_reducible refine pre_store _ _ _ rfl ?_); (first | refine sO hp rfl (slot_tmp rfl) ceDD1 aa5 ?_ | refine sA hp rfl (slot_tmp rfl) (slot_tmp rfl) gaDD0 aa5 ?_ | refine sG hp rfl (slot_tmp rfl) (slot_tmp rfl) gaDD0 aa5 ?_); clear hp; intro w1 hp; simp only [spl, List.set_cons_zero, List.set_cons_succ] at hp); simp only [put_some, put_none, List.set_cons_succ, List.set_cons_zero])); (first | refine hK.out _ _ (.inl rfl) ?_ | refine hK.out _ _ (.inr (Keeps.one hp aa5)) ?_); clear hK K; try simp only [put_some, put_none, eval_tmp, eval_const, List.set_cons_succ, List.set_cons_zero, List.getD_cons_succ, List.getD_cons_zero, wrap_eq])
  go_wp2_with (first | go_skip | ((first | ((with_reducible refine pre_alloc _ rfl ?_); refine lZ hp rfl (by with_reducible first | exact zero34 | exact zero27) ?_; clear hp; intro b w1 hp) | ((with_reducible refine pre_box _ _ rfl ?_); refine lB hp rfl (slot_tmp rfl) rfl ?_; clear hp; intro b w1 hp) | ((with_reducible refine pre_load _ _ rfl ?_); first | refine lO hp rfl (slot_tmp rfl) ceDD1 aa5 ?_ | refine lA hp rfl (slot_tmp rfl) gaDD0 aa5 ?_) | ((with_reducible refine pre_store _ _ _ rfl ?_); (first | refine sO hp rfl (slot_tmp rfl) ceDD1 aa5 ?_ | refine sA hp rfl (slot_tmp rfl) (slot_tmp rfl) gaDD0 aa5 ?_ | refine sG hp rfl (slot_tmp rfl) (slot_tmp rfl) gaDD0 aa5 ?_); clear hp; intro w1 hp; simp only [spl, List.set_cons_zero, List.set_cons_succ] at hp)); simp only [put_some, put_none, List.set_cons_succ, List.set_cons_zero]))
  exact bodyPost_ret (results_one (rs := [.cell 4 34]) Try.results19 (.cell rfl (hp.loadAgg agg34 at0 0 _ (by rfl) (by rfl)) .nil)) rfl (WorkAt.sm (two_of HR.out hp) rfl)
set_option maxRecDepth 100000 in
set_option maxHeartbeats 8000000 in
theorem do19_root1 {x : Hv} (hx : HRight x) {hh nn cc vv tt : Int} (hto : leadsC x.os tt = true) {B bw : Nat} {w0 w : World} {K9 : List Blk} (hW : WorkAt B w0 w bw x K9) :
    Calls Try.prog 19 #[.pointer (some ⟨bw, 0, none⟩), .agg #[.int .i64 5, .int .i64 hh, .int .i64 1, .int .i64 nn, .int .i64 cc, .int .i64 vv, .int .i64 tt]] w (WorkPost B w0 bw (topH x 1 tt) 0 0 K9) := by
  obtain ⟨RO, RF, M, hR, hp⟩ := hW
  have HR := Lib.hid hR
  have hs := hx.sorted
  have hol : x.os.length ≤ 1000 := by have := hx.len; omega
  obtain ⟨od, oa, os, oc, nx, t0, t1, t2, t3, fa, fs, fc⟩ := x
  simp only [hvL] at hp
  simp only at hs hol hto
  have hro : Kept RO fun w => RowIs w oa (os.flatMap obV) := hR.objs.keptS
  have HLD : RowKit.Hid (∀ (y z : Blk) (w : World), Hp B w0 w (y :: z :: ⟨bw, [.int .i64 od, .slice oa os.length oc, .int .i64 nx, .int .i64 t0, .int .i64 t1, .int .i64 t2, .int .i64 t3, .slice fa fs.length fc], 62, 8⟩ :: (RO ++ (RF ++ (M ++ K9)))) →
      Calls Try.prog 37 #[.pointer (some ⟨bw, 0, none⟩), .pointer (some ⟨bw, 4, none⟩), .int .i64 tt] w fun e w' => e = .returned (resV 0 0) ∧ Hp B w0 w' (y :: z :: ⟨bw, [.int .i64 od, .slice oa os.length oc, .int .i64 nx, .int .i64 t0, .int .i64 tt, .int .i64 t2, .int .i64 t3, .slice fa fs.length fc], 62, 8⟩ :: (RO ++ (RF ++ (M ++ K9))))) :=
    Lib.hid (fun y z w hp => lead37_yes hol hs hto (j := 2) (i := 2) rfl rfl (kept_mid (A := [y, z, _]) hro) rfl (by simp) hp)
  have HIN : RowKit.Hid (inB 1 0 3 = true) := Lib.hid (by decide)
  clear hx hs hol hto hro hR
  go_enter Try.func19, Try.ntmps19
  go_wp2_with (first | (go_at_call 24; (with_reducible refine (within24 _ _ _ _).mono ?_); rintro e w' ⟨rfl, rfl⟩; rw [HIN.out]) | (go_at_call 17; (with_reducible refine (no17 _ _).mono ?_); rintro e w1 ⟨rfl, hb⟩; replace hp := hp.call hb; clear hb; unfold resV) | go_skip | ((first | ((with_reducible refine pre_alloc _ rfl ?_); refine lZ hp rfl (by with_reducible first | exact zero34 | exact zero27) ?_; clear hp; intro b w1 hp) | ((with_reducible refine pre_box _ _ rfl ?_); refine lB hp rfl (slot_tmp rfl) rfl ?_; clear hp; intro b w1 hp) | ((with_reducible refine pre_load _ _ rfl ?_); first | refine lO hp rfl (slot_tmp rfl) ceDD1 aa5 ?_ | refine lA hp rfl (slot_tmp rfl) gaDD0 aa5 ?_) | ((with_reducible refine pre_store _ _ _ rfl ?_); (first | refine sO hp rfl (slot_tmp rfl) ceDD1 aa5 ?_ | refine sA hp rfl (slot_tmp rfl) (slot_tmp rfl) gaDD0 aa5 ?_ | refine sG hp rfl (slot_tmp rfl) (slot_tmp rfl) gaDD0 aa5 ?_); clear hp; intro w1 hp; simp only [spl, List.set_cons_zero, List.set_cons_succ] at hp)); simp only [put_some, put_none, List.set_cons_succ, List.set_cons_zero]))
  refine wp_region_keeps [_] (Keeps.one hp.drew at1) [10, 11] [(0, true), (1, true), (2, true), (3, true), (4, true), (5, true), (6, true), (7, true), (8, true), (9, true), (10, false), (11, false)] (by kernel_rfl) (by kernel_rfl) rfl (by kernel_rfl) (fun _ _ d _ _ h => by cases d <;> exact h) ?_
  replace hp := hp.drew
  repeat' (with_reducible refine plan_is ?_); first | (with_reducible refine plan_nil ?_) | ((with_reducible refine plan_t ?_); refine plan_tk rfl ?_; (first | ((with_reducible refine tk_mv _ rfl ?_); refine tM rfl ?_) | ((with_reducible refine tk_ld _ _ rfl ?_); refine tO rfl (slot_tmp rfl) cell3 aa5 ?_) | refine tG (fun w _ => (by go_simp; try rfl)) ?_); try simp only [put_some, put_none, eval_tmp, eval_const, List.set_cons_succ, List.set_cons_zero, List.getD_cons_succ, List.getD_cons_zero, wrap_eq]) | (refine plan_do rfl (fun K hK => ?_); go_wp2_with (first | (go_at_call 37; (with_reducible refine (HLD.out _ _ _ hp).mono ?_); clear hp; rintro e w1 ⟨rfl, hp⟩; unfold resV) | go_skip | (((with_reducible refine pre_store _ _ _ rfl ?_); (first | refine sO hp rfl (slot_tmp rfl) ceDD1 aa5 ?_ | refine sA hp rfl (slot_tmp rfl) (slot_tmp rfl) gaDD0 aa5 ?_ | refine sG hp rfl (slot_tmp rfl) (slot_tmp rfl) gaDD0 aa5 ?_); clear hp; intro w1 hp; simp only [spl, List.set_cons_zero, List.set_cons_succ] at hp); simp only [put_some, put_none, List.set_cons_succ, List.set_cons_zero])); (first | refine hK.out _ _ (.inl rfl) ?_ | refine hK.out _ _ (.inr (Keeps.one hp aa5)) ?_); clear hK K; try simp only [put_some, put_none, eval_tmp, eval_const, List.set_cons_succ, List.set_cons_zero, List.getD_cons_succ, List.getD_cons_zero, wrap_eq])
  go_wp2_with (first | go_skip | ((first | ((with_reducible refine pre_alloc _ rfl ?_); refine lZ hp rfl (by with_reducible first | exact zero34 | exact zero27) ?_; clear hp; intro b w1 hp) | ((with_reducible refine pre_box _ _ rfl ?_); refine lB hp rfl (slot_tmp rfl) rfl ?_; clear hp; intro b w1 hp) | ((with_reducible refine pre_load _ _ rfl ?_); first | refine lO hp rfl (slot_tmp rfl) ceDD1 aa5 ?_ | refine lA hp rfl (slot_tmp rfl) gaDD0 aa5 ?_) | ((with_reducible refine pre_store _ _ _ rfl ?_); (first | refine sO hp rfl (slot_tmp rfl) ceDD1 aa5 ?_ | refine sA hp rfl (slot_tmp rfl) (slot_tmp rfl) gaDD0 aa5 ?_ | refine sG hp rfl (slot_tmp rfl) (slot_tmp rfl) gaDD0 aa5 ?_); clear hp; intro w1 hp; simp only [spl, List.set_cons_zero, List.set_cons_succ] at hp)); simp only [put_some, put_none, List.set_cons_succ, List.set_cons_zero]))
  exact bodyPost_ret (results_one (rs := [.cell 4 34]) Try.results19 (.cell rfl (hp.loadAgg agg34 at0 0 _ (by rfl) (by rfl)) .nil)) rfl ⟨rfl, _, Hv.Sm.refl _, two_of (x := ⟨od, oa, os, oc, nx, t0, tt, t2, t3, fa, fs, fc⟩) ⟨HR.out.1, HR.out.2, HR.out.3⟩ hp⟩
set_option maxRecDepth 100000 in
set_option maxHeartbeats 8000000 in
theorem do19_root1n {x : Hv} (hx : HRight x) {hh nn cc vv tt : Int} (hto : leadsC x.os tt = false) {B bw : Nat} {w0 w : World} {K9 : List Blk} (hW : WorkAt B w0 w bw x K9) :
    Calls Try.prog 19 #[.pointer (some ⟨bw, 0, none⟩), .agg #[.int .i64 5, .int .i64 hh, .int .i64 1, .int .i64 nn, .int .i64 cc, .int .i64 vv, .int .i64 tt]] w (WorkPost B w0 bw x 51 0 K9) := by
  obtain ⟨RO, RF, M, hR, hp⟩ := hW
  have HR := Lib.hid hR
  have hs := hx.sorted
  have hol : x.os.length ≤ 1000 := by have := hx.len; omega
  obtain ⟨od, oa, os, oc, nx, t0, t1, t2, t3, fa, fs, fc⟩ := x
  simp only [hvL] at hp
  simp only at hs hol hto
  have hro : Kept RO fun w => RowIs w oa (os.flatMap obV) := hR.objs.keptS
  have HLD : RowKit.Hid (∀ (y z : Blk) (w : World), Hp B w0 w (y :: z :: ⟨bw, [.int .i64 od, .slice oa os.length oc, .int .i64 nx, .int .i64 t0, .int .i64 t1, .int .i64 t2, .int .i64 t3, .slice fa fs.length fc], 62, 8⟩ :: (RO ++ (RF ++ (M ++ K9)))) →
      Calls Try.prog 37 #[.pointer (some ⟨bw, 0, none⟩), .pointer (some ⟨bw, 4, none⟩), .int .i64 tt] w fun e w' => e = .returned (resV 51 0) ∧ Hp B w0 w' (y :: z :: ⟨bw, [.int .i64 od, .slice oa os.length oc, .int .i64 nx, .int .i64 t0, .int .i64 t1, .int .i64 t2, .int .i64 t3, .slice fa fs.length fc], 62, 8⟩ :: (RO ++ (RF ++ (M ++ K9))))) :=
    Lib.hid (fun y z w hp => lead37_no hol hs hto (j := 2) (i := 2) rfl rfl (kept_mid (A := [y, z, _]) hro) rfl (by simp) hp)
  have HIN : RowKit.Hid (inB 1 0 3 = true) := Lib.hid (by decide)
  clear hx hs hol hto hro hR
  go_enter Try.func19, Try.ntmps19
  go_wp2_with (first | (go_at_call 24; (with_reducible refine (within24 _ _ _ _).mono ?_); rintro e w' ⟨rfl, rfl⟩; rw [HIN.out]) | (go_at_call 17; (with_reducible refine (no17 _ _).mono ?_); rintro e w1 ⟨rfl, hb⟩; replace hp := hp.call hb; clear hb; unfold resV) | go_skip | ((first | ((with_reducible refine pre_alloc _ rfl ?_); refine lZ hp rfl (by with_reducible first | exact zero34 | exact zero27) ?_; clear hp; intro b w1 hp) | ((with_reducible refine pre_box _ _ rfl ?_); refine lB hp rfl (slot_tmp rfl) rfl ?_; clear hp; intro b w1 hp) | ((with_reducible refine pre_load _ _ rfl ?_); first | refine lO hp rfl (slot_tmp rfl) ceDD1 aa5 ?_ | refine lA hp rfl (slot_tmp rfl) gaDD0 aa5 ?_) | ((with_reducible refine pre_store _ _ _ rfl ?_); (first | refine sO hp rfl (slot_tmp rfl) ceDD1 aa5 ?_ | refine sA hp rfl (slot_tmp rfl) (slot_tmp rfl) gaDD0 aa5 ?_ | refine sG hp rfl (slot_tmp rfl) (slot_tmp rfl) gaDD0 aa5 ?_); clear hp; intro w1 hp; simp only [spl, List.set_cons_zero, List.set_cons_succ] at hp)); simp only [put_some, put_none, List.set_cons_succ, List.set_cons_zero]))
  refine wp_region_keeps [_] (Keeps.one hp.drew at1) [10, 11] [(0, true), (1, true), (2, true), (3, true), (4, true), (5, true), (6, true), (7, true), (8, true), (9, true), (10, false), (11, false)] (by kernel_rfl) (by kernel_rfl) rfl (by kernel_rfl) (fun _ _ d _ _ h => by cases d <;> exact h) ?_
  replace hp := hp.drew
  repeat' (with_reducible refine plan_is ?_); first | (with_reducible refine plan_nil ?_) | ((with_reducible refine plan_t ?_); refine plan_tk rfl ?_; (first | ((with_reducible refine tk_mv _ rfl ?_); refine tM rfl ?_) | ((with_reducible refine tk_ld _ _ rfl ?_); refine tO rfl (slot_tmp rfl) cell3 aa5 ?_) | refine tG (fun w _ => (by go_simp; try rfl)) ?_); try simp only [put_some, put_none, eval_tmp, eval_const, List.set_cons_succ, List.set_cons_zero, List.getD_cons_succ, List.getD_cons_zero, wrap_eq]) | (refine plan_do rfl (fun K hK => ?_); go_wp2_with (first | (go_at_call 37; (with_reducible refine (HLD.out _ _ _ hp).mono ?_); clear hp; rintro e w1 ⟨rfl, hp⟩; unfold resV) | go_skip | (((with_reducible refine pre_store _ _ _ rfl ?_); (first | refine sO hp rfl (slot_tmp rfl) ceDD1 aa5 ?_ | refine sA hp rfl (slot_tmp rfl) (slot_tmp rfl) gaDD0 aa5 ?_ | refine sG hp rfl (slot_tmp rfl) (slot_tmp rfl) gaDD0 aa5 ?_); clear hp; intro w1 hp; simp only [spl, List.set_cons_zero, List.set_cons_succ] at hp); simp only [put_some, put_none, List.set_cons_succ, List.set_cons_zero])); (first | refine hK.out _ _ (.inl rfl) ?_ | refine hK.out _ _ (.inr (Keeps.one hp aa5)) ?_); clear hK K; try simp only [put_some, put_none, eval_tmp, eval_const, List.set_cons_succ, List.set_cons_zero, List.getD_cons_succ, List.getD_cons_zero, wrap_eq])
  go_wp2_with (first | go_skip | ((first | ((with_reducible refine pre_alloc _ rfl ?_); refine lZ hp rfl (by with_reducible first | exact zero34 | exact zero27) ?_; clear hp; intro b w1 hp) | ((with_reducible refine pre_box _ _ rfl ?_); refine lB hp rfl (slot_tmp rfl) rfl ?_; clear hp; intro b w1 hp) | ((with_reducible refine pre_load _ _ rfl ?_); first | refine lO hp rfl (slot_tmp rfl) ceDD1 aa5 ?_ | refine lA hp rfl (slot_tmp rfl) gaDD0 aa5 ?_) | ((with_reducible refine pre_store _ _ _ rfl ?_); (first | refine sO hp rfl (slot_tmp rfl) ceDD1 aa5 ?_ | refine sA hp rfl (slot_tmp rfl) (slot_tmp rfl) gaDD0 aa5 ?_ | refine sG hp rfl (slot_tmp rfl) (slot_tmp rfl) gaDD0 aa5 ?_); clear hp; intro w1 hp; simp only [spl, List.set_cons_zero, List.set_cons_succ] at hp)); simp only [put_some, put_none, List.set_cons_succ, List.set_cons_zero]))
  exact bodyPost_ret (results_one (rs := [.cell 4 34]) Try.results19 (.cell rfl (hp.loadAgg agg34 at0 0 _ (by rfl) (by rfl)) .nil)) rfl (WorkAt.sm (two_of HR.out hp) rfl)
set_option maxRecDepth 100000 in
set_option maxHeartbeats 8000000 in
theorem do19_root2 {x : Hv} (hx : HRight x) {hh nn cc vv tt : Int} (hto : leadsC x.os tt = true) {B bw : Nat} {w0 w : World} {K9 : List Blk} (hW : WorkAt B w0 w bw x K9) :
    Calls Try.prog 19 #[.pointer (some ⟨bw, 0, none⟩), .agg #[.int .i64 5, .int .i64 hh, .int .i64 2, .int .i64 nn, .int .i64 cc, .int .i64 vv, .int .i64 tt]] w (WorkPost B w0 bw (topH x 2 tt) 0 0 K9) := by
  obtain ⟨RO, RF, M, hR, hp⟩ := hW
  have HR := Lib.hid hR
  have hs := hx.sorted
  have hol : x.os.length ≤ 1000 := by have := hx.len; omega
  obtain ⟨od, oa, os, oc, nx, t0, t1, t2, t3, fa, fs, fc⟩ := x
  simp only [hvL] at hp
  simp only at hs hol hto
  have hro : Kept RO fun w => RowIs w oa (os.flatMap obV) := hR.objs.keptS
  have HLD : RowKit.Hid (∀ (y z : Blk) (w : World), Hp B w0 w (y :: z :: ⟨bw, [.int .i64 od, .slice oa os.length oc, .int .i64 nx, .int .i64 t0, .int .i64 t1, .int .i64 t2, .int .i64 t3, .slice fa fs.length fc], 62, 8⟩ :: (RO ++ (RF ++ (M ++ K9)))) →
      Calls Try.prog 37 #[.pointer (some ⟨bw, 0, none⟩), .pointer (some ⟨bw, 5, none⟩), .int .i64 tt] w fun e w' => e = .returned (resV 0 0) ∧ Hp B w0 w' (y :: z :: ⟨bw, [.int .i64 od, .slice oa os.length oc, .int .i64 nx, .int .i64 t0, .int .i64 t1, .int .i64 tt, .int .i64 t3, .slice fa fs.length fc], 62, 8⟩ :: (RO ++ (RF ++ (M ++ K9))))) :=
    Lib.hid (fun y z w hp => lead37_yes hol hs hto (j := 2) (i := 2) rfl rfl (kept_mid (A := [y, z, _]) hro) rfl (by simp) hp)
  have HIN : RowKit.Hid (inB 2 0 3 = true) := Lib.hid (by decide)
  clear hx hs hol hto hro hR
  go_enter Try.func19, Try.ntmps19
  go_wp2_with (first | (go_at_call 24; (with_reducible refine (within24 _ _ _ _).mono ?_); rintro e w' ⟨rfl, rfl⟩; rw [HIN.out]) | (go_at_call 17; (with_reducible refine (no17 _ _).mono ?_); rintro e w1 ⟨rfl, hb⟩; replace hp := hp.call hb; clear hb; unfold resV) | go_skip | ((first | ((with_reducible refine pre_alloc _ rfl ?_); refine lZ hp rfl (by with_reducible first | exact zero34 | exact zero27) ?_; clear hp; intro b w1 hp) | ((with_reducible refine pre_box _ _ rfl ?_); refine lB hp rfl (slot_tmp rfl) rfl ?_; clear hp; intro b w1 hp) | ((with_reducible refine pre_load _ _ rfl ?_); first | refine lO hp rfl (slot_tmp rfl) ceDD1 aa5 ?_ | refine lA hp rfl (slot_tmp rfl) gaDD0 aa5 ?_) | ((with_reducible refine pre_store _ _ _ rfl ?_); (first | refine sO hp rfl (slot_tmp rfl) ceDD1 aa5 ?_ | refine sA hp rfl (slot_tmp rfl) (slot_tmp rfl) gaDD0 aa5 ?_ | refine sG hp rfl (slot_tmp rfl) (slot_tmp rfl) gaDD0 aa5 ?_); clear hp; intro w1 hp; simp only [spl, List.set_cons_zero, List.set_cons_succ] at hp)); simp only [put_some, put_none, List.set_cons_succ, List.set_cons_zero]))
  refine wp_region_keeps [_] (Keeps.one hp.drew at1) [10, 11] [(0, true), (1, true), (2, true), (3, true), (4, true), (5, true), (6, true), (7, true), (8, true), (9, true), (10, false), (11, false)] (by kernel_rfl) (by kernel_rfl) rfl (by kernel_rfl) (fun _ _ d _ _ h => by cases d <;> exact h) ?_
  replace hp := hp.drew
  repeat' (with_reducible refine plan_is ?_); first | (with_reducible refine plan_nil ?_) | ((with_reducible refine plan_t ?_); refine plan_tk rfl ?_; (first | ((with_reducible refine tk_mv _ rfl ?_); refine tM rfl ?_) | ((with_reducible refine tk_ld _ _ rfl ?_); refine tO rfl (slot_tmp rfl) cell3 aa5 ?_) | refine tG (fun w _ => (by go_simp; try rfl)) ?_); try simp only [put_some, put_none, eval_tmp, eval_const, List.set_cons_succ, List.set_cons_zero, List.getD_cons_succ, List.getD_cons_zero, wrap_eq]) | (refine plan_do rfl (fun K hK => ?_); go_wp2_with (first | (go_at_call 37; (with_reducible refine (HLD.out _ _ _ hp).mono ?_); clear hp; rintro e w1 ⟨rfl, hp⟩; unfold resV) | go_skip | (((with_reducible refine pre_store _ _ _ rfl ?_); (first | refine sO hp rfl (slot_tmp rfl) ceDD1 aa5 ?_ | refine sA hp rfl (slot_tmp rfl) (slot_tmp rfl) gaDD0 aa5 ?_ | refine sG hp rfl (slot_tmp rfl) (slot_tmp rfl) gaDD0 aa5 ?_); clear hp; intro w1 hp; simp only [spl, List.set_cons_zero, List.set_cons_succ] at hp); simp only [put_some, put_none, List.set_cons_succ, List.set_cons_zero])); (first | refine hK.out _ _ (.inl rfl) ?_ | refine hK.out _ _ (.inr (Keeps.one hp aa5)) ?_); clear hK K; try simp only [put_some, put_none, eval_tmp, eval_const, List.set_cons_succ, List.set_cons_zero, List.getD_cons_succ, List.getD_cons_zero, wrap_eq])
  go_wp2_with (first | go_skip | ((first | ((with_reducible refine pre_alloc _ rfl ?_); refine lZ hp rfl (by with_reducible first | exact zero34 | exact zero27) ?_; clear hp; intro b w1 hp) | ((with_reducible refine pre_box _ _ rfl ?_); refine lB hp rfl (slot_tmp rfl) rfl ?_; clear hp; intro b w1 hp) | ((with_reducible refine pre_load _ _ rfl ?_); first | refine lO hp rfl (slot_tmp rfl) ceDD1 aa5 ?_ | refine lA hp rfl (slot_tmp rfl) gaDD0 aa5 ?_) | ((with_reducible refine pre_store _ _ _ rfl ?_); (first | refine sO hp rfl (slot_tmp rfl) ceDD1 aa5 ?_ | refine sA hp rfl (slot_tmp rfl) (slot_tmp rfl) gaDD0 aa5 ?_ | refine sG hp rfl (slot_tmp rfl) (slot_tmp rfl) gaDD0 aa5 ?_); clear hp; intro w1 hp; simp only [spl, List.set_cons_zero, List.set_cons_succ] at hp)); simp only [put_some, put_none, List.set_cons_succ, List.set_cons_zero]))
  exact bodyPost_ret (results_one (rs := [.cell 4 34]) Try.results19 (.cell rfl (hp.loadAgg agg34 at0 0 _ (by rfl) (by rfl)) .nil)) rfl ⟨rfl, _, Hv.Sm.refl _, two_of (x := ⟨od, oa, os, oc, nx, t0, t1, tt, t3, fa, fs, fc⟩) ⟨HR.out.1, HR.out.2, HR.out.3⟩ hp⟩
set_option maxRecDepth 100000 in
set_option maxHeartbeats 8000000 in
theorem do19_root2n {x : Hv} (hx : HRight x) {hh nn cc vv tt : Int} (hto : leadsC x.os tt = false) {B bw : Nat} {w0 w : World} {K9 : List Blk} (hW : WorkAt B w0 w bw x K9) :
    Calls Try.prog 19 #[.pointer (some ⟨bw, 0, none⟩), .agg #[.int .i64 5, .int .i64 hh, .int .i64 2, .int .i64 nn, .int .i64 cc, .int .i64 vv, .int .i64 tt]] w (WorkPost B w0 bw x 51 0 K9) := by
  obtain ⟨RO, RF, M, hR, hp⟩ := hW
  have HR := Lib.hid hR
  have hs := hx.sorted
  have hol : x.os.length ≤ 1000 := by have := hx.len; omega
  obtain ⟨od, oa, os, oc, nx, t0, t1, t2, t3, fa, fs, fc⟩ := x
  simp only [hvL] at hp
  simp only at hs hol hto
  have hro : Kept RO fun w => RowIs w oa (os.flatMap obV) := hR.objs.keptS
  have HLD : RowKit.Hid (∀ (y z : Blk) (w : World), Hp B w0 w (y :: z :: ⟨bw, [.int .i64 od, .slice oa os.length oc, .int .i64 nx, .int .i64 t0, .int .i64 t1, .int .i64 t2, .int .i64 t3, .slice fa fs.length fc], 62, 8⟩ :: (RO ++ (RF ++ (M ++ K9)))) →
      Calls Try.prog 37 #[.pointer (some ⟨bw, 0, none⟩), .pointer (some ⟨bw, 5, none⟩), .int .i64 tt] w fun e w' => e = .returned (resV 51 0) ∧ Hp B w0 w' (y :: z :: ⟨bw, [.int .i64 od, .slice oa os.length oc, .int .i64 nx, .int .i64 t0, .int .i64 t1, .int .i64 t2, .int .i64 t3, .slice fa fs.length fc], 62, 8⟩ :: (RO ++ (RF ++ (M ++ K9))))) :=
    Lib.hid (fun y z w hp => lead37_no hol hs hto (j := 2) (i := 2) rfl rfl (kept_mid (A := [y, z, _]) hro) rfl (by simp) hp)
  have HIN : RowKit.Hid (inB 2 0 3 = true) := Lib.hid (by decide)
  clear hx hs hol hto hro hR
  go_enter Try.func19, Try.ntmps19
  go_wp2_with (first | (go_at_call 24; (with_reducible refine (within24 _ _ _ _).mono ?_); rintro e w' ⟨rfl, rfl⟩; rw [HIN.out]) | (go_at_call 17; (with_reducible refine (no17 _ _).mono ?_); rintro e w1 ⟨rfl, hb⟩; replace hp := hp.call hb; clear hb; unfold resV) | go_skip | ((first | ((with_reducible refine pre_alloc _ rfl ?_); refine lZ hp rfl (by with_reducible first | exact zero34 | exact zero27) ?_; clear hp; intro b w1 hp) | ((with_reducible refine pre_box _ _ rfl ?_); refine lB hp rfl (slot_tmp rfl) rfl ?_; clear hp; intro b w1 hp) | ((with_reducible refine pre_load _ _ rfl ?_); first | refine lO hp rfl (slot_tmp rfl) ceDD1 aa5 ?_ | refine lA hp rfl (slot_tmp rfl) gaDD0 aa5 ?_) | ((with_reducible refine pre_store _ _ _ rfl ?_); (first | refine sO hp rfl (slot_tmp rfl) ceDD1 aa5 ?_ | refine sA hp rfl (slot_tmp rfl) (slot_tmp rfl) gaDD0 aa5 ?_ | refine sG hp rfl (slot_tmp rfl) (slot_tmp rfl) gaDD0 aa5 ?_); clear hp; intro w1 hp; simp only [spl, List.set_cons_zero, List.set_cons_succ] at hp)); simp only [put_some, put_none, List.set_cons_succ, List.set_cons_zero]))
  refine wp_region_keeps [_] (Keeps.one hp.drew at1) [10, 11] [(0, true), (1, true), (2, true), (3, true), (4, true), (5, true), (6, true), (7, true), (8, true), (9, true), (10, false), (11, false)] (by kernel_rfl) (by kernel_rfl) rfl (by kernel_rfl) (fun _ _ d _ _ h => by cases d <;> exact h) ?_
  replace hp := hp.drew
  repeat' (with_reducible refine plan_is ?_); first | (with_reducible refine plan_nil ?_) | ((with_reducible refine plan_t ?_); refine plan_tk rfl ?_; (first | ((with_reducible refine tk_mv _ rfl ?_); refine tM rfl ?_) | ((with_reducible refine tk_ld _ _ rfl ?_); refine tO rfl (slot_tmp rfl) cell3 aa5 ?_) | refine tG (fun w _ => (by go_simp; try rfl)) ?_); try simp only [put_some, put_none, eval_tmp, eval_const, List.set_cons_succ, List.set_cons_zero, List.getD_cons_succ, List.getD_cons_zero, wrap_eq]) | (refine plan_do rfl (fun K hK => ?_); go_wp2_with (first | (go_at_call 37; (with_reducible refine (HLD.out _ _ _ hp).mono ?_); clear hp; rintro e w1 ⟨rfl, hp⟩; unfold resV) | go_skip | (((with_reducible refine pre_store _ _ _ rfl ?_); (first | refine sO hp rfl (slot_tmp rfl) ceDD1 aa5 ?_ | refine sA hp rfl (slot_tmp rfl) (slot_tmp rfl) gaDD0 aa5 ?_ | refine sG hp rfl (slot_tmp rfl) (slot_tmp rfl) gaDD0 aa5 ?_); clear hp; intro w1 hp; simp only [spl, List.set_cons_zero, List.set_cons_succ] at hp); simp only [put_some, put_none, List.set_cons_succ, List.set_cons_zero])); (first | refine hK.out _ _ (.inl rfl) ?_ | refine hK.out _ _ (.inr (Keeps.one hp aa5)) ?_); clear hK K; try simp only [put_some, put_none, eval_tmp, eval_const, List.set_cons_succ, List.set_cons_zero, List.getD_cons_succ, List.getD_cons_zero, wrap_eq])
  go_wp2_with (first | go_skip | ((first | ((with_reducible refine pre_alloc _ rfl ?_); refine lZ hp rfl (by with_reducible first | exact zero34 | exact zero27) ?_; clear hp; intro b w1 hp) | ((with_reducible refine pre_box _ _ rfl ?_); refine lB hp rfl (slot_tmp rfl) rfl ?_; clear hp; intro b w1 hp) | ((with_reducible refine pre_load _ _ rfl ?_); first | refine lO hp rfl (slot_tmp rfl) ceDD1 aa5 ?_ | refine lA hp rfl (slot_tmp rfl) gaDD0 aa5 ?_) | ((with_reducible refine pre_store _ _ _ rfl ?_); (first | refine sO hp rfl (slot_tmp rfl) ceDD1 aa5 ?_ | refine sA hp rfl (slot_tmp rfl) (slot_tmp rfl) gaDD0 aa5 ?_ | refine sG hp rfl (slot_tmp rfl) (slot_tmp rfl) gaDD0 aa5 ?_); clear hp; intro w1 hp; simp only [spl, List.set_cons_zero, List.set_cons_succ] at hp)); simp only [put_some, put_none, List.set_cons_succ, List.set_cons_zero]))
  exact bodyPost_ret (results_one (rs := [.cell 4 34]) Try.results19 (.cell rfl (hp.loadAgg agg34 at0 0 _ (by rfl) (by rfl)) .nil)) rfl (WorkAt.sm (two_of HR.out hp) rfl)
set_option maxRecDepth 100000 in
set_option maxHeartbeats 8000000 in
theorem do19_root3 {x : Hv} (hx : HRight x) {hh nn cc vv tt : Int} (hto : leadsC x.os tt = true) {B bw : Nat} {w0 w : World} {K9 : List Blk} (hW : WorkAt B w0 w bw x K9) :
    Calls Try.prog 19 #[.pointer (some ⟨bw, 0, none⟩), .agg #[.int .i64 5, .int .i64 hh, .int .i64 3, .int .i64 nn, .int .i64 cc, .int .i64 vv, .int .i64 tt]] w (WorkPost B w0 bw (topH x 3 tt) 0 0 K9) := by
  obtain ⟨RO, RF, M, hR, hp⟩ := hW
  have HR := Lib.hid hR
  have hs := hx.sorted
  have hol : x.os.length ≤ 1000 := by have := hx.len; omega
  obtain ⟨od, oa, os, oc, nx, t0, t1, t2, t3, fa, fs, fc⟩ := x
  simp only [hvL] at hp
  simp only at hs hol hto
  have hro : Kept RO fun w => RowIs w oa (os.flatMap obV) := hR.objs.keptS
  have HLD : RowKit.Hid (∀ (y z : Blk) (w : World), Hp B w0 w (y :: z :: ⟨bw, [.int .i64 od, .slice oa os.length oc, .int .i64 nx, .int .i64 t0, .int .i64 t1, .int .i64 t2, .int .i64 t3, .slice fa fs.length fc], 62, 8⟩ :: (RO ++ (RF ++ (M ++ K9)))) →
      Calls Try.prog 37 #[.pointer (some ⟨bw, 0, none⟩), .pointer (some ⟨bw, 6, none⟩), .int .i64 tt] w fun e w' => e = .returned (resV 0 0) ∧ Hp B w0 w' (y :: z :: ⟨bw, [.int .i64 od, .slice oa os.length oc, .int .i64 nx, .int .i64 t0, .int .i64 t1, .int .i64 t2, .int .i64 tt, .slice fa fs.length fc], 62, 8⟩ :: (RO ++ (RF ++ (M ++ K9))))) :=
    Lib.hid (fun y z w hp => lead37_yes hol hs hto (j := 2) (i := 2) rfl rfl (kept_mid (A := [y, z, _]) hro) rfl (by simp) hp)
  have HIN : RowKit.Hid (inB 3 0 3 = true) := Lib.hid (by decide)
  clear hx hs hol hto hro hR
  go_enter Try.func19, Try.ntmps19
  go_wp2_with (first | (go_at_call 24; (with_reducible refine (within24 _ _ _ _).mono ?_); rintro e w' ⟨rfl, rfl⟩; rw [HIN.out]) | (go_at_call 17; (with_reducible refine (no17 _ _).mono ?_); rintro e w1 ⟨rfl, hb⟩; replace hp := hp.call hb; clear hb; unfold resV) | go_skip | ((first | ((with_reducible refine pre_alloc _ rfl ?_); refine lZ hp rfl (by with_reducible first | exact zero34 | exact zero27) ?_; clear hp; intro b w1 hp) | ((with_reducible refine pre_box _ _ rfl ?_); refine lB hp rfl (slot_tmp rfl) rfl ?_; clear hp; intro b w1 hp) | ((with_reducible refine pre_load _ _ rfl ?_); first | refine lO hp rfl (slot_tmp rfl) ceDD1 aa5 ?_ | refine lA hp rfl (slot_tmp rfl) gaDD0 aa5 ?_) | ((with_reducible refine pre_store _ _ _ rfl ?_); (first | refine sO hp rfl (slot_tmp rfl) ceDD1 aa5 ?_ | refine sA hp rfl (slot_tmp rfl) (slot_tmp rfl) gaDD0 aa5 ?_ | refine sG hp rfl (slot_tmp rfl) (slot_tmp rfl) gaDD0 aa5 ?_); clear hp; intro w1 hp; simp only [spl, List.set_cons_zero, List.set_cons_succ] at hp)); simp only [put_some, put_none, List.set_cons_succ, List.set_cons_zero]))
  refine wp_region_keeps [_] (Keeps.one hp.drew at1) [10, 11] [(0, true), (1, true), (2, true), (3, true), (4, true), (5, true), (6, true), (7, true), (8, true), (9, true), (10, false), (11, false)] (by kernel_rfl) (by kernel_rfl) rfl (by kernel_rfl) (fun _ _ d _ _ h => by cases d <;> exact h) ?_
  replace hp := hp.drew
  repeat' (with_reducible refine plan_is ?_); first | (with_reducible refine plan_nil ?_) | ((with_reducible refine plan_t ?_); refine plan_tk rfl ?_; (first | ((with_reducible refine tk_mv _ rfl ?_); refine tM rfl ?_) | ((with_reducible refine tk_ld _ _ rfl ?_); refine tO rfl (slot_tmp rfl) cell3 aa5 ?_) | refine tG (fun w _ => (by go_simp; try rfl)) ?_); try simp only [put_some, put_none, eval_tmp, eval_const, List.set_cons_succ, List.set_cons_zero, List.getD_cons_succ, List.getD_cons_zero, wrap_eq]) | (refine plan_do rfl (fun K hK => ?_); go_wp2_with (first | (go_at_call 37; (with_reducible refine (HLD.out _ _ _ hp).mono ?_); clear hp; rintro e w1 ⟨rfl, hp⟩; unfold resV) | go_skip | (((with_reducible refine pre_store _ _ _ rfl ?_); (first | refine sO hp rfl (slot_tmp rfl) ceDD1 aa5 ?_ | refine sA hp rfl (slot_tmp rfl) (slot_tmp rfl) gaDD0 aa5 ?_ | refine sG hp rfl (slot_tmp rfl) (slot_tmp rfl) gaDD0 aa5 ?_); clear hp; intro w1 hp; simp only [spl, List.set_cons_zero, List.set_cons_succ] at hp); simp only [put_some, put_none, List.set_cons_succ, List.set_cons_zero])); (first | refine hK.out _ _ (.inl rfl) ?_ | refine hK.out _ _ (.inr (Keeps.one hp aa5)) ?_); clear hK K; try simp only [put_some, put_none, eval_tmp, eval_const, List.set_cons_succ, List.set_cons_zero, List.getD_cons_succ, List.getD_cons_zero, wrap_eq])
  go_wp2_with (first | go_skip | ((first | ((with_reducible refine pre_alloc _ rfl ?_); refine lZ hp rfl (by with_reducible first | exact zero34 | exact zero27) ?_; clear hp; intro b w1 hp) | ((with_reducible refine pre_box _ _ rfl ?_); refine lB hp rfl (slot_tmp rfl) rfl ?_; clear hp; intro b w1 hp) | ((with_reducible refine pre_load _ _ rfl ?_); first | refine lO hp rfl (slot_tmp rfl) ceDD1 aa5 ?_ | refine lA hp rfl (slot_tmp rfl) gaDD0 aa5 ?_) | ((with_reducible refine pre_store _ _ _ rfl ?_); (first | refine sO hp rfl (slot_tmp rfl) ceDD1 aa5 ?_ | refine sA hp rfl (slot_tmp rfl) (slot_tmp rfl) gaDD0 aa5 ?_ | refine sG hp rfl (slot_tmp rfl) (slot_tmp rfl) gaDD0 aa5 ?_); clear hp; intro w1 hp; simp only [spl, List.set_cons_zero, List.set_cons_succ] at hp)); simp only [put_some, put_none, List.set_cons_succ, List.set_cons_zero]))
  exact bodyPost_ret (results_one (rs := [.cell 4 34]) Try.results19 (.cell rfl (hp.loadAgg agg34 at0 0 _ (by rfl) (by rfl)) .nil)) rfl ⟨rfl, _, Hv.Sm.refl _, two_of (x := ⟨od, oa, os, oc, nx, t0, t1, t2, tt, fa, fs, fc⟩) ⟨HR.out.1, HR.out.2, HR.out.3⟩ hp⟩
set_option maxRecDepth 100000 in
set_option maxHeartbeats 8000000 in
theorem do19_root3n {x : Hv} (hx : HRight x) {hh nn cc vv tt : Int} (hto : leadsC x.os tt = false) {B bw : Nat} {w0 w : World} {K9 : List Blk} (hW : WorkAt B w0 w bw x K9) :
    Calls Try.prog 19 #[.pointer (some ⟨bw, 0, none⟩), .agg #[.int .i64 5, .int .i64 hh, .int .i64 3, .int .i64 nn, .int .i64 cc, .int .i64 vv, .int .i64 tt]] w (WorkPost B w0 bw x 51 0 K9) := by
  obtain ⟨RO, RF, M, hR, hp⟩ := hW
  have HR := Lib.hid hR
  have hs := hx.sorted
  have hol : x.os.length ≤ 1000 := by have := hx.len; omega
  obtain ⟨od, oa, os, oc, nx, t0, t1, t2, t3, fa, fs, fc⟩ := x
  simp only [hvL] at hp
  simp only at hs hol hto
  have hro : Kept RO fun w => RowIs w oa (os.flatMap obV) := hR.objs.keptS
  have HLD : RowKit.Hid (∀ (y z : Blk) (w : World), Hp B w0 w (y :: z :: ⟨bw, [.int .i64 od, .slice oa os.length oc, .int .i64 nx, .int .i64 t0, .int .i64 t1, .int .i64 t2, .int .i64 t3, .slice fa fs.length fc], 62, 8⟩ :: (RO ++ (RF ++ (M ++ K9)))) →
      Calls Try.prog 37 #[.pointer (some ⟨bw, 0, none⟩), .pointer (some ⟨bw, 6, none⟩), .int .i64 tt] w fun e w' => e = .returned (resV 51 0) ∧ Hp B w0 w' (y :: z :: ⟨bw, [.int .i64 od, .slice oa os.length oc, .int .i64 nx, .int .i64 t0, .int .i64 t1, .int .i64 t2, .int .i64 t3, .slice fa fs.length fc], 62, 8⟩ :: (RO ++ (RF ++ (M ++ K9))))) :=
    Lib.hid (fun y z w hp => lead37_no hol hs hto (j := 2) (i := 2) rfl rfl (kept_mid (A := [y, z, _]) hro) rfl (by simp) hp)
  have HIN : RowKit.Hid (inB 3 0 3 = true) := Lib.hid (by decide)
  clear hx hs hol hto hro hR
  go_enter Try.func19, Try.ntmps19
  go_wp2_with (first | (go_at_call 24; (with_reducible refine (within24 _ _ _ _).mono ?_); rintro e w' ⟨rfl, rfl⟩; rw [HIN.out]) | (go_at_call 17; (with_reducible refine (no17 _ _).mono ?_); rintro e w1 ⟨rfl, hb⟩; replace hp := hp.call hb; clear hb; unfold resV) | go_skip | ((first | ((with_reducible refine pre_alloc _ rfl ?_); refine lZ hp rfl (by with_reducible first | exact zero34 | exact zero27) ?_; clear hp; intro b w1 hp) | ((with_reducible refine pre_box _ _ rfl ?_); refine lB hp rfl (slot_tmp rfl) rfl ?_; clear hp; intro b w1 hp) | ((with_reducible refine pre_load _ _ rfl ?_); first | refine lO hp rfl (slot_tmp rfl) ceDD1 aa5 ?_ | refine lA hp rfl (slot_tmp rfl) gaDD0 aa5 ?_) | ((with_reducible refine pre_store _ _ _ rfl ?_); (first | refine sO hp rfl (slot_tmp rfl) ceDD1 aa5 ?_ | refine sA hp rfl (slot_tmp rfl) (slot_tmp rfl) gaDD0 aa5 ?_ | refine sG hp rfl (slot_tmp rfl) (slot_tmp rfl) gaDD0 aa5 ?_); clear hp; intro w1 hp; simp only [spl, List.set_cons_zero, List.set_cons_succ] at hp)); simp only [put_some, put_none, List.set_cons_succ, List.set_cons_zero]))
  refine wp_region_keeps [_] (Keeps.one hp.drew at1) [10, 11] [(0, true), (1, true), (2, true), (3, true), (4, true), (5, true), (6, true), (7, true), (8, true), (9, true), (10, false), (11, false)] (by kernel_rfl) (by kernel_rfl) rfl (by kernel_rfl) (fun _ _ d _ _ h => by cases d <;> exact h) ?_
  replace hp := hp.drew
  repeat' (with_reducible refine plan_is ?_); first | (with_reducible refine plan_nil ?_) | ((with_reducible refine plan_t ?_); refine plan_tk rfl ?_; (first | ((with_reducible refine tk_mv _ rfl ?_); refine tM rfl ?_) | ((with_reducible refine tk_ld _ _ rfl ?_); refine tO rfl (slot_tmp rfl) cell3 aa5 ?_) | refine tG (fun w _ => (by go_simp; try rfl)) ?_); try simp only [put_some, put_none, eval_tmp, eval_const, List.set_cons_succ, List.set_cons_zero, List.getD_cons_succ, List.getD_cons_zero, wrap_eq]) | (refine plan_do rfl (fun K hK => ?_); go_wp2_with (first | (go_at_call 37; (with_reducible refine (HLD.out _ _ _ hp).mono ?_); clear hp; rintro e w1 ⟨rfl, hp⟩; unfold resV) | go_skip | (((with_reducible refine pre_store _ _ _ rfl ?_); (first | refine sO hp rfl (slot_tmp rfl) ceDD1 aa5 ?_ | refine sA hp rfl (slot_tmp rfl) (slot_tmp rfl) gaDD0 aa5 ?_ | refine sG hp rfl (slot_tmp rfl) (slot_tmp rfl) gaDD0 aa5 ?_); clear hp; intro w1 hp; simp only [spl, List.set_cons_zero, List.set_cons_succ] at hp); simp only [put_some, put_none, List.set_cons_succ, List.set_cons_zero])); (first | refine hK.out _ _ (.inl rfl) ?_ | refine hK.out _ _ (.inr (Keeps.one hp aa5)) ?_); clear hK K; try simp only [put_some, put_none, eval_tmp, eval_const, List.set_cons_succ, List.set_cons_zero, List.getD_cons_succ, List.getD_cons_zero, wrap_eq])
  go_wp2_with (first | go_skip | ((first | ((with_reducible refine pre_alloc _ rfl ?_); refine lZ hp rfl (by with_reducible first | exact zero34 | exact zero27) ?_; clear hp; intro b w1 hp) | ((with_reducible refine pre_box _ _ rfl ?_); refine lB hp rfl (slot_tmp rfl) rfl ?_; clear hp; intro b w1 hp) | ((with_reducible refine pre_load _ _ rfl ?_); first | refine lO hp rfl (slot_tmp rfl) ceDD1 aa5 ?_ | refine lA hp rfl (slot_tmp rfl) gaDD0 aa5 ?_) | ((with_reducible refine pre_store _ _ _ rfl ?_); (first | refine sO hp rfl (slot_tmp rfl) ceDD1 aa5 ?_ | refine sA hp rfl (slot_tmp rfl) (slot_tmp rfl) gaDD0 aa5 ?_ | refine sG hp rfl (slot_tmp rfl) (slot_tmp rfl) gaDD0 aa5 ?_); clear hp; intro w1 hp; simp only [spl, List.set_cons_zero, List.set_cons_succ] at hp)); simp only [put_some, put_none, List.set_cons_succ, List.set_cons_zero]))
  exact bodyPost_ret (results_one (rs := [.cell 4 34]) Try.results19 (.cell rfl (hp.loadAgg agg34 at0 0 _ (by rfl) (by rfl)) .nil)) rfl (WorkAt.sm (two_of HR.out hp) rfl)
end Go.Proofs.Ytcjbepaclbhjaaa
