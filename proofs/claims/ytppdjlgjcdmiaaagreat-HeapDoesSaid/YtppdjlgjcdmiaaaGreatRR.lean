/- The walks of the document's without, with and in. -/
import Derived.Test.YtppdjlgjcdmiaaaGreatQE
import Derived.Test.YtppdjlgjcdmiaaaGreatBBestR
import Derived.Test.YtppdjlgjcdmiaaaGreatQA
set_option linter.unusedSimpArgs false
set_option linter.unusedVariables false
namespace Go.Proofs.YtppdjlgjcdmiaaaGreat
open Go.RowKit
theorem ceRR0 {ty : TypeId} (h : cellB Tryz.prog ty = true := by with_reducible first | exact cell3 | exact cell4 | exact cell24) : cellB Tryz.prog ty = true := h
theorem without_snoc {l : List Bl} {v x : Bl} {j : Nat} (h : l[j]? = some x) (hn : x ≠ v) : without (l.take (j + 1)) v = without (l.take j) v ++ [x] := by rw [List.take_add_one, h]; simp [without, hn]
theorem without_same {l : List Bl} {v x : Bl} {j : Nat} (h : l[j]? = some x) (hn : x = v) : without (l.take (j + 1)) v = without (l.take j) v := by rw [List.take_add_one, h]; simp [without, hn]
set_option maxRecDepth 100000 in
set_option maxHeartbeats 4000000 in
theorem without120 (l : List Bl) (a : Option Addr) (c : Nat) (hl : l.length ≤ 1000) (q r : Int) (w : World) (ha : RowIs w a (l.flatMap blV)) : Calls Tryz.prog 120 #[.slice a l.length c, .agg #[.int .i64 q, .int .i64 r]] w (ClonePostBl w (without l ⟨q, r⟩).length ((without l ⟨q, r⟩).flatMap blV)) := by
  obtain ⟨i0, hi0, hz0, hz1, hz2⟩ := info_parts info64
  have hp := Hp.start w
  have HA := Lib.hid ha
  clear ha
  go_enter Tryz.func120, Tryz.ntmps120
  go_wp2_with (first | go_skip | ((first | ((with_reducible refine pre_alloc _ rfl ?_); refine lZ hp rfl zero64 ?_; clear hp; intro b w1 hp) | ((with_reducible refine pre_box _ _ rfl ?_); refine lB hp rfl (slot_tmp rfl) rfl ?_; clear hp; intro b w1 hp) | ((with_reducible refine pre_load _ _ rfl ?_); first | refine lO hp rfl (slot_tmp rfl) ceRR0 aa5 ?_ | refine lA hp rfl (slot_tmp rfl) agg64 aa5 ?_) | ((with_reducible refine pre_store _ _ _ rfl ?_); (first | refine sO hp rfl (slot_tmp rfl) ceRR0 aa5 ?_ | refine sA hp rfl (slot_tmp rfl) (slot_tmp rfl) agg64 aa5 ?_ | refine sG hp rfl (slot_tmp rfl) (slot_tmp rfl) agg64 aa5 ?_); clear hp; intro w1 hp; simp only [spl, List.set_cons_zero, List.set_cons_succ] at hp) | ((with_reducible refine pre_build _ _ _ rfl ?_); refine lS hp rfl (by intro w; go_simp; rfl) ?_; clear hp; intro b w1 hp; simp only [List.length_cons, List.length_nil, Nat.reduceAdd] at hp)); simp only [put_some, put_none, List.set_cons_succ, List.set_cons_zero]))
  obtain ⟨b1, rfl⟩ := hp.id0
  go_loopg [5, 6] l.length (fun k v i wr => ∃ (j : Nat) (RA : List Blk), k + j = l.length ∧ i = .int .i64 j ∧ RowKit.Hid (OwnRow 64 2 v (without (l.take j) ⟨q, r⟩).length ((without (l.take j) ⟨q, r⟩).flatMap blV) RA) ∧ Hp w.heap.size w wr (⟨b1, [.int .i64 q, .int .i64 r], 64, 2⟩ :: RA))
  case atStart => exact ⟨0, [], by omega, rfl, Lib.hid (OwnRow.nil _ _), hp⟩
  case round =>
    clear hp
    obtain ⟨j, RA, hkj, rfl, HRA, hp⟩ := hrel
    by_cases hlt : j < l.length
    · obtain ⟨bq, off, rfl, hx⟩ := HA.out.elems 2 blV_len (by omega) (by omega)
      have hj := List.getElem?_eq_getElem hlt
      replace hx := hx j _ hj
      generalize l[j] = x at hx hj
      obtain ⟨p, o⟩ := x
      simp only [blV] at hx
      have HX := Lib.hid hx
      have HJ := Lib.hid hj
      have hwl : (without (l.take j) ⟨q, r⟩).length ≤ l.length := by have h1 := (without_sub (l.take j) ⟨q, r⟩).length_le; rw [List.length_take] at h1; omega
      have sm1 : (without (l.take j) ⟨q, r⟩).length + 1 ≤ maxLen := by unfold maxLen; omega
      have sm2 : ((without (l.take j) ⟨q, r⟩).length + 1) * 16 ≤ 140737488355328 := by omega
      clear hx hj hwl
      have e1 : (0 : Int) ≤ (j : Int) := by omega
      have e2 : (j : Int) < (l.length : Int) := by omega
      by_cases hpq : p = q
      · subst hpq
        by_cases hor : o = r
        · subst hor
          go_wp2_with (first | go_skip | ((first | ((with_reducible refine pre_alloc _ rfl ?_); refine lZ hp rfl zero64 ?_; clear hp; intro b w1 hp) | ((with_reducible refine pre_box _ _ rfl ?_); refine lB hp rfl (slot_tmp rfl) rfl ?_; clear hp; intro b w1 hp) | ((with_reducible refine pre_load _ _ rfl ?_); first | refine lO hp rfl (slot_tmp rfl) ceRR0 aa5 ?_ | first | refine lRO hp rfl (slot_tmp rfl) ceRR0 (HX.out 0 _ rfl) ?_ | refine lA hp rfl (slot_tmp rfl) agg64 aa5 ?_ | refine lR hp rfl (slot_tmp rfl) agg64 HX.out ?_) | ((with_reducible refine pre_store _ _ _ rfl ?_); (first | refine sO hp rfl (slot_tmp rfl) ceRR0 aa5 ?_ | refine sA hp rfl (slot_tmp rfl) (slot_tmp rfl) agg64 aa5 ?_ | refine sG hp rfl (slot_tmp rfl) (slot_tmp rfl) agg64 aa5 ?_); clear hp; intro w1 hp; simp only [spl, List.set_cons_zero, List.set_cons_succ] at hp) | ((with_reducible refine pre_build _ _ _ rfl ?_); refine lS hp rfl (by intro w; go_simp; rfl) ?_; clear hp; intro b w1 hp; simp only [List.length_cons, List.length_nil, Nat.reduceAdd] at hp)); simp only [put_some, put_none, List.set_cons_succ, List.set_cons_zero]))
          refine wp_region_keeps [_] (Keeps.one hp.drew at0) [] [(0, true), (1, true), (2, true), (3, true), (4, true), (5, true)] (by kernel_rfl) (by kernel_rfl) rfl (by kernel_rfl) (fun _ _ d _ _ h => by cases d <;> exact h) ?_
          replace hp := hp.drew
          repeat' (with_reducible refine plan_is ?_); first | (with_reducible refine plan_nil ?_) | ((with_reducible refine plan_t ?_); refine plan_tk rfl ?_; (first | ((with_reducible refine tk_mv _ rfl ?_); refine tM rfl ?_) | ((with_reducible refine tk_ld _ _ rfl ?_); first | refine tA rfl (slot_tmp rfl) agg64 aa5 ?_ | refine tR rfl (slot_tmp rfl) agg64 HX.out ?_) | refine tG (fun w _ => (by go_simp; try rfl)) ?_); try simp only [put_some, put_none, eval_tmp, eval_const, List.set_cons_succ, List.set_cons_zero, List.getD_cons_succ, List.getD_cons_zero, wrap_eq])
          go_wp2_with fail
          go_roundg (gk - 1)
          case measure => omega
          case rel => exact ⟨j + 1, RA, by omega, by go_num, Lib.hid (by rw [without_same HJ.out rfl]; exact HRA.out), hp⟩
        · have HW := Lib.hid (without_snoc (v := ⟨p, r⟩) HJ.out (by intro h; injection h with h1 h2; exact hor h2))
          have e3 : (o == r) = false := by simpa using hor
          have e3' : (o != r) = true := by simpa using hor
          clear hor
          go_wp2_with (first | go_skip | ((first | ((with_reducible refine pre_alloc _ rfl ?_); refine lZ hp rfl zero64 ?_; clear hp; intro b w1 hp) | ((with_reducible refine pre_box _ _ rfl ?_); refine lB hp rfl (slot_tmp rfl) rfl ?_; clear hp; intro b w1 hp) | ((with_reducible refine pre_load _ _ rfl ?_); first | refine lO hp rfl (slot_tmp rfl) ceRR0 aa5 ?_ | first | refine lRO hp rfl (slot_tmp rfl) ceRR0 (HX.out 0 _ rfl) ?_ | refine lA hp rfl (slot_tmp rfl) agg64 aa5 ?_ | refine lR hp rfl (slot_tmp rfl) agg64 HX.out ?_) | ((with_reducible refine pre_store _ _ _ rfl ?_); (first | refine sO hp rfl (slot_tmp rfl) ceRR0 aa5 ?_ | refine sA hp rfl (slot_tmp rfl) (slot_tmp rfl) agg64 aa5 ?_ | refine sG hp rfl (slot_tmp rfl) (slot_tmp rfl) agg64 aa5 ?_); clear hp; intro w1 hp; simp only [spl, List.set_cons_zero, List.set_cons_succ] at hp) | ((with_reducible refine pre_build _ _ _ rfl ?_); refine lS hp rfl (by intro w; go_simp; rfl) ?_; clear hp; intro b w1 hp; simp only [List.length_cons, List.length_nil, Nat.reduceAdd] at hp)); simp only [put_some, put_none, List.set_cons_succ, List.set_cons_zero]))
          refine wp_region_keeps [_] (Keeps.one hp.drew at0) [] [(0, true), (1, true), (2, true), (3, true), (4, true), (5, true)] (by kernel_rfl) (by kernel_rfl) rfl (by kernel_rfl) (fun _ _ d _ _ h => by cases d <;> exact h) ?_
          replace hp := hp.drew
          repeat' (with_reducible refine plan_is ?_); first | (with_reducible refine plan_nil ?_) | ((with_reducible refine plan_t ?_); refine plan_tk rfl ?_; (first | ((with_reducible refine tk_mv _ rfl ?_); refine tM rfl ?_) | ((with_reducible refine tk_ld _ _ rfl ?_); first | refine tA rfl (slot_tmp rfl) agg64 aa5 ?_ | refine tR rfl (slot_tmp rfl) agg64 HX.out ?_) | refine tG (fun w _ => (by go_simp; try rfl)) ?_); try simp only [put_some, put_none, eval_tmp, eval_const, List.set_cons_succ, List.set_cons_zero, List.getD_cons_succ, List.getD_cons_zero, wrap_eq])
          go_wp2_with (first | ((with_reducible refine pre_append _ _ 24 rfl ?_); refine wpList_appendGrow (K := [_]) (R := RA) (M := []) (hp.reorder (by rw [List.append_nil]; exact List.Perm.refl _)) _ _ _ rfl wy i0 _ 16 Tryz.underlying24 hi0 hz0 hz1 hz2 rfl (by decide) (slot_tmp rfl) HRA.out 1 1 (slot_tmp rfl) (by rfl) (by decide) (by rfl) (by first | exact sm1 | exact sm3) (by first | exact sm2 | exact sm4) ?_; clear hp HRA; intro va' RA w1 hra hp; have HRA := Lib.hid hra; clear hra; rw [List.append_nil] at hp; simp only [List.cons_append, List.nil_append] at hp; simp only [put_some, put_none, List.set_cons_succ, List.set_cons_zero]) | go_skip | ((first | ((with_reducible refine pre_alloc _ rfl ?_); refine lZ hp rfl zero64 ?_; clear hp; intro b w1 hp) | ((with_reducible refine pre_box _ _ rfl ?_); refine lB hp rfl (slot_tmp rfl) rfl ?_; clear hp; intro b w1 hp) | ((with_reducible refine pre_load _ _ rfl ?_); first | refine lO hp rfl (slot_tmp rfl) ceRR0 aa5 ?_ | first | refine lRO hp rfl (slot_tmp rfl) ceRR0 (HX.out 0 _ rfl) ?_ | refine lA hp rfl (slot_tmp rfl) agg64 aa5 ?_ | refine lR hp rfl (slot_tmp rfl) agg64 HX.out ?_) | ((with_reducible refine pre_store _ _ _ rfl ?_); (first | refine sO hp rfl (slot_tmp rfl) ceRR0 aa5 ?_ | refine sA hp rfl (slot_tmp rfl) (slot_tmp rfl) agg64 aa5 ?_ | refine sG hp rfl (slot_tmp rfl) (slot_tmp rfl) agg64 aa5 ?_); clear hp; intro w1 hp; simp only [spl, List.set_cons_zero, List.set_cons_succ] at hp) | ((with_reducible refine pre_build _ _ _ rfl ?_); refine lS hp rfl (by intro w; go_simp; rfl) ?_; clear hp; intro b w1 hp; simp only [List.length_cons, List.length_nil, Nat.reduceAdd] at hp)); simp only [put_some, put_none, List.set_cons_succ, List.set_cons_zero]))
          go_roundg (gk - 1)
          case measure => omega
          case rel => exact ⟨j + 1, RA, by omega, by go_num, Lib.hid (by rw [HW.out, List.length_append, List.flatMap_append]; exact HRA.out), hp⟩
      · have HW := Lib.hid (without_snoc (v := ⟨q, r⟩) HJ.out (by intro h; injection h with h1 h2; exact hpq h1))
        have e3 : (p == q) = false := by simpa using hpq
        have e3' : (p != q) = true := by simpa using hpq
        clear hpq
        go_wp2_with (first | go_skip | ((first | ((with_reducible refine pre_alloc _ rfl ?_); refine lZ hp rfl zero64 ?_; clear hp; intro b w1 hp) | ((with_reducible refine pre_box _ _ rfl ?_); refine lB hp rfl (slot_tmp rfl) rfl ?_; clear hp; intro b w1 hp) | ((with_reducible refine pre_load _ _ rfl ?_); first | refine lO hp rfl (slot_tmp rfl) ceRR0 aa5 ?_ | first | refine lRO hp rfl (slot_tmp rfl) ceRR0 (HX.out 0 _ rfl) ?_ | refine lA hp rfl (slot_tmp rfl) agg64 aa5 ?_ | refine lR hp rfl (slot_tmp rfl) agg64 HX.out ?_) | ((with_reducible refine pre_store _ _ _ rfl ?_); (first | refine sO hp rfl (slot_tmp rfl) ceRR0 aa5 ?_ | refine sA hp rfl (slot_tmp rfl) (slot_tmp rfl) agg64 aa5 ?_ | refine sG hp rfl (slot_tmp rfl) (slot_tmp rfl) agg64 aa5 ?_); clear hp; intro w1 hp; simp only [spl, List.set_cons_zero, List.set_cons_succ] at hp) | ((with_reducible refine pre_build _ _ _ rfl ?_); refine lS hp rfl (by intro w; go_simp; rfl) ?_; clear hp; intro b w1 hp; simp only [List.length_cons, List.length_nil, Nat.reduceAdd] at hp)); simp only [put_some, put_none, List.set_cons_succ, List.set_cons_zero]))
        refine wp_region_keeps [_] (Keeps.one hp.drew at0) [] [(0, true), (1, true), (2, true), (3, true), (4, true), (5, true)] (by kernel_rfl) (by kernel_rfl) rfl (by kernel_rfl) (fun _ _ d _ _ h => by cases d <;> exact h) ?_
        replace hp := hp.drew
        repeat' (with_reducible refine plan_is ?_); first | (with_reducible refine plan_nil ?_) | ((with_reducible refine plan_t ?_); refine plan_tk rfl ?_; (first | ((with_reducible refine tk_mv _ rfl ?_); refine tM rfl ?_) | ((with_reducible refine tk_ld _ _ rfl ?_); first | refine tA rfl (slot_tmp rfl) agg64 aa5 ?_ | refine tR rfl (slot_tmp rfl) agg64 HX.out ?_) | refine tG (fun w _ => (by go_simp; try rfl)) ?_); try simp only [put_some, put_none, eval_tmp, eval_const, List.set_cons_succ, List.set_cons_zero, List.getD_cons_succ, List.getD_cons_zero, wrap_eq])
        go_wp2_with (first | ((with_reducible refine pre_append _ _ 24 rfl ?_); refine wpList_appendGrow (K := [_]) (R := RA) (M := []) (hp.reorder (by rw [List.append_nil]; exact List.Perm.refl _)) _ _ _ rfl wy i0 _ 16 Tryz.underlying24 hi0 hz0 hz1 hz2 rfl (by decide) (slot_tmp rfl) HRA.out 1 1 (slot_tmp rfl) (by rfl) (by decide) (by rfl) (by first | exact sm1 | exact sm3) (by first | exact sm2 | exact sm4) ?_; clear hp HRA; intro va' RA w1 hra hp; have HRA := Lib.hid hra; clear hra; rw [List.append_nil] at hp; simp only [List.cons_append, List.nil_append] at hp; simp only [put_some, put_none, List.set_cons_succ, List.set_cons_zero]) | go_skip | ((first | ((with_reducible refine pre_alloc _ rfl ?_); refine lZ hp rfl zero64 ?_; clear hp; intro b w1 hp) | ((with_reducible refine pre_box _ _ rfl ?_); refine lB hp rfl (slot_tmp rfl) rfl ?_; clear hp; intro b w1 hp) | ((with_reducible refine pre_load _ _ rfl ?_); first | refine lO hp rfl (slot_tmp rfl) ceRR0 aa5 ?_ | first | refine lRO hp rfl (slot_tmp rfl) ceRR0 (HX.out 0 _ rfl) ?_ | refine lA hp rfl (slot_tmp rfl) agg64 aa5 ?_ | refine lR hp rfl (slot_tmp rfl) agg64 HX.out ?_) | ((with_reducible refine pre_store _ _ _ rfl ?_); (first | refine sO hp rfl (slot_tmp rfl) ceRR0 aa5 ?_ | refine sA hp rfl (slot_tmp rfl) (slot_tmp rfl) agg64 aa5 ?_ | refine sG hp rfl (slot_tmp rfl) (slot_tmp rfl) agg64 aa5 ?_); clear hp; intro w1 hp; simp only [spl, List.set_cons_zero, List.set_cons_succ] at hp) | ((with_reducible refine pre_build _ _ _ rfl ?_); refine lS hp rfl (by intro w; go_simp; rfl) ?_; clear hp; intro b w1 hp; simp only [List.length_cons, List.length_nil, Nat.reduceAdd] at hp)); simp only [put_some, put_none, List.set_cons_succ, List.set_cons_zero]))
        go_roundg (gk - 1)
        case measure => omega
        case rel => exact ⟨j + 1, RA, by omega, by go_num, Lib.hid (by rw [HW.out, List.length_append, List.flatMap_append]; exact HRA.out), hp⟩
    · have e2 : decide ((j : Int) < (l.length : Int)) = false := by simp; omega
      rw [List.take_of_length_le (by omega)] at HRA
      go_wp2_with fail
      go_ret
      exact ⟨_, RA, rfl, HRA.out, hp.tail⟩
set_option maxRecDepth 100000 in
set_option maxHeartbeats 4000000 in
theorem in142 (l : List Bl) (a : Option Addr) (c : Nat) (hl : l.length ≤ 1000) (q r : Int) (w : World) (ha : RowIs w a (l.flatMap blV)) : Calls Tryz.prog 142 #[.slice a l.length c, .agg #[.int .i64 q, .int .i64 r]] w fun e w' => e = .returned (.bool (decide ((⟨q, r⟩ : Bl) ∈ l))) ∧ Below w.heap.size w w' := by
  have hp := Hp.start w
  have HA := Lib.hid ha
  clear ha
  go_enter Tryz.func142, Tryz.ntmps142
  go_wp2_with (first | go_skip | ((first | ((with_reducible refine pre_alloc _ rfl ?_); refine lZ hp rfl zero64 ?_; clear hp; intro b w1 hp) | ((with_reducible refine pre_box _ _ rfl ?_); refine lB hp rfl (slot_tmp rfl) rfl ?_; clear hp; intro b w1 hp) | ((with_reducible refine pre_load _ _ rfl ?_); first | refine lO hp rfl (slot_tmp rfl) ceRR0 aa5 ?_ | refine lA hp rfl (slot_tmp rfl) agg64 aa5 ?_) | ((with_reducible refine pre_store _ _ _ rfl ?_); (first | refine sO hp rfl (slot_tmp rfl) ceRR0 aa5 ?_ | refine sA hp rfl (slot_tmp rfl) (slot_tmp rfl) agg64 aa5 ?_ | refine sG hp rfl (slot_tmp rfl) (slot_tmp rfl) agg64 aa5 ?_); clear hp; intro w1 hp; simp only [spl, List.set_cons_zero, List.set_cons_succ] at hp) | ((with_reducible refine pre_build _ _ _ rfl ?_); refine lS hp rfl (by intro w; go_simp; rfl) ?_; clear hp; intro b w1 hp; simp only [List.length_cons, List.length_nil, Nat.reduceAdd] at hp)); simp only [put_some, put_none, List.set_cons_succ, List.set_cons_zero]))
  obtain ⟨b1, rfl⟩ := hp.id0
  go_loopg [5] l.length (fun k i wr => ∃ (j : Nat), k + j = l.length ∧ i = .int .i64 j ∧ RowKit.Hid ((⟨q, r⟩ : Bl) ∉ l.take j) ∧ Hp w.heap.size w wr [⟨b1, [.int .i64 q, .int .i64 r], 64, 2⟩])
  case atStart => exact ⟨0, by omega, rfl, Lib.hid (by simp), hp⟩
  case round =>
    clear hp
    obtain ⟨j, hkj, rfl, HG, hp⟩ := hrel
    by_cases hlt : j < l.length
    · obtain ⟨bq, off, rfl, hx⟩ := HA.out.elems 2 blV_len (by omega) (by omega)
      have hj := List.getElem?_eq_getElem hlt
      replace hx := hx j _ hj
      generalize l[j] = x at hx hj
      obtain ⟨p, o⟩ := x
      simp only [blV] at hx
      have HX := Lib.hid hx
      have HJ := Lib.hid hj
      clear hx hj
      have e1 : (0 : Int) ≤ (j : Int) := by omega
      have e2 : (j : Int) < (l.length : Int) := by omega
      by_cases hpq : p = q
      · subst hpq
        by_cases hor : o = r
        · subst hor
          go_wp2_with (first | go_skip | ((first | ((with_reducible refine pre_alloc _ rfl ?_); refine lZ hp rfl zero64 ?_; clear hp; intro b w1 hp) | ((with_reducible refine pre_box _ _ rfl ?_); refine lB hp rfl (slot_tmp rfl) rfl ?_; clear hp; intro b w1 hp) | ((with_reducible refine pre_load _ _ rfl ?_); first | refine lO hp rfl (slot_tmp rfl) ceRR0 aa5 ?_ | first | refine lRO hp rfl (slot_tmp rfl) ceRR0 (HX.out 0 _ rfl) ?_ | refine lA hp rfl (slot_tmp rfl) agg64 aa5 ?_ | refine lR hp rfl (slot_tmp rfl) agg64 HX.out ?_) | ((with_reducible refine pre_store _ _ _ rfl ?_); (first | refine sO hp rfl (slot_tmp rfl) ceRR0 aa5 ?_ | refine sA hp rfl (slot_tmp rfl) (slot_tmp rfl) agg64 aa5 ?_ | refine sG hp rfl (slot_tmp rfl) (slot_tmp rfl) agg64 aa5 ?_); clear hp; intro w1 hp; simp only [spl, List.set_cons_zero, List.set_cons_succ] at hp) | ((with_reducible refine pre_build _ _ _ rfl ?_); refine lS hp rfl (by intro w; go_simp; rfl) ?_; clear hp; intro b w1 hp; simp only [List.length_cons, List.length_nil, Nat.reduceAdd] at hp)); simp only [put_some, put_none, List.set_cons_succ, List.set_cons_zero]))
          refine wp_region_keeps [_] (Keeps.one hp.drew at0) [] [(0, true), (1, true), (2, true), (3, true), (4, true), (5, true)] (by kernel_rfl) (by kernel_rfl) rfl (by kernel_rfl) (fun _ _ d _ _ h => by cases d <;> exact h) ?_
          replace hp := hp.drew
          repeat' (with_reducible refine plan_is ?_); first | (with_reducible refine plan_nil ?_) | ((with_reducible refine plan_t ?_); refine plan_tk rfl ?_; (first | ((with_reducible refine tk_mv _ rfl ?_); refine tM rfl ?_) | ((with_reducible refine tk_ld _ _ rfl ?_); first | refine tA rfl (slot_tmp rfl) agg64 aa5 ?_ | refine tR rfl (slot_tmp rfl) agg64 HX.out ?_) | refine tG (fun w _ => (by go_simp; try rfl)) ?_); try simp only [put_some, put_none, eval_tmp, eval_const, List.set_cons_succ, List.set_cons_zero, List.getD_cons_succ, List.getD_cons_zero, wrap_eq])
          go_wp2_with fail
          go_ret
          exact ⟨ret_bool (by simp [List.mem_of_getElem? HJ.out]), hp.below⟩
        · have HOR := Lib.hid hor
          have e3 : (o == r) = false := by simpa using hor
          clear hor
          go_wp2_with (first | go_skip | ((first | ((with_reducible refine pre_alloc _ rfl ?_); refine lZ hp rfl zero64 ?_; clear hp; intro b w1 hp) | ((with_reducible refine pre_box _ _ rfl ?_); refine lB hp rfl (slot_tmp rfl) rfl ?_; clear hp; intro b w1 hp) | ((with_reducible refine pre_load _ _ rfl ?_); first | refine lO hp rfl (slot_tmp rfl) ceRR0 aa5 ?_ | first | refine lRO hp rfl (slot_tmp rfl) ceRR0 (HX.out 0 _ rfl) ?_ | refine lA hp rfl (slot_tmp rfl) agg64 aa5 ?_ | refine lR hp rfl (slot_tmp rfl) agg64 HX.out ?_) | ((with_reducible refine pre_store _ _ _ rfl ?_); (first | refine sO hp rfl (slot_tmp rfl) ceRR0 aa5 ?_ | refine sA hp rfl (slot_tmp rfl) (slot_tmp rfl) agg64 aa5 ?_ | refine sG hp rfl (slot_tmp rfl) (slot_tmp rfl) agg64 aa5 ?_); clear hp; intro w1 hp; simp only [spl, List.set_cons_zero, List.set_cons_succ] at hp) | ((with_reducible refine pre_build _ _ _ rfl ?_); refine lS hp rfl (by intro w; go_simp; rfl) ?_; clear hp; intro b w1 hp; simp only [List.length_cons, List.length_nil, Nat.reduceAdd] at hp)); simp only [put_some, put_none, List.set_cons_succ, List.set_cons_zero]))
          refine wp_region_keeps [_] (Keeps.one hp.drew at0) [] [(0, true), (1, true), (2, true), (3, true), (4, true), (5, true)] (by kernel_rfl) (by kernel_rfl) rfl (by kernel_rfl) (fun _ _ d _ _ h => by cases d <;> exact h) ?_
          replace hp := hp.drew
          repeat' (with_reducible refine plan_is ?_); first | (with_reducible refine plan_nil ?_) | ((with_reducible refine plan_t ?_); refine plan_tk rfl ?_; (first | ((with_reducible refine tk_mv _ rfl ?_); refine tM rfl ?_) | ((with_reducible refine tk_ld _ _ rfl ?_); first | refine tA rfl (slot_tmp rfl) agg64 aa5 ?_ | refine tR rfl (slot_tmp rfl) agg64 HX.out ?_) | refine tG (fun w _ => (by go_simp; try rfl)) ?_); try simp only [put_some, put_none, eval_tmp, eval_const, List.set_cons_succ, List.set_cons_zero, List.getD_cons_succ, List.getD_cons_zero, wrap_eq])
          go_wp2_with fail
          go_roundg (gk - 1)
          case measure => omega
          case rel =>
            refine ⟨j + 1, by omega, by go_num, Lib.hid (fun hm => ?_), hp⟩
            rw [List.take_add_one, HJ.out] at hm
            rcases List.mem_append.1 hm with hm | hm
            · exact HG.out hm
            · simp at hm; exact HOR.out hm.symm
      · have HPQ := Lib.hid hpq
        have e3 : (p == q) = false := by simpa using hpq
        clear hpq
        go_wp2_with (first | go_skip | ((first | ((with_reducible refine pre_alloc _ rfl ?_); refine lZ hp rfl zero64 ?_; clear hp; intro b w1 hp) | ((with_reducible refine pre_box _ _ rfl ?_); refine lB hp rfl (slot_tmp rfl) rfl ?_; clear hp; intro b w1 hp) | ((with_reducible refine pre_load _ _ rfl ?_); first | refine lO hp rfl (slot_tmp rfl) ceRR0 aa5 ?_ | first | refine lRO hp rfl (slot_tmp rfl) ceRR0 (HX.out 0 _ rfl) ?_ | refine lA hp rfl (slot_tmp rfl) agg64 aa5 ?_ | refine lR hp rfl (slot_tmp rfl) agg64 HX.out ?_) | ((with_reducible refine pre_store _ _ _ rfl ?_); (first | refine sO hp rfl (slot_tmp rfl) ceRR0 aa5 ?_ | refine sA hp rfl (slot_tmp rfl) (slot_tmp rfl) agg64 aa5 ?_ | refine sG hp rfl (slot_tmp rfl) (slot_tmp rfl) agg64 aa5 ?_); clear hp; intro w1 hp; simp only [spl, List.set_cons_zero, List.set_cons_succ] at hp) | ((with_reducible refine pre_build _ _ _ rfl ?_); refine lS hp rfl (by intro w; go_simp; rfl) ?_; clear hp; intro b w1 hp; simp only [List.length_cons, List.length_nil, Nat.reduceAdd] at hp)); simp only [put_some, put_none, List.set_cons_succ, List.set_cons_zero]))
        refine wp_region_keeps [_] (Keeps.one hp.drew at0) [] [(0, true), (1, true), (2, true), (3, true), (4, true), (5, true)] (by kernel_rfl) (by kernel_rfl) rfl (by kernel_rfl) (fun _ _ d _ _ h => by cases d <;> exact h) ?_
        replace hp := hp.drew
        repeat' (with_reducible refine plan_is ?_); first | (with_reducible refine plan_nil ?_) | ((with_reducible refine plan_t ?_); refine plan_tk rfl ?_; (first | ((with_reducible refine tk_mv _ rfl ?_); refine tM rfl ?_) | ((with_reducible refine tk_ld _ _ rfl ?_); first | refine tA rfl (slot_tmp rfl) agg64 aa5 ?_ | refine tR rfl (slot_tmp rfl) agg64 HX.out ?_) | refine tG (fun w _ => (by go_simp; try rfl)) ?_); try simp only [put_some, put_none, eval_tmp, eval_const, List.set_cons_succ, List.set_cons_zero, List.getD_cons_succ, List.getD_cons_zero, wrap_eq])
        go_wp2_with fail
        go_roundg (gk - 1)
        case measure => omega
        case rel =>
          refine ⟨j + 1, by omega, by go_num, Lib.hid (fun hm => ?_), hp⟩
          rw [List.take_add_one, HJ.out] at hm
          rcases List.mem_append.1 hm with hm | hm
          · exact HG.out hm
          · simp at hm; exact HPQ.out hm.1.symm
    · have e2 : decide ((j : Int) < (l.length : Int)) = false := by simp; omega
      go_wp2_with fail
      go_ret
      exact ⟨ret_bool (by have h := HG.out; rw [List.take_of_length_le (by omega)] at h; simp [h]), hp.below⟩
def WithAt (l : List Bl) (b : Bl) (j : Nat) (inn : Bool) (out : List Bl) : Prop := (inn = false → withL l b = out ++ withL (l.drop j) b) ∧ (inn = true → withL l b = out ++ l.drop j) ∧ out.length ≤ j + 1 ∧ (inn = false → out.length ≤ j)
theorem WithAt.here {l : List Bl} {b x : Bl} {j : Nat} {out : List Bl} (h : WithAt l b j false out) (hx : l[j]? = some x) (hb : b.p < x.p) : WithAt l b (j + 1) true (out ++ [b] ++ [x]) := by
  obtain ⟨hj, rfl⟩ := List.getElem?_eq_some_iff.1 hx
  refine ⟨fun h => (by cases h), fun _ => ?_, by have := h.2.2.2 rfl; simp; omega, fun h => (by cases h)⟩
  rw [h.1 rfl, List.drop_eq_getElem_cons hj, withL, if_pos hb]; simp
theorem WithAt.pass {l : List Bl} {b x : Bl} {j : Nat} {out : List Bl} (h : WithAt l b j false out) (hx : l[j]? = some x) (hb : ¬ b.p < x.p) : WithAt l b (j + 1) false (out ++ [x]) := by
  obtain ⟨hj, rfl⟩ := List.getElem?_eq_some_iff.1 hx
  refine ⟨fun _ => ?_, fun h => (by cases h), by have := h.2.2.1; simp; omega, fun _ => by have := h.2.2.2 rfl; simp; omega⟩
  rw [h.1 rfl, List.drop_eq_getElem_cons hj, withL, if_neg hb]; simp
theorem WithAt.on {l : List Bl} {b x : Bl} {j : Nat} {out : List Bl} (h : WithAt l b j true out) (hx : l[j]? = some x) : WithAt l b (j + 1) true (out ++ [x]) := by
  obtain ⟨hj, rfl⟩ := List.getElem?_eq_some_iff.1 hx
  refine ⟨fun h => (by cases h), fun _ => ?_, by have := h.2.2.1; simp; omega, fun h => (by cases h)⟩
  rw [h.2.1 rfl, List.drop_eq_getElem_cons hj]; simp
theorem app_one (l : List Bl) (x : Bl) : (l ++ [x]).flatMap blV = l.flatMap blV ++ blV x := by simp [List.flatMap_append]
set_option maxRecDepth 100000 in
set_option maxHeartbeats 4000000 in
theorem with121 (l : List Bl) (a : Option Addr) (c : Nat) (hl : l.length ≤ 1000) (q r : Int) (w : World) (ha : RowIs w a (l.flatMap blV)) : Calls Tryz.prog 121 #[.slice a l.length c, .agg #[.int .i64 q, .int .i64 r]] w (ClonePostBl w (withL l ⟨q, r⟩).length ((withL l ⟨q, r⟩).flatMap blV)) := by
  obtain ⟨i0, hi0, hz0, hz1, hz2⟩ := info_parts info64
  have hp := Hp.start w
  have HA := Lib.hid ha
  clear ha
  go_enter Tryz.func121, Tryz.ntmps121
  go_wp2_with (first | go_skip | ((first | ((with_reducible refine pre_alloc _ rfl ?_); refine lZ hp rfl zero64 ?_; clear hp; intro b w1 hp) | ((with_reducible refine pre_box _ _ rfl ?_); refine lB hp rfl (slot_tmp rfl) rfl ?_; clear hp; intro b w1 hp) | ((with_reducible refine pre_load _ _ rfl ?_); first | refine lO hp rfl (slot_tmp rfl) ceRR0 aa5 ?_ | refine lA hp rfl (slot_tmp rfl) agg64 aa5 ?_) | ((with_reducible refine pre_store _ _ _ rfl ?_); (first | refine sO hp rfl (slot_tmp rfl) ceRR0 aa5 ?_ | refine sA hp rfl (slot_tmp rfl) (slot_tmp rfl) agg64 aa5 ?_ | refine sG hp rfl (slot_tmp rfl) (slot_tmp rfl) agg64 aa5 ?_); clear hp; intro w1 hp; simp only [spl, List.set_cons_zero, List.set_cons_succ] at hp) | ((with_reducible refine pre_build _ _ _ rfl ?_); refine lS hp rfl (by intro w; go_simp; rfl) ?_; clear hp; intro b w1 hp; simp only [List.length_cons, List.length_nil, Nat.reduceAdd] at hp)); simp only [put_some, put_none, List.set_cons_succ, List.set_cons_zero]))
  obtain ⟨b1, rfl⟩ := hp.id0
  go_loopg [5, 6, 7] l.length (fun k v f i wr => ∃ (j : Nat) (inn : Bool) (out : List Bl) (RA : List Blk), k + j = l.length ∧ f = .bool inn ∧ i = .int .i64 j ∧ RowKit.Hid (WithAt l ⟨q, r⟩ j inn out) ∧ RowKit.Hid (OwnRow 64 2 v out.length (out.flatMap blV) RA) ∧ Hp w.heap.size w wr (⟨b1, [.int .i64 q, .int .i64 r], 64, 2⟩ :: RA))
  case atStart => exact ⟨0, false, [], [], by omega, rfl, rfl, Lib.hid ⟨fun _ => rfl, fun h => (by cases h), by simp, fun _ => by simp⟩, Lib.hid (OwnRow.nil _ _), hp⟩
  case round =>
    clear hp
    obtain ⟨j, inn, out, RA, hkj, rfl, rfl, HWA, HRA, hp⟩ := hrel
    by_cases hlt : j < l.length
    · obtain ⟨bq, off, rfl, hx⟩ := HA.out.elems 2 blV_len (by omega) (by omega)
      have hj := List.getElem?_eq_getElem hlt
      replace hx := hx j _ hj
      generalize l[j] = x at hx hj
      obtain ⟨p, o⟩ := x
      simp only [blV] at hx
      have HX := Lib.hid hx
      have HJ := Lib.hid hj
      have hol := HWA.out.2.2.1
      have sm1 : out.length + 1 ≤ maxLen := by unfold maxLen; omega
      have sm2 : (out.length + 1) * 16 ≤ 140737488355328 := by omega
      have sm3 : out.length + 1 + 1 ≤ maxLen := by unfold maxLen; omega
      have sm4 : (out.length + 1 + 1) * 16 ≤ 140737488355328 := by omega
      clear hx hj hol
      have e1 : (0 : Int) ≤ (j : Int) := by omega
      have e2 : (j : Int) < (l.length : Int) := by omega
      cases inn
      · by_cases hqp : q < p
        · have HN := Lib.hid (HWA.out.here HJ.out hqp)
          have e3 : decide (q < p) = true := decide_eq_true hqp
          clear hqp
          go_wp2_with (first | go_skip | ((first | ((with_reducible refine pre_alloc _ rfl ?_); refine lZ hp rfl zero64 ?_; clear hp; intro b w1 hp) | ((with_reducible refine pre_box _ _ rfl ?_); refine lB hp rfl (slot_tmp rfl) rfl ?_; clear hp; intro b w1 hp) | ((with_reducible refine pre_load _ _ rfl ?_); first | refine lO hp rfl (slot_tmp rfl) ceRR0 aa5 ?_ | first | refine lRO hp rfl (slot_tmp rfl) ceRR0 (HX.out 0 _ rfl) ?_ | refine lA hp rfl (slot_tmp rfl) agg64 aa5 ?_ | refine lR hp rfl (slot_tmp rfl) agg64 HX.out ?_) | ((with_reducible refine pre_store _ _ _ rfl ?_); (first | refine sO hp rfl (slot_tmp rfl) ceRR0 aa5 ?_ | refine sA hp rfl (slot_tmp rfl) (slot_tmp rfl) agg64 aa5 ?_ | refine sG hp rfl (slot_tmp rfl) (slot_tmp rfl) agg64 aa5 ?_); clear hp; intro w1 hp; simp only [spl, List.set_cons_zero, List.set_cons_succ] at hp) | ((with_reducible refine pre_build _ _ _ rfl ?_); refine lS hp rfl (by intro w; go_simp; rfl) ?_; clear hp; intro b w1 hp; simp only [List.length_cons, List.length_nil, Nat.reduceAdd] at hp)); simp only [put_some, put_none, List.set_cons_succ, List.set_cons_zero]))
          refine wp_region_keeps [_] (Keeps.one hp.drew at0) [] [(0, true), (1, true), (2, true), (3, true), (4, true), (5, true), (6, true), (7, true), (8, true), (9, true), (10, true), (11, true)] (by kernel_rfl) (by kernel_rfl) rfl (by kernel_rfl) (fun _ _ d _ _ h => by cases d <;> exact h) ?_
          replace hp := hp.drew
          repeat' (with_reducible refine plan_is ?_); first | (with_reducible refine plan_nil ?_) | ((with_reducible refine plan_t ?_); refine plan_tk rfl ?_; (first | ((with_reducible refine tk_gd _ _ rfl ?_); refine tS (wanted_no rfl rfl rfl rfl) ?_) | ((with_reducible refine tk_mv _ rfl ?_); refine tM rfl ?_) | ((with_reducible refine tk_ld _ _ rfl ?_); first | refine tO rfl (slot_tmp rfl) cell3 aa5 ?_ | refine tRO rfl (slot_tmp rfl) cell3 (HX.out 0 _ rfl) ?_) | refine tG (fun w _ => (by go_simp; try rfl)) ?_); try simp only [put_some, put_none, eval_tmp, eval_const, List.set_cons_succ, List.set_cons_zero, List.getD_cons_succ, List.getD_cons_zero, wrap_eq])
          go_wp2_with (first | ((with_reducible refine pre_append _ _ 24 rfl ?_); refine wpList_appendGrow (K := [_]) (R := RA) (M := []) (hp.reorder (by rw [List.append_nil]; exact List.Perm.refl _)) _ _ _ rfl wy i0 _ 16 Tryz.underlying24 hi0 hz0 hz1 hz2 rfl (by decide) (slot_tmp rfl) HRA.out 1 1 (slot_tmp rfl) (by rfl) (by decide) (by rfl) (by first | exact sm1 | exact sm3) (by first | exact sm2 | exact sm4) ?_; clear hp HRA; intro va' RA w1 hra hp; have HRA := Lib.hid hra; clear hra; rw [List.append_nil] at hp; simp only [List.cons_append, List.nil_append] at hp; simp only [put_some, put_none, List.set_cons_succ, List.set_cons_zero]) | go_skip | ((first | ((with_reducible refine pre_alloc _ rfl ?_); refine lZ hp rfl zero64 ?_; clear hp; intro b w1 hp) | ((with_reducible refine pre_box _ _ rfl ?_); refine lB hp rfl (slot_tmp rfl) rfl ?_; clear hp; intro b w1 hp) | ((with_reducible refine pre_load _ _ rfl ?_); first | refine lO hp rfl (slot_tmp rfl) ceRR0 aa5 ?_ | first | refine lRO hp rfl (slot_tmp rfl) ceRR0 (HX.out 0 _ rfl) ?_ | refine lA hp rfl (slot_tmp rfl) agg64 aa5 ?_ | refine lR hp rfl (slot_tmp rfl) agg64 HX.out ?_) | ((with_reducible refine pre_store _ _ _ rfl ?_); (first | refine sO hp rfl (slot_tmp rfl) ceRR0 aa5 ?_ | refine sA hp rfl (slot_tmp rfl) (slot_tmp rfl) agg64 aa5 ?_ | refine sG hp rfl (slot_tmp rfl) (slot_tmp rfl) agg64 aa5 ?_); clear hp; intro w1 hp; simp only [spl, List.set_cons_zero, List.set_cons_succ] at hp) | ((with_reducible refine pre_build _ _ _ rfl ?_); refine lS hp rfl (by intro w; go_simp; rfl) ?_; clear hp; intro b w1 hp; simp only [List.length_cons, List.length_nil, Nat.reduceAdd] at hp)); simp only [put_some, put_none, List.set_cons_succ, List.set_cons_zero]))
          go_roundg (gk - 1)
          case measure => omega
          case rel => exact ⟨j + 1, true, _, RA, by omega, rfl, by go_num, HN, Lib.hid (by rw [app_one, app_one, List.length_append, List.length_append]; exact HRA.out), hp⟩
        · have HN := Lib.hid (HWA.out.pass HJ.out hqp)
          have e3 : decide (q < p) = false := decide_eq_false hqp
          clear hqp
          go_wp2_with (first | go_skip | ((first | ((with_reducible refine pre_alloc _ rfl ?_); refine lZ hp rfl zero64 ?_; clear hp; intro b w1 hp) | ((with_reducible refine pre_box _ _ rfl ?_); refine lB hp rfl (slot_tmp rfl) rfl ?_; clear hp; intro b w1 hp) | ((with_reducible refine pre_load _ _ rfl ?_); first | refine lO hp rfl (slot_tmp rfl) ceRR0 aa5 ?_ | first | refine lRO hp rfl (slot_tmp rfl) ceRR0 (HX.out 0 _ rfl) ?_ | refine lA hp rfl (slot_tmp rfl) agg64 aa5 ?_ | refine lR hp rfl (slot_tmp rfl) agg64 HX.out ?_) | ((with_reducible refine pre_store _ _ _ rfl ?_); (first | refine sO hp rfl (slot_tmp rfl) ceRR0 aa5 ?_ | refine sA hp rfl (slot_tmp rfl) (slot_tmp rfl) agg64 aa5 ?_ | refine sG hp rfl (slot_tmp rfl) (slot_tmp rfl) agg64 aa5 ?_); clear hp; intro w1 hp; simp only [spl, List.set_cons_zero, List.set_cons_succ] at hp) | ((with_reducible refine pre_build _ _ _ rfl ?_); refine lS hp rfl (by intro w; go_simp; rfl) ?_; clear hp; intro b w1 hp; simp only [List.length_cons, List.length_nil, Nat.reduceAdd] at hp)); simp only [put_some, put_none, List.set_cons_succ, List.set_cons_zero]))
          refine wp_region_keeps [_] (Keeps.one hp.drew at0) [] [(0, true), (1, true), (2, true), (3, true), (4, true), (5, true), (6, true), (7, true), (8, true), (9, true), (10, true), (11, true)] (by kernel_rfl) (by kernel_rfl) rfl (by kernel_rfl) (fun _ _ d _ _ h => by cases d <;> exact h) ?_
          replace hp := hp.drew
          repeat' (with_reducible refine plan_is ?_); first | (with_reducible refine plan_nil ?_) | ((with_reducible refine plan_t ?_); refine plan_tk rfl ?_; (first | ((with_reducible refine tk_gd _ _ rfl ?_); refine tS (wanted_no rfl rfl rfl rfl) ?_) | ((with_reducible refine tk_mv _ rfl ?_); refine tM rfl ?_) | ((with_reducible refine tk_ld _ _ rfl ?_); first | refine tO rfl (slot_tmp rfl) cell3 aa5 ?_ | refine tRO rfl (slot_tmp rfl) cell3 (HX.out 0 _ rfl) ?_) | refine tG (fun w _ => (by go_simp; try rfl)) ?_); try simp only [put_some, put_none, eval_tmp, eval_const, List.set_cons_succ, List.set_cons_zero, List.getD_cons_succ, List.getD_cons_zero, wrap_eq])
          go_wp2_with (first | ((with_reducible refine pre_append _ _ 24 rfl ?_); refine wpList_appendGrow (K := [_]) (R := RA) (M := []) (hp.reorder (by rw [List.append_nil]; exact List.Perm.refl _)) _ _ _ rfl wy i0 _ 16 Tryz.underlying24 hi0 hz0 hz1 hz2 rfl (by decide) (slot_tmp rfl) HRA.out 1 1 (slot_tmp rfl) (by rfl) (by decide) (by rfl) (by first | exact sm1 | exact sm3) (by first | exact sm2 | exact sm4) ?_; clear hp HRA; intro va' RA w1 hra hp; have HRA := Lib.hid hra; clear hra; rw [List.append_nil] at hp; simp only [List.cons_append, List.nil_append] at hp; simp only [put_some, put_none, List.set_cons_succ, List.set_cons_zero]) | go_skip | ((first | ((with_reducible refine pre_alloc _ rfl ?_); refine lZ hp rfl zero64 ?_; clear hp; intro b w1 hp) | ((with_reducible refine pre_box _ _ rfl ?_); refine lB hp rfl (slot_tmp rfl) rfl ?_; clear hp; intro b w1 hp) | ((with_reducible refine pre_load _ _ rfl ?_); first | refine lO hp rfl (slot_tmp rfl) ceRR0 aa5 ?_ | first | refine lRO hp rfl (slot_tmp rfl) ceRR0 (HX.out 0 _ rfl) ?_ | refine lA hp rfl (slot_tmp rfl) agg64 aa5 ?_ | refine lR hp rfl (slot_tmp rfl) agg64 HX.out ?_) | ((with_reducible refine pre_store _ _ _ rfl ?_); (first | refine sO hp rfl (slot_tmp rfl) ceRR0 aa5 ?_ | refine sA hp rfl (slot_tmp rfl) (slot_tmp rfl) agg64 aa5 ?_ | refine sG hp rfl (slot_tmp rfl) (slot_tmp rfl) agg64 aa5 ?_); clear hp; intro w1 hp; simp only [spl, List.set_cons_zero, List.set_cons_succ] at hp) | ((with_reducible refine pre_build _ _ _ rfl ?_); refine lS hp rfl (by intro w; go_simp; rfl) ?_; clear hp; intro b w1 hp; simp only [List.length_cons, List.length_nil, Nat.reduceAdd] at hp)); simp only [put_some, put_none, List.set_cons_succ, List.set_cons_zero]))
          go_roundg (gk - 1)
          case measure => omega
          case rel => exact ⟨j + 1, false, _, RA, by omega, rfl, by go_num, HN, Lib.hid (by rw [app_one, List.length_append]; exact HRA.out), hp⟩
      · have HN := Lib.hid (HWA.out.on HJ.out)
        go_wp2_with (first | go_skip | ((first | ((with_reducible refine pre_alloc _ rfl ?_); refine lZ hp rfl zero64 ?_; clear hp; intro b w1 hp) | ((with_reducible refine pre_box _ _ rfl ?_); refine lB hp rfl (slot_tmp rfl) rfl ?_; clear hp; intro b w1 hp) | ((with_reducible refine pre_load _ _ rfl ?_); first | refine lO hp rfl (slot_tmp rfl) ceRR0 aa5 ?_ | first | refine lRO hp rfl (slot_tmp rfl) ceRR0 (HX.out 0 _ rfl) ?_ | refine lA hp rfl (slot_tmp rfl) agg64 aa5 ?_ | refine lR hp rfl (slot_tmp rfl) agg64 HX.out ?_) | ((with_reducible refine pre_store _ _ _ rfl ?_); (first | refine sO hp rfl (slot_tmp rfl) ceRR0 aa5 ?_ | refine sA hp rfl (slot_tmp rfl) (slot_tmp rfl) agg64 aa5 ?_ | refine sG hp rfl (slot_tmp rfl) (slot_tmp rfl) agg64 aa5 ?_); clear hp; intro w1 hp; simp only [spl, List.set_cons_zero, List.set_cons_succ] at hp) | ((with_reducible refine pre_build _ _ _ rfl ?_); refine lS hp rfl (by intro w; go_simp; rfl) ?_; clear hp; intro b w1 hp; simp only [List.length_cons, List.length_nil, Nat.reduceAdd] at hp)); simp only [put_some, put_none, List.set_cons_succ, List.set_cons_zero]))
        refine wp_region_keeps [_] (Keeps.one hp.drew at0) [] [(0, true), (1, true), (2, true), (3, true), (4, true), (5, true), (6, true), (7, true), (8, true), (9, true), (10, true), (11, true)] (by kernel_rfl) (by kernel_rfl) rfl (by kernel_rfl) (fun _ _ d _ _ h => by cases d <;> exact h) ?_
        replace hp := hp.drew
        repeat' (with_reducible refine plan_is ?_); first | (with_reducible refine plan_nil ?_) | ((with_reducible refine plan_t ?_); refine plan_tk rfl ?_; (first | ((with_reducible refine tk_gd _ _ rfl ?_); refine tS (wanted_no rfl rfl rfl rfl) ?_) | ((with_reducible refine tk_mv _ rfl ?_); refine tM rfl ?_) | ((with_reducible refine tk_ld _ _ rfl ?_); first | refine tO rfl (slot_tmp rfl) cell3 aa5 ?_ | refine tRO rfl (slot_tmp rfl) cell3 (HX.out 0 _ rfl) ?_) | refine tG (fun w _ => (by go_simp; try rfl)) ?_); try simp only [put_some, put_none, eval_tmp, eval_const, List.set_cons_succ, List.set_cons_zero, List.getD_cons_succ, List.getD_cons_zero, wrap_eq])
        go_wp2_with (first | ((with_reducible refine pre_append _ _ 24 rfl ?_); refine wpList_appendGrow (K := [_]) (R := RA) (M := []) (hp.reorder (by rw [List.append_nil]; exact List.Perm.refl _)) _ _ _ rfl wy i0 _ 16 Tryz.underlying24 hi0 hz0 hz1 hz2 rfl (by decide) (slot_tmp rfl) HRA.out 1 1 (slot_tmp rfl) (by rfl) (by decide) (by rfl) (by first | exact sm1 | exact sm3) (by first | exact sm2 | exact sm4) ?_; clear hp HRA; intro va' RA w1 hra hp; have HRA := Lib.hid hra; clear hra; rw [List.append_nil] at hp; simp only [List.cons_append, List.nil_append] at hp; simp only [put_some, put_none, List.set_cons_succ, List.set_cons_zero]) | go_skip | ((first | ((with_reducible refine pre_alloc _ rfl ?_); refine lZ hp rfl zero64 ?_; clear hp; intro b w1 hp) | ((with_reducible refine pre_box _ _ rfl ?_); refine lB hp rfl (slot_tmp rfl) rfl ?_; clear hp; intro b w1 hp) | ((with_reducible refine pre_load _ _ rfl ?_); first | refine lO hp rfl (slot_tmp rfl) ceRR0 aa5 ?_ | first | refine lRO hp rfl (slot_tmp rfl) ceRR0 (HX.out 0 _ rfl) ?_ | refine lA hp rfl (slot_tmp rfl) agg64 aa5 ?_ | refine lR hp rfl (slot_tmp rfl) agg64 HX.out ?_) | ((with_reducible refine pre_store _ _ _ rfl ?_); (first | refine sO hp rfl (slot_tmp rfl) ceRR0 aa5 ?_ | refine sA hp rfl (slot_tmp rfl) (slot_tmp rfl) agg64 aa5 ?_ | refine sG hp rfl (slot_tmp rfl) (slot_tmp rfl) agg64 aa5 ?_); clear hp; intro w1 hp; simp only [spl, List.set_cons_zero, List.set_cons_succ] at hp) | ((with_reducible refine pre_build _ _ _ rfl ?_); refine lS hp rfl (by intro w; go_simp; rfl) ?_; clear hp; intro b w1 hp; simp only [List.length_cons, List.length_nil, Nat.reduceAdd] at hp)); simp only [put_some, put_none, List.set_cons_succ, List.set_cons_zero]))
        go_roundg (gk - 1)
        case measure => omega
        case rel => exact ⟨j + 1, true, _, RA, by omega, rfl, by go_num, HN, Lib.hid (by rw [app_one, List.length_append]; exact HRA.out), hp⟩
    · have e2 : decide ((j : Int) < (l.length : Int)) = false := by simp; omega
      have hj : j = l.length := by omega
      subst hj
      have hol := HWA.out.2.2.1
      have sm1 : out.length + 1 ≤ maxLen := by unfold maxLen; omega
      have sm2 : (out.length + 1) * 16 ≤ 140737488355328 := by omega
      have sm3 := sm1
      have sm4 := sm2
      clear hol
      cases inn
      · have HN : RowKit.Hid (withL l ⟨q, r⟩ = out ++ [⟨q, r⟩]) := Lib.hid (by have h := HWA.out.1 rfl; rw [List.drop_length] at h; exact h)
        go_wp2_with (first | ((with_reducible refine pre_append _ _ 24 rfl ?_); refine wpList_appendGrow (K := [_]) (R := RA) (M := []) (hp.reorder (by rw [List.append_nil]; exact List.Perm.refl _)) _ _ _ rfl wy i0 _ 16 Tryz.underlying24 hi0 hz0 hz1 hz2 rfl (by decide) (slot_tmp rfl) HRA.out 1 1 (slot_tmp rfl) (by rfl) (by decide) (by rfl) (by first | exact sm1 | exact sm3) (by first | exact sm2 | exact sm4) ?_; clear hp HRA; intro va' RA w1 hra hp; have HRA := Lib.hid hra; clear hra; rw [List.append_nil] at hp; simp only [List.cons_append, List.nil_append] at hp; simp only [put_some, put_none, List.set_cons_succ, List.set_cons_zero]) | go_skip | ((first | ((with_reducible refine pre_alloc _ rfl ?_); refine lZ hp rfl zero64 ?_; clear hp; intro b w1 hp) | ((with_reducible refine pre_box _ _ rfl ?_); refine lB hp rfl (slot_tmp rfl) rfl ?_; clear hp; intro b w1 hp) | ((with_reducible refine pre_load _ _ rfl ?_); first | refine lO hp rfl (slot_tmp rfl) ceRR0 aa5 ?_ | refine lA hp rfl (slot_tmp rfl) agg64 aa5 ?_) | ((with_reducible refine pre_store _ _ _ rfl ?_); (first | refine sO hp rfl (slot_tmp rfl) ceRR0 aa5 ?_ | refine sA hp rfl (slot_tmp rfl) (slot_tmp rfl) agg64 aa5 ?_ | refine sG hp rfl (slot_tmp rfl) (slot_tmp rfl) agg64 aa5 ?_); clear hp; intro w1 hp; simp only [spl, List.set_cons_zero, List.set_cons_succ] at hp) | ((with_reducible refine pre_build _ _ _ rfl ?_); refine lS hp rfl (by intro w; go_simp; rfl) ?_; clear hp; intro b w1 hp; simp only [List.length_cons, List.length_nil, Nat.reduceAdd] at hp)); simp only [put_some, put_none, List.set_cons_succ, List.set_cons_zero]))
        go_ret
        exact ⟨_, RA, rfl, by rw [HN.out, app_one, List.length_append]; exact HRA.out, hp.tail⟩
      · have HN : RowKit.Hid (withL l ⟨q, r⟩ = out) := Lib.hid (by have h := HWA.out.2.1 rfl; rw [List.drop_length, List.append_nil] at h; exact h)
        go_wp2_with (first | ((with_reducible refine pre_append _ _ 24 rfl ?_); refine wpList_appendGrow (K := [_]) (R := RA) (M := []) (hp.reorder (by rw [List.append_nil]; exact List.Perm.refl _)) _ _ _ rfl wy i0 _ 16 Tryz.underlying24 hi0 hz0 hz1 hz2 rfl (by decide) (slot_tmp rfl) HRA.out 1 1 (slot_tmp rfl) (by rfl) (by decide) (by rfl) (by first | exact sm1 | exact sm3) (by first | exact sm2 | exact sm4) ?_; clear hp HRA; intro va' RA w1 hra hp; have HRA := Lib.hid hra; clear hra; rw [List.append_nil] at hp; simp only [List.cons_append, List.nil_append] at hp; simp only [put_some, put_none, List.set_cons_succ, List.set_cons_zero]) | go_skip | ((first | ((with_reducible refine pre_alloc _ rfl ?_); refine lZ hp rfl zero64 ?_; clear hp; intro b w1 hp) | ((with_reducible refine pre_box _ _ rfl ?_); refine lB hp rfl (slot_tmp rfl) rfl ?_; clear hp; intro b w1 hp) | ((with_reducible refine pre_load _ _ rfl ?_); first | refine lO hp rfl (slot_tmp rfl) ceRR0 aa5 ?_ | refine lA hp rfl (slot_tmp rfl) agg64 aa5 ?_) | ((with_reducible refine pre_store _ _ _ rfl ?_); (first | refine sO hp rfl (slot_tmp rfl) ceRR0 aa5 ?_ | refine sA hp rfl (slot_tmp rfl) (slot_tmp rfl) agg64 aa5 ?_ | refine sG hp rfl (slot_tmp rfl) (slot_tmp rfl) agg64 aa5 ?_); clear hp; intro w1 hp; simp only [spl, List.set_cons_zero, List.set_cons_succ] at hp) | ((with_reducible refine pre_build _ _ _ rfl ?_); refine lS hp rfl (by intro w; go_simp; rfl) ?_; clear hp; intro b w1 hp; simp only [List.length_cons, List.length_nil, Nat.reduceAdd] at hp)); simp only [put_some, put_none, List.set_cons_succ, List.set_cons_zero]))
        go_ret
        exact ⟨_, RA, rfl, by rw [HN.out]; exact HRA.out, hp.tail⟩
end Go.Proofs.YtppdjlgjcdmiaaaGreat
