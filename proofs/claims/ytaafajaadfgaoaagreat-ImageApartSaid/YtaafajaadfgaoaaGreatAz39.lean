/- Parts of the proof. -/
import Derived.Test.YtaafajaadfgaoaaGreatAz38
open List renaming set_cons_zero → zSet, set_cons_succ → sSet
/- The walks of Same of rows, heaps and states that are not the same. -/
set_option linter.unusedSimpArgs false
set_option linter.unusedVariables false
namespace Go.Proofs.YtaafajaadfgaoaaGreat
open Go.RowKit
theorem ceHSameN0 {ty : TypeId} (h : cellB Tryz.prog ty = true := by with_reducible first | exact cell3 | exact cell4 | exact cell37) : cellB Tryz.prog ty = true := h
theorem take_succ_eq {α : Type} {l k : List α} {j : Nat} {x : α} (h : l.take j = k.take j) (hl : l[j]? = some x) (hk : k[j]? = some x) : l.take (j + 1) = k.take (j + 1) := by
  rw [List.take_add_one, List.take_add_one, h, hl, hk]
set_option maxRecDepth 100000 in
set_option maxHeartbeats 4000000 in
theorem ints83_no (l l2 : List Int) (a a' : Option Addr) (c c' : Nat) (hl : l.length ≤ 5000) (hne : l ≠ l2) (w : World) (ha : RowIs w a (l.flatMap iV)) (ha' : RowIs w a' (l2.flatMap iV)) :
    Calls Tryz.prog 83 #[.slice a l.length c, .slice a' l2.length c'] w fun e w' => e = .returned (.bool false) ∧ Below w.heap.size w w' := by
  have hp := Hp.start w
  have HA := Lib.hid ha
  have HA' := Lib.hid ha'
  have HNE := Lib.hid hne
  clear ha ha' hne
  by_cases hlen : l.length = l2.length
  · rw [← hlen]
    have HLEN := Lib.hid hlen
    go_enter Tryz.func83, Tryz.ntmps83
    go_wp2_with (first | go_skip | ((first | ((with_reducible refine pre_box _ _ rfl ?_); refine lB hp rfl (sTm rfl) rfl ?_; clear hp; intro b w1 hp) | ((with_reducible refine pre_load _ _ rfl ?_); refine lO hp rfl (sTm rfl) (by with_reducible first | exact cell3 | exact cell4) aa14 ?_) | ((with_reducible refine pre_store _ _ _ rfl ?_); (refine sO hp rfl (sTm rfl) (by with_reducible first | exact cell3 | exact cell4) aa14 ?_); clear hp; intro w1 hp; simp only [spl, zSet, sSet] at hp)); simp only [put_some, put_none, sSet, zSet]))
    go_loopg [5] l.length (fun k i wr => ∃ j : Nat, k + j = l.length ∧ i = .int .i64 j ∧ RowKit.Hid (l.take j = l2.take j) ∧ Hp w.heap.size w wr [])
    case atStart => exact ⟨0, by omega, rfl, Lib.hid (by simp), hp⟩
    case round =>
      clear hp
      obtain ⟨j, hkj, rfl, HT, hp⟩ := hrel
      by_cases hlt : j < l.length
      · have hlt' : j < l2.length := by rw [← HLEN.out]; exact hlt
        obtain ⟨b, off, rfl, hx⟩ := HA.out.elems 1 iV_len (by omega) (by omega)
        obtain ⟨b', off', rfl, hy⟩ := HA'.out.elems 1 iV_len (by omega) (by omega)
        have hj := List.getElem?_eq_getElem hlt
        have hj' := List.getElem?_eq_getElem hlt'
        replace hx := hx j _ hj
        replace hy := hy j _ hj'
        generalize l[j] = x at hx hj
        generalize l2[j] = y at hy hj'
        simp only [iV, Nat.mul_one] at hx hy
        have HX := Lib.hid hx
        have HY := Lib.hid hy
        have e1 : (0 : Int) ≤ (j : Int) := by omega
        have e2 : (j : Int) < (l.length : Int) := by omega
        clear hx hy hlt'
        by_cases hxy : x = y
        · subst hxy
          have HT2 := Lib.hid (take_succ_eq HT.out hj hj')
          clear hj hj' HT
          go_wp2_with (first | go_skip | ((first | ((with_reducible refine pre_box _ _ rfl ?_); refine lB hp rfl (sTm rfl) rfl ?_; clear hp; intro b w1 hp) | ((with_reducible refine pre_load _ _ rfl ?_); refine lO hp rfl (sTm rfl) (by with_reducible first | exact cell3 | exact cell4) aa14 ?_) | ((with_reducible refine pre_store _ _ _ rfl ?_); (refine sO hp rfl (sTm rfl) (by with_reducible first | exact cell3 | exact cell4) aa14 ?_); clear hp; intro w1 hp; simp only [spl, zSet, sSet] at hp)); simp only [put_some, put_none, sSet, zSet]))
          refine wp_region_keeps _ (Keeps.all hp.drew) [] [(0, true), (1, true), (2, true), (3, true), (4, true), (5, true), (6, true), (7, true), (8, true)] (by kernel_rfl) (by kernel_rfl) rfl (by kernel_rfl) (fun _ _ d _ _ h => by cases d <;> exact h) ?_
          replace hp := hp.drew
          repeat' (with_reducible refine plan_is ?_); first | (with_reducible refine plan_nil ?_) | ((with_reducible refine plan_t ?_); refine plan_tk rfl ?_; (first | ((with_reducible refine tk_mv _ rfl ?_); refine tM rfl ?_) | ((with_reducible refine tk_ld _ _ rfl ?_); first | refine tO rfl (sTm rfl) cell3 aa14 ?_ | refine tRO rfl (sTm rfl) cell3 (HX.out 0 _ rfl) ?_ | refine tRO rfl (sTm rfl) cell3 (HY.out 0 _ rfl) ?_) | refine tG (fun w _ => (by go_simp; try rfl)) ?_); try simp only [put_some, put_none, eval_tmp, eval_const, sSet, zSet, List.getD_cons_succ, List.getD_cons_zero, wrap_eq])
          go_wp2_with fail
          go_roundg (gk - 1)
          case measure => omega
          case rel => exact ⟨j + 1, by omega, by go_num, HT2, hp⟩
        · have e3 : (x == y) = false := by simpa using hxy
          clear hj hj' HT
          go_wp2_with (first | go_skip | ((first | ((with_reducible refine pre_box _ _ rfl ?_); refine lB hp rfl (sTm rfl) rfl ?_; clear hp; intro b w1 hp) | ((with_reducible refine pre_load _ _ rfl ?_); refine lO hp rfl (sTm rfl) (by with_reducible first | exact cell3 | exact cell4) aa14 ?_) | ((with_reducible refine pre_store _ _ _ rfl ?_); (refine sO hp rfl (sTm rfl) (by with_reducible first | exact cell3 | exact cell4) aa14 ?_); clear hp; intro w1 hp; simp only [spl, zSet, sSet] at hp)); simp only [put_some, put_none, sSet, zSet]))
          refine wp_region_keeps _ (Keeps.all hp.drew) [] [(0, true), (1, true), (2, true), (3, true), (4, true), (5, true), (6, true), (7, true), (8, true)] (by kernel_rfl) (by kernel_rfl) rfl (by kernel_rfl) (fun _ _ d _ _ h => by cases d <;> exact h) ?_
          replace hp := hp.drew
          repeat' (with_reducible refine plan_is ?_); first | (with_reducible refine plan_nil ?_) | ((with_reducible refine plan_t ?_); refine plan_tk rfl ?_; (first | ((with_reducible refine tk_mv _ rfl ?_); refine tM rfl ?_) | ((with_reducible refine tk_ld _ _ rfl ?_); first | refine tO rfl (sTm rfl) cell3 aa14 ?_ | refine tRO rfl (sTm rfl) cell3 (HX.out 0 _ rfl) ?_ | refine tRO rfl (sTm rfl) cell3 (HY.out 0 _ rfl) ?_) | refine tG (fun w _ => (by go_simp; try rfl)) ?_); try simp only [put_some, put_none, eval_tmp, eval_const, sSet, zSet, List.getD_cons_succ, List.getD_cons_zero, wrap_eq])
          go_wp2_with fail
          go_ret
          exact ⟨rfl, hp.below⟩
      · exfalso
        refine HNE.out ?_
        have := HT.out
        rw [List.take_of_length_le (by omega), List.take_of_length_le (by have := HLEN.out; omega)] at this
        exact this
  · have e1 : ((l.length : Int) == (l2.length : Int)) = false := by simp; omega
    go_enter Tryz.func83, Tryz.ntmps83
    go_wp2_with (first | go_skip | ((first | ((with_reducible refine pre_box _ _ rfl ?_); refine lB hp rfl (sTm rfl) rfl ?_; clear hp; intro b w1 hp) | ((with_reducible refine pre_load _ _ rfl ?_); refine lO hp rfl (sTm rfl) (by with_reducible first | exact cell3 | exact cell4) aa14 ?_) | ((with_reducible refine pre_store _ _ _ rfl ?_); (refine sO hp rfl (sTm rfl) (by with_reducible first | exact cell3 | exact cell4) aa14 ?_); clear hp; intro w1 hp; simp only [spl, zSet, sSet] at hp)); simp only [put_some, put_none, sSet, zSet]))
    go_ret
    exact ⟨rfl, hp.below⟩
set_option maxRecDepth 100000 in
set_option maxHeartbeats 4000000 in
theorem same82_no (l l2 : List Bl) (a a' : Option Addr) (c c' : Nat) (hl : l.length ≤ 600) (hne : l ≠ l2) (w : World) (ha : RowIs w a (l.flatMap blV)) (ha' : RowIs w a' (l2.flatMap blV)) :
    Calls Tryz.prog 82 #[.slice a l.length c, .slice a' l2.length c'] w fun e w' => e = .returned (.bool false) ∧ Below w.heap.size w w' := by
  have hp := Hp.start w
  have HA := Lib.hid ha
  have HA' := Lib.hid ha'
  have HNE := Lib.hid hne
  clear ha ha' hne
  by_cases hlen : l.length = l2.length
  · rw [← hlen]
    have HLEN := Lib.hid hlen
    go_enter Tryz.func82, Tryz.ntmps82
    go_wp2_with (first | go_skip | ((first | ((with_reducible refine pre_alloc _ rfl ?_); refine lZ hp rfl zero124 ?_; clear hp; intro b w1 hp) | ((with_reducible refine pre_box _ _ rfl ?_); refine lB hp rfl (sTm rfl) rfl ?_; clear hp; intro b w1 hp) | ((with_reducible refine pre_load _ _ rfl ?_); first | refine lO hp rfl (sTm rfl) ceHSameN0 aa5 ?_ | refine lA hp rfl (sTm rfl) agg124 aa5 ?_) | ((with_reducible refine pre_store _ _ _ rfl ?_); (first | refine sO hp rfl (sTm rfl) ceHSameN0 aa5 ?_ | refine sA hp rfl (sTm rfl) (sTm rfl) agg124 aa5 ?_ | refine sG hp rfl (sTm rfl) (sTm rfl) agg124 aa5 ?_); clear hp; intro w1 hp; simp only [spl, zSet, sSet] at hp) | ((with_reducible refine pre_build _ _ _ rfl ?_); refine lS hp rfl (by intro w; go_simp; rfl) ?_; clear hp; intro b w1 hp; simp only [List.length_cons, List.length_nil, Nat.reduceAdd] at hp)); simp only [put_some, put_none, sSet, zSet]))
    go_loopg [5] l.length (fun k i wr => ∃ j : Nat, k + j = l.length ∧ i = .int .i64 j ∧ RowKit.Hid (l.take j = l2.take j) ∧ Hp w.heap.size w wr [])
    case atStart => exact ⟨0, by omega, rfl, Lib.hid (by simp), hp⟩
    case round =>
      clear hp
      obtain ⟨j, hkj, rfl, HT, hp⟩ := hrel
      by_cases hlt : j < l.length
      · have hlt' : j < l2.length := by rw [← HLEN.out]; exact hlt
        obtain ⟨b, off, rfl, hx⟩ := HA.out.elems 2 blV_len (by omega) (by omega)
        obtain ⟨b', off', rfl, hy⟩ := HA'.out.elems 2 blV_len (by omega) (by omega)
        have hj := List.getElem?_eq_getElem hlt
        have hj' := List.getElem?_eq_getElem hlt'
        replace hx := hx j _ hj
        replace hy := hy j _ hj'
        generalize l[j] = x at hx hj
        generalize l2[j] = y at hy hj'
        have e1 : (0 : Int) ≤ (j : Int) := by omega
        have e2 : (j : Int) < (l.length : Int) := by omega
        by_cases hxy : x = y
        · subst hxy
          have HT2 := Lib.hid (take_succ_eq HT.out hj hj')
          obtain ⟨p, o⟩ := x
          simp only [blV] at hx hy
          have HX := Lib.hid hx
          have HY := Lib.hid hy
          clear hj hj' HT hx hy hlt'
          go_wp2_with (first | go_skip | ((first | ((with_reducible refine pre_alloc _ rfl ?_); refine lZ hp rfl zero124 ?_; clear hp; intro b w1 hp) | ((with_reducible refine pre_box _ _ rfl ?_); refine lB hp rfl (sTm rfl) rfl ?_; clear hp; intro b w1 hp) | ((with_reducible refine pre_load _ _ rfl ?_); first | refine lO hp rfl (sTm rfl) ceHSameN0 aa5 ?_ | refine lA hp rfl (sTm rfl) agg124 aa5 ?_) | ((with_reducible refine pre_store _ _ _ rfl ?_); (first | refine sO hp rfl (sTm rfl) ceHSameN0 aa5 ?_ | refine sA hp rfl (sTm rfl) (sTm rfl) agg124 aa5 ?_ | refine sG hp rfl (sTm rfl) (sTm rfl) agg124 aa5 ?_); clear hp; intro w1 hp; simp only [spl, zSet, sSet] at hp) | ((with_reducible refine pre_build _ _ _ rfl ?_); refine lS hp rfl (by intro w; go_simp; rfl) ?_; clear hp; intro b w1 hp; simp only [List.length_cons, List.length_nil, Nat.reduceAdd] at hp)); simp only [put_some, put_none, sSet, zSet]))
          refine wp_region_keeps _ (Keeps.all hp.drew) [] [(0, true), (1, true), (2, true), (3, true), (4, true), (5, true), (6, true), (7, true), (8, true)] (by kernel_rfl) (by kernel_rfl) rfl (by kernel_rfl) (fun _ _ d _ _ h => by cases d <;> exact h) ?_
          replace hp := hp.drew
          repeat' (with_reducible refine plan_is ?_); first | (with_reducible refine plan_nil ?_) | ((with_reducible refine plan_t ?_); refine plan_tk rfl ?_; (first | ((with_reducible refine tk_mv _ rfl ?_); refine tM rfl ?_) | ((with_reducible refine tk_ld _ _ rfl ?_); first | refine tA rfl (sTm rfl) agg124 aa5 ?_ | refine tR rfl (sTm rfl) agg124 HX.out ?_ | refine tR rfl (sTm rfl) agg124 HY.out ?_) | refine tG (fun w _ => (by go_simp; try rfl)) ?_); try simp only [put_some, put_none, eval_tmp, eval_const, sSet, zSet, List.getD_cons_succ, List.getD_cons_zero, wrap_eq])
          go_wp2_with fail
          go_roundg (gk - 1)
          case measure => omega
          case rel => exact ⟨j + 1, by omega, by go_num, HT2, hp⟩
        · obtain ⟨p, o⟩ := x
          obtain ⟨p', o'⟩ := y
          have key : (p == p') = false ∨ (p = p' ∧ (o == o') = false) := by
            by_cases h1 : p = p'
            · exact .inr ⟨h1, by simpa using fun h2 => hxy (by rw [h1, h2])⟩
            · exact .inl (by simpa using h1)
          simp only [blV] at hx hy
          have HX := Lib.hid hx
          have HY := Lib.hid hy
          clear hj hj' HT hx hy hlt' hxy
          rcases key with e3 | ⟨rfl, e3⟩
          all_goals
            go_wp2_with (first | go_skip | ((first | ((with_reducible refine pre_alloc _ rfl ?_); refine lZ hp rfl zero124 ?_; clear hp; intro b w1 hp) | ((with_reducible refine pre_box _ _ rfl ?_); refine lB hp rfl (sTm rfl) rfl ?_; clear hp; intro b w1 hp) | ((with_reducible refine pre_load _ _ rfl ?_); first | refine lO hp rfl (sTm rfl) ceHSameN0 aa5 ?_ | refine lA hp rfl (sTm rfl) agg124 aa5 ?_) | ((with_reducible refine pre_store _ _ _ rfl ?_); (first | refine sO hp rfl (sTm rfl) ceHSameN0 aa5 ?_ | refine sA hp rfl (sTm rfl) (sTm rfl) agg124 aa5 ?_ | refine sG hp rfl (sTm rfl) (sTm rfl) agg124 aa5 ?_); clear hp; intro w1 hp; simp only [spl, zSet, sSet] at hp) | ((with_reducible refine pre_build _ _ _ rfl ?_); refine lS hp rfl (by intro w; go_simp; rfl) ?_; clear hp; intro b w1 hp; simp only [List.length_cons, List.length_nil, Nat.reduceAdd] at hp)); simp only [put_some, put_none, sSet, zSet]))
            refine wp_region_keeps _ (Keeps.all hp.drew) [] [(0, true), (1, true), (2, true), (3, true), (4, true), (5, true), (6, true), (7, true), (8, true)] (by kernel_rfl) (by kernel_rfl) rfl (by kernel_rfl) (fun _ _ d _ _ h => by cases d <;> exact h) ?_
            replace hp := hp.drew
            repeat' (with_reducible refine plan_is ?_); first | (with_reducible refine plan_nil ?_) | ((with_reducible refine plan_t ?_); refine plan_tk rfl ?_; (first | ((with_reducible refine tk_mv _ rfl ?_); refine tM rfl ?_) | ((with_reducible refine tk_ld _ _ rfl ?_); first | refine tA rfl (sTm rfl) agg124 aa5 ?_ | refine tR rfl (sTm rfl) agg124 HX.out ?_ | refine tR rfl (sTm rfl) agg124 HY.out ?_) | refine tG (fun w _ => (by go_simp; try rfl)) ?_); try simp only [put_some, put_none, eval_tmp, eval_const, sSet, zSet, List.getD_cons_succ, List.getD_cons_zero, wrap_eq])
            go_wp2_with fail
            go_ret
            exact ⟨rfl, hp.below⟩
      · exfalso
        refine HNE.out ?_
        have := HT.out
        rw [List.take_of_length_le (by omega), List.take_of_length_le (by have := HLEN.out; omega)] at this
        exact this
  · have e1 : ((l.length : Int) == (l2.length : Int)) = false := by simp; omega
    go_enter Tryz.func82, Tryz.ntmps82
    go_wp2_with (first | go_skip | ((first | ((with_reducible refine pre_alloc _ rfl ?_); refine lZ hp rfl zero124 ?_; clear hp; intro b w1 hp) | ((with_reducible refine pre_box _ _ rfl ?_); refine lB hp rfl (sTm rfl) rfl ?_; clear hp; intro b w1 hp) | ((with_reducible refine pre_load _ _ rfl ?_); first | refine lO hp rfl (sTm rfl) ceHSameN0 aa5 ?_ | refine lA hp rfl (sTm rfl) agg124 aa5 ?_) | ((with_reducible refine pre_store _ _ _ rfl ?_); (first | refine sO hp rfl (sTm rfl) ceHSameN0 aa5 ?_ | refine sA hp rfl (sTm rfl) (sTm rfl) agg124 aa5 ?_ | refine sG hp rfl (sTm rfl) (sTm rfl) agg124 aa5 ?_); clear hp; intro w1 hp; simp only [spl, zSet, sSet] at hp) | ((with_reducible refine pre_build _ _ _ rfl ?_); refine lS hp rfl (by intro w; go_simp; rfl) ?_; clear hp; intro b w1 hp; simp only [List.length_cons, List.length_nil, Nat.reduceAdd] at hp)); simp only [put_some, put_none, sSet, zSet]))
    go_ret
    exact ⟨rfl, hp.below⟩
end Go.Proofs.YtaafajaadfgaoaaGreat
