/- The walks of Best, IndexFunc, ContainsFunc and Room. -/
import Derived.Test.YtinlmcdphhmhjaaBCheck
set_option linter.unusedSimpArgs false
set_option linter.unusedVariables false
namespace Go.Proofs.Ytinlmcdphhmhjaa
open Go.RowKit

/-- Is there a block that is great enough? -/
def greatB (l : List Bl) (want : Int) : Bool := l.any fun x => decide (want ≤ x.o)
theorem great_take {l : List Bl} {want : Int} {j : Nat} {x : Bl} (h : l[j]? = some x) : greatB (l.take (j + 1)) want = (greatB (l.take j) want || decide (want ≤ x.o)) := by
  unfold greatB
  rw [List.take_add_one, h]
  simp [List.any_append]
theorem great_yes {l : List Bl} {want : Int} {j : Nat} {x : Bl} (h : l[j]? = some x) (hw : want ≤ x.o) : greatB l want = true := by
  unfold greatB
  exact List.any_eq_true.2 ⟨x, List.mem_of_getElem? h, by simp [hw]⟩

set_option maxRecDepth 100000 in
set_option maxHeartbeats 4000000 in
theorem room67 (p o want : Int) (b : Nat) (w : World) (hb : b < w.heap.size) (hc : w.cell? ⟨b, 0, none⟩ = some (.int .i64 want)) :
    Calls Try.prog 67 #[.agg #[.int .i64 p, .int .i64 o], .pointer (some ⟨b, 0, none⟩)] w fun e w' => e = .returned (.bool (decide (want ≤ o))) ∧ Below w.heap.size w w' := by
  have hp := Hp.start w
  have HC := Lib.hid hc
  clear hc
  go_enter Try.func67, Try.ntmps67
  go_wp2_with (first | go_skip | ((with_reducible refine pre_alloc 39 rfl ?_); refine wpList_alloc_hp hp _ rfl (by first | exact wanted_none rfl | exact wanted_yes rfl rfl rfl rfl) _ _ zero39 ?_; clear hp; intro b w1 hp; simp only [put_some, put_none, List.set_cons_succ, List.set_cons_zero]) | ((with_reducible refine pre_box _ _ rfl ?_); refine wpList_box_hp hp _ _ rfl (by first | exact wanted_none rfl | exact wanted_yes rfl rfl rfl rfl) _ (slot_tmp rfl) _ rfl _ (by simp only [List.length_cons, List.length_nil, Nat.reduceAdd]; rfl) ?_; clear hp; intro b w1 hp; simp only [put_some, put_none, List.set_cons_succ, List.set_cons_zero]) | ((with_reducible refine pre_load _ _ rfl ?_); first | (refine wpList_loadOne_hp hp _ _ rfl (by first | exact wanted_none rfl | exact wanted_yes rfl rfl rfl rfl) _ _ (slot_tmp rfl) (by with_reducible first | exact cell3 | exact cell4 | exact cell29) _ _ _ _ (by first | exact at0 | exact at1 | exact at2 | exact at3) _ (by rfl) ?_; simp only [put_some, put_none, List.set_cons_succ, List.set_cons_zero]) | (refine wpList_loadAgg_hp hp _ _ rfl (by first | exact wanted_none rfl | exact wanted_yes rfl rfl rfl rfl) _ _ (slot_tmp rfl) _ (by with_reducible first | exact agg39) _ _ _ _ (by first | exact at0 | exact at1 | exact at2 | exact at3) _ (by simp only [List.drop_zero, List.drop_succ_cons, List.take_succ_cons, List.take_zero, List.take_nil]; rfl) (by rfl) ?_; simp only [put_some, put_none, List.set_cons_succ, List.set_cons_zero])) | ((with_reducible refine pre_store 39 _ _ rfl ?_); first | (refine wpList_storeAll_hp hp _ _ _ rfl (by first | exact wanted_none rfl | exact wanted_yes rfl rfl rfl rfl) _ (slot_tmp rfl) _ (slot_tmp rfl) agg39 _ _ _ _ (by first | exact at0 | exact at1 | exact at2 | exact at3) (by rfl) (by first | rfl | simp [*]) ?_; clear hp; intro w1 hp; simp only [List.set_cons_zero, List.set_cons_succ] at hp; simp only [put_some, put_none, List.set_cons_succ, List.set_cons_zero]) | (refine wpList_storeAgg_hp hp _ _ _ rfl (by first | exact wanted_none rfl | exact wanted_yes rfl rfl rfl rfl) _ _ (slot_tmp rfl) _ (slot_tmp rfl) agg39 _ _ _ _ (by first | exact at0 | exact at1 | exact at2 | exact at3) (by simp only [List.length_cons, List.length_nil]; omega) (by first | rfl | simp [*]) ?_; clear hp; intro w1 hp; simp only [spl, List.set_cons_zero, List.set_cons_succ] at hp; simp only [put_some, put_none, List.set_cons_succ, List.set_cons_zero])) | ((with_reducible refine pre_store _ _ _ rfl ?_); (refine wpList_storeOne_hp hp _ _ _ rfl (by first | exact wanted_none rfl | exact wanted_yes rfl rfl rfl rfl) _ _ (slot_tmp rfl) _ (by first | exact slot_tmp rfl | exact slot_const) (by with_reducible first | exact cell3 | exact cell4 | exact cell29) _ _ _ _ (by first | exact at0 | exact at1 | exact at2 | exact at3) (by simp only [List.length_cons, List.length_nil]; omega) (by first | rfl | assumption) ?_; clear hp; intro w1 hp; simp only [List.set_cons_zero, List.set_cons_succ] at hp; simp only [put_some, put_none, List.set_cons_succ, List.set_cons_zero])) | (refine wpList_loadRowOne_hp hp _ _ rfl (wanted_none rfl) _ _ (slot_tmp rfl) cell3 _ HC.out ?_; simp only [put_some, put_none, List.set_cons_succ, List.set_cons_zero]))
  go_ret
  exact ⟨rfl, hp.below⟩

def IdxPost (w : World) (g : Bool) (e : Ending) (w' : World) : Prop := ∃ i : Int, e = .returned (.int .i64 i) ∧ decide (0 ≤ i) = g ∧ Below w.heap.size w w'

theorem RowIs.of_below {w w' : World} {a : Option Addr} {xs : List Value} (h : RowIs w a xs) (hb : Below w.heap.size w w') : RowIs w' a xs := h.below hb

set_option maxRecDepth 100000 in
set_option maxHeartbeats 4000000 in
theorem index79 (l : List Bl) (a : Option Addr) (c : Nat) (hl : l.length ≤ 600) (want : Int) (bc : Nat) (w : World) (ha : RowIs w a (l.flatMap blV)) (hbc : bc < w.heap.size) (hcc : w.cell? ⟨bc, 0, none⟩ = some (.int .i64 want)) :
    Calls Try.prog 79 #[.slice a l.length c, .func (.func 67) #[] #[.pointer (some ⟨bc, 0, none⟩)]] w (IdxPost w (greatB l want)) := by
  have hp := Hp.start w
  have HA := Lib.hid ha
  have HC := Lib.hid hcc
  clear ha hcc
  go_enter Try.func79, Try.ntmps79
  go_wp2_with (first | go_skip | ((with_reducible refine pre_alloc 39 rfl ?_); refine wpList_alloc_hp hp _ rfl (by first | exact wanted_none rfl | exact wanted_yes rfl rfl rfl rfl) _ _ zero39 ?_; clear hp; intro b w1 hp; simp only [put_some, put_none, List.set_cons_succ, List.set_cons_zero]) | ((with_reducible refine pre_box _ _ rfl ?_); refine wpList_box_hp hp _ _ rfl (by first | exact wanted_none rfl | exact wanted_yes rfl rfl rfl rfl) _ (slot_tmp rfl) _ rfl _ (by simp only [List.length_cons, List.length_nil, Nat.reduceAdd]; rfl) ?_; clear hp; intro b w1 hp; simp only [put_some, put_none, List.set_cons_succ, List.set_cons_zero]) | ((with_reducible refine pre_load _ _ rfl ?_); first | (refine wpList_loadOne_hp hp _ _ rfl (by first | exact wanted_none rfl | exact wanted_yes rfl rfl rfl rfl) _ _ (slot_tmp rfl) (by with_reducible first | exact cell3 | exact cell4 | exact cell29) _ _ _ _ (by first | exact at0 | exact at1 | exact at2 | exact at3) _ (by rfl) ?_; simp only [put_some, put_none, List.set_cons_succ, List.set_cons_zero]) | (refine wpList_loadAgg_hp hp _ _ rfl (by first | exact wanted_none rfl | exact wanted_yes rfl rfl rfl rfl) _ _ (slot_tmp rfl) _ (by with_reducible first | exact agg39) _ _ _ _ (by first | exact at0 | exact at1 | exact at2 | exact at3) _ (by simp only [List.drop_zero, List.drop_succ_cons, List.take_succ_cons, List.take_zero, List.take_nil]; rfl) (by rfl) ?_; simp only [put_some, put_none, List.set_cons_succ, List.set_cons_zero])) | ((with_reducible refine pre_store 39 _ _ rfl ?_); first | (refine wpList_storeAll_hp hp _ _ _ rfl (by first | exact wanted_none rfl | exact wanted_yes rfl rfl rfl rfl) _ (slot_tmp rfl) _ (slot_tmp rfl) agg39 _ _ _ _ (by first | exact at0 | exact at1 | exact at2 | exact at3) (by rfl) (by first | rfl | simp [*]) ?_; clear hp; intro w1 hp; simp only [List.set_cons_zero, List.set_cons_succ] at hp; simp only [put_some, put_none, List.set_cons_succ, List.set_cons_zero]) | (refine wpList_storeAgg_hp hp _ _ _ rfl (by first | exact wanted_none rfl | exact wanted_yes rfl rfl rfl rfl) _ _ (slot_tmp rfl) _ (slot_tmp rfl) agg39 _ _ _ _ (by first | exact at0 | exact at1 | exact at2 | exact at3) (by simp only [List.length_cons, List.length_nil]; omega) (by first | rfl | simp [*]) ?_; clear hp; intro w1 hp; simp only [spl, List.set_cons_zero, List.set_cons_succ] at hp; simp only [put_some, put_none, List.set_cons_succ, List.set_cons_zero])) | ((with_reducible refine pre_store _ _ _ rfl ?_); (refine wpList_storeOne_hp hp _ _ _ rfl (by first | exact wanted_none rfl | exact wanted_yes rfl rfl rfl rfl) _ _ (slot_tmp rfl) _ (by first | exact slot_tmp rfl | exact slot_const) (by with_reducible first | exact cell3 | exact cell4 | exact cell29) _ _ _ _ (by first | exact at0 | exact at1 | exact at2 | exact at3) (by simp only [List.length_cons, List.length_nil]; omega) (by first | rfl | assumption) ?_; clear hp; intro w1 hp; simp only [List.set_cons_zero, List.set_cons_succ] at hp; simp only [put_some, put_none, List.set_cons_succ, List.set_cons_zero])))
  go_loopg [8] l.length (fun k i wr => ∃ j : Nat, k + j = l.length ∧ i = .int .i64 j ∧ greatB (l.take j) want = false ∧ Hp w.heap.size w wr [])
  case atStart => exact ⟨0, by omega, rfl, by simp [greatB], hp⟩
  case round =>
    clear hp
    obtain ⟨j, hkj, rfl, hg, hp⟩ := hrel
    by_cases hlt : j < l.length
    · obtain ⟨bq, off, rfl, hx⟩ := HA.out.elems 2 blV_len (by omega) (by omega)
      have hj := List.getElem?_eq_getElem hlt
      replace hx := hx j _ hj
      generalize l[j] = x at hx hj
      obtain ⟨p, o⟩ := x
      simp only [blV] at hx
      have HX := Lib.hid hx
      have HG := Lib.hid hg
      have HJ := Lib.hid hj
      clear hx hg hj
      have e1 : (0 : Int) ≤ (j : Int) := by omega
      have e2 : (j : Int) < (l.length : Int) := by omega
      go_wp2_with (first | (go_at_call 67; refine (room67 p o want bc _ (by have := hp.below.size; omega) ((hp.below.cell (p := ⟨bc, 0, none⟩) hbc).trans HC.out)).mono ?_; rintro e w1 ⟨rfl, hb⟩; replace hp := hp.call hb; clear hb) | go_skip | ((with_reducible refine pre_alloc 39 rfl ?_); refine wpList_alloc_hp hp _ rfl (by first | exact wanted_none rfl | exact wanted_yes rfl rfl rfl rfl) _ _ zero39 ?_; clear hp; intro b w1 hp; simp only [put_some, put_none, List.set_cons_succ, List.set_cons_zero]) | ((with_reducible refine pre_box _ _ rfl ?_); refine wpList_box_hp hp _ _ rfl (by first | exact wanted_none rfl | exact wanted_yes rfl rfl rfl rfl) _ (slot_tmp rfl) _ rfl _ (by simp only [List.length_cons, List.length_nil, Nat.reduceAdd]; rfl) ?_; clear hp; intro b w1 hp; simp only [put_some, put_none, List.set_cons_succ, List.set_cons_zero]) | ((with_reducible refine pre_load _ _ rfl ?_); first | (refine wpList_loadOne_hp hp _ _ rfl (by first | exact wanted_none rfl | exact wanted_yes rfl rfl rfl rfl) _ _ (slot_tmp rfl) (by with_reducible first | exact cell3 | exact cell4 | exact cell29) _ _ _ _ (by first | exact at0 | exact at1 | exact at2 | exact at3) _ (by rfl) ?_; simp only [put_some, put_none, List.set_cons_succ, List.set_cons_zero]) | (first | (refine wpList_loadRowOne_hp hp _ _ rfl (by first | exact wanted_none rfl | exact wanted_yes rfl rfl rfl rfl) _ _ (slot_tmp rfl) (by with_reducible first | exact cell3 | exact cell4 | exact cell29) _ (by first | exact HX.out 0 _ rfl | exact HX.out 1 _ rfl) ?_); simp only [put_some, put_none, List.set_cons_succ, List.set_cons_zero]) | (refine wpList_loadAgg_hp hp _ _ rfl (by first | exact wanted_none rfl | exact wanted_yes rfl rfl rfl rfl) _ _ (slot_tmp rfl) _ (by with_reducible first | exact agg39) _ _ _ _ (by first | exact at0 | exact at1 | exact at2 | exact at3) _ (by simp only [List.drop_zero, List.drop_succ_cons, List.take_succ_cons, List.take_zero, List.take_nil]; rfl) (by rfl) ?_; simp only [put_some, put_none, List.set_cons_succ, List.set_cons_zero]) | (refine wpList_loadRow_hp hp _ _ rfl (by first | exact wanted_none rfl | exact wanted_yes rfl rfl rfl rfl) _ _ (slot_tmp rfl) _ (by with_reducible first | exact agg39) _ HX.out (by rfl) ?_; simp only [put_some, put_none, List.set_cons_succ, List.set_cons_zero])) | ((with_reducible refine pre_store 39 _ _ rfl ?_); first | (refine wpList_storeAll_hp hp _ _ _ rfl (by first | exact wanted_none rfl | exact wanted_yes rfl rfl rfl rfl) _ (slot_tmp rfl) _ (slot_tmp rfl) agg39 _ _ _ _ (by first | exact at0 | exact at1 | exact at2 | exact at3) (by rfl) (by first | rfl | simp [*]) ?_; clear hp; intro w1 hp; simp only [List.set_cons_zero, List.set_cons_succ] at hp; simp only [put_some, put_none, List.set_cons_succ, List.set_cons_zero]) | (refine wpList_storeAgg_hp hp _ _ _ rfl (by first | exact wanted_none rfl | exact wanted_yes rfl rfl rfl rfl) _ _ (slot_tmp rfl) _ (slot_tmp rfl) agg39 _ _ _ _ (by first | exact at0 | exact at1 | exact at2 | exact at3) (by simp only [List.length_cons, List.length_nil]; omega) (by first | rfl | simp [*]) ?_; clear hp; intro w1 hp; simp only [spl, List.set_cons_zero, List.set_cons_succ] at hp; simp only [put_some, put_none, List.set_cons_succ, List.set_cons_zero])) | ((with_reducible refine pre_store _ _ _ rfl ?_); (refine wpList_storeOne_hp hp _ _ _ rfl (by first | exact wanted_none rfl | exact wanted_yes rfl rfl rfl rfl) _ _ (slot_tmp rfl) _ (by first | exact slot_tmp rfl | exact slot_const) (by with_reducible first | exact cell3 | exact cell4 | exact cell29) _ _ _ _ (by first | exact at0 | exact at1 | exact at2 | exact at3) (by simp only [List.length_cons, List.length_nil]; omega) (by first | rfl | assumption) ?_; clear hp; intro w1 hp; simp only [List.set_cons_zero, List.set_cons_succ] at hp; simp only [put_some, put_none, List.set_cons_succ, List.set_cons_zero])))
      · have hw : want ≤ o := by assumption
        go_ret
        exact ⟨j, rfl, by rw [great_yes HJ.out hw]; simp, hp.below⟩
      · have hw : ¬ want ≤ o := by omega
        go_roundg (gk - 1)
        case measure => omega
        case rel => exact ⟨j + 1, by omega, by go_num, by rw [great_take HJ.out, HG.out]; simp [hw], hp⟩
    · have e2 : decide ((j : Int) < (l.length : Int)) = false := by simp; omega
      have HG := Lib.hid hg
      clear hg
      go_wp2_with fail
      go_ret
      exact ⟨-1, rfl, by have := HG.out; rw [List.take_of_length_le (by omega)] at this; rw [this]; decide, hp.below⟩

set_option maxRecDepth 100000 in
set_option maxHeartbeats 4000000 in
theorem contains56 (l : List Bl) (a : Option Addr) (c : Nat) (hl : l.length ≤ 600) (want : Int) (bc : Nat) (w : World) (ha : RowIs w a (l.flatMap blV)) (hbc : bc < w.heap.size) (hcc : w.cell? ⟨bc, 0, none⟩ = some (.int .i64 want)) :
    Calls Try.prog 56 #[.slice a l.length c, .func (.func 67) #[] #[.pointer (some ⟨bc, 0, none⟩)]] w fun e w' => e = .returned (.bool (greatB l want)) ∧ Below w.heap.size w w' := by
  have hp := Hp.start w
  have K := Lib.hid (index79 l a c hl want bc w ha hbc hcc)
  clear ha hcc
  go_enter Try.func56, Try.ntmps56
  go_wp2_with (go_at_call 79; refine K.out.mono ?_; rintro e w1 ⟨i, rfl, hi, hb⟩; replace hp := hp.call hb; have HI := Lib.hid hi; clear hi hb)
  go_ret
  exact ⟨ret_bool HI.out, hp.below⟩

noncomputable def roomB (order : Int) (l : List Bl) (want : Int) : Bool := rightB order l && decide (0 ≤ want) && decide (want ≤ order) && greatB l want
set_option maxRecDepth 100000 in
set_option maxHeartbeats 4000000 in
theorem room27 (order : Int) (l : List Bl) (a : Option Addr) (c : Nat) (hl : l.length ≤ 600) (want : Int) (w : World) (ha : RowIs w a (l.flatMap blV)) :
    Calls Try.prog 27 #[.int .i64 order, .slice a l.length c, .int .i64 want] w fun e w' => e = .returned (.bool (roomB order l want)) ∧ Below w.heap.size w w' := by
  have hp := Hp.start w
  have HA := Lib.hid ha
  clear ha
  have F : (rightB order l = false ∧ roomB order l want = false) ∨ (rightB order l = true ∧ decide (0 ≤ want) = false ∧ roomB order l want = false) ∨ (rightB order l = true ∧ decide (0 ≤ want) = true ∧ decide (want ≤ order) = false ∧ roomB order l want = false) ∨ (rightB order l = true ∧ decide (0 ≤ want) = true ∧ decide (want ≤ order) = true ∧ roomB order l want = greatB l want) := by
    unfold roomB
    cases rightB order l <;> cases decide (0 ≤ want) <;> cases decide (want ≤ order) <;> simp
  rcases F with ⟨hr, f⟩ | ⟨hr, h1, f⟩ | ⟨hr, h1, h2, f⟩ | ⟨hr, h1, h2, f⟩
  all_goals
    have R := Lib.hid f
    clear f
    go_enter Try.func27, Try.ntmps27
    go_wp2_with (first | (go_at_call 28; refine (check28 order l a c hl _ (HA.out.below hp.below)).mono ?_; rintro e w1 ⟨rfl, hb⟩; rw [hr]; simp only [errI, if_true, Bool.false_eq_true, if_false]; replace hp := hp.call hb; clear hb) | (go_at_call 56; refine (contains56 l a c hl want _ _ (HA.out.below hp.below) (hp.lt (Hp.mem at0)).2 (hp.cell at0 rfl)).mono ?_; rintro e w1 ⟨rfl, hb⟩; replace hp := hp.call hb; clear hb) | go_skip | ((with_reducible refine pre_alloc 39 rfl ?_); refine wpList_alloc_hp hp _ rfl (by first | exact wanted_none rfl | exact wanted_yes rfl rfl rfl rfl) _ _ zero39 ?_; clear hp; intro b w1 hp; simp only [put_some, put_none, List.set_cons_succ, List.set_cons_zero]) | ((with_reducible refine pre_box _ _ rfl ?_); refine wpList_box_hp hp _ _ rfl (by first | exact wanted_none rfl | exact wanted_yes rfl rfl rfl rfl) _ (slot_tmp rfl) _ rfl _ (by simp only [List.length_cons, List.length_nil, Nat.reduceAdd]; rfl) ?_; clear hp; intro b w1 hp; simp only [put_some, put_none, List.set_cons_succ, List.set_cons_zero]) | ((with_reducible refine pre_load _ _ rfl ?_); first | (refine wpList_loadOne_hp hp _ _ rfl (by first | exact wanted_none rfl | exact wanted_yes rfl rfl rfl rfl) _ _ (slot_tmp rfl) (by with_reducible first | exact cell3 | exact cell4 | exact cell29) _ _ _ _ (by first | exact at0 | exact at1 | exact at2 | exact at3) _ (by rfl) ?_; simp only [put_some, put_none, List.set_cons_succ, List.set_cons_zero]) | (refine wpList_loadAgg_hp hp _ _ rfl (by first | exact wanted_none rfl | exact wanted_yes rfl rfl rfl rfl) _ _ (slot_tmp rfl) _ (by with_reducible first | exact agg39) _ _ _ _ (by first | exact at0 | exact at1 | exact at2 | exact at3) _ (by simp only [List.drop_zero, List.drop_succ_cons, List.take_succ_cons, List.take_zero, List.take_nil]; rfl) (by rfl) ?_; simp only [put_some, put_none, List.set_cons_succ, List.set_cons_zero])) | ((with_reducible refine pre_store 39 _ _ rfl ?_); first | (refine wpList_storeAll_hp hp _ _ _ rfl (by first | exact wanted_none rfl | exact wanted_yes rfl rfl rfl rfl) _ (slot_tmp rfl) _ (slot_tmp rfl) agg39 _ _ _ _ (by first | exact at0 | exact at1 | exact at2 | exact at3) (by rfl) (by first | rfl | simp [*]) ?_; clear hp; intro w1 hp; simp only [List.set_cons_zero, List.set_cons_succ] at hp; simp only [put_some, put_none, List.set_cons_succ, List.set_cons_zero]) | (refine wpList_storeAgg_hp hp _ _ _ rfl (by first | exact wanted_none rfl | exact wanted_yes rfl rfl rfl rfl) _ _ (slot_tmp rfl) _ (slot_tmp rfl) agg39 _ _ _ _ (by first | exact at0 | exact at1 | exact at2 | exact at3) (by simp only [List.length_cons, List.length_nil]; omega) (by first | rfl | simp [*]) ?_; clear hp; intro w1 hp; simp only [spl, List.set_cons_zero, List.set_cons_succ] at hp; simp only [put_some, put_none, List.set_cons_succ, List.set_cons_zero])) | ((with_reducible refine pre_store _ _ _ rfl ?_); (refine wpList_storeOne_hp hp _ _ _ rfl (by first | exact wanted_none rfl | exact wanted_yes rfl rfl rfl rfl) _ _ (slot_tmp rfl) _ (by first | exact slot_tmp rfl | exact slot_const) (by with_reducible first | exact cell3 | exact cell4 | exact cell29) _ _ _ _ (by first | exact at0 | exact at1 | exact at2 | exact at3) (by simp only [List.length_cons, List.length_nil]; omega) (by first | rfl | assumption) ?_; clear hp; intro w1 hp; simp only [List.set_cons_zero, List.set_cons_succ] at hp; simp only [put_some, put_none, List.set_cons_succ, List.set_cons_zero])))
    go_ret
    exact ⟨ret_bool R.out.symm, hp.below⟩
end Go.Proofs.Ytinlmcdphhmhjaa
