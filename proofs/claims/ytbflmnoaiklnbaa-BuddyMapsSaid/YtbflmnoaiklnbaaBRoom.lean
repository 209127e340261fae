/- The walks of Best, IndexFunc, ContainsFunc and Room. -/
import Derived.Test.YtbflmnoaiklnbaaBCheck
set_option linter.unusedSimpArgs false
set_option linter.unusedVariables false
namespace Go.Proofs.Ytbflmnoaiklnbaa
open Go.RowKit

/-- Is there a block that is great enough? -/
def greatB (l : List Bl) (want : Int) : Bool := l.any fun x => decide (want ≤ x.o)
theorem great_take {l : List Bl} {want : Int} {j : Nat} {x : Bl} (h : l[j]? = some x) : greatB (l.take (j + 1)) want = (greatB (l.take j) want || decide (want ≤ x.o)) := by
  unfold greatB
  rw [List.take_add_one, h]
  simp [List.any_append]
theorem great_yes {l : List Bl} {want : Int} {j : Nat} {x : Bl} (h : l[j]? = some x) (hw : want ≤ x.o) : greatB l want = true := by
  unfold greatB
  exact List.any_eq_true.2 ⟨x, List.mem_of_getElem? h, by simp [hw]⟩

set_option maxRecDepth 100000 in
set_option maxHeartbeats 4000000 in
theorem room87 (p o want : Int) (b : Nat) (w : World) (hb : b < w.heap.size) (hc : w.cell? ⟨b, 0, none⟩ = some (.int .i64 want)) :
    Calls Try.prog 87 #[.agg #[.int .i64 p, .int .i64 o], .pointer (some ⟨b, 0, none⟩)] w fun e w' => e = .returned (.bool (decide (want ≤ o))) ∧ Below w.heap.size w w' := by
  have hp := Hp.start w
  have HC := Lib.hid hc
  clear hc
  go_enter Try.func87, Try.ntmps87
  go_wp2_with (first | go_skip | ((first | ((with_reducible refine pre_alloc _ rfl ?_); refine lZ hp rfl zero44 ?_; clear hp; intro b w1 hp) | ((with_reducible refine pre_box _ _ rfl ?_); refine lB hp rfl (slot_tmp rfl) rfl ?_; clear hp; intro b w1 hp) | ((with_reducible refine pre_load _ _ rfl ?_); first | refine lO hp rfl (slot_tmp rfl) (by with_reducible first | exact cell3 | exact cell4 | exact cell30) aa5 ?_ | refine lA hp rfl (slot_tmp rfl) agg44 aa5 ?_) | ((with_reducible refine pre_store _ _ _ rfl ?_); (first | refine sO hp rfl (slot_tmp rfl) (by with_reducible first | exact cell3 | exact cell4 | exact cell30) aa5 ?_ | refine sA hp rfl (slot_tmp rfl) (slot_tmp rfl) agg44 aa5 ?_ | refine sG hp rfl (slot_tmp rfl) (slot_tmp rfl) agg44 aa5 ?_); clear hp; intro w1 hp; simp only [spl, List.set_cons_zero, List.set_cons_succ] at hp)); simp only [put_some, put_none, List.set_cons_succ, List.set_cons_zero]) | (refine wpList_loadRowOne_hp hp _ _ rfl (wanted_none rfl) _ _ (slot_tmp rfl) cell3 _ HC.out ?_; simp only [put_some, put_none, List.set_cons_succ, List.set_cons_zero]))
  go_ret
  exact ⟨rfl, hp.below⟩

def IdxPost (w : World) (g : Bool) (e : Ending) (w' : World) : Prop := ∃ i : Int, e = .returned (.int .i64 i) ∧ decide (0 ≤ i) = g ∧ Below w.heap.size w w'

theorem RowIs.of_below {w w' : World} {a : Option Addr} {xs : List Value} (h : RowIs w a xs) (hb : Below w.heap.size w w') : RowIs w' a xs := h.below hb

set_option maxRecDepth 100000 in
set_option maxHeartbeats 4000000 in
theorem index131 (l : List Bl) (a : Option Addr) (c : Nat) (hl : l.length ≤ 600) (want : Int) (bc : Nat) (w : World) (ha : RowIs w a (l.flatMap blV)) (hbc : bc < w.heap.size) (hcc : w.cell? ⟨bc, 0, none⟩ = some (.int .i64 want)) :
    Calls Try.prog 131 #[.slice a l.length c, .func (.func 87) #[] #[.pointer (some ⟨bc, 0, none⟩)]] w (IdxPost w (greatB l want)) := by
  have hp := Hp.start w
  have HA := Lib.hid ha
  have HC := Lib.hid hcc
  clear ha hcc
  go_enter Try.func131, Try.ntmps131
  go_wp2_with (first | go_skip | ((first | ((with_reducible refine pre_alloc _ rfl ?_); refine lZ hp rfl zero44 ?_; clear hp; intro b w1 hp) | ((with_reducible refine pre_box _ _ rfl ?_); refine lB hp rfl (slot_tmp rfl) rfl ?_; clear hp; intro b w1 hp) | ((with_reducible refine pre_load _ _ rfl ?_); first | refine lO hp rfl (slot_tmp rfl) (by with_reducible first | exact cell3 | exact cell4 | exact cell30) aa5 ?_ | refine lA hp rfl (slot_tmp rfl) agg44 aa5 ?_) | ((with_reducible refine pre_store _ _ _ rfl ?_); (first | refine sO hp rfl (slot_tmp rfl) (by with_reducible first | exact cell3 | exact cell4 | exact cell30) aa5 ?_ | refine sA hp rfl (slot_tmp rfl) (slot_tmp rfl) agg44 aa5 ?_ | refine sG hp rfl (slot_tmp rfl) (slot_tmp rfl) agg44 aa5 ?_); clear hp; intro w1 hp; simp only [spl, List.set_cons_zero, List.set_cons_succ] at hp)); simp only [put_some, put_none, List.set_cons_succ, List.set_cons_zero]))
  go_loopg [8] l.length (fun k i wr => ∃ j : Nat, k + j = l.length ∧ i = .int .i64 j ∧ greatB (l.take j) want = false ∧ Hp w.heap.size w wr [])
  case atStart => exact ⟨0, by omega, rfl, by simp [greatB], hp⟩
  case round =>
    clear hp
    obtain ⟨j, hkj, rfl, hg, hp⟩ := hrel
    by_cases hlt : j < l.length
    · obtain ⟨bq, off, rfl, hx⟩ := HA.out.elems 2 blV_len (by omega) (by omega)
      have hj := List.getElem?_eq_getElem hlt
      replace hx := hx j _ hj
      generalize l[j] = x at hx hj
      obtain ⟨p, o⟩ := x
      simp only [blV] at hx
      have HX := Lib.hid hx
      have HG := Lib.hid hg
      have HJ := Lib.hid hj
      clear hx hg hj
      have e1 : (0 : Int) ≤ (j : Int) := by omega
      have e2 : (j : Int) < (l.length : Int) := by omega
      go_wp2_with (first | (go_at_call 87; refine (room87 p o want bc _ (by have := hp.below.size; omega) ((hp.below.cell (p := ⟨bc, 0, none⟩) hbc).trans HC.out)).mono ?_; rintro e w1 ⟨rfl, hb⟩; replace hp := hp.call hb; clear hb) | go_skip | ((first | ((with_reducible refine pre_alloc _ rfl ?_); refine lZ hp rfl zero44 ?_; clear hp; intro b w1 hp) | ((with_reducible refine pre_box _ _ rfl ?_); refine lB hp rfl (slot_tmp rfl) rfl ?_; clear hp; intro b w1 hp) | ((with_reducible refine pre_load _ _ rfl ?_); first | refine lO hp rfl (slot_tmp rfl) (by with_reducible first | exact cell3 | exact cell4 | exact cell30) aa5 ?_ | refine lRO hp rfl (slot_tmp rfl) (by with_reducible first | exact cell3 | exact cell4 | exact cell30) (by first | exact HX.out 0 _ rfl | exact HX.out 1 _ rfl) ?_ | refine lA hp rfl (slot_tmp rfl) agg44 aa5 ?_ | refine lR hp rfl (slot_tmp rfl) agg44 HX.out ?_) | ((with_reducible refine pre_store _ _ _ rfl ?_); (first | refine sO hp rfl (slot_tmp rfl) (by with_reducible first | exact cell3 | exact cell4 | exact cell30) aa5 ?_ | refine sA hp rfl (slot_tmp rfl) (slot_tmp rfl) agg44 aa5 ?_ | refine sG hp rfl (slot_tmp rfl) (slot_tmp rfl) agg44 aa5 ?_); clear hp; intro w1 hp; simp only [spl, List.set_cons_zero, List.set_cons_succ] at hp)); simp only [put_some, put_none, List.set_cons_succ, List.set_cons_zero]))
      · have hw : want ≤ o := by assumption
        go_ret
        exact ⟨j, rfl, by rw [great_yes HJ.out hw]; simp, hp.below⟩
      · have hw : ¬ want ≤ o := by omega
        go_roundg (gk - 1)
        case measure => omega
        case rel => exact ⟨j + 1, by omega, by go_num, by rw [great_take HJ.out, HG.out]; simp [hw], hp⟩
    · have e2 : decide ((j : Int) < (l.length : Int)) = false := by simp; omega
      have HG := Lib.hid hg
      clear hg
      go_wp2_with fail
      go_ret
      exact ⟨-1, rfl, by have := HG.out; rw [List.take_of_length_le (by omega)] at this; rw [this]; decide, hp.below⟩

set_option maxRecDepth 100000 in
set_option maxHeartbeats 4000000 in
theorem contains86 (l : List Bl) (a : Option Addr) (c : Nat) (hl : l.length ≤ 600) (want : Int) (bc : Nat) (w : World) (ha : RowIs w a (l.flatMap blV)) (hbc : bc < w.heap.size) (hcc : w.cell? ⟨bc, 0, none⟩ = some (.int .i64 want)) :
    Calls Try.prog 86 #[.slice a l.length c, .func (.func 87) #[] #[.pointer (some ⟨bc, 0, none⟩)]] w fun e w' => e = .returned (.bool (greatB l want)) ∧ Below w.heap.size w w' := by
  have hp := Hp.start w
  have K := Lib.hid (index131 l a c hl want bc w ha hbc hcc)
  clear ha hcc
  go_enter Try.func86, Try.ntmps86
  go_wp2_with (go_at_call 131; refine K.out.mono ?_; rintro e w1 ⟨i, rfl, hi, hb⟩; replace hp := hp.call hb; have HI := Lib.hid hi; clear hi hb)
  go_ret
  exact ⟨ret_bool HI.out, hp.below⟩

noncomputable def roomB (order : Int) (l : List Bl) (want : Int) : Bool := rightB order l && decide (0 ≤ want) && decide (want ≤ order) && greatB l want
set_option maxRecDepth 100000 in
set_option maxHeartbeats 4000000 in
theorem room39 (order : Int) (l : List Bl) (a : Option Addr) (c : Nat) (hl : l.length ≤ 600) (want : Int) (w : World) (ha : RowIs w a (l.flatMap blV)) :
    Calls Try.prog 39 #[.int .i64 order, .slice a l.length c, .int .i64 want] w fun e w' => e = .returned (.bool (roomB order l want)) ∧ Below w.heap.size w w' := by
  have hp := Hp.start w
  have HA := Lib.hid ha
  clear ha
  have F : (rightB order l = false ∧ roomB order l want = false) ∨ (rightB order l = true ∧ decide (0 ≤ want) = false ∧ roomB order l want = false) ∨ (rightB order l = true ∧ decide (0 ≤ want) = true ∧ decide (want ≤ order) = false ∧ roomB order l want = false) ∨ (rightB order l = true ∧ decide (0 ≤ want) = true ∧ decide (want ≤ order) = true ∧ roomB order l want = greatB l want) := by
    unfold roomB
    cases rightB order l <;> cases decide (0 ≤ want) <;> cases decide (want ≤ order) <;> simp
  rcases F with ⟨hr, f⟩ | ⟨hr, h1, f⟩ | ⟨hr, h1, h2, f⟩ | ⟨hr, h1, h2, f⟩
  all_goals
    have R := Lib.hid f
    clear f
    go_enter Try.func39, Try.ntmps39
    go_wp2_with (first | (go_at_call 19; refine (check19 order l a c hl _ (HA.out.below hp.below)).mono ?_; rintro e w1 ⟨rfl, hb⟩; rw [hr]; simp only [errI, if_true, Bool.false_eq_true, if_false]; replace hp := hp.call hb; clear hb) | (go_at_call 86; refine (contains86 l a c hl want _ _ (HA.out.below hp.below) (hp.lt (Hp.mem at0)).2 (hp.cell at0 rfl)).mono ?_; rintro e w1 ⟨rfl, hb⟩; replace hp := hp.call hb; clear hb) | go_skip | ((first | ((with_reducible refine pre_alloc _ rfl ?_); refine lZ hp rfl zero44 ?_; clear hp; intro b w1 hp) | ((with_reducible refine pre_box _ _ rfl ?_); refine lB hp rfl (slot_tmp rfl) rfl ?_; clear hp; intro b w1 hp) | ((with_reducible refine pre_load _ _ rfl ?_); first | refine lO hp rfl (slot_tmp rfl) (by with_reducible first | exact cell3 | exact cell4 | exact cell30) aa5 ?_ | refine lA hp rfl (slot_tmp rfl) agg44 aa5 ?_) | ((with_reducible refine pre_store _ _ _ rfl ?_); (first | refine sO hp rfl (slot_tmp rfl) (by with_reducible first | exact cell3 | exact cell4 | exact cell30) aa5 ?_ | refine sA hp rfl (slot_tmp rfl) (slot_tmp rfl) agg44 aa5 ?_ | refine sG hp rfl (slot_tmp rfl) (slot_tmp rfl) agg44 aa5 ?_); clear hp; intro w1 hp; simp only [spl, List.set_cons_zero, List.set_cons_succ] at hp)); simp only [put_some, put_none, List.set_cons_succ, List.set_cons_zero]))
    go_ret
    exact ⟨ret_bool R.out.symm, hp.below⟩
end Go.Proofs.Ytbflmnoaiklnbaa
