/- The walk of Words of the document, and small laws on right blocks. -/
import Derived.Test.YtbflmnoaiklnbaaLA
import Derived.Test.YtbflmnoaiklnbaaCB
set_option linter.unusedSimpArgs false
set_option linter.unusedVariables false
namespace Go.Proofs.Ytbflmnoaiklnbaa
open Go.RowKit
theorem sumB_le (l : List Bl) (h : ∀ b ∈ l, b.o ≤ 8) : sumB l ≤ l.length * 256 := by
  induction l with
  | nil => simp [sumB]
  | cons b l ih =>
    rw [sumB_cons]
    have := ih (fun c hc => h c (by simp [hc]))
    have := pw_le (h b (by simp))
    simp only [List.length_cons]; omega
theorem sum_take {l : List Bl} {j : Nat} {b : Bl} (h : l[j]? = some b) (hl : l.length ≤ 2000) (ho : ∀ b ∈ l, b.o ≤ 8) : sumB (l.take j) + pw b.o = sumB (l.take (j + 1)) ∧ wrap64 (sumB (l.take j) + pw b.o) = sumB (l.take (j + 1)) := by
  have h1 : sumB (l.take j) + pw b.o = sumB (l.take (j + 1)) := by
    rw [List.take_add_one, h, sumB_append]; simp [sumB]
  refine ⟨h1, ?_⟩
  rw [h1]
  have h2 := sumB_le (l.take (j + 1)) (fun b hb => ho b (List.mem_of_mem_take hb))
  have h3 := sumB_nonneg (l.take (j + 1))
  have h4 : (l.take (j + 1)).length ≤ l.length := by rw [List.length_take]; omega
  exact IntWalk.wrap64_in _ ⟨by omega, by omega⟩
set_option maxRecDepth 100000 in
set_option maxHeartbeats 4000000 in
theorem words27 (l : List Bl) (a : Option Addr) (c : Nat) (hl : l.length ≤ 2000) (ho : ∀ b ∈ l, b.o ≤ 8) (w : World) (ha : RowIs w a (l.flatMap blV)) :
    Calls Try.prog 27 #[.slice a l.length c] w fun e w' => e = .returned (.int .i64 (sumB l)) ∧ Below w.heap.size w w' := by
  have hp := Hp.start w
  have HA := Lib.hid ha
  have HO := Lib.hid ho
  clear ha ho
  go_enter Try.func27, Try.ntmps27
  go_wp2_with (first | go_skip | ((first | ((with_reducible refine pre_alloc _ rfl ?_); refine lZ hp rfl zero44 ?_; clear hp; intro b w1 hp) | ((with_reducible refine pre_box _ _ rfl ?_); refine lB hp rfl (slot_tmp rfl) rfl ?_; clear hp; intro b w1 hp) | ((with_reducible refine pre_load _ _ rfl ?_); first | refine lO hp rfl (slot_tmp rfl) (by with_reducible first | exact cell3 | exact cell4 | exact cell24 | exact cell30) aa14 ?_ | refine lRO hp rfl (slot_tmp rfl) (by with_reducible first | exact cell3 | exact cell4 | exact cell24 | exact cell30) (by first | exact HX.out 0 _ rfl | exact HX.out 1 _ rfl) ?_ | refine lA hp rfl (slot_tmp rfl) agg44 aa14 ?_ | refine lR hp rfl (slot_tmp rfl) agg44 HX.out ?_) | ((with_reducible refine pre_store _ _ _ rfl ?_); (first | refine sO hp rfl (slot_tmp rfl) (by with_reducible first | exact cell3 | exact cell4 | exact cell24 | exact cell30) aa14 ?_ | refine sA hp rfl (slot_tmp rfl) (slot_tmp rfl) agg44 aa14 ?_ | refine sG hp rfl (slot_tmp rfl) (slot_tmp rfl) agg44 aa14 ?_); clear hp; intro w1 hp; simp only [spl, List.set_cons_zero, List.set_cons_succ] at hp) | ((with_reducible refine pre_build _ _ _ rfl ?_); refine lS hp rfl (by intro w; go_simp; rfl) ?_; clear hp; intro b w1 hp; simp only [List.length_cons, List.length_nil, Nat.reduceAdd] at hp)); simp only [put_some, put_none, List.set_cons_succ, List.set_cons_zero]))
  go_loopg [3, 4] l.length (fun k s i wr => ∃ (j : Nat) (sv : Int), k + j = l.length ∧ s = .int .i64 sv ∧ i = .int .i64 j ∧ RowKit.Hid (sv = sumB (l.take j)) ∧ Hp w.heap.size w wr [])
  case atStart => exact ⟨0, 0, by omega, rfl, rfl, Lib.hid (by simp [sumB]), hp⟩
  case round =>
    clear hp
    obtain ⟨j, sv, hkj, rfl, rfl, HS, hp⟩ := hrel
    by_cases hlt : j < l.length
    · obtain ⟨bq, off, rfl, hx⟩ := HA.out.elems 2 blV_len (by omega) (by omega)
      have hj := List.getElem?_eq_getElem hlt
      replace hx := hx j _ hj
      have HJ := Lib.hid hj
      have ho8 := HO.out _ (List.getElem_mem hlt)
      clear hj
      generalize l[j] = y at hx HJ ho8
      have HST := Lib.hid (sum_take HJ.out hl HO.out)
      obtain ⟨yp, yo⟩ := y
      simp only [blV] at hx
      simp only at ho8 HST
      have HX := Lib.hid hx
      clear hx
      have e1 : (0 : Int) ≤ (j : Int) := by omega
      have e2 : (j : Int) < (l.length : Int) := by omega
      go_wp2_with (first | (go_at_call 62; (with_reducible refine (size62 _ (by omega) _).mono ?_); rintro e w' ⟨rfl, rfl⟩) | go_skip | ((first | ((with_reducible refine pre_alloc _ rfl ?_); refine lZ hp rfl zero44 ?_; clear hp; intro b w1 hp) | ((with_reducible refine pre_box _ _ rfl ?_); refine lB hp rfl (slot_tmp rfl) rfl ?_; clear hp; intro b w1 hp) | ((with_reducible refine pre_load _ _ rfl ?_); first | refine lO hp rfl (slot_tmp rfl) (by with_reducible first | exact cell3 | exact cell4 | exact cell24 | exact cell30) aa14 ?_ | refine lRO hp rfl (slot_tmp rfl) (by with_reducible first | exact cell3 | exact cell4 | exact cell24 | exact cell30) (by first | exact HX.out 0 _ rfl | exact HX.out 1 _ rfl) ?_ | refine lA hp rfl (slot_tmp rfl) agg44 aa14 ?_ | refine lR hp rfl (slot_tmp rfl) agg44 HX.out ?_) | ((with_reducible refine pre_store _ _ _ rfl ?_); (first | refine sO hp rfl (slot_tmp rfl) (by with_reducible first | exact cell3 | exact cell4 | exact cell24 | exact cell30) aa14 ?_ | refine sA hp rfl (slot_tmp rfl) (slot_tmp rfl) agg44 aa14 ?_ | refine sG hp rfl (slot_tmp rfl) (slot_tmp rfl) agg44 aa14 ?_); clear hp; intro w1 hp; simp only [spl, List.set_cons_zero, List.set_cons_succ] at hp) | ((with_reducible refine pre_build _ _ _ rfl ?_); refine lS hp rfl (by intro w; go_simp; rfl) ?_; clear hp; intro b w1 hp; simp only [List.length_cons, List.length_nil, Nat.reduceAdd] at hp)); simp only [put_some, put_none, List.set_cons_succ, List.set_cons_zero]))
      go_roundg (gk - 1)
      case measure => omega
      case rel => exact ⟨j + 1, _, by omega, rfl, by go_num, Lib.hid (by rw [HS.out]; exact HST.out.2), hp⟩
    · have e2 : decide ((j : Int) < (l.length : Int)) = false := by simp; omega
      go_wp2_with (first | go_skip | ((first | ((with_reducible refine pre_alloc _ rfl ?_); refine lZ hp rfl zero44 ?_; clear hp; intro b w1 hp) | ((with_reducible refine pre_box _ _ rfl ?_); refine lB hp rfl (slot_tmp rfl) rfl ?_; clear hp; intro b w1 hp) | ((with_reducible refine pre_load _ _ rfl ?_); first | refine lO hp rfl (slot_tmp rfl) (by with_reducible first | exact cell3 | exact cell4 | exact cell24 | exact cell30) aa14 ?_ | refine lRO hp rfl (slot_tmp rfl) (by with_reducible first | exact cell3 | exact cell4 | exact cell24 | exact cell30) (by first | exact HX.out 0 _ rfl | exact HX.out 1 _ rfl) ?_ | refine lA hp rfl (slot_tmp rfl) agg44 aa14 ?_ | refine lR hp rfl (slot_tmp rfl) agg44 HX.out ?_) | ((with_reducible refine pre_store _ _ _ rfl ?_); (first | refine sO hp rfl (slot_tmp rfl) (by with_reducible first | exact cell3 | exact cell4 | exact cell24 | exact cell30) aa14 ?_ | refine sA hp rfl (slot_tmp rfl) (slot_tmp rfl) agg44 aa14 ?_ | refine sG hp rfl (slot_tmp rfl) (slot_tmp rfl) agg44 aa14 ?_); clear hp; intro w1 hp; simp only [spl, List.set_cons_zero, List.set_cons_succ] at hp) | ((with_reducible refine pre_build _ _ _ rfl ?_); refine lS hp rfl (by intro w; go_simp; rfl) ?_; clear hp; intro b w1 hp; simp only [List.length_cons, List.length_nil, Nat.reduceAdd] at hp)); simp only [put_some, put_none, List.set_cons_succ, List.set_cons_zero]))
      go_ret
      refine ⟨ret_int ?_, hp.below⟩
      rw [HS.out, List.take_of_length_le (by omega)]
theorem OwnRow.kept2 {e : TypeId} {c n : Nat} {a : Option Addr} {k : Nat} {xs : List Value} {R : List Blk} (h : OwnRow e c (.slice a n k) n xs R) : Kept R fun w => RowIs w a xs := by
  obtain ⟨a', k', hv, hk⟩ := h.kept
  injection hv with h1 h2 h3
  subst h1
  exact hk
theorem right_len {od : Int} {fs : List Bl} (hr : rightB od fs = true) : fs.length ≤ 600 := by
  obtain ⟨h3, h8, hg⟩ := rightB_good2 hr
  have h1 := hg.len h3
  have h2 := pw_le h8
  omega
theorem right_o {od : Int} {fs : List Bl} (hr : rightB od fs = true) : ∀ b ∈ fs, b.o ≤ 8 := fun b hb => by
  obtain ⟨h3, h8, hg⟩ := right_can hr
  have := (hg.may b hb).2.1
  omega
theorem check_ok (order : Int) (l : List Bl) (a : Option Addr) (c : Nat) (hl : l.length ≤ 600) (hr : rightB order l = true) (w : World) (ha : RowIs w a (l.flatMap blV)) : Calls Try.prog 19 #[.int .i64 order, .slice a l.length c] w fun e w' => e = .returned (.int .i64 0) ∧ Below w.heap.size w w' := by
  have h := check19 order l a c hl w ha
  rw [hr] at h
  exact h
end Go.Proofs.Ytbflmnoaiklnbaa
