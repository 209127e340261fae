/- The walk of the document's Place. -/
import Derived.Test.YtppdjlgjcdmiaaaGreatQC
set_option linter.unusedSimpArgs false
set_option linter.unusedVariables false
namespace Go.Proofs.YtppdjlgjcdmiaaaGreat
open Go.RowKit
theorem gaKPlace0 {ty : TypeId} {k : Nat} (h : aggB Tryz.prog ty k = true := by with_reducible first | exact agg26 | exact agg67 | exact agg64) : aggB Tryz.prog ty k = true := h
theorem ceKPlace1 {ty : TypeId} (h : cellB Tryz.prog ty = true := by with_reducible first | exact cell3 | exact cell4 | exact cell22 | exact cell24) : cellB Tryz.prog ty = true := h
def PlaceI (os : List Ob) (t : Int) (r : Int) : Prop := (r = -1 ∧ ∀ o ∈ os, o.h ≠ t) ∨ ∃ (j : Nat) (o : Ob), r = j ∧ os[j]? = some o ∧ o.h = t ∧ ∀ (i : Nat) q, i < j → os[i]? = some q → q.h ≠ t
theorem PlaceI.leads {os : List Ob} {t r : Int} (h : PlaceI os t r) (h0 : t ≠ 0) : decide (0 ≤ r) = leadsB os t := by
  rw [Bool.eq_iff_iff, decide_eq_true_eq, leadsB_iff]
  rcases h with ⟨rfl, h⟩ | ⟨j, o, rfl, hj, ho, _⟩
  · constructor
    · intro h; omega
    · rintro (h1 | ⟨o, ho, h1⟩)
      · exact absurd h1 h0
      · exact absurd h1 (h o ho)
  · exact ⟨fun _ => .inr ⟨o, List.mem_of_getElem? hj, ho⟩, fun _ => by omega⟩
def PlacePost (w : World) (os : List Ob) (t : Int) (e : Ending) (w' : World) : Prop := ∃ r : Int, e = .returned (.int .i64 r) ∧ PlaceI os t r ∧ Below w.heap.size w w'
set_option maxRecDepth 100000 in
set_option maxHeartbeats 4000000 in
theorem place74 (od : Int) (oa : Option Addr) (os : List Ob) (oc : Nat) (nx t0 t1 t2 t3 : Int) (fa : Option Addr) (fl fc : Nat) (hol : os.length ≤ 1000) (t : Int) (w : World) (ha : RowIs w oa (os.flatMap obV)) :
    Calls Tryz.prog 74 #[.agg #[.int .i64 od, .slice oa os.length oc, .int .i64 nx, .int .i64 t0, .int .i64 t1, .int .i64 t2, .int .i64 t3, .slice fa fl fc], .int .i64 t] w (PlacePost w os t) := by
  have hp := Hp.start w
  have HA := Lib.hid ha
  clear ha
  go_enter Tryz.func74, Tryz.ntmps74
  go_wp2_with (first | go_skip | ((first | ((with_reducible refine pre_box _ _ rfl ?_); refine lB hp rfl (slot_tmp rfl) rfl ?_; clear hp; intro b w1 hp) | ((with_reducible refine pre_load _ _ rfl ?_); first | refine lO hp rfl (slot_tmp rfl) ceKPlace1 aa5 ?_ | refine lRO hp rfl (slot_tmp rfl) ceKPlace1 (by first | exact HX.out 0 _ rfl | exact HX.out 1 _ rfl | exact HX.out 2 _ rfl) ?_ | refine lA hp rfl (slot_tmp rfl) gaKPlace0 aa5 ?_ | refine lR hp rfl (slot_tmp rfl) gaKPlace0 HX.out ?_) | ((with_reducible refine pre_store _ _ _ rfl ?_); (first | refine sO hp rfl (slot_tmp rfl) ceKPlace1 aa5 ?_ | refine sA hp rfl (slot_tmp rfl) (slot_tmp rfl) gaKPlace0 aa5 ?_ | refine sG hp rfl (slot_tmp rfl) (slot_tmp rfl) gaKPlace0 aa5 ?_); clear hp; intro w1 hp; simp only [spl, List.set_cons_zero, List.set_cons_succ] at hp) | ((with_reducible refine pre_build _ _ _ rfl ?_); refine lS hp rfl (by intro w; go_simp; rfl) ?_; clear hp; intro b w1 hp; simp only [List.length_cons, List.length_nil, Nat.reduceAdd] at hp)); simp only [put_some, put_none, List.set_cons_succ, List.set_cons_zero]))
  obtain ⟨b1, rfl⟩ := hp.id0
  go_loopg [5] os.length (fun k i wr => ∃ j : Nat, k + j = os.length ∧ i = .int .i64 j ∧ RowKit.Hid (∀ (i : Nat) q, i < j → os[i]? = some q → q.h ≠ t) ∧ Hp w.heap.size w wr [⟨b1, [.int .i64 od, .slice oa os.length oc, .int .i64 nx, .int .i64 t0, .int .i64 t1, .int .i64 t2, .int .i64 t3, .slice fa fl fc], 26, 8⟩])
  case atStart => exact ⟨0, by omega, rfl, Lib.hid (fun i y h => by omega), hp⟩
  case round =>
    clear hp
    obtain ⟨j, hkj, rfl, HY, hp⟩ := hrel
    by_cases hlt : j < os.length
    · obtain ⟨bq, off, rfl, hx⟩ := HA.out.elems 5 obV_len (by omega) (by omega)
      have hj := List.getElem?_eq_getElem hlt
      replace hx := hx j _ hj
      have HJ := Lib.hid hj
      clear hj
      generalize os[j] = x at hx HJ
      obtain ⟨xh, xp, xo, wa, ws, wc, la, ls, lc⟩ := x
      simp only [obV] at hx
      have HX := Lib.hid hx
      clear hx
      have e1 : (0 : Int) ≤ (j : Int) := by omega
      have e2 : (j : Int) < (os.length : Int) := by omega
      by_cases hne : xh = t
      · have HNE := Lib.hid hne
        have e3 : (xh == t) = true := by simpa using hne
        clear hne
        go_wp2_with (first | go_skip | ((first | ((with_reducible refine pre_box _ _ rfl ?_); refine lB hp rfl (slot_tmp rfl) rfl ?_; clear hp; intro b w1 hp) | ((with_reducible refine pre_load _ _ rfl ?_); first | refine lO hp rfl (slot_tmp rfl) ceKPlace1 aa5 ?_ | refine lRO hp rfl (slot_tmp rfl) ceKPlace1 (by first | exact HX.out 0 _ rfl | exact HX.out 1 _ rfl | exact HX.out 2 _ rfl) ?_ | refine lA hp rfl (slot_tmp rfl) gaKPlace0 aa5 ?_ | refine lR hp rfl (slot_tmp rfl) gaKPlace0 HX.out ?_) | ((with_reducible refine pre_store _ _ _ rfl ?_); (first | refine sO hp rfl (slot_tmp rfl) ceKPlace1 aa5 ?_ | refine sA hp rfl (slot_tmp rfl) (slot_tmp rfl) gaKPlace0 aa5 ?_ | refine sG hp rfl (slot_tmp rfl) (slot_tmp rfl) gaKPlace0 aa5 ?_); clear hp; intro w1 hp; simp only [spl, List.set_cons_zero, List.set_cons_succ] at hp) | ((with_reducible refine pre_build _ _ _ rfl ?_); refine lS hp rfl (by intro w; go_simp; rfl) ?_; clear hp; intro b w1 hp; simp only [List.length_cons, List.length_nil, Nat.reduceAdd] at hp)); simp only [put_some, put_none, List.set_cons_succ, List.set_cons_zero]))
        go_ret
        exact ⟨j, rfl, .inr ⟨j, _, rfl, HJ.out, HNE.out, HY.out⟩, hp.below⟩
      · have HNE := Lib.hid hne
        have e3 : (xh == t) = false := by simpa using hne
        clear hne
        go_wp2_with (first | go_skip | ((first | ((with_reducible refine pre_box _ _ rfl ?_); refine lB hp rfl (slot_tmp rfl) rfl ?_; clear hp; intro b w1 hp) | ((with_reducible refine pre_load _ _ rfl ?_); first | refine lO hp rfl (slot_tmp rfl) ceKPlace1 aa5 ?_ | refine lRO hp rfl (slot_tmp rfl) ceKPlace1 (by first | exact HX.out 0 _ rfl | exact HX.out 1 _ rfl | exact HX.out 2 _ rfl) ?_ | refine lA hp rfl (slot_tmp rfl) gaKPlace0 aa5 ?_ | refine lR hp rfl (slot_tmp rfl) gaKPlace0 HX.out ?_) | ((with_reducible refine pre_store _ _ _ rfl ?_); (first | refine sO hp rfl (slot_tmp rfl) ceKPlace1 aa5 ?_ | refine sA hp rfl (slot_tmp rfl) (slot_tmp rfl) gaKPlace0 aa5 ?_ | refine sG hp rfl (slot_tmp rfl) (slot_tmp rfl) gaKPlace0 aa5 ?_); clear hp; intro w1 hp; simp only [spl, List.set_cons_zero, List.set_cons_succ] at hp) | ((with_reducible refine pre_build _ _ _ rfl ?_); refine lS hp rfl (by intro w; go_simp; rfl) ?_; clear hp; intro b w1 hp; simp only [List.length_cons, List.length_nil, Nat.reduceAdd] at hp)); simp only [put_some, put_none, List.set_cons_succ, List.set_cons_zero]))
        go_roundg (gk - 1)
        case measure => omega
        case rel =>
          refine ⟨j + 1, by omega, by go_num, Lib.hid (fun i y hi hy => ?_), hp⟩
          rcases Nat.lt_or_ge i j with h | h
          · exact HY.out i y h hy
          · have : i = j := by omega
            subst this
            rw [HJ.out] at hy; injection hy with hy; subst hy; exact HNE.out
    · have e2 : decide ((j : Int) < (os.length : Int)) = false := by simp; omega
      go_wp2_with (first | go_skip | ((first | ((with_reducible refine pre_box _ _ rfl ?_); refine lB hp rfl (slot_tmp rfl) rfl ?_; clear hp; intro b w1 hp) | ((with_reducible refine pre_load _ _ rfl ?_); first | refine lO hp rfl (slot_tmp rfl) ceKPlace1 aa5 ?_ | refine lRO hp rfl (slot_tmp rfl) ceKPlace1 (by first | exact HX.out 0 _ rfl | exact HX.out 1 _ rfl | exact HX.out 2 _ rfl) ?_ | refine lA hp rfl (slot_tmp rfl) gaKPlace0 aa5 ?_ | refine lR hp rfl (slot_tmp rfl) gaKPlace0 HX.out ?_) | ((with_reducible refine pre_store _ _ _ rfl ?_); (first | refine sO hp rfl (slot_tmp rfl) ceKPlace1 aa5 ?_ | refine sA hp rfl (slot_tmp rfl) (slot_tmp rfl) gaKPlace0 aa5 ?_ | refine sG hp rfl (slot_tmp rfl) (slot_tmp rfl) gaKPlace0 aa5 ?_); clear hp; intro w1 hp; simp only [spl, List.set_cons_zero, List.set_cons_succ] at hp) | ((with_reducible refine pre_build _ _ _ rfl ?_); refine lS hp rfl (by intro w; go_simp; rfl) ?_; clear hp; intro b w1 hp; simp only [List.length_cons, List.length_nil, Nat.reduceAdd] at hp)); simp only [put_some, put_none, List.set_cons_succ, List.set_cons_zero]))
      go_ret
      refine ⟨-1, rfl, .inl ⟨rfl, fun o ho => ?_⟩, hp.below⟩
      obtain ⟨i, hi, rfl⟩ := List.getElem_of_mem ho
      exact HY.out i _ (by omega) (List.getElem?_eq_getElem hi)
theorem RowIs.fix0 {w : World} {b off : Nat} {xs : List Value} (h : RowIs w (some ⟨b, off, none⟩) xs) : ∀ j v, xs[j]? = some v → w.cell? ⟨b, off + j, none⟩ = some v := fun j v hj => by
  obtain ⟨b', off', he, hc⟩ := h j v hj
  injection he with he; injection he with e1 e2; subst e1; subst e2; exact hc
end Go.Proofs.YtppdjlgjcdmiaaaGreat
