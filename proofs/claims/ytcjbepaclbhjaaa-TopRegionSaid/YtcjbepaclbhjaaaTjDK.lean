import Derived.Test.YtcjbepaclbhjaaaTjDL
/- The walk of the closure that cuts the links to what is gone. -/
set_option linter.unusedSimpArgs false
set_option linter.unusedVariables false
namespace Go.Proofs.Ytcjbepaclbhjaaa
open Go.RowKit
def cutAt (h : Int) (l : List Int) (q : Nat) : List Int := (l.take q).map (cutI h) ++ l.drop q
theorem cutAt_zero (h : Int) (l : List Int) : cutAt h l 0 = l := by simp [cutAt]
theorem cutAt_all (h : Int) (l : List Int) : cutAt h l l.length = l.map (cutI h) := by simp [cutAt]
theorem cutAt_len (h : Int) (l : List Int) (q : Nat) : (cutAt h l q).length = l.length := by
  simp only [cutAt, List.length_append, List.length_map, List.length_take, List.length_drop]; omega
theorem cutAt_get {h : Int} {l : List Int} {q : Nat} {t : Int} (ht : l[q]? = some t) : (cutAt h l q)[q]? = some t := by
  have hlt := (List.getElem?_eq_some_iff.1 ht).1
  unfold cutAt
  have hl : ((l.take q).map (cutI h)).length = q := by rw [List.length_map, List.length_take]; omega
  rw [List.getElem?_append_right (by omega), hl, Nat.sub_self, List.getElem?_drop]
  exact ht
theorem cutAt_step {h : Int} {l : List Int} {q : Nat} {t : Int} (ht : l[q]? = some t) : cutAt h l (q + 1) = (cutAt h l q).set q (cutI h t) := by
  obtain ⟨hlt, rfl⟩ := List.getElem?_eq_some_iff.1 ht
  unfold cutAt
  have hl : ((l.take q).map (cutI h)).length = q := by rw [List.length_map, List.length_take]; omega
  rw [List.set_append_right _ _ (by omega), hl, Nat.sub_self, List.drop_eq_getElem_cons hlt, List.set_cons_zero, List.take_succ_eq_append_getElem hlt, List.map_append, List.append_assoc]
  rfl
def midC (pre : List Value) (l : List Int) (post : List Value) : List Value := pre ++ (l.flatMap iV ++ post)
theorem midC_get {pre post : List Value} {l : List Int} {q : Nat} {t : Int} (h : l[q]? = some t) : (midC pre l post)[pre.length + q]? = some (.int .i64 t) := by
  have hlt := (List.getElem?_eq_some_iff.1 h).1
  unfold midC
  rw [List.getElem?_append_right (by omega), show pre.length + q - pre.length = q by omega, List.getElem?_append_left (by rw [ints_len]; omega)]
  have := flat_get iV 1 iV_len l q 0 t (.int .i64 t) h rfl
  simpa using this
theorem ints_map (l : List Int) : l.flatMap iV = l.map (Value.int .i64) := by
  induction l with
  | nil => rfl
  | cons x l ih => rw [List.flatMap_cons, ih]; rfl
theorem midC_set {pre post : List Value} {l : List Int} {q : Nat} (t : Int) (h : q < l.length) : (midC pre l post).set (pre.length + q) (.int .i64 t) = midC pre (l.set q t) post := by
  unfold midC
  rw [List.set_append_right _ _ (by omega), show pre.length + q - pre.length = q by omega, List.set_append_left _ _ (by rw [ints_len]; omega), ints_map, ints_map, List.map_set]
theorem midC_len (pre : List Value) (l : List Int) (post : List Value) : (midC pre l post).length = pre.length + l.length + post.length := by
  unfold midC
  rw [List.length_append, List.length_append, ints_len]; omega
theorem set_self {l : List Int} {q : Nat} {t : Int} (h : l[q]? = some t) : l.set q t = l := set_same h
set_option maxRecDepth 100000 in
set_option maxHeartbeats 4000000 in
theorem cut66 {B : Nat} {w0 w : World} {bg g off n c : Nat} {t : TypeId} {x : Ob} {pre post : List Value} {ls : List Int} {L : List Blk} (hl : ls.length ≤ 5000) (hc : ls.length ≤ c) (hof : off = pre.length) (hp : Hp B w0 w (⟨bg, obV x, 48, 5⟩ :: ⟨g, midC pre ls post, t, n⟩ :: L)) :
    Calls Try.prog 66 #[.slice (some ⟨g, off, none⟩) ls.length c, .pointer (some ⟨bg, 0, none⟩)] w fun e w' => e = .returned (.tuple #[]) ∧ Hp B w0 w' (⟨bg, obV x, 48, 5⟩ :: ⟨g, midC pre (ls.map (cutI x.h)) post, t, n⟩ :: L) := by
  obtain ⟨xh, xp, xo, wa, ws, wc, la, lks, lc⟩ := x
  simp only [obV] at hp ⊢
  have HOFF := Lib.hid hof
  go_enter Try.func66, Try.ntmps66
  go_wp2_with (first | go_skip | ((first | ((with_reducible refine pre_box _ _ rfl ?_); refine lB hp rfl (slot_tmp rfl) rfl ?_; clear hp; intro b w1 hp) | ((with_reducible refine pre_load _ _ rfl ?_); first | refine lO hp rfl (slot_tmp rfl) cell3 aa5 ?_ | refine lA hp rfl (slot_tmp rfl) agg48 aa5 ?_) | ((with_reducible refine pre_store _ _ _ rfl ?_); (first | refine sO hp rfl (slot_tmp rfl) cell3 aa5 ?_ | refine sA hp rfl (slot_tmp rfl) (slot_tmp rfl) agg48 aa5 ?_ | refine sG hp rfl (slot_tmp rfl) (slot_tmp rfl) agg48 aa5 ?_); clear hp; intro w1 hp; simp only [spl, List.set_cons_zero, List.set_cons_succ] at hp)); simp only [put_some, put_none, List.set_cons_succ, List.set_cons_zero]))
  go_loopg [7] ls.length (fun k i wr => ∃ q : Nat, k + q = ls.length ∧ i = .int .i64 q ∧ Hp B w0 wr (⟨bg, [.int .i64 xh, .int .i64 xp, .int .i64 xo, .slice wa ws.length wc, .slice la lks.length lc], 48, 5⟩ :: ⟨g, midC pre (cutAt xh ls q) post, t, n⟩ :: L))
  case atStart => exact ⟨0, by omega, rfl, by rw [cutAt_zero]; exact hp⟩
  case round =>
    clear hp
    obtain ⟨q, hkq, rfl, hp⟩ := hrel
    by_cases hlt : q < ls.length
    · have hj := List.getElem?_eq_getElem hlt
      have hg := midC_get (pre := pre) (post := post) (cutAt_get (h := xh) hj)
      have hstep := cutAt_step (h := xh) hj
      have hset := midC_set (pre := pre) (post := post) (l := cutAt xh ls q) (q := q) 0 (by rw [cutAt_len]; exact hlt)
      have hof2 : pre.length + q < (midC pre (cutAt xh ls q) post).length := by rw [midC_len, cutAt_len]; omega
      have hself := set_self (cutAt_get (h := xh) hj)
      rw [← hof] at hg hset hof2
      have e1 : (0 : Int) ≤ (q : Int) := by omega
      have e2 : (q : Int) < (ls.length : Int) := by omega
      by_cases he : ls[q] = xh
      · have e3 : (ls[q] == xh) = true := by simp [he]
        rw [show cutI xh ls[q] = 0 by unfold cutI; rw [if_pos he]] at hstep
        rw [← hstep] at hset
        have HST := Lib.hid hset
        have HG := Lib.hid hg
        have HOF := Lib.hid hof2
        clear hj hg hstep hset hof2 hself he
        generalize midC pre (cutAt xh ls q) post = cells at hp HST HG HOF
        generalize ls[q] = tv at HG e3
        clear hof
        go_wp2_with (first | ((with_reducible refine pre_load 3 _ rfl ?_); refine lO hp rfl (slot_tmp rfl) cell3 at1 ?_ (hv := HG.out); simp only [put_some, put_none, List.set_cons_succ, List.set_cons_zero]) | ((with_reducible refine pre_store 3 _ _ rfl ?_); refine sO hp rfl (slot_tmp rfl) cell3 at1 ?_ (hlen := HOF.out); clear hp; intro w1 hp; simp only [List.set_cons_succ, List.set_cons_zero] at hp; simp only [put_some, put_none, List.set_cons_succ, List.set_cons_zero]) | go_skip | ((first | ((with_reducible refine pre_box _ _ rfl ?_); refine lB hp rfl (slot_tmp rfl) rfl ?_; clear hp; intro b w1 hp) | ((with_reducible refine pre_load _ _ rfl ?_); first | refine lO hp rfl (slot_tmp rfl) cell3 aa5 ?_ | refine lA hp rfl (slot_tmp rfl) agg48 aa5 ?_) | ((with_reducible refine pre_store _ _ _ rfl ?_); (first | refine sO hp rfl (slot_tmp rfl) cell3 aa5 ?_ | refine sA hp rfl (slot_tmp rfl) (slot_tmp rfl) agg48 aa5 ?_ | refine sG hp rfl (slot_tmp rfl) (slot_tmp rfl) agg48 aa5 ?_); clear hp; intro w1 hp; simp only [spl, List.set_cons_zero, List.set_cons_succ] at hp)); simp only [put_some, put_none, List.set_cons_succ, List.set_cons_zero]))
        go_roundg (gk - 1)
        case measure => omega
        case rel => exact ⟨q + 1, by omega, by go_num, by rw [HST.out] at hp; exact hp⟩
      · have e3 : (ls[q] == xh) = false := by simp [he]
        rw [show cutI xh ls[q] = ls[q] by unfold cutI; rw [if_neg he], hself] at hstep
        have HST : RowKit.Hid (midC pre (cutAt xh ls (q + 1)) post = midC pre (cutAt xh ls q) post) := Lib.hid (by rw [hstep])
        have HG := Lib.hid hg
        clear hj hg hstep hset hof2 hself he
        generalize midC pre (cutAt xh ls q) post = cells at hp HST HG
        generalize ls[q] = tv at HG e3
        clear hof
        go_wp2_with (first | ((with_reducible refine pre_load 3 _ rfl ?_); refine lO hp rfl (slot_tmp rfl) cell3 at1 ?_ (hv := HG.out); simp only [put_some, put_none, List.set_cons_succ, List.set_cons_zero]) | go_skip | ((first | ((with_reducible refine pre_box _ _ rfl ?_); refine lB hp rfl (slot_tmp rfl) rfl ?_; clear hp; intro b w1 hp) | ((with_reducible refine pre_load _ _ rfl ?_); first | refine lO hp rfl (slot_tmp rfl) cell3 aa5 ?_ | refine lA hp rfl (slot_tmp rfl) agg48 aa5 ?_) | ((with_reducible refine pre_store _ _ _ rfl ?_); (first | refine sO hp rfl (slot_tmp rfl) cell3 aa5 ?_ | refine sA hp rfl (slot_tmp rfl) (slot_tmp rfl) agg48 aa5 ?_ | refine sG hp rfl (slot_tmp rfl) (slot_tmp rfl) agg48 aa5 ?_); clear hp; intro w1 hp; simp only [spl, List.set_cons_zero, List.set_cons_succ] at hp)); simp only [put_some, put_none, List.set_cons_succ, List.set_cons_zero]))
        go_roundg (gk - 1)
        case measure => omega
        case rel => exact ⟨q + 1, by omega, by go_num, by rw [HST.out]; exact hp⟩
    · obtain rfl : ls.length = q := by omega
      rw [cutAt_all] at hp
      go_wp2_with (first | go_skip | ((first | ((with_reducible refine pre_box _ _ rfl ?_); refine lB hp rfl (slot_tmp rfl) rfl ?_; clear hp; intro b w1 hp) | ((with_reducible refine pre_load _ _ rfl ?_); first | refine lO hp rfl (slot_tmp rfl) cell3 aa5 ?_ | refine lA hp rfl (slot_tmp rfl) agg48 aa5 ?_) | ((with_reducible refine pre_store _ _ _ rfl ?_); (first | refine sO hp rfl (slot_tmp rfl) cell3 aa5 ?_ | refine sA hp rfl (slot_tmp rfl) (slot_tmp rfl) agg48 aa5 ?_ | refine sG hp rfl (slot_tmp rfl) (slot_tmp rfl) agg48 aa5 ?_); clear hp; intro w1 hp; simp only [spl, List.set_cons_zero, List.set_cons_succ] at hp)); simp only [put_some, put_none, List.set_cons_succ, List.set_cons_zero]))
      exact bodyPost_end (results_none Try.results66 _ _ _) rfl ⟨rfl, hp⟩
set_option maxRecDepth 100000 in
set_option maxHeartbeats 4000000 in
theorem cut66_none {a : Option Addr} {c bg : Nat} (w : World) : Calls Try.prog 66 #[.slice a 0 c, .pointer (some ⟨bg, 0, none⟩)] w fun e w' => e = .returned (.tuple #[]) ∧ w = w' := by
  go_enter Try.func66, Try.ntmps66
  go_wp2
  go_loopg [7] 0 (fun k i wr => i = .int .i64 0 ∧ w = wr)
  case atStart => exact ⟨rfl, rfl⟩
  case round =>
    obtain ⟨rfl, rfl⟩ := hrel
    go_wp2
    exact bodyPost_end (results_none Try.results66 _ _ _) rfl ⟨rfl, rfl⟩
end Go.Proofs.Ytcjbepaclbhjaaa
