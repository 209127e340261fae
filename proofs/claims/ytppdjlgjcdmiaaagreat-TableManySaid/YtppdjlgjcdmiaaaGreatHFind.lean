/- The walks of Find in a state's rows, the program's and the document's. -/
import Derived.Test.YtppdjlgjcdmiaaaGreatHState
set_option linter.unusedSimpArgs false
set_option linter.unusedVariables false
namespace Go.Proofs.YtppdjlgjcdmiaaaGreat
open Go.RowKit
theorem ceHFind0 {ty : TypeId} (h : cellB Tryz.prog ty = true := by with_reducible first | exact cell3 | exact cell4 | exact cell41) : cellB Tryz.prog ty = true := h
def findR (l : List Rw) (c : Int) : Rw × Bool := match l.find? (fun x => decide (x.c = c)) with
  | some x => (x, true)
  | none => (⟨0, 0, 0, 0⟩, false)
theorem find_no {l : List Rw} {c : Int} (h : ∀ (i : Nat) y, l[i]? = some y → y.c ≠ c) : findR l c = (⟨0, 0, 0, 0⟩, false) := by
  have : l.find? (fun x => decide (x.c = c)) = none := by
    rw [List.find?_eq_none]
    intro x hx
    obtain ⟨i, hi, rfl⟩ := List.getElem_of_mem hx
    simpa using h i _ (List.getElem?_eq_getElem hi)
  unfold findR; rw [this]
theorem find_at {l : List Rw} {c : Int} {j : Nat} {x : Rw} (hj : l[j]? = some x) (hx : x.c = c) (h : ∀ (i : Nat) y, i < j → l[i]? = some y → y.c ≠ c) : findR l c = (x, true) := by
  have : l.find? (fun x => decide (x.c = c)) = some x := by
    rw [List.find?_eq_some_iff_getElem]
    obtain ⟨hlt, he⟩ := List.getElem?_eq_some_iff.1 hj
    refine ⟨by simpa using hx, j, hlt, he, fun i hi => ?_⟩
    simpa using h i _ hi (List.getElem?_eq_getElem (by omega))
  unfold findR; rw [this]
theorem find_ways (l : List Rw) (c : Int) : (∃ (j : Nat) (x : Rw), l[j]? = some x ∧ x.c = c ∧ ∀ (i : Nat) y, i < j → l[i]? = some y → y.c ≠ c) ∨ (∀ (i : Nat) y, l[i]? = some y → y.c ≠ c) := by
  cases h : l.find? (fun x => decide (x.c = c)) with
  | none =>
    rw [List.find?_eq_none] at h
    exact .inr fun i y hy => by simpa using h y (List.mem_of_getElem? hy)
  | some x =>
    rw [List.find?_eq_some_iff_getElem] at h
    obtain ⟨hx, j, hj, he, hno⟩ := h
    refine .inl ⟨j, x, by rw [List.getElem?_eq_getElem hj, he], by simpa using hx, fun i y hi hy => ?_⟩
    have := hno i hi
    rw [List.getElem?_eq_getElem (by omega)] at hy
    injection hy with hy
    subst hy
    simpa using this
set_option maxRecDepth 100000 in
set_option maxHeartbeats 4000000 in
theorem fc48 (x : Rw) (c : Int) (b : Nat) (w : World) (hb : b < w.heap.size) (hc : w.cell? ⟨b, 0, none⟩ = some (.int .i64 c)) :
    Calls Tryz.prog 48 #[.agg #[.int .i64 x.c, .int .i64 x.s, .int .i64 x.e, .int .i64 x.v], .pointer (some ⟨b, 0, none⟩)] w fun e w' => e = .returned (.bool (x.c == c)) ∧ Below w.heap.size w w' := by
  have hp := Hp.start w
  have HC := Lib.hid hc
  clear hc
  go_enter Tryz.func48, Tryz.ntmps48
  go_wp2_with (first | go_skip | ((first | ((with_reducible refine pre_alloc _ rfl ?_); refine lZ hp rfl (by with_reducible first | exact zero43 | exact zero57) ?_; clear hp; intro b w1 hp) | ((with_reducible refine pre_box _ _ rfl ?_); refine lB hp rfl (slot_tmp rfl) rfl ?_; clear hp; intro b w1 hp) | ((with_reducible refine pre_load _ _ rfl ?_); first | refine lO hp rfl (slot_tmp rfl) ceHFind0 aa14 ?_ | refine lA hp rfl (slot_tmp rfl) (by with_reducible first | exact agg43 | exact agg57) aa14 ?_) | ((with_reducible refine pre_store _ _ _ rfl ?_); (first | refine sO hp rfl (slot_tmp rfl) ceHFind0 aa14 ?_ | refine sA hp rfl (slot_tmp rfl) (slot_tmp rfl) (by with_reducible first | exact agg43 | exact agg57) aa14 ?_ | refine sG hp rfl (slot_tmp rfl) (slot_tmp rfl) (by with_reducible first | exact agg43 | exact agg57) aa14 ?_); clear hp; intro w1 hp; simp only [spl, List.set_cons_zero, List.set_cons_succ] at hp)); simp only [put_some, put_none, List.set_cons_succ, List.set_cons_zero]) | ((with_reducible refine pre_load 3 _ rfl ?_); refine wpList_loadRowOne_hp hp _ _ rfl (wanted_none rfl) _ _ (slot_tmp rfl) cell3 _ HC.out ?_; simp only [put_some, put_none, List.set_cons_succ, List.set_cons_zero]))
  go_ret
  exact ⟨rfl, hp.below⟩
set_option maxRecDepth 100000 in
set_option maxHeartbeats 4000000 in
theorem idx47_yes (l : List Rw) (a : Option Addr) (k : Nat) (hl : l.length ≤ 1000) (c : Int) (bc : Nat) (w : World) (ha : RowIs w a (l.flatMap rwV)) (hbc : bc < w.heap.size) (hcc : w.cell? ⟨bc, 0, none⟩ = some (.int .i64 c))
    (m : Nat) (x : Rw) (hm : l[m]? = some x) (hx : x.c = c) (hno : ∀ (i : Nat) y, i < m → l[i]? = some y → y.c ≠ c) :
    Calls Tryz.prog 47 #[.slice a l.length k, .func (.func 48) #[] #[.pointer (some ⟨bc, 0, none⟩)]] w fun e w' => e = .returned (.int .i64 m) ∧ Below w.heap.size w w' := by
  have hp := Hp.start w
  have HA := Lib.hid ha
  have HC := Lib.hid hcc
  have HNO := Lib.hid hno
  have HM := Lib.hid hm
  have HCX := Lib.hid hx
  have hml : m < l.length := (List.getElem?_eq_some_iff.1 hm).1
  clear ha hcc hno hm hx
  go_enter Tryz.func47, Tryz.ntmps47
  go_wp2_with (first | go_skip | ((first | ((with_reducible refine pre_alloc _ rfl ?_); refine lZ hp rfl (by with_reducible first | exact zero43 | exact zero57) ?_; clear hp; intro b w1 hp) | ((with_reducible refine pre_box _ _ rfl ?_); refine lB hp rfl (slot_tmp rfl) rfl ?_; clear hp; intro b w1 hp) | ((with_reducible refine pre_load _ _ rfl ?_); first | refine lO hp rfl (slot_tmp rfl) ceHFind0 aa14 ?_ | refine lA hp rfl (slot_tmp rfl) (by with_reducible first | exact agg43 | exact agg57) aa14 ?_) | ((with_reducible refine pre_store _ _ _ rfl ?_); (first | refine sO hp rfl (slot_tmp rfl) ceHFind0 aa14 ?_ | refine sA hp rfl (slot_tmp rfl) (slot_tmp rfl) (by with_reducible first | exact agg43 | exact agg57) aa14 ?_ | refine sG hp rfl (slot_tmp rfl) (slot_tmp rfl) (by with_reducible first | exact agg43 | exact agg57) aa14 ?_); clear hp; intro w1 hp; simp only [spl, List.set_cons_zero, List.set_cons_succ] at hp)); simp only [put_some, put_none, List.set_cons_succ, List.set_cons_zero]))
  go_loopg [8] l.length (fun k i wr => ∃ j : Nat, k + j = l.length ∧ j ≤ m ∧ i = .int .i64 j ∧ Hp w.heap.size w wr [])
  case atStart => exact ⟨0, by omega, by omega, rfl, hp⟩
  case round =>
    clear hp
    obtain ⟨j, hkj, hjm, rfl, hp⟩ := hrel
    have hlt : j < l.length := by omega
    obtain ⟨bq, off, rfl, hx⟩ := HA.out.elems 4 rwV_len (by omega) (by omega)
    have hj := List.getElem?_eq_getElem hlt
    replace hx := hx j _ hj
    have HJ := Lib.hid hj
    clear hj
    generalize l[j] = y at hx HJ
    have e1 : (0 : Int) ≤ (j : Int) := by omega
    have e2 : (j : Int) < (l.length : Int) := by omega
    by_cases hje : j = m
    · have HXC : RowKit.Hid ((y.c == c) = true) := Lib.hid (by
        have h1 := HJ.out
        rw [hje, HM.out] at h1
        injection h1 with h1
        rw [← h1, HCX.out]; simp)
      subst hje
      obtain ⟨xc, xs, xe, xv⟩ := y
      simp only [rwV] at hx HXC
      have HX := Lib.hid hx
      clear hx
      go_wp2_with (first | (go_at_call 48; (with_reducible refine (fc48 ⟨xc, xs, xe, xv⟩ c bc _ (by have := hp.below.size; omega) ((hp.below.cell (p := ⟨bc, 0, none⟩) hbc).trans HC.out)).mono ?_); rintro e w1 ⟨rfl, hb⟩; replace hp := hp.call hb; clear hb; simp only [HXC.out]) | go_skip | ((first | ((with_reducible refine pre_alloc _ rfl ?_); refine lZ hp rfl (by with_reducible first | exact zero43 | exact zero57) ?_; clear hp; intro b w1 hp) | ((with_reducible refine pre_box _ _ rfl ?_); refine lB hp rfl (slot_tmp rfl) rfl ?_; clear hp; intro b w1 hp) | ((with_reducible refine pre_load _ _ rfl ?_); first | refine lO hp rfl (slot_tmp rfl) ceHFind0 aa14 ?_ | first | refine lRO hp rfl (slot_tmp rfl) ceHFind0 (HX.out 0 _ rfl) ?_ | refine lA hp rfl (slot_tmp rfl) (by with_reducible first | exact agg43 | exact agg57) aa14 ?_ | refine lR hp rfl (slot_tmp rfl) (by with_reducible first | exact agg43 | exact agg57) HX.out ?_) | ((with_reducible refine pre_store _ _ _ rfl ?_); (first | refine sO hp rfl (slot_tmp rfl) ceHFind0 aa14 ?_ | refine sA hp rfl (slot_tmp rfl) (slot_tmp rfl) (by with_reducible first | exact agg43 | exact agg57) aa14 ?_ | refine sG hp rfl (slot_tmp rfl) (slot_tmp rfl) (by with_reducible first | exact agg43 | exact agg57) aa14 ?_); clear hp; intro w1 hp; simp only [spl, List.set_cons_zero, List.set_cons_succ] at hp)); simp only [put_some, put_none, List.set_cons_succ, List.set_cons_zero]))
      go_ret
      exact ⟨rfl, hp.below⟩
    · have HXC : RowKit.Hid ((y.c == c) = false) := Lib.hid (by simpa using HNO.out j y (by omega) HJ.out)
      obtain ⟨xc, xs, xe, xv⟩ := y
      simp only [rwV] at hx HXC
      have HX := Lib.hid hx
      clear hx
      go_wp2_with (first | (go_at_call 48; (with_reducible refine (fc48 ⟨xc, xs, xe, xv⟩ c bc _ (by have := hp.below.size; omega) ((hp.below.cell (p := ⟨bc, 0, none⟩) hbc).trans HC.out)).mono ?_); rintro e w1 ⟨rfl, hb⟩; replace hp := hp.call hb; clear hb; simp only [HXC.out]) | go_skip | ((first | ((with_reducible refine pre_alloc _ rfl ?_); refine lZ hp rfl (by with_reducible first | exact zero43 | exact zero57) ?_; clear hp; intro b w1 hp) | ((with_reducible refine pre_box _ _ rfl ?_); refine lB hp rfl (slot_tmp rfl) rfl ?_; clear hp; intro b w1 hp) | ((with_reducible refine pre_load _ _ rfl ?_); first | refine lO hp rfl (slot_tmp rfl) ceHFind0 aa14 ?_ | first | refine lRO hp rfl (slot_tmp rfl) ceHFind0 (HX.out 0 _ rfl) ?_ | refine lA hp rfl (slot_tmp rfl) (by with_reducible first | exact agg43 | exact agg57) aa14 ?_ | refine lR hp rfl (slot_tmp rfl) (by with_reducible first | exact agg43 | exact agg57) HX.out ?_) | ((with_reducible refine pre_store _ _ _ rfl ?_); (first | refine sO hp rfl (slot_tmp rfl) ceHFind0 aa14 ?_ | refine sA hp rfl (slot_tmp rfl) (slot_tmp rfl) (by with_reducible first | exact agg43 | exact agg57) aa14 ?_ | refine sG hp rfl (slot_tmp rfl) (slot_tmp rfl) (by with_reducible first | exact agg43 | exact agg57) aa14 ?_); clear hp; intro w1 hp; simp only [spl, List.set_cons_zero, List.set_cons_succ] at hp)); simp only [put_some, put_none, List.set_cons_succ, List.set_cons_zero]))
      go_roundg (gk - 1)
      case measure => omega
      case rel => exact ⟨j + 1, by omega, by omega, by go_num, hp⟩
set_option maxRecDepth 100000 in
set_option maxHeartbeats 4000000 in
theorem idx47_no (l : List Rw) (a : Option Addr) (k : Nat) (hl : l.length ≤ 1000) (c : Int) (bc : Nat) (w : World) (ha : RowIs w a (l.flatMap rwV)) (hbc : bc < w.heap.size) (hcc : w.cell? ⟨bc, 0, none⟩ = some (.int .i64 c))
    (hno : ∀ (i : Nat) y, l[i]? = some y → y.c ≠ c) :
    Calls Tryz.prog 47 #[.slice a l.length k, .func (.func 48) #[] #[.pointer (some ⟨bc, 0, none⟩)]] w fun e w' => e = .returned (.int .i64 (-1)) ∧ Below w.heap.size w w' := by
  have hp := Hp.start w
  have HA := Lib.hid ha
  have HC := Lib.hid hcc
  have HNO := Lib.hid hno
  clear ha hcc hno
  go_enter Tryz.func47, Tryz.ntmps47
  go_wp2_with (first | go_skip | ((first | ((with_reducible refine pre_alloc _ rfl ?_); refine lZ hp rfl (by with_reducible first | exact zero43 | exact zero57) ?_; clear hp; intro b w1 hp) | ((with_reducible refine pre_box _ _ rfl ?_); refine lB hp rfl (slot_tmp rfl) rfl ?_; clear hp; intro b w1 hp) | ((with_reducible refine pre_load _ _ rfl ?_); first | refine lO hp rfl (slot_tmp rfl) ceHFind0 aa14 ?_ | refine lA hp rfl (slot_tmp rfl) (by with_reducible first | exact agg43 | exact agg57) aa14 ?_) | ((with_reducible refine pre_store _ _ _ rfl ?_); (first | refine sO hp rfl (slot_tmp rfl) ceHFind0 aa14 ?_ | refine sA hp rfl (slot_tmp rfl) (slot_tmp rfl) (by with_reducible first | exact agg43 | exact agg57) aa14 ?_ | refine sG hp rfl (slot_tmp rfl) (slot_tmp rfl) (by with_reducible first | exact agg43 | exact agg57) aa14 ?_); clear hp; intro w1 hp; simp only [spl, List.set_cons_zero, List.set_cons_succ] at hp)); simp only [put_some, put_none, List.set_cons_succ, List.set_cons_zero]))
  go_loopg [8] l.length (fun k i wr => ∃ j : Nat, k + j = l.length ∧ i = .int .i64 j ∧ Hp w.heap.size w wr [])
  case atStart => exact ⟨0, by omega, rfl, hp⟩
  case round =>
    clear hp
    obtain ⟨j, hkj, rfl, hp⟩ := hrel
    by_cases hlt : j < l.length
    · obtain ⟨bq, off, rfl, hx⟩ := HA.out.elems 4 rwV_len (by omega) (by omega)
      have hj := List.getElem?_eq_getElem hlt
      replace hx := hx j _ hj
      have HXC : RowKit.Hid ((l[j].c == c) = false) := Lib.hid (by simpa using HNO.out j _ hj)
      clear hj
      generalize l[j] = y at hx HXC
      have e1 : (0 : Int) ≤ (j : Int) := by omega
      have e2 : (j : Int) < (l.length : Int) := by omega
      obtain ⟨xc, xs, xe, xv⟩ := y
      simp only [rwV] at hx HXC
      have HX := Lib.hid hx
      clear hx
      go_wp2_with (first | (go_at_call 48; (with_reducible refine (fc48 ⟨xc, xs, xe, xv⟩ c bc _ (by have := hp.below.size; omega) ((hp.below.cell (p := ⟨bc, 0, none⟩) hbc).trans HC.out)).mono ?_); rintro e w1 ⟨rfl, hb⟩; replace hp := hp.call hb; clear hb; simp only [HXC.out]) | go_skip | ((first | ((with_reducible refine pre_alloc _ rfl ?_); refine lZ hp rfl (by with_reducible first | exact zero43 | exact zero57) ?_; clear hp; intro b w1 hp) | ((with_reducible refine pre_box _ _ rfl ?_); refine lB hp rfl (slot_tmp rfl) rfl ?_; clear hp; intro b w1 hp) | ((with_reducible refine pre_load _ _ rfl ?_); first | refine lO hp rfl (slot_tmp rfl) ceHFind0 aa14 ?_ | first | refine lRO hp rfl (slot_tmp rfl) ceHFind0 (HX.out 0 _ rfl) ?_ | refine lA hp rfl (slot_tmp rfl) (by with_reducible first | exact agg43 | exact agg57) aa14 ?_ | refine lR hp rfl (slot_tmp rfl) (by with_reducible first | exact agg43 | exact agg57) HX.out ?_) | ((with_reducible refine pre_store _ _ _ rfl ?_); (first | refine sO hp rfl (slot_tmp rfl) ceHFind0 aa14 ?_ | refine sA hp rfl (slot_tmp rfl) (slot_tmp rfl) (by with_reducible first | exact agg43 | exact agg57) aa14 ?_ | refine sG hp rfl (slot_tmp rfl) (slot_tmp rfl) (by with_reducible first | exact agg43 | exact agg57) aa14 ?_); clear hp; intro w1 hp; simp only [spl, List.set_cons_zero, List.set_cons_succ] at hp)); simp only [put_some, put_none, List.set_cons_succ, List.set_cons_zero]))
      go_roundg (gk - 1)
      case measure => omega
      case rel => exact ⟨j + 1, by omega, by go_num, hp⟩
    · have e2 : decide ((j : Int) < (l.length : Int)) = false := by simp; omega
      go_wp2_with fail
      go_ret
      exact ⟨rfl, hp.below⟩
def FindPost (w : World) (l : List Rw) (c : Int) (e : Ending) (w' : World) : Prop := e = .returned (.tuple #[.agg (rwV (findR l c).1).toArray, .bool (findR l c).2]) ∧ Below w.heap.size w w'
set_option maxRecDepth 100000 in
set_option maxHeartbeats 4000000 in
theorem find24 (x : Sv) (hs : x.rs.length ≤ 1000) (c : Int) (w : World) (hx0 : x.Is w) : Calls Tryz.prog 24 #[.agg (svL x).toArray, .int .i64 c] w (FindPost w x.rs c) := by
  obtain ⟨⟨od, oa, os, oc, nx, t0, t1, t2, t3, fa, fs, fc⟩, ra, rs, rc⟩ := x
  obtain ⟨_, hr⟩ := hx0
  simp only at hr hs
  simp only [svL, hvL, List.cons_append, List.nil_append]
  have HR := Lib.hid hr
  have hp := Hp.start w
  clear hr
  rcases find_ways rs c with ⟨m, xr, hm, hxc, hno⟩ | hno
  · have HM := Lib.hid hm
    have HXC := Lib.hid hxc
    have HNO := Lib.hid hno
    have HF := Lib.hid (find_at hm hxc hno)
    have hml : m < rs.length := (List.getElem?_eq_some_iff.1 hm).1
    obtain ⟨bq, off, rfl, hx⟩ := HR.out.elems 4 rwV_len (by omega) (by omega)
    replace hx := hx m _ hm
    clear hm hxc hno
    obtain ⟨yc, ys, ye, yv⟩ := xr
    simp only [rwV] at hx
    have HX := Lib.hid hx
    clear hx
    have e1 : (0 : Int) ≤ (m : Int) := by omega
    have e2 : (m : Int) < (rs.length : Int) := by omega
    have e3 : decide ((m : Int) < 0) = false := decide_eq_false (by omega)
    have IDF := Lib.hid (fun bc w h1 h2 h3 => idx47_yes rs (some ⟨bq, off, none⟩) rc hs c bc w h1 h2 h3 m ⟨yc, ys, ye, yv⟩ HM.out HXC.out HNO.out)
    go_enter Tryz.func24, Tryz.ntmps24
    go_wp2_with (first | (go_at_call 47; (with_reducible refine (IDF.out _ _ (HR.out.below hp.below) (hp.lt (Hp.mem at1)).2 (hp.cell at1 rfl)).mono ?_); rintro e w1 ⟨rfl, hb⟩; replace hp := hp.call hb; clear hb) | go_skip | ((first | ((with_reducible refine pre_alloc _ rfl ?_); refine lZ hp rfl (by with_reducible first | exact zero43 | exact zero57) ?_; clear hp; intro b w1 hp) | ((with_reducible refine pre_box _ _ rfl ?_); refine lB hp rfl (slot_tmp rfl) rfl ?_; clear hp; intro b w1 hp) | ((with_reducible refine pre_load _ _ rfl ?_); first | refine lO hp rfl (slot_tmp rfl) ceHFind0 aa14 ?_ | first | refine lRO hp rfl (slot_tmp rfl) ceHFind0 (HX.out 0 _ rfl) ?_ | refine lA hp rfl (slot_tmp rfl) (by with_reducible first | exact agg43 | exact agg57) aa14 ?_ | refine lR hp rfl (slot_tmp rfl) (by with_reducible first | exact agg43 | exact agg57) HX.out ?_) | ((with_reducible refine pre_store _ _ _ rfl ?_); (first | refine sO hp rfl (slot_tmp rfl) ceHFind0 aa14 ?_ | refine sA hp rfl (slot_tmp rfl) (slot_tmp rfl) (by with_reducible first | exact agg43 | exact agg57) aa14 ?_ | refine sG hp rfl (slot_tmp rfl) (slot_tmp rfl) (by with_reducible first | exact agg43 | exact agg57) aa14 ?_); clear hp; intro w1 hp; simp only [spl, List.set_cons_zero, List.set_cons_succ] at hp)); simp only [put_some, put_none, List.set_cons_succ, List.set_cons_zero]))
    refine bodyPost_ret (results_many (rs := [.cell 4 57, .tmp 5]) Tryz.results24 (.cell rfl (hp.loadAgg agg57 at0 0 _ (by rfl) (by rfl)) (.tmp rfl .nil))) rfl ⟨?_, hp.below⟩
    rw [HF.out]; try rfl
  · have HNO := Lib.hid hno
    have HF := Lib.hid (find_no hno)
    clear hno
    have IDF := Lib.hid (fun bc w h1 h2 h3 => idx47_no rs ra rc hs c bc w h1 h2 h3 HNO.out)
    go_enter Tryz.func24, Tryz.ntmps24
    go_wp2_with (first | (go_at_call 47; (with_reducible refine (IDF.out _ _ (HR.out.below hp.below) (hp.lt (Hp.mem at1)).2 (hp.cell at1 rfl)).mono ?_); rintro e w1 ⟨rfl, hb⟩; replace hp := hp.call hb; clear hb) | go_skip | ((first | ((with_reducible refine pre_alloc _ rfl ?_); refine lZ hp rfl (by with_reducible first | exact zero43 | exact zero57) ?_; clear hp; intro b w1 hp) | ((with_reducible refine pre_box _ _ rfl ?_); refine lB hp rfl (slot_tmp rfl) rfl ?_; clear hp; intro b w1 hp) | ((with_reducible refine pre_load _ _ rfl ?_); first | refine lO hp rfl (slot_tmp rfl) ceHFind0 aa14 ?_ | refine lA hp rfl (slot_tmp rfl) (by with_reducible first | exact agg43 | exact agg57) aa14 ?_) | ((with_reducible refine pre_store _ _ _ rfl ?_); (first | refine sO hp rfl (slot_tmp rfl) ceHFind0 aa14 ?_ | refine sA hp rfl (slot_tmp rfl) (slot_tmp rfl) (by with_reducible first | exact agg43 | exact agg57) aa14 ?_ | refine sG hp rfl (slot_tmp rfl) (slot_tmp rfl) (by with_reducible first | exact agg43 | exact agg57) aa14 ?_); clear hp; intro w1 hp; simp only [spl, List.set_cons_zero, List.set_cons_succ] at hp)); simp only [put_some, put_none, List.set_cons_succ, List.set_cons_zero]))
    refine bodyPost_ret (results_many (rs := [.cell 4 57, .tmp 5]) Tryz.results24 (.cell rfl (hp.loadAgg agg57 at0 0 _ (by rfl) (by rfl)) (.tmp rfl .nil))) rfl ⟨?_, hp.below⟩
    rw [HF.out]; try rfl
set_option maxRecDepth 100000 in
set_option maxHeartbeats 4000000 in
theorem find82 (x : Sv) (hs : x.rs.length ≤ 1000) (c : Int) (w : World) (hx0 : x.Is w) : Calls Tryz.prog 82 #[.agg (svL x).toArray, .int .i64 c] w (FindPost w x.rs c) := by
  obtain ⟨⟨od, oa, os, oc, nx, t0, t1, t2, t3, fa, fs, fc⟩, ra, rs, rc⟩ := x
  obtain ⟨_, hr⟩ := hx0
  simp only at hr hs
  simp only [svL, hvL, List.cons_append, List.nil_append]
  have HR := Lib.hid hr
  have hp := Hp.start w
  clear hr
  go_enter Tryz.func82, Tryz.ntmps82
  go_wp2_with (first | go_skip | ((first | ((with_reducible refine pre_alloc _ rfl ?_); refine lZ hp rfl (by with_reducible first | exact zero43 | exact zero57) ?_; clear hp; intro b w1 hp) | ((with_reducible refine pre_box _ _ rfl ?_); refine lB hp rfl (slot_tmp rfl) rfl ?_; clear hp; intro b w1 hp) | ((with_reducible refine pre_load _ _ rfl ?_); first | refine lO hp rfl (slot_tmp rfl) ceHFind0 aa14 ?_ | refine lA hp rfl (slot_tmp rfl) (by with_reducible first | exact agg43 | exact agg57) aa14 ?_) | ((with_reducible refine pre_store _ _ _ rfl ?_); (first | refine sO hp rfl (slot_tmp rfl) ceHFind0 aa14 ?_ | refine sA hp rfl (slot_tmp rfl) (slot_tmp rfl) (by with_reducible first | exact agg43 | exact agg57) aa14 ?_ | refine sG hp rfl (slot_tmp rfl) (slot_tmp rfl) (by with_reducible first | exact agg43 | exact agg57) aa14 ?_); clear hp; intro w1 hp; simp only [spl, List.set_cons_zero, List.set_cons_succ] at hp)); simp only [put_some, put_none, List.set_cons_succ, List.set_cons_zero]))
  obtain ⟨b1, rfl⟩ := hp.id1
  go_loopg [6] rs.length (fun k i wr => ∃ j : Nat, k + j = rs.length ∧ i = .int .i64 j ∧ RowKit.Hid (∀ (i : Nat) y, i < j → rs[i]? = some y → y.c ≠ c) ∧ Hp w.heap.size w wr [⟨b, [.int .i64 0, .int .i64 0, .int .i64 0, .int .i64 0], 57, 4⟩, ⟨b1, [.int .i64 od, .slice oa os.length oc, .int .i64 nx, .int .i64 t0, .int .i64 t1, .int .i64 t2, .int .i64 t3, .slice fa fs.length fc, .slice ra rs.length rc], 43, 9⟩])
  case atStart => exact ⟨0, by omega, rfl, Lib.hid (fun i y hi => by omega), hp⟩
  case round =>
    clear hp
    obtain ⟨j, hkj, rfl, HNO, hp⟩ := hrel
    by_cases hlt : j < rs.length
    · obtain ⟨bq, off, rfl, hx⟩ := HR.out.elems 4 rwV_len (by omega) (by omega)
      have hj := List.getElem?_eq_getElem hlt
      replace hx := hx j _ hj
      have HJ := Lib.hid hj
      clear hj
      generalize rs[j] = y at hx HJ
      have e1 : (0 : Int) ≤ (j : Int) := by omega
      have e2 : (j : Int) < (rs.length : Int) := by omega
      by_cases hyc : y.c = c
      · have HF := Lib.hid (find_at HJ.out hyc HNO.out)
        obtain ⟨yc, ys, ye, yv⟩ := y
        simp only [rwV] at hx hyc
        subst hyc
        have HX := Lib.hid hx
        clear hx
        go_wp2_with (first | go_skip | ((first | ((with_reducible refine pre_alloc _ rfl ?_); refine lZ hp rfl (by with_reducible first | exact zero43 | exact zero57) ?_; clear hp; intro b w1 hp) | ((with_reducible refine pre_box _ _ rfl ?_); refine lB hp rfl (slot_tmp rfl) rfl ?_; clear hp; intro b w1 hp) | ((with_reducible refine pre_load _ _ rfl ?_); first | refine lO hp rfl (slot_tmp rfl) ceHFind0 aa14 ?_ | first | refine lRO hp rfl (slot_tmp rfl) ceHFind0 (HX.out 0 _ rfl) ?_ | refine lA hp rfl (slot_tmp rfl) (by with_reducible first | exact agg43 | exact agg57) aa14 ?_ | refine lR hp rfl (slot_tmp rfl) (by with_reducible first | exact agg43 | exact agg57) HX.out ?_) | ((with_reducible refine pre_store _ _ _ rfl ?_); (first | refine sO hp rfl (slot_tmp rfl) ceHFind0 aa14 ?_ | refine sA hp rfl (slot_tmp rfl) (slot_tmp rfl) (by with_reducible first | exact agg43 | exact agg57) aa14 ?_ | refine sG hp rfl (slot_tmp rfl) (slot_tmp rfl) (by with_reducible first | exact agg43 | exact agg57) aa14 ?_); clear hp; intro w1 hp; simp only [spl, List.set_cons_zero, List.set_cons_succ] at hp)); simp only [put_some, put_none, List.set_cons_succ, List.set_cons_zero]))
        refine bodyPost_ret (results_many (rs := [.cell 4 57, .tmp 5]) Tryz.results82 (.cell rfl (hp.loadAgg agg57 at0 0 _ (by rfl) (by rfl)) (.tmp rfl .nil))) rfl ⟨?_, hp.below⟩
        rw [HF.out]; try rfl
      · have HNE := Lib.hid hyc
        obtain ⟨yc, ys, ye, yv⟩ := y
        simp only [rwV] at hx hyc
        have hyd : (yc == c) = false := by simpa using hyc
        have HX := Lib.hid hx
        clear hx hyc
        go_wp2_with (first | go_skip | ((first | ((with_reducible refine pre_alloc _ rfl ?_); refine lZ hp rfl (by with_reducible first | exact zero43 | exact zero57) ?_; clear hp; intro b w1 hp) | ((with_reducible refine pre_box _ _ rfl ?_); refine lB hp rfl (slot_tmp rfl) rfl ?_; clear hp; intro b w1 hp) | ((with_reducible refine pre_load _ _ rfl ?_); first | refine lO hp rfl (slot_tmp rfl) ceHFind0 aa14 ?_ | first | refine lRO hp rfl (slot_tmp rfl) ceHFind0 (HX.out 0 _ rfl) ?_ | refine lA hp rfl (slot_tmp rfl) (by with_reducible first | exact agg43 | exact agg57) aa14 ?_ | refine lR hp rfl (slot_tmp rfl) (by with_reducible first | exact agg43 | exact agg57) HX.out ?_) | ((with_reducible refine pre_store _ _ _ rfl ?_); (first | refine sO hp rfl (slot_tmp rfl) ceHFind0 aa14 ?_ | refine sA hp rfl (slot_tmp rfl) (slot_tmp rfl) (by with_reducible first | exact agg43 | exact agg57) aa14 ?_ | refine sG hp rfl (slot_tmp rfl) (slot_tmp rfl) (by with_reducible first | exact agg43 | exact agg57) aa14 ?_); clear hp; intro w1 hp; simp only [spl, List.set_cons_zero, List.set_cons_succ] at hp)); simp only [put_some, put_none, List.set_cons_succ, List.set_cons_zero]))
        go_roundg (gk - 1)
        case measure => omega
        case rel =>
          refine ⟨j + 1, by omega, by go_num, Lib.hid ?_, hp⟩
          intro i z hi hz
          rcases Nat.lt_or_ge i j with h | h
          · exact HNO.out i z h hz
          · obtain rfl : i = j := by omega
            rw [HJ.out] at hz
            injection hz with hz
            subst hz
            exact HNE.out
    · have e2 : decide ((j : Int) < (rs.length : Int)) = false := by simp; omega
      have HF : RowKit.Hid (findR rs c = (⟨0, 0, 0, 0⟩, false)) := Lib.hid (find_no (fun i y hy => HNO.out i y (by have := (List.getElem?_eq_some_iff.1 hy).1; omega) hy))
      go_wp2_with (first | go_skip | ((first | ((with_reducible refine pre_alloc _ rfl ?_); refine lZ hp rfl (by with_reducible first | exact zero43 | exact zero57) ?_; clear hp; intro b w1 hp) | ((with_reducible refine pre_box _ _ rfl ?_); refine lB hp rfl (slot_tmp rfl) rfl ?_; clear hp; intro b w1 hp) | ((with_reducible refine pre_load _ _ rfl ?_); first | refine lO hp rfl (slot_tmp rfl) ceHFind0 aa14 ?_ | refine lA hp rfl (slot_tmp rfl) (by with_reducible first | exact agg43 | exact agg57) aa14 ?_) | ((with_reducible refine pre_store _ _ _ rfl ?_); (first | refine sO hp rfl (slot_tmp rfl) ceHFind0 aa14 ?_ | refine sA hp rfl (slot_tmp rfl) (slot_tmp rfl) (by with_reducible first | exact agg43 | exact agg57) aa14 ?_ | refine sG hp rfl (slot_tmp rfl) (slot_tmp rfl) (by with_reducible first | exact agg43 | exact agg57) aa14 ?_); clear hp; intro w1 hp; simp only [spl, List.set_cons_zero, List.set_cons_succ] at hp)); simp only [put_some, put_none, List.set_cons_succ, List.set_cons_zero]))
      refine bodyPost_ret (results_many (rs := [.cell 4 57, .tmp 5]) Tryz.results82 (.cell rfl (hp.loadAgg agg57 at0 0 _ (by rfl) (by rfl)) (.tmp rfl .nil))) rfl ⟨?_, hp.below⟩
      rw [HF.out]; try rfl
end Go.Proofs.YtppdjlgjcdmiaaaGreat
