import Derived.Test.YtcjbepaclbhjaaaTjQB
import Derived.Test.YtcjbepaclbhjaaaTjQA
import Derived.Test.YtcjbepaclbhjaaaTjQD
import Derived.Test.YtcjbepaclbhjaaaTjQC
/- Texts merged: buddy:GM buddy:GS buddy:GI buddy:GD. -/
set_option linter.unusedSimpArgs false
set_option linter.unusedVariables false
namespace Go.Proofs.Ytcjbepaclbhjaaa
open Go.RowKit
theorem ceGM0 {ty : TypeId} (h : cellB Try.prog ty = true := by with_reducible first | exact cell3 | exact cell4 | exact cell28) : cellB Try.prog ty = true := h
set_option maxRecDepth 100000 in
set_option maxHeartbeats 4000000 in
theorem meet79 (p o q r : Int) (h0 : 0 ≤ p) (h1 : p ≤ 256) (h2 : 0 ≤ q) (h3 : q ≤ 256) (g4 : 0 ≤ o) (h4 : o ≤ 8) (g5 : 0 ≤ r) (h5 : r ≤ 8) (w : World) :
    Calls Try.prog 79 #[.agg #[.int .i64 p, .int .i64 o], .agg #[.int .i64 q, .int .i64 r]] w fun e w' => e = .returned (.bool (meetB p o q r)) ∧ Below w.heap.size w w' := by
  have hp := Hp.start w
  have W9 := Lib.hid (waysM p o q r h0 h1 h2 h3 h4 h5)
  go_enter Try.func79, Try.ntmps79
  go_wp2_with (first | go_skip | ((first | ((with_reducible refine pre_alloc _ rfl ?_); refine lZ hp rfl zero45 ?_; clear hp; intro b w1 hp) | ((with_reducible refine pre_box _ _ rfl ?_); refine lB hp rfl (slot_tmp rfl) rfl ?_; clear hp; intro b w1 hp) | ((with_reducible refine pre_load _ _ rfl ?_); first | refine lO hp rfl (slot_tmp rfl) ceGM0 aa5 ?_ | refine lA hp rfl (slot_tmp rfl) agg45 aa5 ?_) | ((with_reducible refine pre_store _ _ _ rfl ?_); (first | refine sO hp rfl (slot_tmp rfl) ceGM0 aa5 ?_ | refine sA hp rfl (slot_tmp rfl) (slot_tmp rfl) agg45 aa5 ?_ | refine sG hp rfl (slot_tmp rfl) (slot_tmp rfl) agg45 aa5 ?_); clear hp; intro w1 hp; simp only [spl, List.set_cons_zero, List.set_cons_succ] at hp)); simp only [put_some, put_none, List.set_cons_succ, List.set_cons_zero]))
  refine wp_region_keeps _ (Keeps.all hp.drew) [] [(0, true), (1, true), (2, true), (3, true), (4, true), (5, true), (6, false), (7, true), (8, true), (9, true), (10, true), (11, true), (12, true), (13, true), (14, true), (15, true), (16, false), (17, true), (18, true), (19, true), (20, false)] (by kernel_rfl) (by kernel_rfl) rfl (by kernel_rfl) (fun _ _ d _ _ h => by cases d <;> exact h) ?_
  replace hp := hp.drew
  obtain ⟨w1, w2, W⟩ := W9.out
  rcases W with ⟨d1, r⟩ | ⟨d1, r⟩
  all_goals have R := Lib.hid r
  all_goals clear r W9
  all_goals
    repeat' (with_reducible refine plan_is ?_); first | (with_reducible refine plan_nil ?_) | ((with_reducible refine plan_t ?_); refine plan_tk rfl ?_; (first | ((with_reducible refine tk_gd _ _ rfl ?_); refine tS (by first | exact wanted_no rfl rfl rfl rfl | exact wanted_nu rfl rfl rfl rfl) ?_) | ((with_reducible refine tk_mv _ rfl ?_); refine tM rfl ?_) | ((with_reducible refine tk_ld _ _ rfl ?_); refine tO rfl (slot_tmp rfl) cell3 aa5 ?_) | refine tG (fun w _ => (by go_simp; try rfl)) ?_); try simp only [put_some, put_none, eval_tmp, eval_const, List.set_cons_succ, List.set_cons_zero, List.getD_cons_succ, List.getD_cons_zero, wrap_eq]) | (refine plan_do rfl (fun K hK => ?_); go_wp2_with (first | (go_at_call 9; (with_reducible refine (words9 _ (by assumption) (by assumption) _).mono ?_); rintro e w' ⟨rfl, rfl⟩) | go_skip); (refine hK.out _ _ (.inr (kall hp)) ?_); clear hK K; try simp only [put_some, put_none, eval_tmp, eval_const, List.set_cons_succ, List.set_cons_zero, List.getD_cons_succ, List.getD_cons_zero, wrap_eq])
  all_goals (go_wp2_with fail; go_ret; exact ⟨ret_bool (by rw [R.out]; try rfl), hp.below⟩)
def BoxIs (w : World) (b : Nat) (q r : Int) : Prop := ∀ (j : Nat) v, [Value.int .i64 q, .int .i64 r][j]? = some v → w.cell? ⟨b, 0 + j, none⟩ = some v
theorem BoxIs.below {w w' : World} {b : Nat} {q r : Int} (h : BoxIs w b q r) (hb : b < w.heap.size) (hw : Below w.heap.size w w') : BoxIs w' b q r := fun j v hj => (hw.cell (p := ⟨b, 0 + j, none⟩) hb).trans (h j v hj)
def meetsB (l : List Bl) (q r : Int) : Bool := l.any fun x => meetB x.p x.o q r
theorem meets_take {l : List Bl} {q r : Int} {j : Nat} {x : Bl} (h : l[j]? = some x) : meetsB (l.take (j + 1)) q r = (meetsB (l.take j) q r || meetB x.p x.o q r) := by
  unfold meetsB
  rw [List.take_add_one, h]
  simp [List.any_append]
theorem meets_yes {l : List Bl} {q r : Int} {j : Nat} {x : Bl} (h : l[j]? = some x) (hw : meetB x.p x.o q r = true) : meetsB l q r = true := by
  unfold meetsB
  exact List.any_eq_true.2 ⟨x, List.mem_of_getElem? h, hw⟩
def InB (p o : Int) : Prop := 0 ≤ p ∧ p ≤ 256 ∧ 0 ≤ o ∧ o ≤ 8
set_option maxRecDepth 100000 in
set_option maxHeartbeats 4000000 in
theorem give178 (p o q r : Int) (hx : InB p o) (hb : InB q r) (b : Nat) (w : World) (hbw : b < w.heap.size) (hc : BoxIs w b q r) :
    Calls Try.prog 78 #[.agg #[.int .i64 p, .int .i64 o], .pointer (some ⟨b, 0, none⟩)] w fun e w' => e = .returned (.bool (meetB p o q r)) ∧ Below w.heap.size w w' := by
  have hp := Hp.start w
  have HX := Lib.hid hc
  unfold BoxIs at HX
  obtain ⟨x1, x2, x3, x4⟩ := hx
  obtain ⟨y1, y2, y3, y4⟩ := hb
  clear hc
  go_enter Try.func78, Try.ntmps78
  go_wp2_with (first | (go_at_call 79; (with_reducible refine (meet79 _ _ _ _ x1 x2 y1 y2 x3 x4 y3 y4 _).mono ?_); rintro e w1 ⟨rfl, hb1⟩; replace hp := hp.call hb1; clear hb1) | go_skip | ((first | ((with_reducible refine pre_alloc _ rfl ?_); refine lZ hp rfl zero45 ?_; clear hp; intro b w1 hp) | ((with_reducible refine pre_box _ _ rfl ?_); refine lB hp rfl (slot_tmp rfl) rfl ?_; clear hp; intro b w1 hp) | ((with_reducible refine pre_load _ _ rfl ?_); first | refine lO hp rfl (slot_tmp rfl) ceGM0 aa5 ?_ | refine lA hp rfl (slot_tmp rfl) agg45 aa5 ?_ | refine lR hp rfl (slot_tmp rfl) agg45 HX.out ?_) | ((with_reducible refine pre_store _ _ _ rfl ?_); (first | refine sO hp rfl (slot_tmp rfl) ceGM0 aa5 ?_ | refine sA hp rfl (slot_tmp rfl) (slot_tmp rfl) agg45 aa5 ?_ | refine sG hp rfl (slot_tmp rfl) (slot_tmp rfl) agg45 aa5 ?_); clear hp; intro w1 hp; simp only [spl, List.set_cons_zero, List.set_cons_succ] at hp)); simp only [put_some, put_none, List.set_cons_succ, List.set_cons_zero]))
  go_ret
  exact ⟨rfl, hp.below⟩
set_option maxRecDepth 100000 in
set_option maxHeartbeats 4000000 in
theorem indexm86 (l : List Bl) (a : Option Addr) (c : Nat) (hl : l.length ≤ 600) (q r : Int) (hl8 : ∀ x ∈ l, InB x.p x.o) (hb : InB q r) (bc : Nat) (w : World) (ha : RowIs w a (l.flatMap blV)) (hbc : bc < w.heap.size) (hcc : BoxIs w bc q r) :
    Calls Try.prog 86 #[.slice a l.length c, .func (.func 78) #[] #[.pointer (some ⟨bc, 0, none⟩)]] w (IdxPost w (meetsB l q r)) := by
  have hp := Hp.start w
  have HA := Lib.hid ha
  have HC := Lib.hid hcc
  have HIN := Lib.hid hl8
  clear ha hcc hl8
  go_enter Try.func86, Try.ntmps86
  go_wp2_with (first | go_skip | ((first | ((with_reducible refine pre_alloc _ rfl ?_); refine lZ hp rfl zero45 ?_; clear hp; intro b w1 hp) | ((with_reducible refine pre_box _ _ rfl ?_); refine lB hp rfl (slot_tmp rfl) rfl ?_; clear hp; intro b w1 hp) | ((with_reducible refine pre_load _ _ rfl ?_); first | refine lO hp rfl (slot_tmp rfl) ceGM0 aa5 ?_ | refine lA hp rfl (slot_tmp rfl) agg45 aa5 ?_) | ((with_reducible refine pre_store _ _ _ rfl ?_); (first | refine sO hp rfl (slot_tmp rfl) ceGM0 aa5 ?_ | refine sA hp rfl (slot_tmp rfl) (slot_tmp rfl) agg45 aa5 ?_ | refine sG hp rfl (slot_tmp rfl) (slot_tmp rfl) agg45 aa5 ?_); clear hp; intro w1 hp; simp only [spl, List.set_cons_zero, List.set_cons_succ] at hp)); simp only [put_some, put_none, List.set_cons_succ, List.set_cons_zero]))
  go_loopg [8] l.length (fun k i wr => ∃ j : Nat, k + j = l.length ∧ i = .int .i64 j ∧ RowKit.Hid (meetsB (l.take j) q r = false) ∧ Hp w.heap.size w wr [])
  case atStart => exact ⟨0, by omega, rfl, Lib.hid (by simp [meetsB]), hp⟩
  case round =>
    clear hp
    obtain ⟨j, hkj, rfl, HG, hp⟩ := hrel
    by_cases hlt : j < l.length
    · obtain ⟨bq, off, rfl, hx⟩ := HA.out.elems 2 blV_len (by omega) (by omega)
      have hj := List.getElem?_eq_getElem hlt
      replace hx := hx j _ hj
      have hin := HIN.out _ (List.getElem_mem hlt)
      generalize l[j] = x at hx hj hin
      obtain ⟨p, o⟩ := x
      simp only [blV] at hx
      simp only at hin
      have HX := Lib.hid hx
      have HJ := Lib.hid hj
      clear hx hj
      have e1 : (0 : Int) ≤ (j : Int) := by omega
      have e2 : (j : Int) < (l.length : Int) := by omega
      cases hm : meetB p o q r
      · have HM := Lib.hid hm
        clear hm
        go_wp2_with (first | (go_at_call 78; (with_reducible refine (give178 _ _ q r hin hb bc _ (Nat.lt_of_lt_of_le hbc hp.below.size) (HC.out.below hbc hp.below)).mono ?_); rintro e w1 ⟨rfl, hb1⟩; replace hp := hp.call hb1; clear hb1; rw [HM.out]) | go_skip | ((first | ((with_reducible refine pre_alloc _ rfl ?_); refine lZ hp rfl zero45 ?_; clear hp; intro b w1 hp) | ((with_reducible refine pre_box _ _ rfl ?_); refine lB hp rfl (slot_tmp rfl) rfl ?_; clear hp; intro b w1 hp) | ((with_reducible refine pre_load _ _ rfl ?_); first | refine lO hp rfl (slot_tmp rfl) ceGM0 aa5 ?_ | refine lA hp rfl (slot_tmp rfl) agg45 aa5 ?_ | refine lR hp rfl (slot_tmp rfl) agg45 HX.out ?_) | ((with_reducible refine pre_store _ _ _ rfl ?_); (first | refine sO hp rfl (slot_tmp rfl) ceGM0 aa5 ?_ | refine sA hp rfl (slot_tmp rfl) (slot_tmp rfl) agg45 aa5 ?_ | refine sG hp rfl (slot_tmp rfl) (slot_tmp rfl) agg45 aa5 ?_); clear hp; intro w1 hp; simp only [spl, List.set_cons_zero, List.set_cons_succ] at hp)); simp only [put_some, put_none, List.set_cons_succ, List.set_cons_zero]))
        go_roundg (gk - 1)
        case measure => omega
        case rel => exact ⟨j + 1, by omega, by go_num, Lib.hid (by rw [meets_take HJ.out, HG.out, HM.out]; rfl), hp⟩
      · have HM := Lib.hid hm
        clear hm
        go_wp2_with (first | (go_at_call 78; (with_reducible refine (give178 _ _ q r hin hb bc _ (Nat.lt_of_lt_of_le hbc hp.below.size) (HC.out.below hbc hp.below)).mono ?_); rintro e w1 ⟨rfl, hb1⟩; replace hp := hp.call hb1; clear hb1; rw [HM.out]) | go_skip | ((first | ((with_reducible refine pre_alloc _ rfl ?_); refine lZ hp rfl zero45 ?_; clear hp; intro b w1 hp) | ((with_reducible refine pre_box _ _ rfl ?_); refine lB hp rfl (slot_tmp rfl) rfl ?_; clear hp; intro b w1 hp) | ((with_reducible refine pre_load _ _ rfl ?_); first | refine lO hp rfl (slot_tmp rfl) ceGM0 aa5 ?_ | refine lA hp rfl (slot_tmp rfl) agg45 aa5 ?_ | refine lR hp rfl (slot_tmp rfl) agg45 HX.out ?_) | ((with_reducible refine pre_store _ _ _ rfl ?_); (first | refine sO hp rfl (slot_tmp rfl) ceGM0 aa5 ?_ | refine sA hp rfl (slot_tmp rfl) (slot_tmp rfl) agg45 aa5 ?_ | refine sG hp rfl (slot_tmp rfl) (slot_tmp rfl) agg45 aa5 ?_); clear hp; intro w1 hp; simp only [spl, List.set_cons_zero, List.set_cons_succ] at hp)); simp only [put_some, put_none, List.set_cons_succ, List.set_cons_zero]))
        go_ret
        exact ⟨j, rfl, by rw [meets_yes HJ.out HM.out]; simp, hp.below⟩
    · have e2 : decide ((j : Int) < (l.length : Int)) = false := by simp; omega
      go_wp2_with fail
      go_ret
      exact ⟨-1, rfl, by have := HG.out; rw [List.take_of_length_le (by omega)] at this; rw [this]; decide, hp.below⟩
set_option maxRecDepth 100000 in
set_option maxHeartbeats 4000000 in
theorem containsm72 (l : List Bl) (a : Option Addr) (c : Nat) (hl : l.length ≤ 600) (q r : Int) (hl8 : ∀ x ∈ l, InB x.p x.o) (hb : InB q r) (bc : Nat) (w : World) (ha : RowIs w a (l.flatMap blV)) (hbc : bc < w.heap.size) (hcc : BoxIs w bc q r) :
    Calls Try.prog 72 #[.slice a l.length c, .func (.func 78) #[] #[.pointer (some ⟨bc, 0, none⟩)]] w fun e w' => e = .returned (.bool (meetsB l q r)) ∧ Below w.heap.size w w' := by
  have hp := Hp.start w
  have K := Lib.hid (indexm86 l a c hl q r hl8 hb bc w ha hbc hcc)
  clear ha hcc hl8
  go_enter Try.func72, Try.ntmps72
  go_wp2_with (go_at_call 86; refine K.out.mono ?_; rintro e w1 ⟨i, rfl, hi, hb⟩; replace hp := hp.call hb; have HI := Lib.hid hi; clear hi hb)
  go_ret
  exact ⟨ret_bool HI.out, hp.below⟩
def IndexP (l : List Bl) (v : Bl) (r : Int) : Prop := (r = -1 ∧ v ∉ l) ∨ ∃ j : Nat, r = j ∧ l[j]? = some v
def IndexPost (w : World) (l : List Bl) (v : Bl) (e : Ending) (w' : World) : Prop := ∃ r : Int, e = .returned (.int .i64 r) ∧ IndexP l v r ∧ Below w.heap.size w w'
set_option maxRecDepth 100000 in
set_option maxHeartbeats 4000000 in
theorem idx80 (l : List Bl) (a : Option Addr) (c : Nat) (hl : l.length ≤ 1000) (q r : Int) (w : World) (ha : RowIs w a (l.flatMap blV)) :
    Calls Try.prog 80 #[.slice a l.length c, .agg #[.int .i64 q, .int .i64 r]] w (IndexPost w l ⟨q, r⟩) := by
  have hp := Hp.start w
  have HA := Lib.hid ha
  clear ha
  go_enter Try.func80, Try.ntmps80
  go_wp2_with (first | go_skip | ((first | ((with_reducible refine pre_alloc _ rfl ?_); refine lZ hp rfl zero45 ?_; clear hp; intro b w1 hp) | ((with_reducible refine pre_box _ _ rfl ?_); refine lB hp rfl (slot_tmp rfl) rfl ?_; clear hp; intro b w1 hp) | ((with_reducible refine pre_load _ _ rfl ?_); first | refine lO hp rfl (slot_tmp rfl) ceGM0 aa5 ?_ | refine lA hp rfl (slot_tmp rfl) agg45 aa5 ?_) | ((with_reducible refine pre_store _ _ _ rfl ?_); (first | refine sO hp rfl (slot_tmp rfl) ceGM0 aa5 ?_ | refine sA hp rfl (slot_tmp rfl) (slot_tmp rfl) agg45 aa5 ?_ | refine sG hp rfl (slot_tmp rfl) (slot_tmp rfl) agg45 aa5 ?_); clear hp; intro w1 hp; simp only [spl, List.set_cons_zero, List.set_cons_succ] at hp)); simp only [put_some, put_none, List.set_cons_succ, List.set_cons_zero]))
  obtain ⟨b1, rfl⟩ := hp.id0
  go_loopg [8] l.length (fun k i wr => ∃ j : Nat, k + j = l.length ∧ i = .int .i64 j ∧ RowKit.Hid (∀ x ∈ l.take j, x ≠ ⟨q, r⟩) ∧ Hp w.heap.size w wr [⟨b1, [.int .i64 q, .int .i64 r], 45, 2⟩])
  case atStart => exact ⟨0, by omega, rfl, Lib.hid (by simp), hp⟩
  case round =>
    clear hp
    obtain ⟨j, hkj, rfl, HG, hp⟩ := hrel
    by_cases hlt : j < l.length
    · obtain ⟨bq, off, rfl, hx⟩ := HA.out.elems 2 blV_len (by omega) (by omega)
      have hj := List.getElem?_eq_getElem hlt
      replace hx := hx j _ hj
      generalize l[j] = x at hx hj
      obtain ⟨p, o⟩ := x
      simp only [blV] at hx
      have HX := Lib.hid hx
      have HJ := Lib.hid hj
      clear hx hj
      have e1 : (0 : Int) ≤ (j : Int) := by omega
      have e2 : (j : Int) < (l.length : Int) := by omega
      by_cases hpq : q = p
      · subst hpq
        by_cases hor : r = o
        · subst hor
          go_wp2_with (first | go_skip | ((first | ((with_reducible refine pre_alloc _ rfl ?_); refine lZ hp rfl zero45 ?_; clear hp; intro b w1 hp) | ((with_reducible refine pre_box _ _ rfl ?_); refine lB hp rfl (slot_tmp rfl) rfl ?_; clear hp; intro b w1 hp) | ((with_reducible refine pre_load _ _ rfl ?_); first | refine lO hp rfl (slot_tmp rfl) ceGM0 aa5 ?_ | refine lA hp rfl (slot_tmp rfl) agg45 aa5 ?_ | refine lR hp rfl (slot_tmp rfl) agg45 HX.out ?_) | ((with_reducible refine pre_store _ _ _ rfl ?_); (first | refine sO hp rfl (slot_tmp rfl) ceGM0 aa5 ?_ | refine sA hp rfl (slot_tmp rfl) (slot_tmp rfl) agg45 aa5 ?_ | refine sG hp rfl (slot_tmp rfl) (slot_tmp rfl) agg45 aa5 ?_); clear hp; intro w1 hp; simp only [spl, List.set_cons_zero, List.set_cons_succ] at hp)); simp only [put_some, put_none, List.set_cons_succ, List.set_cons_zero]))
          refine wp_region_keeps _ (Keeps.all hp.drew) [] [(0, true), (1, true), (2, true), (3, true), (4, true), (5, true)] (by kernel_rfl) (by kernel_rfl) rfl (by kernel_rfl) (fun _ _ d _ _ h => by cases d <;> exact h) ?_
          replace hp := hp.drew
          repeat' (with_reducible refine plan_is ?_); first | (with_reducible refine plan_nil ?_) | ((with_reducible refine plan_t ?_); refine plan_tk rfl ?_; (first | ((with_reducible refine tk_mv _ rfl ?_); refine tM rfl ?_) | ((with_reducible refine tk_ld _ _ rfl ?_); first | refine tA rfl (slot_tmp rfl) agg45 aa5 ?_ | refine tR rfl (slot_tmp rfl) agg45 HX.out ?_) | refine tG (fun w _ => (by go_simp; try rfl)) ?_); try simp only [put_some, put_none, eval_tmp, eval_const, List.set_cons_succ, List.set_cons_zero, List.getD_cons_succ, List.getD_cons_zero, wrap_eq])
          go_wp2_with fail
          go_ret
          exact ⟨j, rfl, .inr ⟨j, rfl, HJ.out⟩, hp.below⟩
        · have HOR := Lib.hid hor
          have e3 : (r == o) = false := by simpa using hor
          clear hor
          go_wp2_with (first | go_skip | ((first | ((with_reducible refine pre_alloc _ rfl ?_); refine lZ hp rfl zero45 ?_; clear hp; intro b w1 hp) | ((with_reducible refine pre_box _ _ rfl ?_); refine lB hp rfl (slot_tmp rfl) rfl ?_; clear hp; intro b w1 hp) | ((with_reducible refine pre_load _ _ rfl ?_); first | refine lO hp rfl (slot_tmp rfl) ceGM0 aa5 ?_ | refine lA hp rfl (slot_tmp rfl) agg45 aa5 ?_ | refine lR hp rfl (slot_tmp rfl) agg45 HX.out ?_) | ((with_reducible refine pre_store _ _ _ rfl ?_); (first | refine sO hp rfl (slot_tmp rfl) ceGM0 aa5 ?_ | refine sA hp rfl (slot_tmp rfl) (slot_tmp rfl) agg45 aa5 ?_ | refine sG hp rfl (slot_tmp rfl) (slot_tmp rfl) agg45 aa5 ?_); clear hp; intro w1 hp; simp only [spl, List.set_cons_zero, List.set_cons_succ] at hp)); simp only [put_some, put_none, List.set_cons_succ, List.set_cons_zero]))
          refine wp_region_keeps _ (Keeps.all hp.drew) [] [(0, true), (1, true), (2, true), (3, true), (4, true), (5, true)] (by kernel_rfl) (by kernel_rfl) rfl (by kernel_rfl) (fun _ _ d _ _ h => by cases d <;> exact h) ?_
          replace hp := hp.drew
          repeat' (with_reducible refine plan_is ?_); first | (with_reducible refine plan_nil ?_) | ((with_reducible refine plan_t ?_); refine plan_tk rfl ?_; (first | ((with_reducible refine tk_mv _ rfl ?_); refine tM rfl ?_) | ((with_reducible refine tk_ld _ _ rfl ?_); first | refine tA rfl (slot_tmp rfl) agg45 aa5 ?_ | refine tR rfl (slot_tmp rfl) agg45 HX.out ?_) | refine tG (fun w _ => (by go_simp; try rfl)) ?_); try simp only [put_some, put_none, eval_tmp, eval_const, List.set_cons_succ, List.set_cons_zero, List.getD_cons_succ, List.getD_cons_zero, wrap_eq])
          go_wp2_with fail
          go_roundg (gk - 1)
          case measure => omega
          case rel =>
            refine ⟨j + 1, by omega, by go_num, Lib.hid (fun x hx => ?_), hp⟩
            rw [List.take_add_one, HJ.out] at hx
            rcases List.mem_append.1 hx with hx | hx
            · exact HG.out x hx
            · simp at hx; subst hx; intro h; injection h with h1 h2; exact HOR.out h2.symm
      · have HPQ := Lib.hid hpq
        have e3 : (q == p) = false := by simpa using hpq
        clear hpq
        go_wp2_with (first | go_skip | ((first | ((with_reducible refine pre_alloc _ rfl ?_); refine lZ hp rfl zero45 ?_; clear hp; intro b w1 hp) | ((with_reducible refine pre_box _ _ rfl ?_); refine lB hp rfl (slot_tmp rfl) rfl ?_; clear hp; intro b w1 hp) | ((with_reducible refine pre_load _ _ rfl ?_); first | refine lO hp rfl (slot_tmp rfl) ceGM0 aa5 ?_ | refine lA hp rfl (slot_tmp rfl) agg45 aa5 ?_ | refine lR hp rfl (slot_tmp rfl) agg45 HX.out ?_) | ((with_reducible refine pre_store _ _ _ rfl ?_); (first | refine sO hp rfl (slot_tmp rfl) ceGM0 aa5 ?_ | refine sA hp rfl (slot_tmp rfl) (slot_tmp rfl) agg45 aa5 ?_ | refine sG hp rfl (slot_tmp rfl) (slot_tmp rfl) agg45 aa5 ?_); clear hp; intro w1 hp; simp only [spl, List.set_cons_zero, List.set_cons_succ] at hp)); simp only [put_some, put_none, List.set_cons_succ, List.set_cons_zero]))
        refine wp_region_keeps _ (Keeps.all hp.drew) [] [(0, true), (1, true), (2, true), (3, true), (4, true), (5, true)] (by kernel_rfl) (by kernel_rfl) rfl (by kernel_rfl) (fun _ _ d _ _ h => by cases d <;> exact h) ?_
        replace hp := hp.drew
        repeat' (with_reducible refine plan_is ?_); first | (with_reducible refine plan_nil ?_) | ((with_reducible refine plan_t ?_); refine plan_tk rfl ?_; (first | ((with_reducible refine tk_mv _ rfl ?_); refine tM rfl ?_) | ((with_reducible refine tk_ld _ _ rfl ?_); first | refine tA rfl (slot_tmp rfl) agg45 aa5 ?_ | refine tR rfl (slot_tmp rfl) agg45 HX.out ?_) | refine tG (fun w _ => (by go_simp; try rfl)) ?_); try simp only [put_some, put_none, eval_tmp, eval_const, List.set_cons_succ, List.set_cons_zero, List.getD_cons_succ, List.getD_cons_zero, wrap_eq])
        go_wp2_with fail
        go_roundg (gk - 1)
        case measure => omega
        case rel =>
          refine ⟨j + 1, by omega, by go_num, Lib.hid (fun x hx => ?_), hp⟩
          rw [List.take_add_one, HJ.out] at hx
          rcases List.mem_append.1 hx with hx | hx
          · exact HG.out x hx
          · simp at hx; subst hx; intro h; injection h with h1 h2; exact HPQ.out h1.symm
    · have e2 : decide ((j : Int) < (l.length : Int)) = false := by simp; omega
      go_wp2_with fail
      go_ret
      exact ⟨-1, rfl, .inl ⟨rfl, fun hm => HG.out _ (by rw [List.take_of_length_le (by omega)]; exact hm) rfl⟩, hp.below⟩
end Go.Proofs.Ytcjbepaclbhjaaa
namespace Go.Proofs.Ytcjbepaclbhjaaa
def Disj (l : List Bl) : Prop := l.Pairwise fun x y => x.p + pw x.o ≤ y.p
theorem Good.disj {od : Int} {l : List Bl} (h : Good od l) : Disj l := by
  unfold Disj
  rw [List.pairwise_iff_getElem]
  intro i j hi hj hij
  exact ((h j _ (List.getElem?_eq_getElem hj)).2 i _ hij (List.getElem?_eq_getElem hi)).1
theorem Disj.sorted {l : List Bl} (h : Disj l) : SortedB l := by
  intro i j x y hij hx hy
  unfold Disj at h
  rw [List.pairwise_iff_getElem] at h
  obtain ⟨hi, rfl⟩ := List.getElem?_eq_some_iff.1 hx
  obtain ⟨hj, rfl⟩ := List.getElem?_eq_some_iff.1 hy
  have := h i j hi hj hij
  have := pw_pos l[i].o
  omega
theorem Disj.apart {l : List Bl} (h : Disj l) {x y : Bl} (hx : x ∈ l) (hy : y ∈ l) (hne : x ≠ y) : ¬ MeetP x y := by
  obtain ⟨i, hi, rfl⟩ := List.getElem_of_mem hx
  obtain ⟨j, hj, rfl⟩ := List.getElem_of_mem hy
  unfold Disj at h
  rw [List.pairwise_iff_getElem] at h
  rintro ⟨m1, m2⟩
  rcases Nat.lt_trichotomy i j with hij | hij | hij
  · have := h i j hi hj hij; omega
  · subst hij; exact hne rfl
  · have := h j i hj hi hij; omega
theorem Disj.sub {l k : List Bl} (h : Disj l) (hs : k.Sublist l) : Disj k := List.Pairwise.sublist hs h
def without (l : List Bl) (v : Bl) : List Bl := l.filter fun x => decide (x ≠ v)
theorem without_sub (l : List Bl) (v : Bl) : (without l v).Sublist l := List.filter_sublist
theorem SortedB.nodup {l : List Bl} (h : SortedB l) : l.Nodup := by
  unfold List.Nodup
  rw [List.pairwise_iff_getElem]
  intro i j hi hj hij he
  have := h i j _ _ hij (List.getElem?_eq_getElem hi) (List.getElem?_eq_getElem hj)
  rw [he] at this; omega
theorem erase_without {l : List Bl} {v : Bl} {j : Nat} (hn : l.Nodup) (hj : l[j]? = some v) : l.eraseIdx j = without l v := by
  induction l generalizing j with
  | nil => simp at hj
  | cons x l ih =>
    obtain ⟨h1, h2⟩ := List.nodup_cons.1 hn
    cases j with
    | zero =>
      simp at hj; subst hj
      rw [List.eraseIdx_cons_zero]
      unfold without
      rw [List.filter_cons_of_neg (by simp)]
      exact (List.filter_eq_self.2 (fun a ha => by simp; intro h; subst h; exact h1 ha)).symm
    | succ j =>
      rw [List.getElem?_cons_succ] at hj
      rw [List.eraseIdx_cons_succ, ih h2 hj]
      unfold without
      rw [List.filter_cons_of_pos (by simp; intro h; subst h; exact h1 (List.mem_of_getElem? hj))]
def withL : List Bl → Bl → List Bl
  | [], b => [b]
  | x :: r, b => if b.p < x.p then b :: x :: r else x :: withL r b
theorem withL_perm (l : List Bl) (b : Bl) : (withL l b).Perm (b :: l) := by
  induction l with
  | nil => exact List.Perm.refl _
  | cons x r ih =>
    unfold withL
    split
    · exact List.Perm.refl _
    · exact (ih.cons x).trans (List.Perm.swap _ _ _)
theorem withL_at {l : List Bl} {b : Bl} {k : Nat} (hk : AtB l b.p k) (hne : ∀ y ∈ l, y.p ≠ b.p) : l.take k ++ b :: l.drop k = withL l b := by
  induction l generalizing k with
  | nil =>
    have : k = 0 := by have := hk.1; simpa using this
    subst this; rfl
  | cons x r ih =>
    unfold withL
    cases k with
    | zero =>
      have h1 := hk.2.2 0 x rfl (Nat.le_refl _)
      have h2 := hne x (by simp)
      rw [if_pos (by omega)]; rfl
    | succ k =>
      have h1 := hk.2.1 0 x rfl (by omega)
      rw [if_neg (by omega), List.take_succ_cons, List.drop_succ_cons, List.cons_append, ih (k := k) ⟨by have := hk.1; simpa using this, fun j y hj hjk => hk.2.1 (j + 1) y (by simpa using hj) (by omega), fun j y hj hjk => hk.2.2 (j + 1) y (by simpa using hj) (by omega)⟩ (fun y hy => hne y (by simp [hy]))]
def mergeB (b : Bl) : Bl := ⟨min b.p (twinP b).p, b.o + 1⟩
def giveF (od : Int) : Nat → List Bl → Bl → List Bl × Bl
  | 0, l, b => (l, b)
  | n + 1, l, b => if b.o < od ∧ twinP b ∈ l then giveF od n (without l (twinP b)) (mergeB b) else (l, b)
theorem pw_dvd {o od : Int} (h0 : 0 ≤ o) (h1 : o ≤ od) (h8 : od ≤ 8) : pw od % pw o = 0 := by
  rcases pw_cases h0 (by omega) with rfl | rfl | rfl | rfl | rfl | rfl | rfl | rfl | rfl <;>
  rcases pw_cases (o := od) (by omega) h8 with rfl | rfl | rfl | rfl | rfl | rfl | rfl | rfl | rfl <;> first | decide | omega
theorem twin_cases {od : Int} {b : Bl} (h : MayP od b) (h8 : od ≤ 8) (ho : b.o < od) : (twinP b = ⟨b.p + pw b.o, b.o⟩ ∧ b.p % (2 * pw b.o) = 0 ∧ b.p + 2 * pw b.o ≤ pw od) ∨ (twinP b = ⟨b.p - pw b.o, b.o⟩ ∧ 0 ≤ b.p - pw b.o ∧ (b.p - pw b.o) % (2 * pw b.o) = 0) := by
  obtain ⟨h1, h2, h3, h4, h5⟩ := h
  have hd := pw_dvd (o := b.o + 1) (by omega) (by omega) h8
  rw [pw_succ h1] at hd
  generalize pw od = E at h4 hd ⊢
  obtain ⟨p, o⟩ := b
  simp only at *
  unfold twinP
  simp only
  by_cases hc : p % (2 * pw o) = 0
  · left
    rw [if_pos hc]
    refine ⟨rfl, hc, ?_⟩
    rcases pw_cases h1 (by omega) with rfl | rfl | rfl | rfl | rfl | rfl | rfl | rfl | rfl
    all_goals
      simp only [pw, Int.reduceToNat, Int.reducePow, Int.reduceMul] at h4 h5 hd hc ⊢
      omega
  · right
    rw [if_neg hc]
    refine ⟨rfl, ?_, ?_⟩
    all_goals
      rcases pw_cases h1 (by omega) with rfl | rfl | rfl | rfl | rfl | rfl | rfl | rfl | rfl
      all_goals
        simp only [pw, Int.reduceToNat, Int.reducePow, Int.reduceMul] at h4 h5 hd hc ⊢
        omega
theorem merge_may {od : Int} {b : Bl} (h : MayP od b) (h8 : od ≤ 8) (ho : b.o < od) : MayP od (mergeB b) := by
  have hp := pw_pos b.o
  have hs := pw_succ h.1
  unfold mergeB MayP
  simp only
  rw [hs]
  rcases twin_cases h h8 ho with ⟨ht, h1, h2⟩ | ⟨ht, h1, h2⟩
  · rw [ht]; simp only
    rw [show min b.p (b.p + pw b.o) = b.p by omega]
    exact ⟨by have := h.1; omega, by omega, h.2.2.1, by omega, h1⟩
  · rw [ht]; simp only
    rw [show min b.p (b.p - pw b.o) = b.p - pw b.o by omega]
    have := h.end_le
    exact ⟨by have := h.1; omega, by omega, h1, by omega, h2⟩
theorem merge_meets {od : Int} {b x : Bl} (h : MayP od b) (h8 : od ≤ 8) (ho : b.o < od) (hm : MeetP x (mergeB b)) : MeetP x b ∨ MeetP x (twinP b) := by
  have hp := pw_pos b.o
  have hs := pw_succ h.1
  have hx := pw_pos x.o
  obtain ⟨m1, m2⟩ := hm
  unfold mergeB at m1 m2
  simp only at m1 m2
  rw [hs] at m1
  unfold MeetP
  rcases twin_cases h h8 ho with ⟨ht, h1, h2⟩ | ⟨ht, h1, h2⟩
  · rw [ht] at m1 m2 ⊢; simp only at m1 m2 ⊢; omega
  · rw [ht] at m1 m2 ⊢; simp only at m1 m2 ⊢; omega
structure GiveAt (od : Int) (l : List Bl) (b : Bl) : Prop where
  disj : Disj l
  may : MayP od b
  free : ∀ x ∈ l, ¬ MeetP x b
theorem GiveAt.step {od : Int} {l : List Bl} {b : Bl} (h : GiveAt od l b) (h8 : od ≤ 8) (ho : b.o < od) (hm : twinP b ∈ l) : GiveAt od (without l (twinP b)) (mergeB b) := by
  refine ⟨h.disj.sub (without_sub _ _), merge_may h.may h8 ho, fun x hx hmm => ?_⟩
  obtain ⟨h1, h2⟩ := List.mem_filter.1 hx
  rcases merge_meets h.may h8 ho hmm with h3 | h3
  · exact h.free x h1 h3
  · exact h.disj.apart h1 hm (by simpa using h2) h3
theorem GiveAt.ne {od : Int} {l : List Bl} {b : Bl} (h : GiveAt od l b) : ∀ y ∈ l, y.p ≠ b.p := fun y hy he => h.free y hy ⟨by have := pw_pos b.o; omega, by have := pw_pos y.o; omega⟩
theorem giveF_go {od : Int} {n : Nat} {l : List Bl} {b : Bl} (h1 : b.o < od) (h2 : twinP b ∈ l) : giveF od (n + 1) l b = giveF od n (without l (twinP b)) (mergeB b) := by rw [giveF, if_pos ⟨h1, h2⟩]
theorem giveF_no {od : Int} {n : Nat} {l : List Bl} {b : Bl} (h : ¬ (b.o < od ∧ twinP b ∈ l)) : giveF od n l b = (l, b) := by
  cases n with
  | zero => rfl
  | succ n => rw [giveF, if_neg h]
def givenL (od : Int) (fs : List Bl) (b : Bl) : List Bl := withL (giveF od (od - b.o).toNat fs b).1 (giveF od (od - b.o).toNat fs b).2
end Go.Proofs.Ytcjbepaclbhjaaa
namespace Go.Proofs.Ytcjbepaclbhjaaa
open Go.RowKit
theorem size45 : (Try.prog.info? 45).map (·.size) = some 2 := by kernel_rfl
def insL (c : Nat) (xs news : List Value) (i : Nat) : List Value := xs.take (i * c) ++ (news ++ xs.drop (i * c))
def InsPost (B : Nat) (w0 : World) (n : Nat) (xs : List Value) (M : List Blk) (e : Ending) (w' : World) : Prop := ∃ v' R', e = .returned v' ∧ OwnRow 45 2 v' n xs R' ∧ Hp B w0 w' (R' ++ M)
set_option maxRecDepth 100000 in
set_option maxHeartbeats 4000000 in
theorem ins84_end (n : Nat) (hn : n ≤ 1000) (xs : List Value) (v : Value) {B : Nat} {w0 w : World} {R M : List Blk} (news : List Value) (hnl : news.length = 2) (hn1 : news.all (·.oneCell') = true) (bv : Nat) (ev : TypeId) (mv : Nat) (hR : OwnRow 45 2 v n xs R) (hp : Hp B w0 w (⟨bv, news, ev, mv⟩ :: (R ++ M))) :
    Calls Try.prog 84 #[v, .int .i64 n, .slice (some ⟨bv, 0, none⟩) 1 1] w (InsPost B w0 (n + 1) (insL 2 xs news n) M) := by
  obtain ⟨i0, hi0, hz0, hz1, hz2⟩ := info_parts info45
  have HNL : RowKit.Hid (news.length = 1 * 2) := Lib.hid (by rw [hnl])
  have HN1 := Lib.hid hn1
  have HR := Lib.hid hR
  have hxl := hR.1
  have HI : RowKit.Hid (insL 2 xs news n = xs ++ news) := Lib.hid (by unfold insL; rw [List.take_of_length_le (by omega), List.drop_eq_nil_of_le (by omega), List.append_nil])
  have sm1 : n + 1 ≤ maxLen := by unfold maxLen; omega
  have sm2 : (n + 1) * 16 ≤ 140737488355328 := by omega
  rcases hR with ⟨_, ⟨h0, hv, hx, hr⟩ | ⟨g, cap, hv, hnc, hcm, hr⟩⟩
  · subst h0 hv hx hr
    clear hnl hn1 hxl
    go_enter Try.func84, Try.ntmps84
    go_wp2_with (first | ((with_reducible refine pre_append _ _ 25 rfl ?_); refine wpList_appendGrow (K := []) hp _ _ _ rfl wy i0 _ 16 Try.underlying25 hi0 hz0 hz1 hz2 rfl (by decide) (slot_tmp rfl) HR.out 1 1 (slot_tmp rfl) HNL.out (by decide) HN1.out sm1 sm2 ?_; clear hp; intro v' R' w1 hR' hp; have HR' := Lib.hid hR'; clear hR'; simp only [put_some, put_none, List.set_cons_succ, List.set_cons_zero]) | go_skip)
    go_ret
    exact ⟨v', R', rfl, by rw [HI.out]; exact HR'.out, hp⟩
  · subst hv hr
    clear hnl hn1 hxl
    go_enter Try.func84, Try.ntmps84
    go_wp2_with (first | ((with_reducible refine pre_append _ _ 25 rfl ?_); refine wpList_appendGrow (K := []) hp _ _ _ rfl wy i0 _ 16 Try.underlying25 hi0 hz0 hz1 hz2 rfl (by decide) (slot_tmp rfl) HR.out 1 1 (slot_tmp rfl) HNL.out (by decide) HN1.out sm1 sm2 ?_; clear hp; intro v' R' w1 hR' hp; have HR' := Lib.hid hR'; clear hR'; simp only [put_some, put_none, List.set_cons_succ, List.set_cons_zero]) | go_skip)
    all_goals
      go_ret
      exact ⟨v', R', rfl, by rw [HI.out]; exact HR'.out, hp⟩
theorem ins_len (n i : Nat) (hi : i ≤ n) (xs news : List Value) (hx : xs.length = n * 2) (hn : news.length = 1 * 2) : (insL 2 xs news i).length = (n + 1) * 2 := by
  unfold insL; rw [List.length_append, List.length_append, List.length_take, List.length_drop]; omega
theorem Hp.sub2 {B : Nat} {w0 w : World} {L : List Blk} {p q r : Blk} (hp : Hp B w0 w (p :: q :: r :: L)) : Hp B w0 w ([p] ++ L) := by
  have hs : List.Sublist (p :: L) (p :: q :: r :: L) := List.Sublist.cons_cons p ((List.sublist_cons_self r L).trans (List.sublist_cons_self q _))
  exact ⟨hp.below, hp.size, (hs.map _).nodup hp.nodup, fun x hx => hp.own x (hs.subset hx)⟩
theorem ins_a (i : Nat) (xs zs news : List Value) (h : (xs.take (i * 2)).length = i * 2) : (xs.take (i * 2) ++ zs).take (i * 2) ++ (news ++ (xs.take (i * 2) ++ zs).drop (i * 2 + 1 * 2)) = xs.take (i * 2) ++ (news ++ zs.drop 2) := by
  generalize xs.take (i * 2) = ys at h ⊢
  rw [List.take_append_of_le_length (by omega), List.take_of_length_le (by omega), List.drop_append, List.drop_eq_nil_of_le (by omega), List.nil_append, h]
  congr 3; omega
theorem ins_b (n i : Nat) (hi : i < n) (xs zs news : List Value) (hx : xs.length = n * 2) (hz : zs.length = (n + 1 - i) * 2) (hn : news.length = 1 * 2) :
    (xs.take (i * 2) ++ (news ++ zs.drop 2)).take ((i + 1) * 2) ++ (xs.drop (i * 2) ++ (xs.take (i * 2) ++ (news ++ zs.drop 2)).drop ((i + 1) * 2 + (n - i) * 2)) = insL 2 xs news i := by
  have h : (xs.take (i * 2)).length = i * 2 := by rw [List.length_take]; omega
  unfold insL
  generalize xs.take (i * 2) = ys at h ⊢
  have hl : (ys ++ (news ++ zs.drop 2)).length ≤ (i + 1) * 2 + (n - i) * 2 := by rw [List.length_append, List.length_append, List.length_drop]; omega
  rw [List.drop_eq_nil_of_le hl, List.append_nil, ← List.append_assoc, ← List.append_assoc, List.take_append_of_le_length (by rw [List.length_append]; omega), List.take_of_length_le (by rw [List.length_append]; omega)]
set_option maxRecDepth 100000 in
set_option maxHeartbeats 4000000 in
theorem ins84_grow (n i : Nat) (hn : n ≤ 1000) (hi : i < n) (xs : List Value) (hxl : xs.length = n * 2) (g cap : Nat) (hnc : n ≤ cap) (hcap : cap < n + 1) {B : Nat} {w0 w : World} {M : List Blk} (news : List Value) (hnl : news.length = 2) (hn1 : news.all (·.oneCell') = true) (hx1 : xs.all (·.oneCell') = true) (bv : Nat) (ev : TypeId) (mv : Nat) (hp : Hp B w0 w (⟨bv, news, ev, mv⟩ :: ⟨g, xs, 45, cap * 2⟩ :: M)) :
    Calls Try.prog 84 #[.slice (some ⟨g, 0, none⟩) n cap, .int .i64 i, .slice (some ⟨bv, 0, none⟩) 1 1] w (InsPost B w0 (n + 1) (insL 2 xs news i) M) := by
  obtain ⟨i0, hi0, hz0, hz1, hz2⟩ := info_parts info45
  have HNL : RowKit.Hid (news.length = 1 * 2) := Lib.hid (by rw [hnl])
  have HN1 := Lib.hid hn1
  have HX1 := Lib.hid hx1
  have HTL : RowKit.Hid ((xs.take (i * 2)).length = i * 2) := Lib.hid (by rw [List.length_take]; omega)
  have HTK : RowKit.Hid (∀ (j : Nat) u, (xs.take (i * 2))[j]? = some u → xs[j]? = some u) := Lib.hid (fun j u hj => by
    rw [List.getElem?_take] at hj
    split at hj
    · exact hj
    · cases hj)
  have HKZ : RowKit.Hid (((n : Int) + 1 - (i : Int)) = ((n + 1 - i : Nat) : Int)) := Lib.hid (by omega)
  have HSUM : RowKit.Hid (i + (n + 1 - i) = n + 1) := Lib.hid (by omega)
  have HMIN : RowKit.Hid (Nat.min 1 (n + 1 - i) = 1) := Lib.hid (Nat.min_eq_left (by omega))
  have k0 : 0 < n + 1 - i := by omega
  have kg : cap < i + (n + 1 - i) := by omega
  have k63 : i + (n + 1 - i) ≤ maxLen := by unfold maxLen; omega
  have kby : (i + (n + 1 - i)) * 16 ≤ 100000000 := by omega
  have f1 : (0 : Int) ≤ (i : Int) := by omega
  have f2 : (i : Int) ≤ (n : Int) := by omega
  have f3 : (i : Int) ≤ (cap : Int) := by omega
  have f4 : ((i : Int) == (n : Int)) = false := by simp; omega
  have f5 : (cap : Int) < (n : Int) + 1 := by omega
  have f6 : ¬ (cap = i) := by omega
  have HXL := Lib.hid hxl
  have HIL := Lib.hid (ins_len n i (by omega) xs news hxl (by rw [hnl]))
  clear hnl hn1 hx1 hxl
  go_enter Try.func84, Try.ntmps84
  go_wp2_with (first | (at_builtin; refine wpList_appendZeros hp _ _ 45 _ _ rfl wy Try.underlying25 .i64 Try.underlying3 i0 _ hi0 hz0 2 16 hz1 hz2 rfl (by decide) g i cap (slot_tmp rfl) (xs.take (i * 2)) HTL.out (fun j u hj => hp.cell at1 (HTK.out j u hj)) _ (n + 1 - i) HKZ.out (slot_tmp rfl) k0 kg k63 kby ?_; clear hp; intro g2 cap2 w1 hc2 hcm2 hp; rw [HSUM.out] at hc2 ⊢; generalize hzs : (Builtin.zeroCells _ (n + 1 - i)).toList = zs at hp; have HZL := Lib.hid (show zs.length = (n + 1 - i) * 2 by rw [← hzs, Array.length_toList, size_zeroCells]; rfl); clear hzs; have f7 : ¬ (cap2 = i) := (by omega); have f8 : ¬ (cap2 = i + 1) := (by omega); have f9 : (i : Int) ≤ (cap2 : Int) := (by omega); have HFIT : RowKit.Hid (i * 2 + 1 * 2 ≤ (xs.take (i * 2) ++ zs).length) := Lib.hid (by rw [List.length_append, HTL.out, HZL.out]; omega); simp only [put_some, put_none, List.set_cons_succ, List.set_cons_zero]) | ((with_reducible refine pre_copy _ _ _ _ rfl ?_); refine wpList_copyAt hp _ _ 45 _ _ rfl wy Try.underlying25 2 size45 g2 (i * 2) (n + 1 - i) (cap2 - i) (slot_tmp rfl) bv 0 1 1 (slot_tmp rfl) 0 _ _ at0 1 HMIN.out news HNL.out HFIT.out (fun j u hj => hp.cell at1 (by rw [Nat.zero_add]; exact hj)) HN1.out ?_; clear hp; intro v2 w1 hp; simp only [List.set_cons_zero] at hp; simp only [put_some, put_none, List.set_cons_succ, List.set_cons_zero]) | go_skip)
  have HL1 : RowKit.Hid ((xs.take (i * 2) ++ zs).take (i * 2) ++ (news ++ (xs.take (i * 2) ++ zs).drop (i * 2 + 1 * 2)) = xs.take (i * 2) ++ (news ++ zs.drop 2)) := Lib.hid (ins_a i xs zs news HTL.out)
  rw [HL1.out] at hp
  have HMIN2 : RowKit.Hid (Nat.min (n - i) (n - i) = n - i) := Lib.hid (Nat.min_self _)
  have HDL : RowKit.Hid ((xs.drop (i * 2)).length = (n - i) * 2) := Lib.hid (by rw [List.length_drop, HXL.out]; omega)
  have HFIT2 : RowKit.Hid ((i + 1) * 2 + (n - i) * 2 ≤ (xs.take (i * 2) ++ (news ++ zs.drop 2)).length) := Lib.hid (by rw [List.length_append, List.length_append, List.length_drop, HTL.out, HNL.out, HZL.out]; omega)
  have HD1 : RowKit.Hid ((xs.drop (i * 2)).all (·.oneCell') = true) := Lib.hid (by rw [List.all_eq_true]; intro u hu; exact List.all_eq_true.1 HX1.out u (List.mem_of_mem_drop hu))
  have HDK : RowKit.Hid (∀ (j : Nat) u, (xs.drop (i * 2))[j]? = some u → xs[i * 2 + j]? = some u) := Lib.hid (fun j u hj => by rw [List.getElem?_drop] at hj; exact hj)
  have HW1 : RowKit.Hid (wrap64 ((i : Int) + 1) = (i : Int) + 1) := Lib.hid (by unfold wrap64; omega)
  have f10 : ((i : Int) + 1).toNat = i + 1 := by omega
  have f11 : (0 : Int) ≤ (i : Int) + 1 := by omega
  have f12 : (i : Int) + 1 ≤ (n : Int) + 1 := by omega
  refine wp_region_keeps _ (Keeps.all hp.drew) [8] [(0, true), (1, true), (2, true), (3, true), (4, true), (5, true), (6, true), (7, true), (8, false)] (by kernel_rfl) (by kernel_rfl) rfl (by kernel_rfl) (fun _ _ d _ _ h => by cases d <;> exact h) ?_
  replace hp := hp.drew
  repeat' (with_reducible refine plan_is ?_); first | (with_reducible refine plan_nil ?_) | ((with_reducible refine plan_t ?_); refine plan_tk rfl ?_; (first | ((with_reducible refine tk_mv _ rfl ?_); refine tM rfl ?_) | refine tG (fun w _ => (by go_simp; try rfl)) ?_); try simp only [put_some, put_none, eval_tmp, eval_const, List.set_cons_succ, List.set_cons_zero, List.getD_cons_succ, List.getD_cons_zero, wrap_eq, HW1.out]) | (refine plan_do rfl (fun K hK => ?_); go_wp2_with (((with_reducible refine pre_copy _ _ _ _ rfl ?_); refine wpList_copyAt hp _ _ 45 _ _ rfl wy Try.underlying25 2 size45 g2 ((i + 1) * 2) (n - i) (cap2 - (i + 1)) (slot_tmp rfl) g (i * 2) (n - i) (cap - i) (slot_tmp rfl) 0 _ _ at0 (n - i) HMIN2.out (xs.drop (i * 2)) HDL.out HFIT2.out (fun j u hj => hp.cell at2 (HDK.out j u hj)) HD1.out ?_; clear hp; intro v2 w1 hp; simp only [List.set_cons_zero] at hp; simp only [put_some, put_none, List.set_cons_succ, List.set_cons_zero])); (first | refine hK.out _ _ (.inl rfl) ?_ | refine hK.out _ _ (.inr (kall hp)) ?_); clear hK K; try simp only [put_some, put_none, eval_tmp, eval_const, List.set_cons_succ, List.set_cons_zero, List.getD_cons_succ, List.getD_cons_zero, wrap_eq, HW1.out])
  go_wp2_with fail
  go_ret
  refine ⟨_, [⟨g2, insL 2 xs news i, 45, cap2 * 2⟩], rfl, ⟨HIL.out, .inr ⟨g2, cap2, rfl, hc2, hcm2, rfl⟩⟩, ?_⟩
  rw [ins_b n i hi xs zs news HXL.out HZL.out HNL.out] at hp
  exact hp.sub2
theorem over87 {B : Nat} {w0 w : World} {L : List Blk} {bv g ev mv nv cap od : Nat} {news l : List Value} {eg : TypeId} (hp : Hp B w0 w (⟨bv, news, ev, mv⟩ :: ⟨g, l, eg, nv⟩ :: L)) (hnv : nv ≠ 0) (lb cb : Nat) :
    (callFunc 87 #[.slice (some ⟨bv, 0, none⟩) 1 1, .slice (some ⟨g, od, none⟩) lb cb]).run Try.prog w = .ok (.value (.bool false)) w := by
  have hne : bv ≠ g := by
    have := hp.nodup
    simp only [List.map_cons, List.nodup_cons, List.mem_cons] at this
    exact fun h => this.1 (.inl h)
  rw [run_callFunc_extern Try.func87 (by kernel_rfl) (by kernel_rfl) (by kernel_rfl) (e := Extern.SlicesOverlaps.overlaps #[25, 25] #[4]) (by kernel_rfl),
    Lib.run_overlaps_apart w 25 4 45 Try.underlying25 2 (fun w => (run_isAgg_agg agg45 w).2) ⟨bv, 0, none⟩ ⟨g, od, none⟩ 1 1 lb cb hne ev eg mv nv (hp.shape at0) (hp.shape at1) hnv (hp.free at0 0) (hp.free at0 mv)]
  rfl
theorem ins_c (n i : Nat) (hi : i < n) (xs l2 : List Value) (hx : xs.length = n * 2) (h2 : l2.length = 2) :
    (xs ++ l2).take ((i + 1) * 2) ++ (xs.drop (i * 2) ++ (xs ++ l2).drop ((i + 1) * 2 + (n - i) * 2)) = xs.take ((i + 1) * 2) ++ xs.drop (i * 2) := by
  generalize xs.drop (i * 2) = ds
  rw [List.take_append_of_le_length (by omega), List.drop_eq_nil_of_le (by rw [List.length_append]; omega), List.append_nil]
theorem ins_d (n i : Nat) (hi : i < n) (xs news : List Value) (hx : xs.length = n * 2) :
    (xs.take ((i + 1) * 2) ++ xs.drop (i * 2)).take (i * 2) ++ (news ++ (xs.take ((i + 1) * 2) ++ xs.drop (i * 2)).drop (i * 2 + 1 * 2)) = insL 2 xs news i := by
  unfold insL
  rw [List.take_append_of_le_length (by rw [List.length_take]; omega), List.take_take, Nat.min_eq_left (by omega), List.drop_append, List.drop_eq_nil_of_le (by rw [List.length_take]; omega), List.nil_append, List.length_take, Nat.min_eq_left (by omega), show i * 2 + 1 * 2 - (i + 1) * 2 = 0 by omega, List.drop_zero]
set_option maxRecDepth 100000 in
set_option maxHeartbeats 4000000 in
theorem ins84_room (n i : Nat) (hn : n ≤ 1000) (hi : i < n) (xs : List Value) (hxl : xs.length = n * 2) (g cap : Nat) (hcm : cap ≤ maxLen) (hcap : n + 1 ≤ cap) {B : Nat} {w0 w : World} {M : List Blk} (news : List Value) (hnl : news.length = 2) (hn1 : news.all (·.oneCell') = true) (hx1 : xs.all (·.oneCell') = true) (bv : Nat) (ev : TypeId) (mv : Nat) (hp : Hp B w0 w (⟨bv, news, ev, mv⟩ :: ⟨g, xs, 45, cap * 2⟩ :: M)) :
    Calls Try.prog 84 #[.slice (some ⟨g, 0, none⟩) n cap, .int .i64 i, .slice (some ⟨bv, 0, none⟩) 1 1] w (InsPost B w0 (n + 1) (insL 2 xs news i) M) := by
  obtain ⟨l2, hl2, hp2⟩ := (hp.reorder (List.Perm.swap _ _ _)).more 2 (by omega)
  replace hp := hp2.reorder (List.Perm.swap _ _ _)
  clear hp2
  have HNL : RowKit.Hid (news.length = 1 * 2) := Lib.hid (by rw [hnl])
  have HN1 := Lib.hid hn1
  have HMIN : RowKit.Hid (Nat.min 1 (n + 1 - i) = 1) := Lib.hid (Nat.min_eq_left (by omega))
  have HMIN3 : RowKit.Hid (Nat.min (n + 1 - i) (n - i) = n - i) := Lib.hid (Nat.min_eq_right (by omega))
  have HDL : RowKit.Hid ((xs.drop (i * 2)).length = (n - i) * 2) := Lib.hid (by rw [List.length_drop, hxl]; omega)
  have HD1 : RowKit.Hid ((xs.drop (i * 2)).all (·.oneCell') = true) := Lib.hid (by rw [List.all_eq_true]; intro u hu; exact List.all_eq_true.1 hx1 u (List.mem_of_mem_drop hu))
  have HDK : RowKit.Hid (∀ (j : Nat) u, (xs.drop (i * 2))[j]? = some u → (xs ++ l2)[i * 2 + j]? = some u) := Lib.hid (fun j u hj => by
    rw [List.getElem?_drop] at hj
    rw [List.getElem?_append_left (List.getElem?_eq_some_iff.1 hj).1]; exact hj)
  have HFIT3 : RowKit.Hid ((i + 1) * 2 + (n - i) * 2 ≤ (xs ++ l2).length) := Lib.hid (by rw [List.length_append, hxl, hl2]; omega)
  have HFIT4 : RowKit.Hid (i * 2 + 1 * 2 ≤ (xs.take ((i + 1) * 2) ++ xs.drop (i * 2)).length) := Lib.hid (by rw [List.length_append, List.length_take, List.length_drop, hxl]; omega)
  have HC := Lib.hid (ins_c n i hi xs l2 hxl hl2)
  have HDD := Lib.hid (ins_d n i hi xs news hxl)
  have HIL := Lib.hid (ins_len n i (by omega) xs news hxl (by rw [hnl]))
  have hov : ∀ od lb cb, (callFunc 87 #[.slice (some ⟨bv, 0, none⟩) 1 1, .slice (some ⟨g, od, none⟩) lb cb]).run Try.prog w = .ok (.value (.bool false)) w := fun od lb cb => over87 (od := od) (cap := 0) hp (by omega) lb cb
  have f1 : (0 : Int) ≤ (i : Int) := by omega
  have f2 : (i : Int) ≤ (n : Int) := by omega
  have f3 : (i : Int) ≤ (cap : Int) := by omega
  have f4 : ((i : Int) == (n : Int)) = false := by simp; omega
  have f5 : decide ((cap : Int) < (n : Int) + 1) = false := by simp; omega
  have f6 : ¬ (cap = i) := by omega
  have f7 : ¬ (cap = i + 1) := by omega
  have HW1 : RowKit.Hid (wrap64 ((i : Int) + 1) = (i : Int) + 1) := Lib.hid (by unfold wrap64; omega)
  have f10 : ((i : Int) + 1).toNat = i + 1 := by omega
  have f11 : (0 : Int) ≤ (i : Int) + 1 := by omega
  have f12 : (i : Int) + 1 ≤ (n : Int) + 1 := by omega
  have f13 : (n : Int) + 1 ≤ (cap : Int) := by omega
  have f14 : (0 : Int) ≤ (n : Int) + 1 := by omega
  have f15 : ((n : Int) + 1).toNat = n + 1 := by omega
  have f16 : (i : Int) ≤ (n : Int) + 1 := by omega
  clear hnl hn1 hx1 hxl hl2
  go_enter Try.func84, Try.ntmps84
  go_wp2_with (first | (simp only [hov]; done) | go_skip)
  refine wp_region_keeps _ (Keeps.all hp.drew) [8] [(0, true), (1, true), (2, true), (3, true), (4, true), (5, true), (6, true), (7, true), (8, false)] (by kernel_rfl) (by kernel_rfl) rfl (by kernel_rfl) (fun _ _ d _ _ h => by cases d <;> exact h) ?_
  replace hp := hp.drew
  repeat' (with_reducible refine plan_is ?_); first | (with_reducible refine plan_nil ?_) | ((with_reducible refine plan_t ?_); refine plan_tk rfl ?_; (first | ((with_reducible refine tk_mv _ rfl ?_); refine tM rfl ?_) | refine tG (fun w _ => (by go_simp; try rfl)) ?_); try simp only [put_some, put_none, eval_tmp, eval_const, List.set_cons_succ, List.set_cons_zero, List.getD_cons_succ, List.getD_cons_zero, wrap_eq, HW1.out]) | (refine plan_do rfl (fun K hK => ?_); go_wp2_with (((with_reducible refine pre_copy _ _ _ _ rfl ?_); refine wpList_copyAt hp _ _ 45 _ _ rfl wy Try.underlying25 2 size45 g ((i + 1) * 2) (n - i) (cap - (i + 1)) (slot_tmp rfl) g (i * 2) (n + 1 - i) (cap - i) (slot_tmp rfl) 1 _ _ at1 (n - i) HMIN3.out (xs.drop (i * 2)) HDL.out HFIT3.out (fun j u hj => hp.cell at1 (HDK.out j u hj)) HD1.out ?_; clear hp; intro v2 w1 hp; simp only [List.set_cons_succ, List.set_cons_zero] at hp; simp only [put_some, put_none, List.set_cons_succ, List.set_cons_zero])); (first | refine hK.out _ _ (.inl rfl) ?_ | refine hK.out _ _ (.inr (kall hp)) ?_); clear hK K; try simp only [put_some, put_none, eval_tmp, eval_const, List.set_cons_succ, List.set_cons_zero, List.getD_cons_succ, List.getD_cons_zero, wrap_eq, HW1.out])
  rw [HC.out] at hp
  go_wp2_with (first | ((with_reducible refine pre_copy _ _ _ _ rfl ?_); refine wpList_copyAt hp _ _ 45 _ _ rfl wy Try.underlying25 2 size45 g (i * 2) (n + 1 - i) (cap - i) (slot_tmp rfl) bv 0 1 1 (slot_tmp rfl) 1 _ _ at1 1 HMIN.out news HNL.out HFIT4.out (fun j u hj => hp.cell at0 (by rw [Nat.zero_add]; exact hj)) HN1.out ?_; clear hp; intro v3 w1 hp; simp only [List.set_cons_succ, List.set_cons_zero] at hp; simp only [put_some, put_none, List.set_cons_succ, List.set_cons_zero]) | go_skip)
  rw [HDD.out] at hp
  go_ret
  refine ⟨_, [⟨g, insL 2 xs news i, 45, cap * 2⟩], rfl, ⟨HIL.out, .inr ⟨g, cap, rfl, by omega, hcm, rfl⟩⟩, hp.tail⟩
theorem ins84 (n i : Nat) (hn : n ≤ 1000) (hi : i ≤ n) (xs : List Value) (v : Value) {B : Nat} {w0 w : World} {R M : List Blk} (news : List Value) (hnl : news.length = 2) (hn1 : news.all (·.oneCell') = true) (hx1 : xs.all (·.oneCell') = true) (bv : Nat) (ev : TypeId) (mv : Nat) (hR : OwnRow 45 2 v n xs R) (hp : Hp B w0 w (⟨bv, news, ev, mv⟩ :: (R ++ M))) :
    Calls Try.prog 84 #[v, .int .i64 i, .slice (some ⟨bv, 0, none⟩) 1 1] w (InsPost B w0 (n + 1) (insL 2 xs news i) M) := by
  rcases Nat.eq_or_lt_of_le hi with h | h
  · subst h
    exact ins84_end i hn xs v news hnl hn1 bv ev mv hR hp
  · obtain ⟨hxl, ⟨h0, _⟩ | ⟨g, cap, hv, hnc, hcm, hr⟩⟩ := hR
    · omega
    · subst hv hr
      rcases Nat.lt_or_ge cap (n + 1) with h2 | h2
      · exact ins84_grow n i hn h xs hxl g cap hnc h2 news hnl hn1 hx1 bv ev mv hp
      · exact ins84_room n i hn h xs hxl g cap hcm h2 news hnl hn1 hx1 bv ev mv hp
end Go.Proofs.Ytcjbepaclbhjaaa
namespace Go.Proofs.Ytcjbepaclbhjaaa
open Go.RowKit Go.Lib
theorem zv45 (w : World) : (zeroValue 45).run Try.prog w = .ok (.agg #[.int .i64 0, .int .i64 0]) w := by kernel_rfl
theorem zc45 : (Builtin.zeroCells (Value.agg #[.int .i64 0, .int .i64 0]).cells 1).toList = [.int .i64 0, .int .i64 0] := by kernel_rfl
theorem RowIs.part {B : Nat} {w0 w : World} {g t n j : Nat} {xs : List Value} {M : List Blk} (hp : Hp B w0 w (⟨g, xs, t, n⟩ :: M)) : RowIs w (some ⟨g, j, none⟩) (xs.drop j) := fun q v hq => ⟨g, j, rfl, hp.cell at0 (by rw [List.getElem?_drop] at hq; exact hq)⟩
def Deld (B : Nat) (w0 : World) (g m cap : Nat) (xs : List Value) (M : List Blk) (e : Ending) (w' : World) : Prop := e = .returned (.slice (some ⟨g, 0, none⟩) m cap) ∧ Hp B w0 w' (⟨g, xs, 45, cap * 2⟩ :: M)
set_option maxRecDepth 100000 in
set_option maxHeartbeats 4000000 in
theorem del81 {B : Nat} {w0 w : World} {g cap : Nat} {l : List Bl} {M : List Blk} (hp : Hp B w0 w (⟨g, l.flatMap blV, 45, cap * 2⟩ :: M)) (hl : l.length ≤ 1000) (hcap : l.length ≤ cap) {i j m n : Nat} (hj : j = i + 1) (hn : n = l.length) (hm : n = m + 1) (hi : i < n) :
    Calls Try.prog 81 #[.slice (some ⟨g, 0, none⟩) n cap, .int .i64 i, .int .i64 j] w (Deld B w0 g m cap ((l.eraseIdx i).flatMap blV) M) := by
  obtain ⟨i0, hi0, hz0, hz1, hz2⟩ := info_parts info45
  have hxl := lit_len l
  have hx1 := blsOne l
  have HER : RowKit.Hid ((l.flatMap blV).take (i * 2) ++ (l.flatMap blV).drop (j * 2) = (l.eraseIdx i).flatMap blV) := Lib.hid (by
    rw [flat_drop 2 blV_len, hj, List.eraseIdx_eq_take_drop_succ, List.flatMap_append]
    congr 1
    have h := flat_drop 2 blV_len l i
    have h2 : l.flatMap blV = (l.take i).flatMap blV ++ (l.drop i).flatMap blV := by rw [← List.flatMap_append, List.take_append_drop]
    have h3 : ((l.take i).flatMap blV).length = i * 2 := by rw [lit_len, List.length_take, Nat.min_eq_left (by omega)]
    rw [h2, ← h3, List.take_left])
  generalize l.flatMap blV = xs at hp hxl hx1 HER
  rw [← hn] at hxl hcap hl
  clear hn
  have HYL : RowKit.Hid ((xs.drop (j * 2)).length = (n - j) * 2) := Lib.hid (by rw [List.length_drop, hxl]; omega)
  have HY1 : RowKit.Hid ((xs.drop (j * 2)).all (·.oneCell') = true) := Lib.hid (by rw [List.all_eq_true]; intro u hu; exact List.all_eq_true.1 hx1 u (List.mem_of_mem_drop hu))
  have HFI : RowKit.Hid (i + (n - j) ≤ cap) := Lib.hid (by omega)
  have HLE : RowKit.Hid ((i + (n - j)) * 2 ≤ xs.length) := Lib.hid (by rw [hxl]; omega)
  have HSUM : RowKit.Hid (i + (n - j) = m) := Lib.hid (by omega)
  have HSPL : RowKit.Hid (spl xs (i * 2) (xs.drop (j * 2)) = (xs.take (i * 2) ++ xs.drop (j * 2)) ++ xs.drop (i * 2 + (xs.drop (j * 2)).length)) := Lib.hid (by
    rw [spl_mid _ _ _ (by rw [List.length_drop, hxl]; omega), List.append_assoc])
  have HOFF : RowKit.Hid (m * 2 = (xs.take (i * 2) ++ xs.drop (j * 2)).length) := Lib.hid (by rw [List.length_append, List.length_take, List.length_drop, hxl]; omega)
  have HFC : RowKit.Hid ((xs.take (i * 2) ++ xs.drop (j * 2)).length + 2 ≤ cap * 2) := Lib.hid (by rw [← HOFF.out]; omega)
  have HNM : RowKit.Hid (n - m = 1) := Lib.hid (by omega)
  have f1 : (0 : Int) ≤ (i : Int) := by omega
  have f2 : (i : Int) ≤ (j : Int) := by omega
  have f3 : (j : Int) ≤ (n : Int) := by omega
  have f4 : (n : Int) ≤ (cap : Int) := by omega
  have f5 : ((i : Int) == (j : Int)) = false := by simp; omega
  have f5' : (i == j) = false := by simp; omega
  have f6 : (i : Int) ≤ (cap : Int) := by omega
  have f7 : (0 : Int) ≤ (j : Int) := by omega
  have f8 : (m : Int) ≤ (n : Int) := by omega
  have f9 : ¬ (cap = m) := by omega
  have f10 : (0 : Int) ≤ (m : Int) := by omega
  have f11 : ¬ (cap = i) := by omega
  have f12 : ¬ (n = i) := by omega
  by_cases hcj : j = cap
  · subst hcj
    have HNL : RowKit.Hid (∀ w a, RowIs w a (xs.drop (j * 2))) := Lib.hid (fun w a => by rw [List.drop_eq_nil_of_le (by omega)]; exact RowIs.nil _ _)
    clear hxl hx1 hm hj hi hl hcap
    go_enter Try.func81, Try.ntmps81
    go_wp2_with fail
    refine wp_region_keeps [] (Keeps.zero hp.drew) [] [(0, true), (1, true), (2, true), (3, true), (4, true), (5, true), (6, false), (7, false)] (by kernel_rfl) (by kernel_rfl) rfl (by kernel_rfl) (fun _ _ d _ _ h => by cases d <;> exact h) ?_
    replace hp := hp.drew
    repeat' (with_reducible refine plan_is ?_); first | (with_reducible refine plan_nil ?_) | ((with_reducible refine plan_t ?_); refine plan_tk rfl ?_; (first | ((with_reducible refine tk_mv _ rfl ?_); refine tM rfl ?_) | refine tG (fun w _ => (by go_simp; try rfl)) ?_); try simp only [put_some, put_none, eval_tmp, eval_const, List.set_cons_succ, List.set_cons_zero, List.getD_cons_succ, List.getD_cons_zero, wrap_eq]) | (refine plan_do rfl (fun K hK => ?_); go_wp2_with (first | ((with_reducible refine pre_append _ _ 25 rfl ?_); first | (refine wpList_appendFit hp _ _ _ rfl wy Try.underlying25 i0 hi0 hz1 (by decide) (slot_tmp rfl) _ (n - j) _ (slot_tmp rfl) (xs.drop (j * 2)) HYL.out (by first | exact RowIs.part hp | exact HNL.out _ _) HY1.out HFI.out HLE.out ?_); clear hp; intro w1 hp; rw [HSPL.out] at hp; replace hp := hp.less; rw [HSUM.out]; simp only [put_some, put_none, List.set_cons_succ, List.set_cons_zero])); (refine hK.out _ _ (.inr (Keeps.zero hp)) ?_); clear hK K; try simp only [put_some, put_none, eval_tmp, eval_const, List.set_cons_succ, List.set_cons_zero, List.getD_cons_succ, List.getD_cons_zero, wrap_eq])
    go_wp2_with (first | ((with_reducible refine pre_clear _ _ rfl ?_); refine wpList_clearOne hp _ _ rfl wy Try.underlying25 _ zv45 _ _ (slot_tmp rfl) HNM.out _ zc45 rfl rfl HOFF.out HFC.out ?_; clear hp; intro v1 w1 hp; simp only [put_some, put_none, List.set_cons_succ, List.set_cons_zero]))
    go_ret
    exact ⟨rfl, by rw [← HER.out]; exact hp⟩
  · have f13 : ¬ (cap = j) := fun h => hcj h.symm
    have HNL : RowKit.Hid True := Lib.hid trivial
    clear hxl hx1 hm hj hi hl hcap
    go_enter Try.func81, Try.ntmps81
    go_wp2_with fail
    refine wp_region_keeps [] (Keeps.zero hp.drew) [] [(0, true), (1, true), (2, true), (3, true), (4, true), (5, true), (6, false), (7, false)] (by kernel_rfl) (by kernel_rfl) rfl (by kernel_rfl) (fun _ _ d _ _ h => by cases d <;> exact h) ?_
    replace hp := hp.drew
    repeat' (with_reducible refine plan_is ?_); first | (with_reducible refine plan_nil ?_) | ((with_reducible refine plan_t ?_); refine plan_tk rfl ?_; (first | ((with_reducible refine tk_mv _ rfl ?_); refine tM rfl ?_) | refine tG (fun w _ => (by go_simp; try rfl)) ?_); try simp only [put_some, put_none, eval_tmp, eval_const, List.set_cons_succ, List.set_cons_zero, List.getD_cons_succ, List.getD_cons_zero, wrap_eq]) | (refine plan_do rfl (fun K hK => ?_); go_wp2_with (first | ((with_reducible refine pre_append _ _ 25 rfl ?_); first | (refine wpList_appendFit hp _ _ _ rfl wy Try.underlying25 i0 hi0 hz1 (by decide) (slot_tmp rfl) _ (n - j) _ (slot_tmp rfl) (xs.drop (j * 2)) HYL.out (by first | exact RowIs.part hp | exact HNL.out _ _) HY1.out HFI.out HLE.out ?_); clear hp; intro w1 hp; rw [HSPL.out] at hp; replace hp := hp.less; rw [HSUM.out]; simp only [put_some, put_none, List.set_cons_succ, List.set_cons_zero])); (refine hK.out _ _ (.inr (Keeps.zero hp)) ?_); clear hK K; try simp only [put_some, put_none, eval_tmp, eval_const, List.set_cons_succ, List.set_cons_zero, List.getD_cons_succ, List.getD_cons_zero, wrap_eq])
    go_wp2_with (first | ((with_reducible refine pre_clear _ _ rfl ?_); refine wpList_clearOne hp _ _ rfl wy Try.underlying25 _ zv45 _ _ (slot_tmp rfl) HNM.out _ zc45 rfl rfl HOFF.out HFC.out ?_; clear hp; intro v1 w1 hp; simp only [put_some, put_none, List.set_cons_succ, List.set_cons_zero]))
    go_ret
    exact ⟨rfl, by rw [← HER.out]; exact hp⟩
end Go.Proofs.Ytcjbepaclbhjaaa
