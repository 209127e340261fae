/- The walk of the law BuddyMaps. -/
import Derived.Test.YtbflmnoaiklnbaaLW
import Derived.Test.YtbflmnoaiklnbaaMS
set_option linter.unusedSimpArgs false
set_option linter.unusedVariables false
namespace Go.Proofs.Ytbflmnoaiklnbaa
open Go.RowKit
theorem putOn {L : List Blk} {bm bw n : Nat} {f : Nat → Bool} {B : Nat} {w0 w : World} (a m : Nat) (hn : n ≤ 4096) (ha : a + m ≤ n) (hp : Hp B w0 w (mBlk bm bw n :: wBlk bw n f :: L)) :
    Calls Try.prog 23 #[.pointer (some ⟨bm, 0, none⟩), .int .i64 a, .int .i64 m, .bool true] w fun e w' => e = .returned (.int .i64 0) ∧ Hp B w0 w' (mBlk bm bw n :: wBlk bw n (upd f a (a + m) true) :: L) :=
  put12_on _ 0 1 bm bw n f a m hn ha B w0 w hp (isMap0 _ _ _ _ _)
theorem putOff {L : List Blk} {bm bw n : Nat} {f : Nat → Bool} {B : Nat} {w0 w : World} (a m : Nat) (hn : n ≤ 4096) (ha : a + m ≤ n) (hz : ∀ i, n ≤ i → f i = false) (hp : Hp B w0 w (mBlk bm bw n :: wBlk bw n f :: L)) :
    Calls Try.prog 23 #[.pointer (some ⟨bm, 0, none⟩), .int .i64 a, .int .i64 m, .bool false] w fun e w' => e = .returned (.int .i64 0) ∧ Hp B w0 w' (mBlk bm bw n :: wBlk bw n (upd f a (a + m) false) :: L) := by
  have h := put_w hn hz (a : Int) (m : Int) false hp
  have ho : putOk n a m = true := by simp only [putOk, decide_eq_true_eq]; omega
  rw [show putE n a m = 0 by simp [putE, ho], show putF f n a m false = upd f a (a + m) false by simp [putF, ho]] at h
  exact h
theorem runHere {L : List Blk} {bm bw n : Nat} {f : Nat → Bool} {B : Nat} {w0 w : World} (a m : Nat) (hn : n ≤ 4096) (ha : a + m ≤ n) (hm : 0 < m) (hf : ∀ i, a ≤ i → i < a + m → f i = true) {i j : Nat} (hp : Hp B w0 w L) (hM : IsMap L i j bm bw n f) :
    Calls Try.prog 28 #[.pointer (some ⟨bm, 0, none⟩), .int .i64 a, .int .i64 m, .bool true] w fun e w' => e = .returned (.int .i64 a) ∧ w = w' :=
  (run16 bm bw n f hn a m true (by omega) w (hM.at_ hp)).mono fun _ _ ⟨_, he, hr, hw⟩ => ⟨by rw [he, run_here hr hm ha hf], hw⟩
theorem countIs {L : List Blk} {bm bw n : Nat} {f : Nat → Bool} {B : Nat} {w0 w : World} {c : Int} (hn : n ≤ 4096) (hz : ∀ i, n ≤ i → f i = false) (hc : (cb f n : Int) = c) {i j : Nat} (hp : Hp B w0 w L) (hM : IsMap L i j bm bw n f) :
    Calls Try.prog 26 #[.pointer (some ⟨bm, 0, none⟩)] w fun e w' => e = .returned (.int .i64 c) ∧ w = w' := by
  subst hc
  exact count20 bm bw n f hn hz w (hM.at_ hp)
set_option maxRecDepth 100000 in
set_option maxHeartbeats 8000000 in
theorem law4_no (order want : Int) (fs : List Bl) (a : Option Addr) (c : Nat) (h : ¬ fs.length ≤ 600 ∨ (fs.length ≤ 600 ∧ rightB order fs = false)) (w : World) (ha : RowIs w a (fs.flatMap blV)) : Calls Try.prog 4 #[.int .i64 order, .int .i64 want, .slice a fs.length c] w fun e w' => e = .returned (.bool true) ∧ Below w.heap.size w w' := by
  have hp := Hp.start w
  have HA := Lib.hid ha
  clear ha
  rcases h with hl | ⟨hl, hr⟩
  · have e0 : decide ((600 : Int) < (fs.length : Int)) = true := by simp; omega
    go_enter Try.func4, Try.ntmps4
    go_wp2_with (first | (go_at_call 20; (with_reducible refine (all20 _).mono ?_); rintro e w1 ⟨rfl, hb⟩; replace hp := hp.call hb; clear hb) | (go_at_call 25; (with_reducible refine (takes25 _).mono ?_); rintro e w1 ⟨rfl, hb⟩; replace hp := hp.call hb; clear hb) | go_skip | ((first | ((with_reducible refine pre_alloc _ rfl ?_); refine lZ hp rfl zero44 ?_; clear hp; intro b w1 hp) | ((with_reducible refine pre_box _ _ rfl ?_); refine lB hp rfl (slot_tmp rfl) rfl ?_; clear hp; intro b w1 hp) | ((with_reducible refine pre_load _ _ rfl ?_); first | refine lO hp rfl (slot_tmp rfl) (by with_reducible first | exact cell3 | exact cell4 | exact cell24 | exact cell30) aa14 ?_ | refine lRO hp rfl (slot_tmp rfl) (by with_reducible first | exact cell3 | exact cell4 | exact cell24 | exact cell30) (by first | exact HX.out 0 _ rfl | exact HX.out 1 _ rfl) ?_ | refine lA hp rfl (slot_tmp rfl) agg44 aa14 ?_ | refine lR hp rfl (slot_tmp rfl) agg44 HX.out ?_) | ((with_reducible refine pre_store _ _ _ rfl ?_); (first | refine sO hp rfl (slot_tmp rfl) (by with_reducible first | exact cell3 | exact cell4 | exact cell24 | exact cell30) aa14 ?_ | refine sA hp rfl (slot_tmp rfl) (slot_tmp rfl) agg44 aa14 ?_ | refine sG hp rfl (slot_tmp rfl) (slot_tmp rfl) agg44 aa14 ?_); clear hp; intro w1 hp; simp only [spl, List.set_cons_zero, List.set_cons_succ] at hp) | ((with_reducible refine pre_build _ _ _ rfl ?_); refine lS hp rfl (by intro w; go_simp; rfl) ?_; clear hp; intro b w1 hp; simp only [List.length_cons, List.length_nil, Nat.reduceAdd] at hp)); simp only [put_some, put_none, List.set_cons_succ, List.set_cons_zero]))
    go_ret
    exact ⟨rfl, hp.below⟩
  · have e0 : decide ((600 : Int) < (fs.length : Int)) = false := by simp; omega
    have HE : RowKit.Hid (errI (rightB order fs) = 1) := Lib.hid (by rw [hr]; rfl)
    clear hr
    go_enter Try.func4, Try.ntmps4
    go_wp2_with (first | (go_at_call 19; (with_reducible refine (check19 order fs a c hl _ (HA.out.below hp.below)).mono ?_); rintro e w1 ⟨rfl, hb⟩; rw [HE.out]; replace hp := hp.call hb; clear hb) | (go_at_call 20; (with_reducible refine (all20 _).mono ?_); rintro e w1 ⟨rfl, hb⟩; replace hp := hp.call hb; clear hb) | (go_at_call 25; (with_reducible refine (takes25 _).mono ?_); rintro e w1 ⟨rfl, hb⟩; replace hp := hp.call hb; clear hb) | go_skip | ((first | ((with_reducible refine pre_alloc _ rfl ?_); refine lZ hp rfl zero44 ?_; clear hp; intro b w1 hp) | ((with_reducible refine pre_box _ _ rfl ?_); refine lB hp rfl (slot_tmp rfl) rfl ?_; clear hp; intro b w1 hp) | ((with_reducible refine pre_load _ _ rfl ?_); first | refine lO hp rfl (slot_tmp rfl) (by with_reducible first | exact cell3 | exact cell4 | exact cell24 | exact cell30) aa14 ?_ | refine lRO hp rfl (slot_tmp rfl) (by with_reducible first | exact cell3 | exact cell4 | exact cell24 | exact cell30) (by first | exact HX.out 0 _ rfl | exact HX.out 1 _ rfl) ?_ | refine lA hp rfl (slot_tmp rfl) agg44 aa14 ?_ | refine lR hp rfl (slot_tmp rfl) agg44 HX.out ?_) | ((with_reducible refine pre_store _ _ _ rfl ?_); (first | refine sO hp rfl (slot_tmp rfl) (by with_reducible first | exact cell3 | exact cell4 | exact cell24 | exact cell30) aa14 ?_ | refine sA hp rfl (slot_tmp rfl) (slot_tmp rfl) agg44 aa14 ?_ | refine sG hp rfl (slot_tmp rfl) (slot_tmp rfl) agg44 aa14 ?_); clear hp; intro w1 hp; simp only [spl, List.set_cons_zero, List.set_cons_succ] at hp) | ((with_reducible refine pre_build _ _ _ rfl ?_); refine lS hp rfl (by intro w; go_simp; rfl) ?_; clear hp; intro b w1 hp; simp only [List.length_cons, List.length_nil, Nat.reduceAdd] at hp)); simp only [put_some, put_none, List.set_cons_succ, List.set_cons_zero]))
    go_ret
    exact ⟨rfl, hp.below⟩
theorem MapAt.below {w w' : World} {bm bw n : Nat} {f : Nat → Bool} (h : MapAt w bm bw n f) (hb : Below w.heap.size w w') : MapAt w' bm bw n f :=
  ⟨(hb.cell (World.block_lt_of_cell? w _ h.len)).trans h.len, (hb.cell (World.block_lt_of_cell? w _ h.row)).trans h.row, fun k hk => (hb.cell (World.block_lt_of_cell? w _ (h.word k hk))).trans (h.word k hk)⟩
theorem runAt {bm bw n : Nat} {f : Nat → Bool} {w : World} (a m : Nat) (hn : n ≤ 4096) (ha : a + m ≤ n) (hm : 0 < m) (hf : ∀ i, a ≤ i → i < a + m → f i = true) (hM : MapAt w bm bw n f) :
    Calls Try.prog 28 #[.pointer (some ⟨bm, 0, none⟩), .int .i64 a, .int .i64 m, .bool true] w fun e w' => e = .returned (.int .i64 a) ∧ w = w' :=
  (run16 bm bw n f hn a m true (by omega) w hM).mono fun _ _ ⟨_, he, hr, hw⟩ => ⟨by rw [he, run_here hr hm ha hf], hw⟩
theorem countAt {bm bw n : Nat} {f : Nat → Bool} {w : World} {c : Int} (hn : n ≤ 4096) (hz : ∀ i, n ≤ i → f i = false) (hc : (cb f n : Int) = c) (hM : MapAt w bm bw n f) :
    Calls Try.prog 26 #[.pointer (some ⟨bm, 0, none⟩)] w fun e w' => e = .returned (.int .i64 c) ∧ w = w' := by
  subst hc
  exact count20 bm bw n f hn hz w hM
theorem putOffX {x : Blk} {L : List Blk} {bm bw n : Nat} {f : Nat → Bool} {B : Nat} {w0 w : World} (a m : Nat) (hn : n ≤ 4096) (ha : a + m ≤ n) (hz : ∀ i, n ≤ i → f i = false) (hp : Hp B w0 w (x :: mBlk bm bw n :: wBlk bw n f :: L)) :
    Calls Try.prog 23 #[.pointer (some ⟨bm, 0, none⟩), .int .i64 a, .int .i64 m, .bool false] w fun e w' => e = .returned (.int .i64 0) ∧ Hp B w0 w' (x :: mBlk bm bw n :: wBlk bw n (upd f a (a + m) false) :: L) :=
  (putOff (L := x :: L) a m hn ha hz (hp.reorder (List.perm_middle (a := x) (l₁ := [mBlk bm bw n, wBlk bw n f]) (l₂ := L)).symm)).mono fun _ _ ⟨he, hq⟩ => ⟨he, hq.reorder (List.perm_middle (a := x) (l₁ := [mBlk bm bw n, wBlk bw n (upd f a (a + m) false)]) (l₂ := L))⟩
theorem isMap1 (x : Blk) (bm bw n : Nat) (f : Nat → Bool) (L : List Blk) : IsMap (x :: mBlk bm bw n :: wBlk bw n f :: L) 1 2 bm bw n f := ⟨rfl, rfl⟩
set_option maxRecDepth 100000 in
set_option maxHeartbeats 16000000 in
theorem law4_ok (order want : Int) (fs : List Bl) (a : Option Addr) (c : Nat) (hl : fs.length ≤ 600) (hr : rightB order fs = true)
    (HT : RowKit.Hid ((∃ c, (c = 1 ∨ c = 40) ∧ ∀ a k (w : World), RowIs w a (fs.flatMap blV) → Calls Try.prog 24 #[.int .i64 order, .slice a fs.length k, .int .i64 want] w (TakeNo w c)) ∨
      (0 ≤ want ∧ want ≤ 8 ∧ ∀ a k (w : World), RowIs w a (fs.flatMap blV) → Calls Try.prog 24 #[.int .i64 order, .slice a fs.length k, .int .i64 want] w (TakeOk w want fs)))) (w : World) (ha : RowIs w a (fs.flatMap blV)) : Calls Try.prog 4 #[.int .i64 order, .int .i64 want, .slice a fs.length c] w fun e w' => e = .returned (.bool true) ∧ Below w.heap.size w w' := by
  have hp := Hp.start w
  have HA := Lib.hid ha
  obtain ⟨g3, g8, hcan⟩ := right_can hr
  have HC := Lib.hid hcan
  have HFO := Lib.hid (right_o hr)
  have HE : RowKit.Hid (errI (rightB order fs) = 0) := Lib.hid (by rw [hr]; rfl)
  obtain ⟨N, hN⟩ := Int.eq_ofNat_of_zero_le (show 0 ≤ pw order by have := pw_pos order; omega)
  have HN := Lib.hid hN
  have HN4 : RowKit.Hid (N ≤ 4096) := Lib.hid (by have := pw_le g8; omega)
  have HO0 : RowKit.Hid (0 ≤ order) := Lib.hid (by omega)
  have HO8 := Lib.hid g8
  have e0 : decide ((600 : Int) < (fs.length : Int)) = false := by simp; omega
  clear ha hr hcan hN
  go_enter Try.func4, Try.ntmps4
  go_wp2_with (first | (go_at_call 19; (with_reducible refine (check19 order fs a c hl _ (HA.out.below hp.below)).mono ?_); rintro e w1 ⟨rfl, hb⟩; rw [HE.out]; replace hp := hp.call hb; clear hb) | (go_at_call 22; (with_reducible refine (words22 _ HO0.out HO8.out _).mono ?_); rintro e w' ⟨rfl, rfl⟩; rw [HN.out]) | (go_at_call 21; (with_reducible refine (new10_yes N HN4.out _).mono ?_); rintro e w1 ⟨bm, bw, rfl, hne, hf, hg, hb⟩; replace hp := hp.adopt2 hb hf hg hne; clear hb hf hg hne) | go_skip | ((first | ((with_reducible refine pre_alloc _ rfl ?_); refine lZ hp rfl zero44 ?_; clear hp; intro b w1 hp) | ((with_reducible refine pre_box _ _ rfl ?_); refine lB hp rfl (slot_tmp rfl) rfl ?_; clear hp; intro b w1 hp) | ((with_reducible refine pre_load _ _ rfl ?_); first | refine lO hp rfl (slot_tmp rfl) (by with_reducible first | exact cell3 | exact cell4 | exact cell24 | exact cell30) aa14 ?_ | refine lRO hp rfl (slot_tmp rfl) (by with_reducible first | exact cell3 | exact cell4 | exact cell24 | exact cell30) (by first | exact HX.out 0 _ rfl | exact HX.out 1 _ rfl) ?_ | refine lA hp rfl (slot_tmp rfl) agg44 aa14 ?_ | refine lR hp rfl (slot_tmp rfl) agg44 HX.out ?_) | ((with_reducible refine pre_store _ _ _ rfl ?_); (first | refine sO hp rfl (slot_tmp rfl) (by with_reducible first | exact cell3 | exact cell4 | exact cell24 | exact cell30) aa14 ?_ | refine sA hp rfl (slot_tmp rfl) (slot_tmp rfl) agg44 aa14 ?_ | refine sG hp rfl (slot_tmp rfl) (slot_tmp rfl) agg44 aa14 ?_); clear hp; intro w1 hp; simp only [spl, List.set_cons_zero, List.set_cons_succ] at hp) | ((with_reducible refine pre_build _ _ _ rfl ?_); refine lS hp rfl (by intro w; go_simp; rfl) ?_; clear hp; intro b w1 hp; simp only [List.length_cons, List.length_nil, Nat.reduceAdd] at hp)); simp only [put_some, put_none, List.set_cons_succ, List.set_cons_zero]))
  clear e0
  go_loopg [9] fs.length (fun k i wr => ∃ (j : Nat) (f : Nat → Bool), k + j = fs.length ∧ i = .int .i64 j ∧ RowKit.Hid (MapIn order fs N j f) ∧ Hp w.heap.size w wr [mBlk bm bw N, wBlk bw N f])
  case atStart => exact ⟨0, noBit, by omega, rfl, Lib.hid (MapIn.start N), hp⟩
  case round =>
    clear hp
    obtain ⟨j, f, hkj, rfl, HMI, hp⟩ := hrel
    by_cases hlt : j < fs.length
    · obtain ⟨bq, off, rfl, hx⟩ := HA.out.elems 2 blV_len (by omega) (by omega)
      have hj := List.getElem?_eq_getElem hlt
      replace hx := hx j _ hj
      have HJ := Lib.hid hj
      have hy8 := HFO.out _ (List.getElem_mem hlt)
      have hy0 := (HC.out.may _ (List.getElem_mem hlt)).1
      clear hj
      generalize fs[j] = y at hx HJ hy8 hy0
      obtain ⟨pa, pm, hpa, hpm, hpn, hp0, hst⟩ := HMI.out.step HC.out HN.out HJ.out
      obtain ⟨yp, yo⟩ := y
      simp only [blV] at hx
      simp only at hy8 hy0 hpa hpm
      subst hpa
      have HX := Lib.hid hx
      have HY0 := Lib.hid hy0
      have HY8 := Lib.hid hy8
      have HYM := Lib.hid hpm
      have HPA := Lib.hid hpn
      have HST := Lib.hid hst
      clear hx hy0 hy8 hpm hpn hst hp0
      have e1 : (0 : Int) ≤ (j : Int) := by omega
      have e2 : (j : Int) < (fs.length : Int) := by omega
      go_wp2_with (first | go_skip | ((first | ((with_reducible refine pre_alloc _ rfl ?_); refine lZ hp rfl zero44 ?_; clear hp; intro b w1 hp) | ((with_reducible refine pre_box _ _ rfl ?_); refine lB hp rfl (slot_tmp rfl) rfl ?_; clear hp; intro b w1 hp) | ((with_reducible refine pre_load _ _ rfl ?_); first | refine lO hp rfl (slot_tmp rfl) (by with_reducible first | exact cell3 | exact cell4 | exact cell24 | exact cell30) aa14 ?_ | refine lRO hp rfl (slot_tmp rfl) (by with_reducible first | exact cell3 | exact cell4 | exact cell24 | exact cell30) (by first | exact HX.out 0 _ rfl | exact HX.out 1 _ rfl) ?_ | refine lA hp rfl (slot_tmp rfl) agg44 aa14 ?_ | refine lR hp rfl (slot_tmp rfl) agg44 HX.out ?_) | ((with_reducible refine pre_store _ _ _ rfl ?_); (first | refine sO hp rfl (slot_tmp rfl) (by with_reducible first | exact cell3 | exact cell4 | exact cell24 | exact cell30) aa14 ?_ | refine sA hp rfl (slot_tmp rfl) (slot_tmp rfl) agg44 aa14 ?_ | refine sG hp rfl (slot_tmp rfl) (slot_tmp rfl) agg44 aa14 ?_); clear hp; intro w1 hp; simp only [spl, List.set_cons_zero, List.set_cons_succ] at hp) | ((with_reducible refine pre_build _ _ _ rfl ?_); refine lS hp rfl (by intro w; go_simp; rfl) ?_; clear hp; intro b w1 hp; simp only [List.length_cons, List.length_nil, Nat.reduceAdd] at hp)); simp only [put_some, put_none, List.set_cons_succ, List.set_cons_zero]))
      refine wp_region_keeps [] (Keeps.zero hp.drew) [] [(0, true), (1, true), (2, true), (3, true), (4, true), (5, true), (6, true), (7, true), (8, true), (9, true), (10, true), (11, false), (12, false), (13, true)] (by kernel_rfl) (by kernel_rfl) rfl (by kernel_rfl) (fun _ _ d _ _ h => by cases d <;> exact h) ?_
      replace hp := hp.drew
      (refine plan_move rfl _ rfl wy ?_)
      try simp only [put_some, put_none, eval_tmp, eval_const, List.set_cons_succ, List.set_cons_zero, List.getD_cons_succ, List.getD_cons_zero, wrap_eq]
      (refine plan_move rfl _ rfl wy ?_)
      try simp only [put_some, put_none, eval_tmp, eval_const, List.set_cons_succ, List.set_cons_zero, List.getD_cons_succ, List.getD_cons_zero, wrap_eq]
      (refine plan_move rfl _ rfl wy ?_)
      try simp only [put_some, put_none, eval_tmp, eval_const, List.set_cons_succ, List.set_cons_zero, List.getD_cons_succ, List.getD_cons_zero, wrap_eq]
      (refine plan_take rfl wy (fun w _ => (by go_simp; try rfl)) ?_)
      try simp only [put_some, put_none, eval_tmp, eval_const, List.set_cons_succ, List.set_cons_zero, List.getD_cons_succ, List.getD_cons_zero, wrap_eq]
      (refine plan_take rfl wy (fun w _ => (by go_simp; try rfl)) ?_)
      try simp only [put_some, put_none, eval_tmp, eval_const, List.set_cons_succ, List.set_cons_zero, List.getD_cons_succ, List.getD_cons_zero, wrap_eq]
      (first | (refine pO rfl rfl (slot_tmp rfl) cell3 aa5 ?_) | (refine pRO rfl rfl (slot_tmp rfl) cell3 (HX.out 0 _ rfl) ?_) | (refine pRO rfl rfl (slot_tmp rfl) cell3 (HX.out 1 _ rfl) ?_))
      try simp only [put_some, put_none, eval_tmp, eval_const, List.set_cons_succ, List.set_cons_zero, List.getD_cons_succ, List.getD_cons_zero, wrap_eq]
      (refine plan_move rfl _ rfl wy ?_)
      try simp only [put_some, put_none, eval_tmp, eval_const, List.set_cons_succ, List.set_cons_zero, List.getD_cons_succ, List.getD_cons_zero, wrap_eq]
      (refine plan_move rfl _ rfl wy ?_)
      try simp only [put_some, put_none, eval_tmp, eval_const, List.set_cons_succ, List.set_cons_zero, List.getD_cons_succ, List.getD_cons_zero, wrap_eq]
      (refine plan_take rfl wy (fun w _ => (by go_simp; try rfl)) ?_)
      try simp only [put_some, put_none, eval_tmp, eval_const, List.set_cons_succ, List.set_cons_zero, List.getD_cons_succ, List.getD_cons_zero, wrap_eq]
      (refine plan_take rfl wy (fun w _ => (by go_simp; try rfl)) ?_)
      try simp only [put_some, put_none, eval_tmp, eval_const, List.set_cons_succ, List.set_cons_zero, List.getD_cons_succ, List.getD_cons_zero, wrap_eq]
      (first | (refine pO rfl rfl (slot_tmp rfl) cell3 aa5 ?_) | (refine pRO rfl rfl (slot_tmp rfl) cell3 (HX.out 0 _ rfl) ?_) | (refine pRO rfl rfl (slot_tmp rfl) cell3 (HX.out 1 _ rfl) ?_))
      try simp only [put_some, put_none, eval_tmp, eval_const, List.set_cons_succ, List.set_cons_zero, List.getD_cons_succ, List.getD_cons_zero, wrap_eq]
      refine plan_do rfl (fun K hK => ?_)
      go_wp2_with (first | go_skip | (go_at_call 22; (with_reducible refine (words22 _ HY0.out HY8.out _).mono ?_); rintro e w' ⟨rfl, rfl⟩; rw [HYM.out]) | (go_at_call 23; (with_reducible refine (putOn pa pm HN4.out HPA.out hp).mono ?_); clear hp; rintro e w1 ⟨rfl, hp⟩))
      refine hK.out _ _ (.inr (Keeps.zero hp)) ?_
      clear hK K
      try simp only [put_some, put_none, eval_tmp, eval_const, List.set_cons_succ, List.set_cons_zero, List.getD_cons_succ, List.getD_cons_zero, wrap_eq]
      refine plan_do rfl (fun K hK => ?_)
      go_wp2_with (first | go_skip | (go_at_call 22; (with_reducible refine (words22 _ HY0.out HY8.out _).mono ?_); rintro e w' ⟨rfl, rfl⟩; rw [HYM.out]) | (go_at_call 23; (with_reducible refine (putOn pa pm HN4.out HPA.out hp).mono ?_); clear hp; rintro e w1 ⟨rfl, hp⟩))
      refine hK.out _ _ (.inr (Keeps.zero hp)) ?_
      clear hK K
      try simp only [put_some, put_none, eval_tmp, eval_const, List.set_cons_succ, List.set_cons_zero, List.getD_cons_succ, List.getD_cons_zero, wrap_eq]
      (refine plan_take rfl wy (fun w _ => (by go_simp; try rfl)) ?_)
      try simp only [put_some, put_none, eval_tmp, eval_const, List.set_cons_succ, List.set_cons_zero, List.getD_cons_succ, List.getD_cons_zero, wrap_eq]
      refine plan_nil ?_
      go_wp2_with (first | go_skip | ((first | ((with_reducible refine pre_alloc _ rfl ?_); refine lZ hp rfl zero44 ?_; clear hp; intro b w1 hp) | ((with_reducible refine pre_box _ _ rfl ?_); refine lB hp rfl (slot_tmp rfl) rfl ?_; clear hp; intro b w1 hp) | ((with_reducible refine pre_load _ _ rfl ?_); first | refine lO hp rfl (slot_tmp rfl) (by with_reducible first | exact cell3 | exact cell4 | exact cell24 | exact cell30) aa14 ?_ | refine lRO hp rfl (slot_tmp rfl) (by with_reducible first | exact cell3 | exact cell4 | exact cell24 | exact cell30) (by first | exact HX.out 0 _ rfl | exact HX.out 1 _ rfl) ?_ | refine lA hp rfl (slot_tmp rfl) agg44 aa14 ?_ | refine lR hp rfl (slot_tmp rfl) agg44 HX.out ?_) | ((with_reducible refine pre_store _ _ _ rfl ?_); (first | refine sO hp rfl (slot_tmp rfl) (by with_reducible first | exact cell3 | exact cell4 | exact cell24 | exact cell30) aa14 ?_ | refine sA hp rfl (slot_tmp rfl) (slot_tmp rfl) agg44 aa14 ?_ | refine sG hp rfl (slot_tmp rfl) (slot_tmp rfl) agg44 aa14 ?_); clear hp; intro w1 hp; simp only [spl, List.set_cons_zero, List.set_cons_succ] at hp) | ((with_reducible refine pre_build _ _ _ rfl ?_); refine lS hp rfl (by intro w; go_simp; rfl) ?_; clear hp; intro b w1 hp; simp only [List.length_cons, List.length_nil, Nat.reduceAdd] at hp)); simp only [put_some, put_none, List.set_cons_succ, List.set_cons_zero]))
      go_roundg (gk - 1)
      case measure => omega
      case rel => exact ⟨j + 1, _, by omega, by go_num, HST, hp⟩
    · have e2 : decide ((j : Int) < (fs.length : Int)) = false := by simp; omega
      obtain ⟨hf1, hf2, hf3⟩ := HMI.out.done (by omega)
      subst hf1
      have HFZ := Lib.hid hf2
      have HFC := Lib.hid hf3
      clear hf2 hf3 HMI
      rcases HT.out with ⟨c, hc, KT⟩ | ⟨h0, h8, KT⟩
      · replace KT := Lib.hid KT
        clear HT
        rcases hc with rfl | rfl
        all_goals
          go_wp2_with (first | (go_at_call 24; (with_reducible refine (KT.out a c _ (HA.out.below hp.below)).mono ?_); rintro e w1 ⟨rfl, hb⟩; replace hp := hp.call hb; clear hb) | go_skip | ((first | ((with_reducible refine pre_alloc _ rfl ?_); refine lZ hp rfl zero44 ?_; clear hp; intro b w1 hp) | ((with_reducible refine pre_box _ _ rfl ?_); refine lB hp rfl (slot_tmp rfl) rfl ?_; clear hp; intro b w1 hp) | ((with_reducible refine pre_load _ _ rfl ?_); first | refine lO hp rfl (slot_tmp rfl) (by with_reducible first | exact cell3 | exact cell4 | exact cell24 | exact cell30) aa14 ?_ | refine lRO hp rfl (slot_tmp rfl) (by with_reducible first | exact cell3 | exact cell4 | exact cell24 | exact cell30) (by first | exact HX.out 0 _ rfl | exact HX.out 1 _ rfl) ?_ | refine lA hp rfl (slot_tmp rfl) agg44 aa14 ?_ | refine lR hp rfl (slot_tmp rfl) agg44 HX.out ?_) | ((with_reducible refine pre_store _ _ _ rfl ?_); (first | refine sO hp rfl (slot_tmp rfl) (by with_reducible first | exact cell3 | exact cell4 | exact cell24 | exact cell30) aa14 ?_ | refine sA hp rfl (slot_tmp rfl) (slot_tmp rfl) agg44 aa14 ?_ | refine sG hp rfl (slot_tmp rfl) (slot_tmp rfl) agg44 aa14 ?_); clear hp; intro w1 hp; simp only [spl, List.set_cons_zero, List.set_cons_succ] at hp) | ((with_reducible refine pre_build _ _ _ rfl ?_); refine lS hp rfl (by intro w; go_simp; rfl) ?_; clear hp; intro b w1 hp; simp only [List.length_cons, List.length_nil, Nat.reduceAdd] at hp)); simp only [put_some, put_none, List.set_cons_succ, List.set_cons_zero]))
          clear e2
          obtain ⟨bb, rfl⟩ := hp.id0
          replace hp := hp.tail
          go_wp2_with (first | (go_at_call 20; (with_reducible refine (all20 _).mono ?_); rintro e w1 ⟨rfl, hb⟩; replace hp := hp.call hb; clear hb) | (go_at_call 25; (with_reducible refine (takes25 _).mono ?_); rintro e w1 ⟨rfl, hb⟩; replace hp := hp.call hb; clear hb) | (go_at_call 26; (with_reducible refine (countIs HN4.out HFZ.out HFC.out hp (isMap0 _ _ _ _ _)).mono ?_); rintro e w' ⟨rfl, rfl⟩) | (go_at_call 27; (with_reducible refine (words27 fs a c (by omega) HFO.out _ (HA.out.below hp.below)).mono ?_); rintro e w1 ⟨rfl, hb⟩; replace hp := hp.call hb; clear hb) | go_skip | ((first | ((with_reducible refine pre_alloc _ rfl ?_); refine lZ hp rfl zero44 ?_; clear hp; intro b w1 hp) | ((with_reducible refine pre_box _ _ rfl ?_); refine lB hp rfl (slot_tmp rfl) rfl ?_; clear hp; intro b w1 hp) | ((with_reducible refine pre_load _ _ rfl ?_); first | refine lO hp rfl (slot_tmp rfl) (by with_reducible first | exact cell3 | exact cell4 | exact cell24 | exact cell30) aa14 ?_ | refine lRO hp rfl (slot_tmp rfl) (by with_reducible first | exact cell3 | exact cell4 | exact cell24 | exact cell30) (by first | exact HX.out 0 _ rfl | exact HX.out 1 _ rfl) ?_ | refine lA hp rfl (slot_tmp rfl) agg44 aa14 ?_ | refine lR hp rfl (slot_tmp rfl) agg44 HX.out ?_) | ((with_reducible refine pre_store _ _ _ rfl ?_); (first | refine sO hp rfl (slot_tmp rfl) (by with_reducible first | exact cell3 | exact cell4 | exact cell24 | exact cell30) aa14 ?_ | refine sA hp rfl (slot_tmp rfl) (slot_tmp rfl) agg44 aa14 ?_ | refine sG hp rfl (slot_tmp rfl) (slot_tmp rfl) agg44 aa14 ?_); clear hp; intro w1 hp; simp only [spl, List.set_cons_zero, List.set_cons_succ] at hp) | ((with_reducible refine pre_build _ _ _ rfl ?_); refine lS hp rfl (by intro w; go_simp; rfl) ?_; clear hp; intro b w1 hp; simp only [List.length_cons, List.length_nil, Nat.reduceAdd] at hp)); simp only [put_some, put_none, List.set_cons_succ, List.set_cons_zero]))
          go_ret
          exact ⟨rfl, hp.below⟩
      · replace KT := Lib.hid KT
        clear HT
        have HBK : RowKit.Hid (∀ (b : Bl) s, LeastT want fs b → TakenP want fs b s → ∃ ta tm : Nat, b.p = ta ∧ pw want = tm ∧ ta + tm ≤ N ∧ 0 < tm ∧ (∀ i, ta ≤ i → i < ta + tm → bitB fs i = true) ∧ MapOff order s N (upd (bitB fs) ta (ta + tm) false) ∧ s.length ≤ 600 ∧ (∀ b ∈ s, 0 ≤ b.o ∧ b.o ≤ 8)) := Lib.hid (fun b s hl ht => by
          have e := taken_eq HC.out.disj hl.mem h0 hl.great ht
          have hi := taken_inv g8 HC.out hl.mem h0 hl.great
          rw [← e] at hi
          obtain ⟨a1, m1, q1, q2, q3, q4, q5, q6⟩ := map_off HC.out hi HN.out HFC.out
          have hrs : rightB order s = true := can_right g3 g8 ⟨hi.lv.1, hi.may, hi.alone⟩
          obtain ⟨_, _, hg⟩ := rightB_good2 hrs
          have h1 := hg.len g3
          have h2 := pw_le g8
          exact ⟨a1, m1, q1, q2, q3, q4, q5, q6, by omega, fun c hc => ⟨(hi.may c hc).1, by have := (hi.may c hc).2.1; omega⟩⟩)
        go_wp2_with (first | (go_at_call 24; (with_reducible refine (KT.out a c _ (HA.out.below hp.below)).mono ?_); rintro e w1 ⟨⟨tp, to⟩, a1, k1, R1, s, rfl, hlt, htk, hr1, hpx⟩; obtain ⟨ta, tm, rfl, hwm, hta, htm, hon, hoff, hsl, hso⟩ := HBK.out ⟨tp, to⟩ s hlt htk; replace hp := hp.join hpx; have HK1 := Lib.hid hr1.kept2; have HWM := Lib.hid hwm; have HTA := Lib.hid hta; have HTM := Lib.hid htm; have HON := Lib.hid hon; have HOFF := Lib.hid hoff; have HSL := Lib.hid hsl; have HSO := Lib.hid hso; clear hpx hlt htk hr1 hwm hta htm hon hoff hsl hso) | go_skip | ((first | ((with_reducible refine pre_alloc _ rfl ?_); refine lZ hp rfl zero44 ?_; clear hp; intro b w1 hp) | ((with_reducible refine pre_box _ _ rfl ?_); refine lB hp rfl (slot_tmp rfl) rfl ?_; clear hp; intro b w1 hp) | ((with_reducible refine pre_load _ _ rfl ?_); first | refine lO hp rfl (slot_tmp rfl) (by with_reducible first | exact cell3 | exact cell4 | exact cell24 | exact cell30) aa14 ?_ | refine lRO hp rfl (slot_tmp rfl) (by with_reducible first | exact cell3 | exact cell4 | exact cell24 | exact cell30) (by first | exact HX.out 0 _ rfl | exact HX.out 1 _ rfl) ?_ | refine lA hp rfl (slot_tmp rfl) agg44 aa14 ?_ | refine lR hp rfl (slot_tmp rfl) agg44 HX.out ?_) | ((with_reducible refine pre_store _ _ _ rfl ?_); (first | refine sO hp rfl (slot_tmp rfl) (by with_reducible first | exact cell3 | exact cell4 | exact cell24 | exact cell30) aa14 ?_ | refine sA hp rfl (slot_tmp rfl) (slot_tmp rfl) agg44 aa14 ?_ | refine sG hp rfl (slot_tmp rfl) (slot_tmp rfl) agg44 aa14 ?_); clear hp; intro w1 hp; simp only [spl, List.set_cons_zero, List.set_cons_succ] at hp) | ((with_reducible refine pre_build _ _ _ rfl ?_); refine lS hp rfl (by intro w; go_simp; rfl) ?_; clear hp; intro b w1 hp; simp only [List.length_cons, List.length_nil, Nat.reduceAdd] at hp)); simp only [put_some, put_none, List.set_cons_succ, List.set_cons_zero]))
        obtain ⟨bb, rfl⟩ := hp.id0
        have hpx : Hp w.heap.size w w1 (⟨bb, [.int .i64 ta, .int .i64 want], 44, 2⟩ :: mBlk bm bw N :: wBlk bw N (bitB fs) :: R1) := hp
        clear hp
        have hp := hpx
        clear hpx
        refine wp_region_keeps [_] (Keeps.one hp.drew at0) [] [(0, true), (1, true), (2, true), (3, true), (4, false), (5, false), (6, false)] (by kernel_rfl) (by kernel_rfl) rfl (by kernel_rfl) (fun _ _ d _ _ h => by cases d <;> exact h) ?_
        replace hp := hp.drew
        (refine plan_move rfl _ rfl wy ?_)
        try simp only [put_some, put_none, eval_tmp, eval_const, List.set_cons_succ, List.set_cons_zero, List.getD_cons_succ, List.getD_cons_zero, wrap_eq]
        (refine plan_take rfl wy (fun w _ => (by go_simp; try rfl)) ?_)
        try simp only [put_some, put_none, eval_tmp, eval_const, List.set_cons_succ, List.set_cons_zero, List.getD_cons_succ, List.getD_cons_zero, wrap_eq]
        (first | (refine pO rfl rfl (slot_tmp rfl) cell3 aa5 ?_))
        try simp only [put_some, put_none, eval_tmp, eval_const, List.set_cons_succ, List.set_cons_zero, List.getD_cons_succ, List.getD_cons_zero, wrap_eq]
        (refine plan_move rfl _ rfl wy ?_)
        try simp only [put_some, put_none, eval_tmp, eval_const, List.set_cons_succ, List.set_cons_zero, List.getD_cons_succ, List.getD_cons_zero, wrap_eq]
        refine plan_do rfl (fun K hK => ?_)
        go_wp2_with (first | go_skip | (go_at_call 22; (with_reducible refine (words22 _ h0 h8 _).mono ?_); rintro e w' ⟨rfl, rfl⟩; rw [HWM.out]) | (go_at_call 28; (with_reducible refine (runAt ta tm HN4.out HTA.out HTM.out HON.out ((isMap1 _ _ _ _ _ _).at_ hp)).mono ?_); rintro e w' ⟨rfl, rfl⟩))
        refine hK.out _ _ (.inr (Keeps.one hp aa5)) ?_
        clear hK K
        try simp only [put_some, put_none, eval_tmp, eval_const, List.set_cons_succ, List.set_cons_zero, List.getD_cons_succ, List.getD_cons_zero, wrap_eq]
        refine plan_do rfl (fun K hK => ?_)
        go_wp2_with (first | go_skip | (go_at_call 22; (with_reducible refine (words22 _ h0 h8 _).mono ?_); rintro e w' ⟨rfl, rfl⟩; rw [HWM.out]) | (go_at_call 28; (with_reducible refine (runAt ta tm HN4.out HTA.out HTM.out HON.out ((isMap1 _ _ _ _ _ _).at_ hp)).mono ?_); rintro e w' ⟨rfl, rfl⟩))
        refine hK.out _ _ (.inr (Keeps.one hp aa5)) ?_
        clear hK K
        try simp only [put_some, put_none, eval_tmp, eval_const, List.set_cons_succ, List.set_cons_zero, List.getD_cons_succ, List.getD_cons_zero, wrap_eq]
        refine plan_do rfl (fun K hK => ?_)
        go_wp2_with (first | go_skip | ((first | ((with_reducible refine pre_alloc _ rfl ?_); refine lZ hp rfl zero44 ?_; clear hp; intro b w1 hp) | ((with_reducible refine pre_box _ _ rfl ?_); refine lB hp rfl (slot_tmp rfl) rfl ?_; clear hp; intro b w1 hp) | ((with_reducible refine pre_load _ _ rfl ?_); first | refine lO hp rfl (slot_tmp rfl) (by with_reducible first | exact cell3 | exact cell4 | exact cell24 | exact cell30) aa14 ?_ | refine lRO hp rfl (slot_tmp rfl) (by with_reducible first | exact cell3 | exact cell4 | exact cell24 | exact cell30) (by first | exact HX.out 0 _ rfl | exact HX.out 1 _ rfl) ?_ | refine lA hp rfl (slot_tmp rfl) agg44 aa14 ?_ | refine lR hp rfl (slot_tmp rfl) agg44 HX.out ?_) | ((with_reducible refine pre_store _ _ _ rfl ?_); (first | refine sO hp rfl (slot_tmp rfl) (by with_reducible first | exact cell3 | exact cell4 | exact cell24 | exact cell30) aa14 ?_ | refine sA hp rfl (slot_tmp rfl) (slot_tmp rfl) agg44 aa14 ?_ | refine sG hp rfl (slot_tmp rfl) (slot_tmp rfl) agg44 aa14 ?_); clear hp; intro w1 hp; simp only [spl, List.set_cons_zero, List.set_cons_succ] at hp) | ((with_reducible refine pre_build _ _ _ rfl ?_); refine lS hp rfl (by intro w; go_simp; rfl) ?_; clear hp; intro b w1 hp; simp only [List.length_cons, List.length_nil, Nat.reduceAdd] at hp)); simp only [put_some, put_none, List.set_cons_succ, List.set_cons_zero]))
        refine hK.out _ _ (.inr (Keeps.one hp aa5)) ?_
        clear hK K
        try simp only [put_some, put_none, eval_tmp, eval_const, List.set_cons_succ, List.set_cons_zero, List.getD_cons_succ, List.getD_cons_zero, wrap_eq]
        refine plan_nil ?_
        go_wp2_with (first | go_skip | ((first | ((with_reducible refine pre_alloc _ rfl ?_); refine lZ hp rfl zero44 ?_; clear hp; intro b w1 hp) | ((with_reducible refine pre_box _ _ rfl ?_); refine lB hp rfl (slot_tmp rfl) rfl ?_; clear hp; intro b w1 hp) | ((with_reducible refine pre_load _ _ rfl ?_); first | refine lO hp rfl (slot_tmp rfl) (by with_reducible first | exact cell3 | exact cell4 | exact cell24 | exact cell30) aa14 ?_ | refine lRO hp rfl (slot_tmp rfl) (by with_reducible first | exact cell3 | exact cell4 | exact cell24 | exact cell30) (by first | exact HX.out 0 _ rfl | exact HX.out 1 _ rfl) ?_ | refine lA hp rfl (slot_tmp rfl) agg44 aa14 ?_ | refine lR hp rfl (slot_tmp rfl) agg44 HX.out ?_) | ((with_reducible refine pre_store _ _ _ rfl ?_); (first | refine sO hp rfl (slot_tmp rfl) (by with_reducible first | exact cell3 | exact cell4 | exact cell24 | exact cell30) aa14 ?_ | refine sA hp rfl (slot_tmp rfl) (slot_tmp rfl) agg44 aa14 ?_ | refine sG hp rfl (slot_tmp rfl) (slot_tmp rfl) agg44 aa14 ?_); clear hp; intro w1 hp; simp only [spl, List.set_cons_zero, List.set_cons_succ] at hp) | ((with_reducible refine pre_build _ _ _ rfl ?_); refine lS hp rfl (by intro w; go_simp; rfl) ?_; clear hp; intro b w1 hp; simp only [List.length_cons, List.length_nil, Nat.reduceAdd] at hp)); simp only [put_some, put_none, List.set_cons_succ, List.set_cons_zero]))
        refine wp_region_keeps [_] (Keeps.one hp.drew at0) [] [(0, true), (1, true), (2, true), (3, true), (4, true), (5, true), (6, true), (7, true), (8, true), (9, false), (10, false), (11, true), (12, true)] (by kernel_rfl) (by kernel_rfl) rfl (by kernel_rfl) (fun _ _ d _ _ h => by cases d <;> exact h) ?_
        replace hp := hp.drew
        (refine plan_move rfl _ rfl wy ?_)
        try simp only [put_some, put_none, eval_tmp, eval_const, List.set_cons_succ, List.set_cons_zero, List.getD_cons_succ, List.getD_cons_zero, wrap_eq]
        (refine plan_take rfl wy (fun w _ => (by go_simp; try rfl)) ?_)
        try simp only [put_some, put_none, eval_tmp, eval_const, List.set_cons_succ, List.set_cons_zero, List.getD_cons_succ, List.getD_cons_zero, wrap_eq]
        (first | (refine pO rfl rfl (slot_tmp rfl) cell3 aa5 ?_))
        try simp only [put_some, put_none, eval_tmp, eval_const, List.set_cons_succ, List.set_cons_zero, List.getD_cons_succ, List.getD_cons_zero, wrap_eq]
        (refine plan_take rfl wy (fun w _ => (by go_simp; try rfl)) ?_)
        try simp only [put_some, put_none, eval_tmp, eval_const, List.set_cons_succ, List.set_cons_zero, List.getD_cons_succ, List.getD_cons_zero, wrap_eq]
        (refine plan_move rfl _ rfl wy ?_)
        try simp only [put_some, put_none, eval_tmp, eval_const, List.set_cons_succ, List.set_cons_zero, List.getD_cons_succ, List.getD_cons_zero, wrap_eq]
        first | (refine plan_skip rfl (wanted_no rfl rfl rfl rfl) ?_) | (refine plan_move rfl _ rfl wy ?_)
        try simp only [put_some, put_none, eval_tmp, eval_const, List.set_cons_succ, List.set_cons_zero, List.getD_cons_succ, List.getD_cons_zero, wrap_eq]
        first | (refine plan_skip rfl (wanted_no rfl rfl rfl rfl) ?_) | (refine plan_take rfl wy (fun w _ => (by go_simp; try rfl)) ?_)
        try simp only [put_some, put_none, eval_tmp, eval_const, List.set_cons_succ, List.set_cons_zero, List.getD_cons_succ, List.getD_cons_zero, wrap_eq]
        first | (refine plan_skip rfl (wanted_no rfl rfl rfl rfl) ?_) | (first | (refine pO rfl rfl (slot_tmp rfl) cell3 aa5 ?_))
        try simp only [put_some, put_none, eval_tmp, eval_const, List.set_cons_succ, List.set_cons_zero, List.getD_cons_succ, List.getD_cons_zero, wrap_eq]
        first | (refine plan_skip rfl (wanted_no rfl rfl rfl rfl) ?_) | (refine plan_move rfl _ rfl wy ?_)
        try simp only [put_some, put_none, eval_tmp, eval_const, List.set_cons_succ, List.set_cons_zero, List.getD_cons_succ, List.getD_cons_zero, wrap_eq]
        refine plan_do rfl (fun K hK => ?_)
        go_wp2_with (first | go_skip | (go_at_call 22; (with_reducible refine (words22 _ h0 h8 _).mono ?_); rintro e w' ⟨rfl, rfl⟩; rw [HWM.out]) | (go_at_call 23; (with_reducible refine (putOffX ta tm HN4.out HTA.out HFZ.out hp).mono ?_); clear hp; rintro e w1 ⟨rfl, hp⟩))
        refine hK.out _ _ (.inr (Keeps.one hp aa5)) ?_
        clear hK K
        try simp only [put_some, put_none, eval_tmp, eval_const, List.set_cons_succ, List.set_cons_zero, List.getD_cons_succ, List.getD_cons_zero, wrap_eq]
        refine plan_do rfl (fun K hK => ?_)
        go_wp2_with (first | go_skip | (go_at_call 22; (with_reducible refine (words22 _ h0 h8 _).mono ?_); rintro e w' ⟨rfl, rfl⟩; rw [HWM.out]) | (go_at_call 23; (with_reducible refine (putOffX ta tm HN4.out HTA.out HFZ.out hp).mono ?_); clear hp; rintro e w1 ⟨rfl, hp⟩))
        refine hK.out _ _ (.inr (Keeps.one hp aa5)) ?_
        clear hK K
        try simp only [put_some, put_none, eval_tmp, eval_const, List.set_cons_succ, List.set_cons_zero, List.getD_cons_succ, List.getD_cons_zero, wrap_eq]
        first | (refine plan_skip rfl (wanted_no rfl rfl rfl rfl) ?_) | (refine plan_take rfl wy (fun w _ => (by go_simp; try rfl)) ?_)
        try simp only [put_some, put_none, eval_tmp, eval_const, List.set_cons_succ, List.set_cons_zero, List.getD_cons_succ, List.getD_cons_zero, wrap_eq]
        (refine plan_take rfl wy (fun w _ => (by go_simp; try rfl)) ?_)
        try simp only [put_some, put_none, eval_tmp, eval_const, List.set_cons_succ, List.set_cons_zero, List.getD_cons_succ, List.getD_cons_zero, wrap_eq]
        refine plan_nil ?_
        go_wp2_with (first | go_skip | ((first | ((with_reducible refine pre_alloc _ rfl ?_); refine lZ hp rfl zero44 ?_; clear hp; intro b w1 hp) | ((with_reducible refine pre_box _ _ rfl ?_); refine lB hp rfl (slot_tmp rfl) rfl ?_; clear hp; intro b w1 hp) | ((with_reducible refine pre_load _ _ rfl ?_); first | refine lO hp rfl (slot_tmp rfl) (by with_reducible first | exact cell3 | exact cell4 | exact cell24 | exact cell30) aa14 ?_ | refine lRO hp rfl (slot_tmp rfl) (by with_reducible first | exact cell3 | exact cell4 | exact cell24 | exact cell30) (by first | exact HX.out 0 _ rfl | exact HX.out 1 _ rfl) ?_ | refine lA hp rfl (slot_tmp rfl) agg44 aa14 ?_ | refine lR hp rfl (slot_tmp rfl) agg44 HX.out ?_) | ((with_reducible refine pre_store _ _ _ rfl ?_); (first | refine sO hp rfl (slot_tmp rfl) (by with_reducible first | exact cell3 | exact cell4 | exact cell24 | exact cell30) aa14 ?_ | refine sA hp rfl (slot_tmp rfl) (slot_tmp rfl) agg44 aa14 ?_ | refine sG hp rfl (slot_tmp rfl) (slot_tmp rfl) agg44 aa14 ?_); clear hp; intro w1 hp; simp only [spl, List.set_cons_zero, List.set_cons_succ] at hp) | ((with_reducible refine pre_build _ _ _ rfl ?_); refine lS hp rfl (by intro w; go_simp; rfl) ?_; clear hp; intro b w1 hp; simp only [List.length_cons, List.length_nil, Nat.reduceAdd] at hp)); simp only [put_some, put_none, List.set_cons_succ, List.set_cons_zero]))
        have HMA := Lib.hid ((isMap1 _ _ _ _ _ _).at_ hp)
        have HRW := Lib.hid (HK1.out.at hp (by intro p hp2; simp [hp2]))
        have HBW := Lib.hid hp.below
        clear hp HA HK1 HBK KT e2
        have hp := Hp.start w1
        go_loopg [13, 14] s.length (fun k nn i wr => ∃ (j : Nat) (sv : Int), k + j = s.length ∧ nn = .int .i64 sv ∧ i = .int .i64 j ∧ RowKit.Hid (sv = sumB (s.take j)) ∧ Hp w1.heap.size w1 wr [])
        case atStart => exact ⟨0, 0, by omega, rfl, rfl, Lib.hid (by simp [sumB]), hp⟩
        case round =>
          clear hp
          obtain ⟨j, sv, hkj, rfl, rfl, HS, hp⟩ := hrel
          have hsl := HSL.out
          by_cases hlt : j < s.length
          · obtain ⟨bq, off, rfl, hx⟩ := HRW.out.elems 2 blV_len (by omega) (by omega)
            have hj := List.getElem?_eq_getElem hlt
            replace hx := hx j _ hj
            have HJ := Lib.hid hj
            obtain ⟨hy0, hy8⟩ := HSO.out _ (List.getElem_mem hlt)
            obtain ⟨ya, ym, hya, hym, hyn, hyp, hyf⟩ := HOFF.out.on_ _ (List.getElem_mem hlt)
            clear hj
            generalize s[j] = y at hx HJ hy8 hy0 hya hym
            have HST := Lib.hid (sum_take HJ.out (by omega) (fun b hb => (HSO.out b hb).2))
            obtain ⟨yp, yo⟩ := y
            simp only [blV] at hx
            simp only at hy8 hy0 hya hym HST
            subst hya
            have HX := Lib.hid hx
            have HY0 := Lib.hid hy0
            have HY8 := Lib.hid hy8
            have HYM := Lib.hid hym
            have HYA := Lib.hid hyn
            have HYP := Lib.hid hyp
            have HYF := Lib.hid hyf
            rw [hym] at HST
            clear hx hy0 hy8 hym hyn hyp hyf
            have e1 : (0 : Int) ≤ (j : Int) := by omega
            have e2 : (j : Int) < (s.length : Int) := by omega
            go_wp2_with (first | go_skip | ((first | ((with_reducible refine pre_alloc _ rfl ?_); refine lZ hp rfl zero44 ?_; clear hp; intro b w1 hp) | ((with_reducible refine pre_box _ _ rfl ?_); refine lB hp rfl (slot_tmp rfl) rfl ?_; clear hp; intro b w1 hp) | ((with_reducible refine pre_load _ _ rfl ?_); first | refine lO hp rfl (slot_tmp rfl) (by with_reducible first | exact cell3 | exact cell4 | exact cell24 | exact cell30) aa14 ?_ | refine lRO hp rfl (slot_tmp rfl) (by with_reducible first | exact cell3 | exact cell4 | exact cell24 | exact cell30) (by first | exact HX.out 0 _ rfl | exact HX.out 1 _ rfl) ?_ | refine lA hp rfl (slot_tmp rfl) agg44 aa14 ?_ | refine lR hp rfl (slot_tmp rfl) agg44 HX.out ?_) | ((with_reducible refine pre_store _ _ _ rfl ?_); (first | refine sO hp rfl (slot_tmp rfl) (by with_reducible first | exact cell3 | exact cell4 | exact cell24 | exact cell30) aa14 ?_ | refine sA hp rfl (slot_tmp rfl) (slot_tmp rfl) agg44 aa14 ?_ | refine sG hp rfl (slot_tmp rfl) (slot_tmp rfl) agg44 aa14 ?_); clear hp; intro w1 hp; simp only [spl, List.set_cons_zero, List.set_cons_succ] at hp) | ((with_reducible refine pre_build _ _ _ rfl ?_); refine lS hp rfl (by intro w; go_simp; rfl) ?_; clear hp; intro b w1 hp; simp only [List.length_cons, List.length_nil, Nat.reduceAdd] at hp)); simp only [put_some, put_none, List.set_cons_succ, List.set_cons_zero]))
            refine wp_region_keeps [] (Keeps.zero hp.drew) [] [(0, true), (1, true), (2, true), (3, true), (4, true), (5, true), (6, true), (7, true), (8, true), (9, true), (10, true), (13, true), (14, true), (15, true), (16, true), (17, true), (11, false), (12, false), (18, true)] (by kernel_rfl) (by kernel_rfl) rfl (by kernel_rfl) (fun _ _ d _ _ h => by cases d <;> exact h) ?_
            replace hp := hp.drew
            (refine plan_move rfl _ rfl wy ?_)
            try simp only [put_some, put_none, eval_tmp, eval_const, List.set_cons_succ, List.set_cons_zero, List.getD_cons_succ, List.getD_cons_zero, wrap_eq]
            (refine plan_move rfl _ rfl wy ?_)
            try simp only [put_some, put_none, eval_tmp, eval_const, List.set_cons_succ, List.set_cons_zero, List.getD_cons_succ, List.getD_cons_zero, wrap_eq]
            (refine plan_move rfl _ rfl wy ?_)
            try simp only [put_some, put_none, eval_tmp, eval_const, List.set_cons_succ, List.set_cons_zero, List.getD_cons_succ, List.getD_cons_zero, wrap_eq]
            (refine plan_take rfl wy (fun w _ => (by go_simp; try rfl)) ?_)
            try simp only [put_some, put_none, eval_tmp, eval_const, List.set_cons_succ, List.set_cons_zero, List.getD_cons_succ, List.getD_cons_zero, wrap_eq]
            (refine plan_take rfl wy (fun w _ => (by go_simp; try rfl)) ?_)
            try simp only [put_some, put_none, eval_tmp, eval_const, List.set_cons_succ, List.set_cons_zero, List.getD_cons_succ, List.getD_cons_zero, wrap_eq]
            (first | (refine pO rfl rfl (slot_tmp rfl) cell3 aa5 ?_) | (refine pRO rfl rfl (slot_tmp rfl) cell3 (HX.out 0 _ rfl) ?_) | (refine pRO rfl rfl (slot_tmp rfl) cell3 (HX.out 1 _ rfl) ?_))
            try simp only [put_some, put_none, eval_tmp, eval_const, List.set_cons_succ, List.set_cons_zero, List.getD_cons_succ, List.getD_cons_zero, wrap_eq]
            (refine plan_move rfl _ rfl wy ?_)
            try simp only [put_some, put_none, eval_tmp, eval_const, List.set_cons_succ, List.set_cons_zero, List.getD_cons_succ, List.getD_cons_zero, wrap_eq]
            (refine plan_move rfl _ rfl wy ?_)
            try simp only [put_some, put_none, eval_tmp, eval_const, List.set_cons_succ, List.set_cons_zero, List.getD_cons_succ, List.getD_cons_zero, wrap_eq]
            (refine plan_take rfl wy (fun w _ => (by go_simp; try rfl)) ?_)
            try simp only [put_some, put_none, eval_tmp, eval_const, List.set_cons_succ, List.set_cons_zero, List.getD_cons_succ, List.getD_cons_zero, wrap_eq]
            (refine plan_take rfl wy (fun w _ => (by go_simp; try rfl)) ?_)
            try simp only [put_some, put_none, eval_tmp, eval_const, List.set_cons_succ, List.set_cons_zero, List.getD_cons_succ, List.getD_cons_zero, wrap_eq]
            (first | (refine pO rfl rfl (slot_tmp rfl) cell3 aa5 ?_) | (refine pRO rfl rfl (slot_tmp rfl) cell3 (HX.out 0 _ rfl) ?_) | (refine pRO rfl rfl (slot_tmp rfl) cell3 (HX.out 1 _ rfl) ?_))
            try simp only [put_some, put_none, eval_tmp, eval_const, List.set_cons_succ, List.set_cons_zero, List.getD_cons_succ, List.getD_cons_zero, wrap_eq]
            (refine plan_move rfl _ rfl wy ?_)
            try simp only [put_some, put_none, eval_tmp, eval_const, List.set_cons_succ, List.set_cons_zero, List.getD_cons_succ, List.getD_cons_zero, wrap_eq]
            (refine plan_move rfl _ rfl wy ?_)
            try simp only [put_some, put_none, eval_tmp, eval_const, List.set_cons_succ, List.set_cons_zero, List.getD_cons_succ, List.getD_cons_zero, wrap_eq]
            (refine plan_take rfl wy (fun w _ => (by go_simp; try rfl)) ?_)
            try simp only [put_some, put_none, eval_tmp, eval_const, List.set_cons_succ, List.set_cons_zero, List.getD_cons_succ, List.getD_cons_zero, wrap_eq]
            (refine plan_take rfl wy (fun w _ => (by go_simp; try rfl)) ?_)
            try simp only [put_some, put_none, eval_tmp, eval_const, List.set_cons_succ, List.set_cons_zero, List.getD_cons_succ, List.getD_cons_zero, wrap_eq]
            (first | (refine pO rfl rfl (slot_tmp rfl) cell3 aa5 ?_) | (refine pRO rfl rfl (slot_tmp rfl) cell3 (HX.out 0 _ rfl) ?_) | (refine pRO rfl rfl (slot_tmp rfl) cell3 (HX.out 1 _ rfl) ?_))
            try simp only [put_some, put_none, eval_tmp, eval_const, List.set_cons_succ, List.set_cons_zero, List.getD_cons_succ, List.getD_cons_zero, wrap_eq]
            refine plan_do rfl (fun K hK => ?_)
            go_wp2_with (first | go_skip | (go_at_call 22; (with_reducible refine (words22 _ HY0.out HY8.out _).mono ?_); rintro e w' ⟨rfl, rfl⟩; rw [HYM.out]) | (go_at_call 28; (with_reducible refine (runAt ya ym HN4.out HYA.out HYP.out HYF.out (HMA.out.below hp.below)).mono ?_); rintro e w' ⟨rfl, rfl⟩))
            refine hK.out _ _ (.inr (Keeps.zero hp)) ?_
            clear hK K
            try simp only [put_some, put_none, eval_tmp, eval_const, List.set_cons_succ, List.set_cons_zero, List.getD_cons_succ, List.getD_cons_zero, wrap_eq]
            refine plan_do rfl (fun K hK => ?_)
            go_wp2_with (first | go_skip | (go_at_call 22; (with_reducible refine (words22 _ HY0.out HY8.out _).mono ?_); rintro e w' ⟨rfl, rfl⟩; rw [HYM.out]) | (go_at_call 28; (with_reducible refine (runAt ya ym HN4.out HYA.out HYP.out HYF.out (HMA.out.below hp.below)).mono ?_); rintro e w' ⟨rfl, rfl⟩))
            refine hK.out _ _ (.inr (Keeps.zero hp)) ?_
            clear hK K
            try simp only [put_some, put_none, eval_tmp, eval_const, List.set_cons_succ, List.set_cons_zero, List.getD_cons_succ, List.getD_cons_zero, wrap_eq]
            (refine plan_take rfl wy (fun w _ => (by go_simp; try rfl)) ?_)
            try simp only [put_some, put_none, eval_tmp, eval_const, List.set_cons_succ, List.set_cons_zero, List.getD_cons_succ, List.getD_cons_zero, wrap_eq]
            refine plan_nil ?_
            go_wp2_with (first | (go_at_call 22; (with_reducible refine (words22 _ HY0.out HY8.out _).mono ?_); rintro e w' ⟨rfl, rfl⟩; rw [HYM.out]) | go_skip | ((first | ((with_reducible refine pre_alloc _ rfl ?_); refine lZ hp rfl zero44 ?_; clear hp; intro b w1 hp) | ((with_reducible refine pre_box _ _ rfl ?_); refine lB hp rfl (slot_tmp rfl) rfl ?_; clear hp; intro b w1 hp) | ((with_reducible refine pre_load _ _ rfl ?_); first | refine lO hp rfl (slot_tmp rfl) (by with_reducible first | exact cell3 | exact cell4 | exact cell24 | exact cell30) aa14 ?_ | refine lRO hp rfl (slot_tmp rfl) (by with_reducible first | exact cell3 | exact cell4 | exact cell24 | exact cell30) (by first | exact HX.out 0 _ rfl | exact HX.out 1 _ rfl) ?_ | refine lA hp rfl (slot_tmp rfl) agg44 aa14 ?_ | refine lR hp rfl (slot_tmp rfl) agg44 HX.out ?_) | ((with_reducible refine pre_store _ _ _ rfl ?_); (first | refine sO hp rfl (slot_tmp rfl) (by with_reducible first | exact cell3 | exact cell4 | exact cell24 | exact cell30) aa14 ?_ | refine sA hp rfl (slot_tmp rfl) (slot_tmp rfl) agg44 aa14 ?_ | refine sG hp rfl (slot_tmp rfl) (slot_tmp rfl) agg44 aa14 ?_); clear hp; intro w1 hp; simp only [spl, List.set_cons_zero, List.set_cons_succ] at hp) | ((with_reducible refine pre_build _ _ _ rfl ?_); refine lS hp rfl (by intro w; go_simp; rfl) ?_; clear hp; intro b w1 hp; simp only [List.length_cons, List.length_nil, Nat.reduceAdd] at hp)); simp only [put_some, put_none, List.set_cons_succ, List.set_cons_zero]))
            go_roundg (gk - 1)
            case measure => omega
            case rel => exact ⟨j + 1, _, by omega, rfl, by go_num, Lib.hid (by rw [HS.out]; exact HST.out.2), hp⟩
          · have e2 : decide ((j : Int) < (s.length : Int)) = false := by simp; omega
            have hsv := HS.out
            rw [List.take_of_length_le (by omega)] at hsv
            subst hsv
            clear HS
            go_wp2_with (first | (go_at_call 20; (with_reducible refine (all20 _).mono ?_); rintro e w1 ⟨rfl, hb⟩; replace hp := hp.call hb; clear hb) | (go_at_call 25; (with_reducible refine (takes25 _).mono ?_); rintro e w1 ⟨rfl, hb⟩; replace hp := hp.call hb; clear hb) | (go_at_call 26; (with_reducible refine (countAt HN4.out HOFF.out.out HOFF.out.cnt (HMA.out.below hp.below)).mono ?_); rintro e w' ⟨rfl, rfl⟩) | go_skip | ((first | ((with_reducible refine pre_alloc _ rfl ?_); refine lZ hp rfl zero44 ?_; clear hp; intro b w1 hp) | ((with_reducible refine pre_box _ _ rfl ?_); refine lB hp rfl (slot_tmp rfl) rfl ?_; clear hp; intro b w1 hp) | ((with_reducible refine pre_load _ _ rfl ?_); first | refine lO hp rfl (slot_tmp rfl) (by with_reducible first | exact cell3 | exact cell4 | exact cell24 | exact cell30) aa14 ?_ | refine lRO hp rfl (slot_tmp rfl) (by with_reducible first | exact cell3 | exact cell4 | exact cell24 | exact cell30) (by first | exact HX.out 0 _ rfl | exact HX.out 1 _ rfl) ?_ | refine lA hp rfl (slot_tmp rfl) agg44 aa14 ?_ | refine lR hp rfl (slot_tmp rfl) agg44 HX.out ?_) | ((with_reducible refine pre_store _ _ _ rfl ?_); (first | refine sO hp rfl (slot_tmp rfl) (by with_reducible first | exact cell3 | exact cell4 | exact cell24 | exact cell30) aa14 ?_ | refine sA hp rfl (slot_tmp rfl) (slot_tmp rfl) agg44 aa14 ?_ | refine sG hp rfl (slot_tmp rfl) (slot_tmp rfl) agg44 aa14 ?_); clear hp; intro w1 hp; simp only [spl, List.set_cons_zero, List.set_cons_succ] at hp) | ((with_reducible refine pre_build _ _ _ rfl ?_); refine lS hp rfl (by intro w; go_simp; rfl) ?_; clear hp; intro b w1 hp; simp only [List.length_cons, List.length_nil, Nat.reduceAdd] at hp)); simp only [put_some, put_none, List.set_cons_succ, List.set_cons_zero]))
            go_ret
            exact ⟨rfl, HBW.out.trans (hp.below.mono HBW.out.size)⟩
theorem law4 (order want : Int) (fs : List Bl) (a : Option Addr) (c : Nat) (w : World) (ha : RowIs w a (fs.flatMap blV)) : Calls Try.prog 4 #[.int .i64 order, .int .i64 want, .slice a fs.length c] w fun e w' => e = .returned (.bool true) ∧ Below w.heap.size w w' := by
  by_cases hl : fs.length ≤ 600
  · cases hr : rightB order fs with
    | false => exact law4_no order want fs a c (.inr ⟨hl, hr⟩) w ha
    | true =>
      refine law4_ok order want fs a c hl hr (Lib.hid ?_) w ha
      by_cases h : want < 0 ∨ order < want
      · exact .inl ⟨1, .inl rfl, fun a k w hw => take24_arg order want fs a k hl w hw (.inr h)⟩
      · have h0 : 0 ≤ want := by omega
        have h1 : want ≤ order := by omega
        cases hg : greatB fs want with
        | false => exact .inl ⟨40, .inr rfl, fun a k w hw => take24_full order want fs a k hl w hw hr h0 h1 hg⟩
        | true => exact .inr ⟨h0, by have := (right_can hr).2.1; omega, fun a k w hw => take24_ok order want fs a k hl w hw hr h0 h1 hg⟩
  · exact law4_no order want fs a c (.inl hl) w ha
end Go.Proofs.Ytbflmnoaiklnbaa
