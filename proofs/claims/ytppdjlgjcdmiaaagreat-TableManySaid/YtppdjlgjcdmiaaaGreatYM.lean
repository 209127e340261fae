/- The walk of the law TableMany (written by mkym.py). -/
import Derived.Test.YtppdjlgjcdmiaaaGreatYX
import Derived.Test.YtppdjlgjcdmiaaaGreatYE
set_option linter.unusedSimpArgs false
set_option linter.unusedVariables false
namespace Go.Proofs.YtppdjlgjcdmiaaaGreat
open Go.RowKit
theorem zeYM0 {ty : TypeId} {l : List Value} {n : Nat} (h : zeroL Tryz.prog ty = some (l, n) := by with_reducible first | exact zero43 | exact zero26 | exact zero57 | exact zero45 | exact zero34) : zeroL Tryz.prog ty = some (l, n) := h
theorem gaYM1 {ty : TypeId} {k : Nat} (h : aggB Tryz.prog ty k = true := by with_reducible first | exact agg43 | exact agg26 | exact agg57 | exact agg45 | exact agg29 | exact agg34) : aggB Tryz.prog ty k = true := h
theorem ceYM2 {ty : TypeId} (h : cellB Tryz.prog ty = true := by with_reducible first | exact cell3 | exact cell4 | exact cell32 | exact cell41) : cellB Tryz.prog ty = true := h
theorem gaYM3 {ty : TypeId} {k : Nat} (h : aggB Tryz.prog ty k = true := by with_reducible first | exact agg43 | exact agg45 | exact agg57) : aggB Tryz.prog ty k = true := h
theorem ceYM4 {ty : TypeId} (h : cellB Tryz.prog ty = true := by with_reducible first | exact cell3 | exact cell4 | exact cell41 | exact cell32) : cellB Tryz.prog ty = true := h
theorem StR.sm2 {x y : Sv} (h : StR x) (k : y.Sm x) : StR y := st_of ((stB_sm k).trans (st_yes h))
def KeptF (w0 : World) (R : List Blk) (Q : World → Prop) : Prop := ∀ (w : World) (L : List Blk), Hp w0.heap.size w0 w L → (∀ p ∈ R, p ∈ L) → Q w
theorem KeptF.at {w0 : World} {R : List Blk} {Q : World → Prop} (h : KeptF w0 R Q) {w : World} {L : List Blk} (hp : Hp w0.heap.size w0 w L) (hm : ∀ p ∈ R, p ∈ L) : Q w := h w L hp hm
theorem KeptF.of {w0 : World} {R : List Blk} {Q : World → Prop} (h : Kept R Q) : KeptF w0 R Q := fun w L hp hm => h _ _ w L hp hm
set_option maxRecDepth 100000 in
set_option maxHeartbeats 16000000 in
theorem law7 (x : Sv) (la : Option Addr) (l : List Env) (lc : Nat) (w : World) (hs : x.Is w) (hl : RowIs w la (l.flatMap envL)) :
    Calls Tryz.prog 7 #[.agg (svL x).toArray, .slice la l.length lc] w fun e w' => e = .returned (.bool true) ∧ Below w.heap.size w w' := by
  have hp := Hp.start w
  have HIS := Lib.hid hs
  have HLA := Lib.hid hl
  clear hs hl
  have hway : 60 < l.length ∨ (l.length ≤ 60 ∧ stB x = false) ∨ (l.length ≤ 60 ∧ stB x = true) := by
    rcases Nat.lt_or_ge 60 l.length with h | h
    · exact .inl h
    · cases h1 : stB x with
      | false => exact .inr (.inl ⟨h, rfl⟩)
      | true => exact .inr (.inr ⟨h, rfl⟩)
  rcases hway with h60 | ⟨h60, hb1⟩ | ⟨h60, hb1⟩
  · obtain ⟨⟨od, oa, os, oc, nx, t0, t1, t2, t3, fa, fs, fc⟩, ra, rs, rc⟩ := x
    have e1 : decide ((60 : Int) < (l.length : Int)) = true := by simp; omega
    clear h60
    simp only [svL, hvL, List.cons_append, List.nil_append]
    go_enter Tryz.func7, Tryz.ntmps7
    go_wp2_with (first | (go_at_call 15; (with_reducible refine (big15L od oa os oc nx t0 t1 t2 t3 fa fs fc ra rs rc _ (HIS.out.below hp.below)).mono ?_); rintro e w1 ⟨bb, rfl, hbb, hb⟩; replace hp := hp.call hb; clear hb; cases bb) | go_skip | ((first | ((with_reducible refine pre_alloc _ rfl ?_); refine lZ hp rfl zeYM0 ?_; clear hp; intro b w1 hp) | ((with_reducible refine pre_box _ _ rfl ?_); refine lB hp rfl (slot_tmp rfl) rfl ?_; clear hp; intro b w1 hp) | ((with_reducible refine pre_load _ _ rfl ?_); first | refine lO hp rfl (slot_tmp rfl) ceYM2 aa14 ?_ | refine lA hp rfl (slot_tmp rfl) gaYM1 aa14 ?_) | ((with_reducible refine pre_store _ _ _ rfl ?_); (first | refine sO hp rfl (slot_tmp rfl) ceYM2 aa14 ?_ | refine sA hp rfl (slot_tmp rfl) (slot_tmp rfl) gaYM1 aa14 ?_ | refine sG hp rfl (slot_tmp rfl) (slot_tmp rfl) gaYM1 aa14 ?_); clear hp; intro w1 hp; simp only [spl, List.set_cons_zero, List.set_cons_succ] at hp)); simp only [put_some, put_none, List.set_cons_succ, List.set_cons_zero]))
    all_goals
      go_wp2_with (first | (go_at_call 22; (with_reducible refine (check22L od oa os oc nx t0 t1 t2 t3 fa fs fc ra rs rc _ HB.out HSS.out _ (HIS.out.below hp.below)).mono ?_); rintro e w1 ⟨rfl, hb⟩; replace hp := hp.call hb; clear hb; unfold errS) | (go_at_call 21; (with_reducible refine (applies21 _).mono ?_); rintro e w1 ⟨rfl, hb⟩; replace hp := hp.call hb; clear hb) | go_skip | ((first | ((with_reducible refine pre_alloc _ rfl ?_); refine lZ hp rfl zeYM0 ?_; clear hp; intro b w1 hp) | ((with_reducible refine pre_box _ _ rfl ?_); refine lB hp rfl (slot_tmp rfl) rfl ?_; clear hp; intro b w1 hp) | ((with_reducible refine pre_load _ _ rfl ?_); first | refine lO hp rfl (slot_tmp rfl) ceYM2 aa14 ?_ | refine lA hp rfl (slot_tmp rfl) gaYM1 aa14 ?_) | ((with_reducible refine pre_store _ _ _ rfl ?_); (first | refine sO hp rfl (slot_tmp rfl) ceYM2 aa14 ?_ | refine sA hp rfl (slot_tmp rfl) (slot_tmp rfl) gaYM1 aa14 ?_ | refine sG hp rfl (slot_tmp rfl) (slot_tmp rfl) gaYM1 aa14 ?_); clear hp; intro w1 hp; simp only [spl, List.set_cons_zero, List.set_cons_succ] at hp)); simp only [put_some, put_none, List.set_cons_succ, List.set_cons_zero]))
      (go_ret; exact ⟨rfl, hp.below⟩)
  · obtain ⟨⟨od, oa, os, oc, nx, t0, t1, t2, t3, fa, fs, fc⟩, ra, rs, rc⟩ := x
    have e1 : decide ((60 : Int) < (l.length : Int)) = false := by simp; omega
    have HB := Lib.hid hb1
    clear h60 hb1
    simp only [svL, hvL, List.cons_append, List.nil_append]
    go_enter Tryz.func7, Tryz.ntmps7
    go_wp2_with (first | (go_at_call 15; (with_reducible refine (big15L od oa os oc nx t0 t1 t2 t3 fa fs fc ra rs rc _ (HIS.out.below hp.below)).mono ?_); rintro e w1 ⟨bb, rfl, hbb, hb⟩; replace hp := hp.call hb; clear hb; cases bb) | go_skip | ((first | ((with_reducible refine pre_alloc _ rfl ?_); refine lZ hp rfl zeYM0 ?_; clear hp; intro b w1 hp) | ((with_reducible refine pre_box _ _ rfl ?_); refine lB hp rfl (slot_tmp rfl) rfl ?_; clear hp; intro b w1 hp) | ((with_reducible refine pre_load _ _ rfl ?_); first | refine lO hp rfl (slot_tmp rfl) ceYM2 aa14 ?_ | refine lA hp rfl (slot_tmp rfl) gaYM1 aa14 ?_) | ((with_reducible refine pre_store _ _ _ rfl ?_); (first | refine sO hp rfl (slot_tmp rfl) ceYM2 aa14 ?_ | refine sA hp rfl (slot_tmp rfl) (slot_tmp rfl) gaYM1 aa14 ?_ | refine sG hp rfl (slot_tmp rfl) (slot_tmp rfl) gaYM1 aa14 ?_); clear hp; intro w1 hp; simp only [spl, List.set_cons_zero, List.set_cons_succ] at hp)); simp only [put_some, put_none, List.set_cons_succ, List.set_cons_zero]))
    all_goals try have HSS := Lib.hid (hbb (by first | rfl | trivial))
    all_goals
      go_wp2_with (first | (go_at_call 22; (with_reducible refine (check22L od oa os oc nx t0 t1 t2 t3 fa fs fc ra rs rc _ HB.out HSS.out _ (HIS.out.below hp.below)).mono ?_); rintro e w1 ⟨rfl, hb⟩; replace hp := hp.call hb; clear hb; unfold errS) | (go_at_call 21; (with_reducible refine (applies21 _).mono ?_); rintro e w1 ⟨rfl, hb⟩; replace hp := hp.call hb; clear hb) | go_skip | ((first | ((with_reducible refine pre_alloc _ rfl ?_); refine lZ hp rfl zeYM0 ?_; clear hp; intro b w1 hp) | ((with_reducible refine pre_box _ _ rfl ?_); refine lB hp rfl (slot_tmp rfl) rfl ?_; clear hp; intro b w1 hp) | ((with_reducible refine pre_load _ _ rfl ?_); first | refine lO hp rfl (slot_tmp rfl) ceYM2 aa14 ?_ | refine lA hp rfl (slot_tmp rfl) gaYM1 aa14 ?_) | ((with_reducible refine pre_store _ _ _ rfl ?_); (first | refine sO hp rfl (slot_tmp rfl) ceYM2 aa14 ?_ | refine sA hp rfl (slot_tmp rfl) (slot_tmp rfl) gaYM1 aa14 ?_ | refine sG hp rfl (slot_tmp rfl) (slot_tmp rfl) gaYM1 aa14 ?_); clear hp; intro w1 hp; simp only [spl, List.set_cons_zero, List.set_cons_succ] at hp)); simp only [put_some, put_none, List.set_cons_succ, List.set_cons_zero]))
      (go_ret; exact ⟨rfl, hp.below⟩)
  · have hst := st_of hb1
    have HST := Lib.hid hst
    clear hst
    obtain ⟨⟨od, oa, os, oc, nx, t0, t1, t2, t3, fa, fs, fc⟩, ra, rs, rc⟩ := x
    have e1 : decide ((60 : Int) < (l.length : Int)) = false := by simp; omega
    have HB := Lib.hid hb1
    clear hb1
    simp only [svL, hvL, List.cons_append, List.nil_append]
    go_enter Tryz.func7, Tryz.ntmps7
    go_wp2_with (first | (go_at_call 15; (with_reducible refine (big15L od oa os oc nx t0 t1 t2 t3 fa fs fc ra rs rc _ (HIS.out.below hp.below)).mono ?_); rintro e w1 ⟨bb, rfl, hbb, hb⟩; replace hp := hp.call hb; clear hb; cases bb) | go_skip | ((first | ((with_reducible refine pre_alloc _ rfl ?_); refine lZ hp rfl zeYM0 ?_; clear hp; intro b w1 hp) | ((with_reducible refine pre_box _ _ rfl ?_); refine lB hp rfl (slot_tmp rfl) rfl ?_; clear hp; intro b w1 hp) | ((with_reducible refine pre_load _ _ rfl ?_); first | refine lO hp rfl (slot_tmp rfl) ceYM2 aa14 ?_ | refine lA hp rfl (slot_tmp rfl) gaYM1 aa14 ?_) | ((with_reducible refine pre_store _ _ _ rfl ?_); (first | refine sO hp rfl (slot_tmp rfl) ceYM2 aa14 ?_ | refine sA hp rfl (slot_tmp rfl) (slot_tmp rfl) gaYM1 aa14 ?_ | refine sG hp rfl (slot_tmp rfl) (slot_tmp rfl) gaYM1 aa14 ?_); clear hp; intro w1 hp; simp only [spl, List.set_cons_zero, List.set_cons_succ] at hp)); simp only [put_some, put_none, List.set_cons_succ, List.set_cons_zero]))
    · have HSS := Lib.hid (hbb (by first | rfl | trivial))
      clear hbb
      go_wp2_with (first | (go_at_call 22; (with_reducible refine (check22L od oa os oc nx t0 t1 t2 t3 fa fs fc ra rs rc _ HB.out HSS.out _ (HIS.out.below hp.below)).mono ?_); rintro e w1 ⟨rfl, hb⟩; replace hp := hp.call hb; clear hb; unfold errS) | (go_at_call 21; (with_reducible refine (applies21 _).mono ?_); rintro e w1 ⟨rfl, hb⟩; replace hp := hp.call hb; clear hb) | go_skip | ((first | ((with_reducible refine pre_alloc _ rfl ?_); refine lZ hp rfl zeYM0 ?_; clear hp; intro b w1 hp) | ((with_reducible refine pre_box _ _ rfl ?_); refine lB hp rfl (slot_tmp rfl) rfl ?_; clear hp; intro b w1 hp) | ((with_reducible refine pre_load _ _ rfl ?_); first | refine lO hp rfl (slot_tmp rfl) ceYM2 aa14 ?_ | refine lA hp rfl (slot_tmp rfl) gaYM1 aa14 ?_) | ((with_reducible refine pre_store _ _ _ rfl ?_); (first | refine sO hp rfl (slot_tmp rfl) ceYM2 aa14 ?_ | refine sA hp rfl (slot_tmp rfl) (slot_tmp rfl) gaYM1 aa14 ?_ | refine sG hp rfl (slot_tmp rfl) (slot_tmp rfl) gaYM1 aa14 ?_); clear hp; intro w1 hp; simp only [spl, List.set_cons_zero, List.set_cons_succ] at hp)); simp only [put_some, put_none, List.set_cons_succ, List.set_cons_zero]))
      obtain ⟨b2, rfl⟩ := hp.id0
      have HK0 : RowKit.Hid (KeptF w [] (fun w' => Sv.Is w' ⟨⟨od, oa, os, oc, nx, t0, t1, t2, t3, fa, fs, fc⟩, ra, rs, rc⟩)) := Lib.hid (fun w' L hp _ => HIS.out.below hp.below)
      go_loopg [5] l.length (fun k i wr => ∃ (q : Nat) (y : Sv) (R : List Blk), k + q = l.length ∧ i = .int .i64 q ∧ RowKit.Hid (StR y) ∧ RowKit.Hid (KeptF w R fun w => y.Is w) ∧ Hp w.heap.size w wr (⟨b2, svL y, 43, 9⟩ :: R))
      case atStart => exact ⟨0, _, [], by omega, rfl, HST, HK0, hp⟩
      case round =>
        clear hp HK0
        obtain ⟨q, y, R, hkq, rfl, HRY, HKY, hp⟩ := hrel
        by_cases hlt : q < l.length
        · obtain ⟨bq, off, rfl, hx⟩ := HLA.out.elems 11 envL_len (by omega) (by omega)
          have hj := List.getElem?_eq_getElem hlt
          replace hx := hx q _ hj
          clear hj
          generalize l[q] = en at hx
          obtain ⟨nu, vi, cl, sq, ⟨kk, hh, ii, nn, cc, vv, tt⟩⟩ := en
          simp only [envL, opL, List.cons_append, List.nil_append] at hx
          have HX := Lib.hid hx
          clear hx
          have f1 : (0 : Int) ≤ (q : Int) := by omega
          have f2 : (q : Int) < (l.length : Int) := by omega
          cases hm : mayE ⟨nu, vi, cl, sq, ⟨kk, hh, ii, nn, cc, vv, tt⟩⟩ with
          | false =>
            have HM := Lib.hid hm
            clear hm
            obtain ⟨⟨odY, oaY, osY, ocY, nxY, t0Y, t1Y, t2Y, t3Y, faY, fsY, fcY⟩, raY, rsY, rcY⟩ := y
            simp only [svL, hvL, List.cons_append, List.nil_append] at hp
            go_wp2_with (first | (go_at_call 23; (with_reducible refine (may_lit _ _ _ _ _ _ _ _ _ _ _ _ HM.out _).mono ?_); rintro e w1 ⟨rfl, hb⟩; replace hp := hp.call hb; clear hb) | go_skip | ((first | ((with_reducible refine pre_alloc _ rfl ?_); refine lZ hp rfl zero57 ?_; clear hp; intro b w1 hp) | ((with_reducible refine pre_box _ _ rfl ?_); refine lB hp rfl (slot_tmp rfl) rfl ?_; clear hp; intro b w1 hp) | ((with_reducible refine pre_load _ _ rfl ?_); first | refine lO hp rfl (slot_tmp rfl) ceYM4 aa14 ?_ | refine lRO hp rfl (slot_tmp rfl) ceYM4 (by first | exact HX.out 0 _ rfl | exact HX.out 1 _ rfl | exact HX.out 2 _ rfl | exact HX.out 3 _ rfl) ?_ | refine lA hp rfl (slot_tmp rfl) gaYM3 aa14 ?_ | refine lR hp rfl (slot_tmp rfl) gaYM3 HX.out ?_) | ((with_reducible refine pre_store _ _ _ rfl ?_); (first | refine sO hp rfl (slot_tmp rfl) ceYM4 aa14 ?_ | refine sA hp rfl (slot_tmp rfl) (slot_tmp rfl) gaYM3 aa14 ?_ | refine sG hp rfl (slot_tmp rfl) (slot_tmp rfl) gaYM3 aa14 ?_); clear hp; intro w1 hp; simp only [spl, List.set_cons_zero, List.set_cons_succ] at hp)); simp only [put_some, put_none, List.set_cons_succ, List.set_cons_zero]))
            go_roundg (gk - 1)
            case measure => omega
            case rel => exact ⟨q + 1, ⟨⟨odY, oaY, osY, ocY, nxY, t0Y, t1Y, t2Y, t3Y, faY, fsY, fcY⟩, raY, rsY, rcY⟩, R, by omega, by go_num, HRY, HKY, hp⟩
          | true =>
            have HM := Lib.hid hm
            have hmp := many_P HRY.out hm
            obtain ⟨⟨s1, c, v⟩, hd1⟩ : ∃ r, applyP y ⟨nu, vi, cl, sq, ⟨kk, hh, ii, nn, cc, vv, tt⟩⟩ = r := ⟨_, rfl⟩
            rw [hd1] at hmp
            simp only at hmp
            have HMP := Lib.hid hmp
            have HSY0 := HRY.out.small
            have hyl := HSY0.2
            have HF0 : RowKit.Hid (∀ c : Int, ∃ r, findR y.rs c = r) := Lib.hid (fun c => ⟨_, rfl⟩)
            obtain ⟨⟨odY, oaY, osY, ocY, nxY, t0Y, t1Y, t2Y, t3Y, faY, fsY, fcY⟩, raY, rsY, rcY⟩ := y
            have HD1 := Lib.hid hd1
            have HSY := Lib.hid HSY0
            have HYL : RowKit.Hid (rsY.length ≤ 1000) := Lib.hid hyl
            have HS1 := Lib.hid hmp.1.small
            have HRX : RowKit.Hid (∀ y : Sv, y.Sm s1 → stB y = true) := Lib.hid (fun y hy => (stB_sm hy).trans (st_yes hmp.1))
            have HXL : RowKit.Hid (∀ y : Sv, y.Sm s1 → y.rs.length ≤ 1000) := Lib.hid (fun y hy => by rw [hy.2]; exact hmp.1.small.2)
            have HX4 : RowKit.Hid (∀ y : Sv, y.Sm s1 → y.rs.length ≤ 4) := Lib.hid (fun y hy => by rw [hy.2]; exact hmp.2.1)
            try simp only at hmp
            have HCC := Lib.hid hmp.2.2
            have HS1R := Lib.hid hmp.1
            clear hm hmp hd1 HMP HF0 hyl HSY0
            simp only [svL, hvL, List.cons_append, List.nil_append] at hp
            go_wp2_with (first | (go_at_call 23; (with_reducible refine (may_lit _ _ _ _ _ _ _ _ _ _ _ _ HM.out _).mono ?_); rintro e w1 ⟨rfl, hb⟩; replace hp := hp.call hb; clear hb) | go_skip | ((first | ((with_reducible refine pre_alloc _ rfl ?_); refine lZ hp rfl zero57 ?_; clear hp; intro b w1 hp) | ((with_reducible refine pre_box _ _ rfl ?_); refine lB hp rfl (slot_tmp rfl) rfl ?_; clear hp; intro b w1 hp) | ((with_reducible refine pre_load _ _ rfl ?_); first | refine lO hp rfl (slot_tmp rfl) ceYM4 aa14 ?_ | refine lRO hp rfl (slot_tmp rfl) ceYM4 (by first | exact HX.out 0 _ rfl | exact HX.out 1 _ rfl | exact HX.out 2 _ rfl | exact HX.out 3 _ rfl) ?_ | refine lA hp rfl (slot_tmp rfl) gaYM3 aa14 ?_ | refine lR hp rfl (slot_tmp rfl) gaYM3 HX.out ?_) | ((with_reducible refine pre_store _ _ _ rfl ?_); (first | refine sO hp rfl (slot_tmp rfl) ceYM4 aa14 ?_ | refine sA hp rfl (slot_tmp rfl) (slot_tmp rfl) gaYM3 aa14 ?_ | refine sG hp rfl (slot_tmp rfl) (slot_tmp rfl) gaYM3 aa14 ?_); clear hp; intro w1 hp; simp only [spl, List.set_cons_zero, List.set_cons_succ] at hp)); simp only [put_some, put_none, List.set_cons_succ, List.set_cons_zero]))
            apply region_merge3 (R := fun bh br y w' => RowKit.Hid (y.Sm s1) ∧ ∃ RY, RowKit.Hid (Kept RY fun w => y.Is w) ∧ Hp w.heap.size w w' (⟨br, [.int .i64 c, .int .i64 v], 34, 2⟩ :: ⟨bh, svL y, 43, 9⟩ :: ⟨b2, [.int .i64 odY, .slice oaY osY.length ocY, .int .i64 nxY, .int .i64 t0Y, .int .i64 t1Y, .int .i64 t2Y, .int .i64 t3Y, .slice faY fsY.length fcY, .slice raY rsY.length rcY], 43, 9⟩ :: (RY ++ R)))
            case h =>
              refine wp_region_keepsT [_] (Keeps.one hp.drew at0) [] (.take 0 (.take 1 (.take 2 (.take 3 (.take 4 (.three 5 (.take 6 (.take 7 (.take 8 (.two 9 (.one 10 (.one 11 (.one 12 .nil))) 10 (.one 9 (.one 11 (.one 12 .nil))))))) 9 (.two 5 (.take 6 (.take 7 (.take 8 (.one 10 (.one 11 (.one 12 .nil)))))) 10 (.one 5 (.take 6 (.take 7 (.take 8 (.one 11 (.one 12 .nil))))))) 10 (.two 5 (.take 6 (.take 7 (.take 8 (.one 9 (.one 11 (.one 12 .nil)))))) 9 (.one 5 (.take 6 (.take 7 (.take 8 (.one 11 (.one 12 .nil))))))))))))) (by kernel_rfl) (by kernel_rfl) (by kernel_rfl) (by kernel_rfl) (fun _ _ d _ _ h => by cases d <;> exact h) ?_
              replace hp := hp.drew
              repeat' (with_reducible refine tree_is ?_); first | (with_reducible refine tree_nil ?_) | ((with_reducible refine tree_take ?_); refine plan_tk rfl ?_; (first | ((with_reducible refine tk_mv _ rfl ?_); refine tM rfl ?_) | ((with_reducible refine tk_ld _ _ rfl ?_); first | refine tA rfl (slot_tmp rfl) (by with_reducible first | exact agg43 | exact agg45) aa14 ?_ | refine tR rfl (slot_tmp rfl) (by with_reducible first | exact agg43 | exact agg45) HX.out ?_) | refine tG (fun w _ => (by go_simp; try rfl)) ?_); refine tree_on ?_; try simp only [put_some, put_none, eval_tmp, eval_const, List.set_cons_succ, List.set_cons_zero, List.getD_cons_succ, List.getD_cons_zero, wrap_eq]) | ((first | refine tree_one (doT_of rfl (fun K hK => ?_)) | refine tree_two (doT_of rfl (fun K hK => ?_)) (doT_of rfl (fun K hK => ?_)) | refine tree_three (doT_of rfl (fun K hK => ?_)) (doT_of rfl (fun K hK => ?_)) (doT_of rfl (fun K hK => ?_))) <;> (go_wp2_with (first | (go_at_call 17; (with_reducible refine (apply17L odY oaY osY ocY nxY t0Y t1Y t2Y t3Y faY fsY fcY raY rsY rcY nu vi cl sq kk hh ii nn cc vv tt _ HD1.out HSY.out _ (HKY.out.at hp (fun p hm => by simp [hm]))).mono ?_); rintro e w1 ⟨y, RY, rfl, hy, hk, _, hpY⟩; replace hp := hp.join hpY; have HYN := Lib.hid hy; have HKN := Lib.hid hk; clear hpY hy hk; simp only [List.cons_append, List.nil_append, List.append_assoc] at hp) | ((with_reducible refine pre_alloc 43 rfl ?_); refine lZ hp rfl zero43 ?_; clear hp; intro bh w1 hp; simp only [put_some, put_none, List.set_cons_succ, List.set_cons_zero]) | ((with_reducible refine pre_alloc 34 rfl ?_); refine lZ hp rfl zero34 ?_; clear hp; intro br w1 hp; simp only [put_some, put_none, List.set_cons_succ, List.set_cons_zero]) | go_skip | ((first | ((with_reducible refine pre_alloc _ rfl ?_); refine lZ hp rfl zeYM0 ?_; clear hp; intro b w1 hp) | ((with_reducible refine pre_store _ _ _ rfl ?_); (first | refine sO hp rfl (slot_tmp rfl) ceYM2 aa14 ?_ | refine sA hp rfl (slot_tmp rfl) (slot_tmp rfl) gaYM1 aa14 ?_ | refine sG hp rfl (slot_tmp rfl) (slot_tmp rfl) gaYM1 aa14 ?_); clear hp; intro w1 hp; simp only [spl, List.set_cons_zero, List.set_cons_succ] at hp)); simp only [put_some, put_none, List.set_cons_succ, List.set_cons_zero])); (refine hK.out _ _ (.inr (Keeps.one hp aa14)) ?_); clear hK K; try simp only [put_some, put_none, eval_tmp, eval_const, List.set_cons_succ, List.set_cons_zero, List.getD_cons_succ, List.getD_cons_zero, wrap_eq]))
              all_goals exact ⟨bh, br, y, rfl, HYN, RY, HKN, hp.kp⟩
            rintro b6 b7 y w1 ⟨HYX, RX, HKX, hp⟩
            obtain ⟨⟨odX, oaX, osX, ocX, nxX, t0X, t1X, t2X, t3X, faX, fsX, fcX⟩, raX, rsX, rcX⟩ := y
            have h4 : rsX.length ≤ 4 := HX4.out _ HYX.out
            have e4 : decide ((4 : Int) < (rsX.length : Int)) = false := by simp; omega
            simp only [svL, hvL, List.cons_append, List.nil_append] at hp ⊢
            go_wp2_with (first | (go_at_call 22; (with_reducible refine (check22L odX oaX osX ocX nxX t0X t1X t2X t3X faX fsX fcX raX rsX rcX true (HRX.out _ HYX.out) (HS1.out.sm HYX.out.symm) _ (HKX.out.at hp (fun p hm => by simp [hm]))).mono ?_); rintro e w1 ⟨rfl, hb⟩; replace hp := hp.call hb; clear hb; unfold errS) | go_skip | ((first | ((with_reducible refine pre_alloc _ rfl ?_); refine lZ hp rfl zero57 ?_; clear hp; intro b w1 hp) | ((with_reducible refine pre_box _ _ rfl ?_); refine lB hp rfl (slot_tmp rfl) rfl ?_; clear hp; intro b w1 hp) | ((with_reducible refine pre_load _ _ rfl ?_); first | refine lO hp rfl (slot_tmp rfl) ceYM4 aa14 ?_ | refine lRO hp rfl (slot_tmp rfl) ceYM4 (by first | exact HX.out 0 _ rfl | exact HX.out 1 _ rfl | exact HX.out 2 _ rfl | exact HX.out 3 _ rfl) ?_ | refine lA hp rfl (slot_tmp rfl) gaYM3 aa14 ?_ | refine lR hp rfl (slot_tmp rfl) gaYM3 HX.out ?_) | ((with_reducible refine pre_store _ _ _ rfl ?_); (first | refine sO hp rfl (slot_tmp rfl) ceYM4 aa14 ?_ | refine sA hp rfl (slot_tmp rfl) (slot_tmp rfl) gaYM3 aa14 ?_ | refine sG hp rfl (slot_tmp rfl) (slot_tmp rfl) gaYM3 aa14 ?_); clear hp; intro w1 hp; simp only [spl, List.set_cons_zero, List.set_cons_succ] at hp)); simp only [put_some, put_none, List.set_cons_succ, List.set_cons_zero]))
            go_loopg [8] 4 (fun k i wr => ∃ (m : Nat), k + m = 5 ∧ 1 ≤ m ∧ i = .int .i64 m ∧ Hp w.heap.size w wr (⟨b7, [.int .i64 c, .int .i64 v], 34, 2⟩ :: ⟨b6, [.int .i64 odX, .slice oaX osX.length ocX, .int .i64 nxX, .int .i64 t0X, .int .i64 t1X, .int .i64 t2X, .int .i64 t3X, .slice faX fsX.length fcX, .slice raX rsX.length rcX], 43, 9⟩ :: ⟨b2, [.int .i64 odY, .slice oaY osY.length ocY, .int .i64 nxY, .int .i64 t0Y, .int .i64 t1Y, .int .i64 t2Y, .int .i64 t3Y, .slice faY fsY.length fcY, .slice raY rsY.length rcY], 43, 9⟩ :: (RX ++ R)))
            case atStart => exact ⟨1, by omega, by omega, rfl, hp⟩
            case round =>
              clear hp
              obtain ⟨m, hkm, hm1, rfl, hp⟩ := hrel
              by_cases hlm : m ≤ 4
              · obtain ⟨⟨⟨r1, r2, r3, r4⟩, b1⟩, hf1⟩ : ∃ r, findR rsY m = r := ⟨_, rfl⟩
                obtain ⟨⟨⟨q1, q2, q3, q4⟩, b3⟩, hf2⟩ : ∃ r, findR s1.rs m = r := ⟨_, rfl⟩
                obtain ⟨hle, heq⟩ := HCC.out m
                rw [hf1, hf2] at hle heq
                simp only at hle heq
                have HF1 := Lib.hid hf1
                have HF2 : RowKit.Hid (∀ y : Sv, y.Sm s1 → findR y.rs m = (⟨q1, q2, q3, q4⟩, b3)) := Lib.hid (fun y hy => by rw [hy.2]; exact hf2)
                have f3 : decide (q2 < r2) = false := decide_eq_false (by omega)
                have f4 : (m : Int) ≤ 4 := by omega
                by_cases hmc : (m : Int) = cl
                · have f5 : ((m : Int) != cl) = false := by simp [hmc]
                  clear hf1 hf2 hle heq hmc
                  go_wp2_with (first | (go_at_call 24; (with_reducible refine (find_lit odY oaY osY ocY nxY t0Y t1Y t2Y t3Y faY fsY fcY raY rsY rcY HYL.out _ _ _ _ _ _ HF1.out _ (HKY.out.at hp (fun p hm => by simp [hm]))).mono ?_); rintro e w1 ⟨rfl, hb⟩; replace hp := hp.call hb; clear hb) | (go_at_call 24; (with_reducible refine (find_lit odX oaX osX ocX nxX t0X t1X t2X t3X faX fsX fcX raX rsX rcX (HXL.out _ HYX.out) _ _ _ _ _ _ (HF2.out _ HYX.out) _ (HKX.out.at hp (fun p hm => by simp [hm]))).mono ?_); rintro e w1 ⟨rfl, hb⟩; replace hp := hp.call hb; clear hb) | go_skip | ((first | ((with_reducible refine pre_alloc _ rfl ?_); refine lZ hp rfl zero57 ?_; clear hp; intro b w1 hp) | ((with_reducible refine pre_box _ _ rfl ?_); refine lB hp rfl (slot_tmp rfl) rfl ?_; clear hp; intro b w1 hp) | ((with_reducible refine pre_load _ _ rfl ?_); first | refine lO hp rfl (slot_tmp rfl) ceYM4 aa14 ?_ | refine lRO hp rfl (slot_tmp rfl) ceYM4 (by first | exact HX.out 0 _ rfl | exact HX.out 1 _ rfl | exact HX.out 2 _ rfl | exact HX.out 3 _ rfl) ?_ | refine lA hp rfl (slot_tmp rfl) gaYM3 aa14 ?_ | refine lR hp rfl (slot_tmp rfl) gaYM3 HX.out ?_) | ((with_reducible refine pre_store _ _ _ rfl ?_); (first | refine sO hp rfl (slot_tmp rfl) ceYM4 aa14 ?_ | refine sA hp rfl (slot_tmp rfl) (slot_tmp rfl) gaYM3 aa14 ?_ | refine sG hp rfl (slot_tmp rfl) (slot_tmp rfl) gaYM3 aa14 ?_); clear hp; intro w1 hp; simp only [spl, List.set_cons_zero, List.set_cons_succ] at hp)); simp only [put_some, put_none, List.set_cons_succ, List.set_cons_zero]))
                  go_roundg (gk - 1)
                  case measure => omega
                  case rel => exact ⟨m + 1, by omega, by omega, by go_num, hp.kp⟩
                · have f5 : ((m : Int) != cl) = true := by simp [hmc]
                  have h5 := heq hmc
                  injection h5 with g1 g2 g3 g4
                  subst g1 g2 g3 g4
                  clear hf1 hf2 hle heq hmc
                  go_wp2_with (first | (go_at_call 24; (with_reducible refine (find_lit odY oaY osY ocY nxY t0Y t1Y t2Y t3Y faY fsY fcY raY rsY rcY HYL.out _ _ _ _ _ _ HF1.out _ (HKY.out.at hp (fun p hm => by simp [hm]))).mono ?_); rintro e w1 ⟨rfl, hb⟩; replace hp := hp.call hb; clear hb) | (go_at_call 24; (with_reducible refine (find_lit odX oaX osX ocX nxX t0X t1X t2X t3X faX fsX fcX raX rsX rcX (HXL.out _ HYX.out) _ _ _ _ _ _ (HF2.out _ HYX.out) _ (HKX.out.at hp (fun p hm => by simp [hm]))).mono ?_); rintro e w1 ⟨rfl, hb⟩; replace hp := hp.call hb; clear hb) | go_skip | ((first | ((with_reducible refine pre_alloc _ rfl ?_); refine lZ hp rfl zero57 ?_; clear hp; intro b w1 hp) | ((with_reducible refine pre_box _ _ rfl ?_); refine lB hp rfl (slot_tmp rfl) rfl ?_; clear hp; intro b w1 hp) | ((with_reducible refine pre_load _ _ rfl ?_); first | refine lO hp rfl (slot_tmp rfl) ceYM4 aa14 ?_ | refine lRO hp rfl (slot_tmp rfl) ceYM4 (by first | exact HX.out 0 _ rfl | exact HX.out 1 _ rfl | exact HX.out 2 _ rfl | exact HX.out 3 _ rfl) ?_ | refine lA hp rfl (slot_tmp rfl) gaYM3 aa14 ?_ | refine lR hp rfl (slot_tmp rfl) gaYM3 HX.out ?_) | ((with_reducible refine pre_store _ _ _ rfl ?_); (first | refine sO hp rfl (slot_tmp rfl) ceYM4 aa14 ?_ | refine sA hp rfl (slot_tmp rfl) (slot_tmp rfl) gaYM3 aa14 ?_ | refine sG hp rfl (slot_tmp rfl) (slot_tmp rfl) gaYM3 aa14 ?_); clear hp; intro w1 hp; simp only [spl, List.set_cons_zero, List.set_cons_succ] at hp)); simp only [put_some, put_none, List.set_cons_succ, List.set_cons_zero]))
                  go_roundg (gk - 1)
                  case measure => omega
                  case rel => exact ⟨m + 1, by omega, by omega, by go_num, hp.kp⟩
              · have f4 : decide ((m : Int) ≤ 4) = false := by simp; omega
                go_wp2_with (first | go_skip | ((first | ((with_reducible refine pre_alloc _ rfl ?_); refine lZ hp rfl zero57 ?_; clear hp; intro b w1 hp) | ((with_reducible refine pre_box _ _ rfl ?_); refine lB hp rfl (slot_tmp rfl) rfl ?_; clear hp; intro b w1 hp) | ((with_reducible refine pre_load _ _ rfl ?_); first | refine lO hp rfl (slot_tmp rfl) ceYM4 aa14 ?_ | refine lRO hp rfl (slot_tmp rfl) ceYM4 (by first | exact HX.out 0 _ rfl | exact HX.out 1 _ rfl | exact HX.out 2 _ rfl | exact HX.out 3 _ rfl) ?_ | refine lA hp rfl (slot_tmp rfl) gaYM3 aa14 ?_ | refine lR hp rfl (slot_tmp rfl) gaYM3 HX.out ?_) | ((with_reducible refine pre_store _ _ _ rfl ?_); (first | refine sO hp rfl (slot_tmp rfl) ceYM4 aa14 ?_ | refine sA hp rfl (slot_tmp rfl) (slot_tmp rfl) gaYM3 aa14 ?_ | refine sG hp rfl (slot_tmp rfl) (slot_tmp rfl) gaYM3 aa14 ?_); clear hp; intro w1 hp; simp only [spl, List.set_cons_zero, List.set_cons_succ] at hp)); simp only [put_some, put_none, List.set_cons_succ, List.set_cons_zero]))
                go_roundg (l.length - (q + 1))
                case measure => omega
                case rel => exact ⟨q + 1, ⟨⟨odX, oaX, osX, ocX, nxX, t0X, t1X, t2X, t3X, faX, fsX, fcX⟩, raX, rsX, rcX⟩, RX, by omega, by go_num, Lib.hid (StR.sm2 HS1R.out HYX.out), Lib.hid (KeptF.of HKX.out), by simp only [svL, hvL, List.cons_append, List.nil_append]; exact hp.kp⟩
        · have f2 : decide ((q : Int) < (l.length : Int)) = false := by simp; omega
          go_wp2_with (first | (go_at_call 21; (with_reducible refine (applies21 _).mono ?_); rintro e w1 ⟨rfl, hb⟩; replace hp := hp.call hb; clear hb) | go_skip | ((first | ((with_reducible refine pre_alloc _ rfl ?_); refine lZ hp rfl zero57 ?_; clear hp; intro b w1 hp) | ((with_reducible refine pre_box _ _ rfl ?_); refine lB hp rfl (slot_tmp rfl) rfl ?_; clear hp; intro b w1 hp) | ((with_reducible refine pre_load _ _ rfl ?_); first | refine lO hp rfl (slot_tmp rfl) ceYM4 aa14 ?_ | refine lRO hp rfl (slot_tmp rfl) ceYM4 (by first | exact HX.out 0 _ rfl | exact HX.out 1 _ rfl | exact HX.out 2 _ rfl | exact HX.out 3 _ rfl) ?_ | refine lA hp rfl (slot_tmp rfl) gaYM3 aa14 ?_ | refine lR hp rfl (slot_tmp rfl) gaYM3 HX.out ?_) | ((with_reducible refine pre_store _ _ _ rfl ?_); (first | refine sO hp rfl (slot_tmp rfl) ceYM4 aa14 ?_ | refine sA hp rfl (slot_tmp rfl) (slot_tmp rfl) gaYM3 aa14 ?_ | refine sG hp rfl (slot_tmp rfl) (slot_tmp rfl) gaYM3 aa14 ?_); clear hp; intro w1 hp; simp only [spl, List.set_cons_zero, List.set_cons_succ] at hp)); simp only [put_some, put_none, List.set_cons_succ, List.set_cons_zero]))
          (go_ret; exact ⟨rfl, hp.below⟩)
    · go_wp2_with (first | (go_at_call 22; (with_reducible refine (check22L od oa os oc nx t0 t1 t2 t3 fa fs fc ra rs rc _ HB.out HSS.out _ (HIS.out.below hp.below)).mono ?_); rintro e w1 ⟨rfl, hb⟩; replace hp := hp.call hb; clear hb; unfold errS) | (go_at_call 21; (with_reducible refine (applies21 _).mono ?_); rintro e w1 ⟨rfl, hb⟩; replace hp := hp.call hb; clear hb) | go_skip | ((first | ((with_reducible refine pre_alloc _ rfl ?_); refine lZ hp rfl zeYM0 ?_; clear hp; intro b w1 hp) | ((with_reducible refine pre_box _ _ rfl ?_); refine lB hp rfl (slot_tmp rfl) rfl ?_; clear hp; intro b w1 hp) | ((with_reducible refine pre_load _ _ rfl ?_); first | refine lO hp rfl (slot_tmp rfl) ceYM2 aa14 ?_ | refine lA hp rfl (slot_tmp rfl) gaYM1 aa14 ?_) | ((with_reducible refine pre_store _ _ _ rfl ?_); (first | refine sO hp rfl (slot_tmp rfl) ceYM2 aa14 ?_ | refine sA hp rfl (slot_tmp rfl) (slot_tmp rfl) gaYM1 aa14 ?_ | refine sG hp rfl (slot_tmp rfl) (slot_tmp rfl) gaYM1 aa14 ?_); clear hp; intro w1 hp; simp only [spl, List.set_cons_zero, List.set_cons_succ] at hp)); simp only [put_some, put_none, List.set_cons_succ, List.set_cons_zero]))
      (go_ret; exact ⟨rfl, hp.below⟩)
end Go.Proofs.YtppdjlgjcdmiaaaGreat
