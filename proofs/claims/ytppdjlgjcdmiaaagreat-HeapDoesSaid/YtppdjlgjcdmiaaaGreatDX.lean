/- The walk of the document's rows of operations (does). -/
import Derived.Test.YtppdjlgjcdmiaaaGreatDV
set_option linter.unusedSimpArgs false
set_option linter.unusedVariables false
namespace Go.Proofs.YtppdjlgjcdmiaaaGreat
open Go.RowKit
theorem gaDX0 {ty : TypeId} {k : Nat} (h : aggB Tryz.prog ty k = true := by with_reducible first | exact agg26 | exact agg34 | exact agg29) : aggB Tryz.prog ty k = true := h
theorem ceDX1 {ty : TypeId} (h : cellB Tryz.prog ty = true := by with_reducible first | exact cell3 | exact cell4 | exact cell32 | exact cell22) : cellB Tryz.prog ty = true := h
def dops : List Opd := [⟨1, 0, 0, 2, 1, 0, 0⟩, ⟨1, 0, 0, 3, 0, 0, 0⟩, ⟨1, 0, 0, 0, 0, 0, 0⟩, ⟨3, 1, 1, 0, 0, 7, 0⟩, ⟨6, 1, 1, 0, 0, 0, 0⟩, ⟨6, 1, 2, 0, 0, 0, 0⟩, ⟨6, 3, 0, 0, 0, 0, 0⟩, ⟨4, 1, 0, 0, 0, 0, 2⟩, ⟨5, 0, 0, 0, 0, 0, 2⟩, ⟨2, 2, 0, 0, 0, 0, 0⟩, ⟨7, 1, 0, 0, 0, 0, 0⟩, ⟨8, 0, 0, 0, 0, 0, 0⟩, ⟨1, 0, 0, 33, 0, 0, 0⟩, ⟨1, 0, 0, 3, 0, 0, 0⟩]
def dwant : List (Int × Int) := [(0, 1), (0, 2), (50, 0), (0, 0), (0, 7), (52, 0), (51, 0), (0, 0), (0, 0), (0, 0), (0, 0), (0, 0), (53, 0), (0, 3)]
def pairL (p : Int × Int) : List Value := [.int .i64 p.1, .int .i64 p.2]
theorem pairL_len (p : Int × Int) : (pairL p).length = 2 := rfl
theorem opdL_len (o : Opd) : (opdL o).length = 7 := rfl
def Hd : Nat → Hv
  | 0 => oneHv 3
  | j + 1 => (doC (Hd j) (dops.getD j ⟨0, 0, 0, 0, 0, 0, 0⟩)).1
theorem hd_right : ∀ j, HRight (Hd j)
  | 0 => hright_of (hright_one (by decide) (by decide))
  | j + 1 => doC_right (hd_right j) _
theorem hd_want : ∀ j : Fin 14, (doC (Hd j.val) (dops.getD j.val ⟨0, 0, 0, 0, 0, 0, 0⟩)).2 = dwant.getD j.val (0, 0) := by decide +kernel
theorem hd_two : (Hd 14).os.length = 2 := by decide +kernel
theorem zero29 : zeroL Tryz.prog 29 = some ([.int .i64 0, .int .i64 0, .int .i64 0, .int .i64 0, .int .i64 0, .int .i64 0, .int .i64 0], 7) := by kernel_rfl
set_option maxRecDepth 100000 in
set_option maxHeartbeats 4000000 in
theorem alloc35 (n k : Int) (w : World) : Calls Tryz.prog 35 #[.int .i64 n, .int .i64 k] w fun e w' => e = .returned (.agg #[.int .i64 1, .int .i64 0, .int .i64 0, .int .i64 n, .int .i64 k, .int .i64 0, .int .i64 0]) ∧ Below w.heap.size w w' := by
  have hp := Hp.start w
  go_enter Tryz.func35, Tryz.ntmps35
  go_wp2_with (first | ((with_reducible refine pre_alloc 29 rfl ?_); refine lZ hp rfl zero29 ?_; clear hp; intro b w1 hp; simp only [put_some, put_none, List.set_cons_succ, List.set_cons_zero]) | go_skip | ((first | ((with_reducible refine pre_alloc _ rfl ?_); refine lZ hp rfl (by with_reducible first | exact zero34 | exact zero26) ?_; clear hp; intro b w1 hp) | ((with_reducible refine pre_box _ _ rfl ?_); refine lB hp rfl (slot_tmp rfl) rfl ?_; clear hp; intro b w1 hp) | ((with_reducible refine pre_load _ _ rfl ?_); first | refine lO hp rfl (slot_tmp rfl) ceDX1 aa5 ?_ | refine lA hp rfl (slot_tmp rfl) gaDX0 aa5 ?_) | ((with_reducible refine pre_store _ _ _ rfl ?_); (first | refine sO hp rfl (slot_tmp rfl) ceDX1 aa5 ?_ | refine sA hp rfl (slot_tmp rfl) (slot_tmp rfl) gaDX0 aa5 ?_ | refine sG hp rfl (slot_tmp rfl) (slot_tmp rfl) gaDX0 aa5 ?_); clear hp; intro w1 hp; simp only [spl, List.set_cons_zero, List.set_cons_succ] at hp) | ((with_reducible refine pre_build _ _ _ rfl ?_); refine lS hp rfl (by intro w; go_simp; rfl) ?_; clear hp; intro b w1 hp; simp only [List.length_cons, List.length_nil, Nat.reduceAdd] at hp)); simp only [put_some, put_none, List.set_cons_succ, List.set_cons_zero]))
  exact bodyPost_ret (results_one (rs := [.cell 4 29]) Tryz.results35 (.cell rfl (hp.loadAgg agg29 at0 0 _ (by rfl) (by rfl)) .nil)) rfl ⟨rfl, hp.below⟩
set_option maxRecDepth 100000 in
set_option maxHeartbeats 16000000 in
theorem does14 (w : World) : Calls Tryz.prog 14 #[] w fun e w' => e = .returned (.bool true) ∧ Below w.heap.size w w' := by
  have hp := Hp.start w
  go_enter Tryz.func14, Tryz.ntmps14
  go_wp2_with (first | (go_at_call 34; (with_reducible refine (new_3 _).mono ?_); rintro e w1 ⟨⟨od, oa, os, oc, nx, t0, t1, t2, t3, fa, fs, fc⟩, R, rfl, hsm, hk, hp5⟩; replace hp := hp.join hp5; have HK := Lib.hid hk; have HSM := Lib.hid hsm; clear hp5 hk hsm; simp only [hvL, List.cons_append, List.nil_append, List.append_assoc] at hp ⊢) | (go_at_call 35; (with_reducible refine (alloc35 _ _ _).mono ?_); rintro e w1 ⟨rfl, hb⟩; replace hp := hp.call hb; clear hb) | go_skip | ((first | ((with_reducible refine pre_alloc _ rfl ?_); refine lZ hp rfl (by with_reducible first | exact zero34 | exact zero26) ?_; clear hp; intro b w1 hp) | ((with_reducible refine pre_box _ _ rfl ?_); refine lB hp rfl (slot_tmp rfl) rfl ?_; clear hp; intro b w1 hp) | ((with_reducible refine pre_load _ _ rfl ?_); first | refine lO hp rfl (slot_tmp rfl) ceDX1 aa5 ?_ | refine lA hp rfl (slot_tmp rfl) gaDX0 aa5 ?_) | ((with_reducible refine pre_store _ _ _ rfl ?_); (first | refine sO hp rfl (slot_tmp rfl) ceDX1 aa5 ?_ | refine sA hp rfl (slot_tmp rfl) (slot_tmp rfl) gaDX0 aa5 ?_ | refine sG hp rfl (slot_tmp rfl) (slot_tmp rfl) gaDX0 aa5 ?_); clear hp; intro w1 hp; simp only [spl, List.set_cons_zero, List.set_cons_succ] at hp) | ((with_reducible refine pre_build _ _ _ rfl ?_); refine lS hp rfl (by intro w; go_simp; rfl) ?_; clear hp; intro b w1 hp; simp only [List.length_cons, List.length_nil, Nat.reduceAdd] at hp)); simp only [put_some, put_none, List.set_cons_succ, List.set_cons_zero]))
  obtain ⟨bt, rfl⟩ := hp.id0
  obtain ⟨bl, rfl⟩ := hp.id1
  obtain ⟨b1, rfl⟩ := hp.id2
  replace hp := (show Hp w.heap.size w w1 (⟨bt, dwant.flatMap pairL, 34, 28⟩ :: ⟨bl, dops.flatMap opdL, 29, 98⟩ :: ⟨b1, hvL ⟨od, oa, os, oc, nx, t0, t1, t2, t3, fa, fs, fc⟩, 26, 8⟩ :: R) from hp)
  obtain ⟨xo, hxo⟩ : ∃ l, l = dops.flatMap opdL := ⟨_, rfl⟩
  obtain ⟨xw, hxw⟩ : ∃ l, l = dwant.flatMap pairL := ⟨_, rfl⟩
  rw [← hxo, ← hxw] at hp
  have HXO := Lib.hid hxo
  have HXW := Lib.hid hxw
  clear hxo hxw
  go_loopg [5] 14 (fun k i wr => ∃ (j : Nat) (y : Hv) (R : List Blk), k + j = 14 ∧ i = .int .i64 j ∧ RowKit.Hid (y.Sm (Hd j)) ∧ RowKit.Hid (Kept R fun w => y.Is w) ∧ Hp w.heap.size w wr (⟨bt, xw, 34, 28⟩ :: ⟨bl, xo, 29, 98⟩ :: ⟨b1, hvL y, 26, 8⟩ :: R))
  case atStart => exact ⟨0, _, R, by omega, rfl, HSM, HK, hp⟩
  case round =>
    clear hp HK HSM
    obtain ⟨j, y, R, hkj, rfl, HSM, HK, hp⟩ := hrel
    by_cases hlt : j < 14
    · have hj : dops[j]? = some (dops.getD j ⟨0, 0, 0, 0, 0, 0, 0⟩) := by rw [List.getD_eq_getElem?_getD, List.getElem?_eq_getElem (show j < dops.length from hlt)]; rfl
      have hw : dwant[j]? = some (dwant.getD j (0, 0)) := by rw [List.getD_eq_getElem?_getD, List.getElem?_eq_getElem (show j < dwant.length from hlt)]; rfl
      have hxa := flat_at 7 opdL_len hj
      have hxb := flat_at 2 pairL_len hw
      have hd := doP_sm HSM.out (dops.getD j ⟨0, 0, 0, 0, 0, 0, 0⟩)
      have hr := hd_right j
      rw [doP_yes hr, hd_want ⟨j, hlt⟩] at hd
      have hss := hr.small.sm HSM.out.symm
      rw [← HXO.out] at hxa
      rw [← HXW.out] at hxb
      have hstep : (doC (Hd j) (dops.getD j ⟨0, 0, 0, 0, 0, 0, 0⟩)).1 = Hd (j + 1) := rfl
      rw [hstep] at hd
      generalize dops.getD j ⟨0, 0, 0, 0, 0, 0, 0⟩ = op at hxa hd
      generalize dwant.getD j (0, 0) = wt at hxb hd
      obtain ⟨r, hrr⟩ : ∃ r, doP y op = r := ⟨_, rfl⟩
      rw [hrr] at hd
      obtain ⟨s, rc, rv⟩ := r
      obtain ⟨hd1, hd2⟩ := hd
      simp only at hd1 hd2
      subst hd1
      have HST := Lib.hid hd2
      obtain ⟨kk, hh, ii, nn, cc, vv, tt⟩ := op
      obtain ⟨od, oa, os, oc, nx, t0, t1, t2, t3, fa, fs, fc⟩ := y
      have HDP := Lib.hid hrr
      have HSS := Lib.hid hss
      have HXA := Lib.hid hxa
      have HXB := Lib.hid hxb
      simp only [opdL] at HXA
      simp only [pairL] at HXB
      simp only [hvL] at hp
      clear hj hw hxa hxb hr hss hrr hd2 hstep
      have e1 : (0 : Int) ≤ (j : Int) := by omega
      have e2 : (j : Int) < 14 := by omega
      go_wp2_with (first | go_skip | ((first | ((with_reducible refine pre_alloc _ rfl ?_); refine lZ hp rfl (by with_reducible first | exact zero34 | exact zero26) ?_; clear hp; intro b w1 hp) | ((with_reducible refine pre_box _ _ rfl ?_); refine lB hp rfl (slot_tmp rfl) rfl ?_; clear hp; intro b w1 hp) | ((with_reducible refine pre_load _ _ rfl ?_); first | refine lO hp rfl (slot_tmp rfl) ceDX1 aa5 ?_ | refine lA hp rfl (slot_tmp rfl) gaDX0 aa5 ?_) | ((with_reducible refine pre_store _ _ _ rfl ?_); (first | refine sO hp rfl (slot_tmp rfl) ceDX1 aa5 ?_ | refine sA hp rfl (slot_tmp rfl) (slot_tmp rfl) gaDX0 aa5 ?_ | refine sG hp rfl (slot_tmp rfl) (slot_tmp rfl) gaDX0 aa5 ?_); clear hp; intro w1 hp; simp only [spl, List.set_cons_zero, List.set_cons_succ] at hp) | ((with_reducible refine pre_build _ _ _ rfl ?_); refine lS hp rfl (by intro w; go_simp; rfl) ?_; clear hp; intro b w1 hp; simp only [List.length_cons, List.length_nil, Nat.reduceAdd] at hp)); simp only [put_some, put_none, List.set_cons_succ, List.set_cons_zero]))
      refine wp_region_keepsT [_, _, _] (Keeps.three hp.drew at0 at1 at2) [] (.take 0 (.take 1 (.take 2 (.take 3 (.take 4 (.three 5 (.take 6 (.take 7 (.take 8 (.two 9 (.one 10 (.one 11 (.one 12 .nil))) 10 (.one 9 (.one 11 (.one 12 .nil))))))) 9 (.two 5 (.take 6 (.take 7 (.take 8 (.one 10 (.one 11 (.one 12 .nil)))))) 10 (.one 5 (.take 6 (.take 7 (.take 8 (.one 11 (.one 12 .nil))))))) 10 (.two 5 (.take 6 (.take 7 (.take 8 (.one 9 (.one 11 (.one 12 .nil)))))) 9 (.one 5 (.take 6 (.take 7 (.take 8 (.one 11 (.one 12 .nil))))))))))))) (by kernel_rfl) (by kernel_rfl) (by kernel_rfl) (by kernel_rfl) (fun _ _ d _ _ h => by cases d <;> exact h) ?_
      replace hp := hp.drew
      repeat' (with_reducible refine tree_is ?_); first | (with_reducible refine tree_nil ?_) | ((with_reducible refine tree_take ?_); refine plan_tk rfl ?_; (first | ((with_reducible refine tk_mv _ rfl ?_); refine tM rfl ?_) | ((with_reducible refine tk_ld _ _ rfl ?_); first | refine tL rfl (slot_tmp rfl) (fun w hS => hS.loadAgg agg29 at1 _ _ HXA.out rfl) ?_ | refine tA rfl (slot_tmp rfl) agg26 aa5 ?_) | refine tG (fun w _ => (by go_simp; try rfl)) ?_); refine tree_on ?_; try simp only [put_some, put_none, eval_tmp, eval_const, List.set_cons_succ, List.set_cons_zero, List.getD_cons_succ, List.getD_cons_zero, wrap_eq]) | ((first | refine tree_one (doT_of rfl (fun K hK => ?_)) | refine tree_two (doT_of rfl (fun K hK => ?_)) (doT_of rfl (fun K hK => ?_)) | refine tree_three (doT_of rfl (fun K hK => ?_)) (doT_of rfl (fun K hK => ?_)) (doT_of rfl (fun K hK => ?_))) <;> (go_wp2_with (first | (go_at_call 10; (with_reducible refine (doh10L od oa os oc nx t0 t1 t2 t3 fa fs fc kk hh ii nn cc vv tt _ HDP.out HSS.out _ (HK.out.at hp (fun p hm => by simp [hm]))).mono ?_); rintro e w1 ⟨⟨od2, oa2, os2, oc2, nx2, t02, t12, t22, t32, fa2, fs2, fc2⟩, R2, rfl, hy2, hk2, _, hpx⟩; replace hp := hp.join hpx; have HK2 := Lib.hid hk2; have HY2 := Lib.hid hy2; clear hpx hk2 hy2; simp only [hvL, List.cons_append, List.nil_append, List.append_assoc] at hp ⊢) | ((with_reducible refine pre_alloc 26 rfl ?_); refine lZ hp rfl zero26 ?_; clear hp; intro bh w1 hp; simp only [put_some, put_none, List.set_cons_succ, List.set_cons_zero]) | ((with_reducible refine pre_alloc 34 rfl ?_); refine lZ hp rfl zero34 ?_; clear hp; intro br w1 hp; simp only [put_some, put_none, List.set_cons_succ, List.set_cons_zero]) | go_skip | ((first | ((with_reducible refine pre_alloc _ rfl ?_); refine lZ hp rfl (by with_reducible first | exact zero34 | exact zero26) ?_; clear hp; intro b w1 hp) | ((with_reducible refine pre_store _ _ _ rfl ?_); (first | refine sO hp rfl (slot_tmp rfl) ceDX1 aa5 ?_ | refine sA hp rfl (slot_tmp rfl) (slot_tmp rfl) gaDX0 aa5 ?_ | refine sG hp rfl (slot_tmp rfl) (slot_tmp rfl) gaDX0 aa5 ?_); clear hp; intro w1 hp; simp only [spl, List.set_cons_zero, List.set_cons_succ] at hp)); simp only [put_some, put_none, List.set_cons_succ, List.set_cons_zero])); (refine hK.out _ _ (.inr (Keeps.three hp aa5 aa5 aa5)) ?_); clear hK K; try simp only [put_some, put_none, eval_tmp, eval_const, List.set_cons_succ, List.set_cons_zero, List.getD_cons_succ, List.getD_cons_zero, wrap_eq]))
      all_goals
        replace hp := hp.kp (L' := ⟨br, [.int .i64 rc, .int .i64 rv], 34, 2⟩ :: ⟨bt, xw, 34, 28⟩ :: ⟨bh, [.int .i64 od2, .slice oa2 os2.length oc2, .int .i64 nx2, .int .i64 t02, .int .i64 t12, .int .i64 t22, .int .i64 t32, .slice fa2 fs2.length fc2], 26, 8⟩ :: ⟨b1, [.int .i64 od, .slice oa os.length oc, .int .i64 nx, .int .i64 t0, .int .i64 t1, .int .i64 t2, .int .i64 t3, .slice fa fs.length fc], 26, 8⟩ :: ⟨bl, xo, 29, 98⟩ :: R2)
        go_wp2_with (first | go_skip | ((first | ((with_reducible refine pre_alloc _ rfl ?_); refine lZ hp rfl (by with_reducible first | exact zero34 | exact zero26) ?_; clear hp; intro b w1 hp) | ((with_reducible refine pre_box _ _ rfl ?_); refine lB hp rfl (slot_tmp rfl) rfl ?_; clear hp; intro b w1 hp) | ((with_reducible refine pre_load _ _ rfl ?_); first | refine lO hp rfl (slot_tmp rfl) ceDX1 aa5 ?_ | refine lA hp rfl (slot_tmp rfl) gaDX0 aa5 ?_) | ((with_reducible refine pre_store _ _ _ rfl ?_); (first | refine sO hp rfl (slot_tmp rfl) ceDX1 aa5 ?_ | refine sA hp rfl (slot_tmp rfl) (slot_tmp rfl) gaDX0 aa5 ?_ | refine sG hp rfl (slot_tmp rfl) (slot_tmp rfl) gaDX0 aa5 ?_); clear hp; intro w1 hp; simp only [spl, List.set_cons_zero, List.set_cons_succ] at hp) | ((with_reducible refine pre_build _ _ _ rfl ?_); refine lS hp rfl (by intro w; go_simp; rfl) ?_; clear hp; intro b w1 hp; simp only [List.length_cons, List.length_nil, Nat.reduceAdd] at hp)); simp only [put_some, put_none, List.set_cons_succ, List.set_cons_zero]))
        refine wp_region_keeps [_, _] (Keeps.two hp.drew at0 at1) [] [(0, true), (1, true), (2, true), (3, true), (4, true), (5, true)] (by kernel_rfl) (by kernel_rfl) rfl (by kernel_rfl) (fun _ _ d _ _ h => by cases d <;> exact h) ?_
        replace hp := hp.drew
        repeat' (with_reducible refine plan_is ?_); first | (with_reducible refine plan_nil ?_) | ((with_reducible refine plan_t ?_); refine plan_tk rfl ?_; (first | ((with_reducible refine tk_mv _ rfl ?_); refine tM rfl ?_) | ((with_reducible refine tk_ld _ _ rfl ?_); first | refine tL rfl (slot_tmp rfl) (fun w hS => hS.loadAgg agg34 at1 _ _ HXB.out rfl) ?_ | refine tA rfl (slot_tmp rfl) agg34 aa5 ?_) | refine tG (fun w _ => (by go_simp; try rfl)) ?_); try simp only [put_some, put_none, eval_tmp, eval_const, List.set_cons_succ, List.set_cons_zero, List.getD_cons_succ, List.getD_cons_zero, wrap_eq])
        go_wp2_with (first | go_skip | ((first | ((with_reducible refine pre_alloc _ rfl ?_); refine lZ hp rfl (by with_reducible first | exact zero34 | exact zero26) ?_; clear hp; intro b w1 hp) | ((with_reducible refine pre_box _ _ rfl ?_); refine lB hp rfl (slot_tmp rfl) rfl ?_; clear hp; intro b w1 hp) | ((with_reducible refine pre_load _ _ rfl ?_); first | refine lO hp rfl (slot_tmp rfl) ceDX1 aa5 ?_ | refine lA hp rfl (slot_tmp rfl) gaDX0 aa5 ?_) | ((with_reducible refine pre_store _ _ _ rfl ?_); (first | refine sO hp rfl (slot_tmp rfl) ceDX1 aa5 ?_ | refine sA hp rfl (slot_tmp rfl) (slot_tmp rfl) gaDX0 aa5 ?_ | refine sG hp rfl (slot_tmp rfl) (slot_tmp rfl) gaDX0 aa5 ?_); clear hp; intro w1 hp; simp only [spl, List.set_cons_zero, List.set_cons_succ] at hp) | ((with_reducible refine pre_build _ _ _ rfl ?_); refine lS hp rfl (by intro w; go_simp; rfl) ?_; clear hp; intro b w1 hp; simp only [List.length_cons, List.length_nil, Nat.reduceAdd] at hp)); simp only [put_some, put_none, List.set_cons_succ, List.set_cons_zero]))
        go_roundg (gk - 1)
        case measure => omega
        case rel => exact ⟨j + 1, ⟨od2, oa2, os2, oc2, nx2, t02, t12, t22, t32, fa2, fs2, fc2⟩, R2, by omega, by go_num, Lib.hid (HY2.out.trans HST.out), HK2, by simp only [hvL]; exact hp.kp⟩
    · obtain rfl : j = 14 := by omega
      have hl : y.os.length = 2 := by rw [HSM.out.os.1]; exact hd_two
      obtain ⟨od, oa, os, oc, nx, t0, t1, t2, t3, fa, fs, fc⟩ := y
      simp only at hl
      simp only [hvL] at hp
      have e3 : ((os.length : Int) == 2) = true := by rw [hl]; rfl
      have e4 : (os.length == 2) = true := by rw [hl]; rfl
      clear hl
      go_wp2_with (first | go_skip | ((first | ((with_reducible refine pre_alloc _ rfl ?_); refine lZ hp rfl (by with_reducible first | exact zero34 | exact zero26) ?_; clear hp; intro b w1 hp) | ((with_reducible refine pre_box _ _ rfl ?_); refine lB hp rfl (slot_tmp rfl) rfl ?_; clear hp; intro b w1 hp) | ((with_reducible refine pre_load _ _ rfl ?_); first | refine lO hp rfl (slot_tmp rfl) ceDX1 aa5 ?_ | refine lA hp rfl (slot_tmp rfl) gaDX0 aa5 ?_) | ((with_reducible refine pre_store _ _ _ rfl ?_); (first | refine sO hp rfl (slot_tmp rfl) ceDX1 aa5 ?_ | refine sA hp rfl (slot_tmp rfl) (slot_tmp rfl) gaDX0 aa5 ?_ | refine sG hp rfl (slot_tmp rfl) (slot_tmp rfl) gaDX0 aa5 ?_); clear hp; intro w1 hp; simp only [spl, List.set_cons_zero, List.set_cons_succ] at hp) | ((with_reducible refine pre_build _ _ _ rfl ?_); refine lS hp rfl (by intro w; go_simp; rfl) ?_; clear hp; intro b w1 hp; simp only [List.length_cons, List.length_nil, Nat.reduceAdd] at hp)); simp only [put_some, put_none, List.set_cons_succ, List.set_cons_zero]))
      go_ret
      exact ⟨rfl, hp.below⟩
end Go.Proofs.YtppdjlgjcdmiaaaGreat
