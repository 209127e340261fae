/- The walk of the document's free. -/
import Derived.Test.YtppdjlgjcdmiaaaGreatEA
set_option linter.unusedSimpArgs false
set_option linter.unusedVariables false
namespace Go.Proofs.YtppdjlgjcdmiaaaGreat
open Go.RowKit
theorem zeEF0 {ty : TypeId} {l : List Value} {n : Nat} (h : zeroL Tryz.prog ty = some (l, n) := by with_reducible first | exact zero26 | exact zero34 | exact zero67) : zeroL Tryz.prog ty = some (l, n) := h
theorem gaEF1 {ty : TypeId} {k : Nat} (h : aggB Tryz.prog ty k = true := by with_reducible first | exact agg26 | exact agg67 | exact agg64 | exact agg34) : aggB Tryz.prog ty k = true := h
theorem ceEF2 {ty : TypeId} (h : cellB Tryz.prog ty = true := by with_reducible first | exact cell3 | exact cell4 | exact cell65 | exact cell22 | exact cell24) : cellB Tryz.prog ty = true := h
theorem ints_get {l : List Int} {q : Nat} {t : Int} (h : l[q]? = some t) : (l.flatMap iV)[q]? = some (.int .i64 t) := by rw [ints_map, List.getElem?_map, h]; rfl
theorem ints_set {l : List Int} {q : Nat} (t : Int) : (l.flatMap iV).set q (.int .i64 t) = (l.set q t).flatMap iV := by rw [ints_map, ints_map, List.map_set]
def stayAt (i : Nat) (os : List Ob) (q : Nat) : List Ob := (os.take q).eraseIdx i
theorem stay_zero (i : Nat) (os : List Ob) : stayAt i os 0 = [] := by simp [stayAt]
theorem stay_all (i : Nat) (os : List Ob) : stayAt i os os.length = os.eraseIdx i := by simp [stayAt]
theorem stay_same {i : Nat} {os : List Ob} {x : Ob} (h : os[i]? = some x) : stayAt i os (i + 1) = stayAt i os i := by
  have hlt := (List.getElem?_eq_some_iff.1 h).1
  unfold stayAt
  rw [List.take_add_one, h]
  have hl : (os.take i).length = i := by rw [List.length_take]; omega
  rw [List.eraseIdx_append_of_length_le (by omega), hl, Nat.sub_self, List.eraseIdx_of_length_le (l := os.take i) (by omega)]
  simp
theorem stay_step {i : Nat} {os : List Ob} {q : Nat} {x : Ob} (h : os[q]? = some x) (hq : q ≠ i) : stayAt i os (q + 1) = stayAt i os q ++ [x] := by
  have hlt := (List.getElem?_eq_some_iff.1 h).1
  unfold stayAt
  rw [List.take_add_one, h]
  have hl : (os.take q).length = q := by rw [List.length_take]; omega
  rcases Nat.lt_or_ge i q with hi | hi
  · rw [List.eraseIdx_append_of_lt_length (by omega)]; rfl
  · rw [List.eraseIdx_of_length_le (l := os.take q) (by omega), List.eraseIdx_of_length_le]
    · rfl
    · simp; omega
theorem stay_le (i : Nat) (os : List Ob) (q : Nat) : (stayAt i os q).length ≤ q := by
  unfold stayAt
  have h1 := List.length_eraseIdx_le (os.take q) i
  have h2 : (os.take q).length ≤ q := by rw [List.length_take]; omega
  omega
theorem erase_map {α β : Type} (f : α → β) (l : List α) : ∀ i, (l.map f).eraseIdx i = (l.eraseIdx i).map f := by
  induction l with
  | nil => intro i; rfl
  | cons x l ih => intro i; cases i with
    | zero => rfl
    | succ i => simp [ih]
def TopsAt (gh t0 t1 t2 t3 : Int) (k : Nat) (iv : Value) (a b c d : Int) : Prop :=
  (k = 4 ∧ iv = .int .i64 0 ∧ a = t0 ∧ b = t1 ∧ c = t2 ∧ d = t3) ∨ (k = 3 ∧ iv = .int .i64 1 ∧ a = cutI gh t0 ∧ b = t1 ∧ c = t2 ∧ d = t3) ∨ (k = 2 ∧ iv = .int .i64 2 ∧ a = cutI gh t0 ∧ b = cutI gh t1 ∧ c = t2 ∧ d = t3) ∨
  (k = 1 ∧ iv = .int .i64 3 ∧ a = cutI gh t0 ∧ b = cutI gh t1 ∧ c = cutI gh t2 ∧ d = t3) ∨ (k = 0 ∧ iv = .int .i64 4 ∧ a = cutI gh t0 ∧ b = cutI gh t1 ∧ c = cutI gh t2 ∧ d = cutI gh t3)
theorem cutI_ways (gh t : Int) : ((t == gh) = true ∧ RowKit.Hid (cutI gh t = 0)) ∨ ((t == gh) = false ∧ RowKit.Hid (cutI gh t = t)) := by
  by_cases h : t = gh
  · exact .inl ⟨by simp [h], Lib.hid (if_pos h)⟩
  · exact .inr ⟨by simp [h], Lib.hid (if_neg h)⟩
def FreeRel (B : Nat) (w0 : World) (L : List Blk) (Z : List Blk) (gh : Int) (i : Nat) (os : List Ob) (q : Nat) (v : Value) (wr : World) : Prop :=
  ∃ (Mq RL : List Blk), RowKit.Hid (OwnRow 67 5 v (stayAt i os q).length ((stayAt i os q).flatMap obV) RL) ∧ RowKit.Hid (ObsR (cutsAt gh os q) Mq) ∧ Hp B w0 wr (L ++ (RL ++ (Mq ++ Z)))
set_option maxRecDepth 100000 in
set_option maxHeartbeats 16000000 in
theorem free96 (x : Hv) (hx : HRight x) (i : Nat) (g : Ob) (hg : x.os[i]? = some g) {B : Nat} {w0 w : World} {K : List Blk} (hW : RefAt B w0 w x K) :
    Calls Tryz.prog 96 #[.agg (hvL x).toArray, .int .i64 i] w (RefPost B w0 (freeH x i g) 0 0 K) := by
  obtain ⟨i0, hi0, hz0, hz1, hz2⟩ := info_parts info67
  obtain ⟨RO, RF, M, ⟨ho, hf, hm⟩, hp⟩ := hW
  obtain ⟨hgm, hgn⟩ := hx.give hg
  obtain ⟨⟨hol, hosm⟩, hfl⟩ := hx.small
  have hfr := hx.free
  obtain ⟨od, oa, os, oc, nx, t0, t1, t2, t3, fa, fs, fc⟩ := x
  simp only at ho hf hm hg hol hosm hfl hgm hgn hfr
  simp only [hvL]
  have hlt := (List.getElem?_eq_some_iff.1 hg).1
  obtain ⟨go_, rfl, hn, hmx, rfl, hlen⟩ := ho.own (by omega)
  have HXA := Lib.hid (flat_at 5 obV_len hg)
  have HLT := Lib.hid hlt
  have HRF := Lib.hid hf.keptS
  have HGM := Lib.hid hgm
  have HGN := Lib.hid hgn
  have HFR := Lib.hid hfr
  have HM := Lib.hid hm
  have HG0 := Lib.hid hg
  have HSM : RowKit.Hid (∀ o ∈ os, o.ls.length ≤ 5000) := Lib.hid (fun o ho => (hosm o ho).2)
  have e1 : (0 : Int) ≤ (i : Int) := by omega
  have e2 : (i : Int) < (os.length : Int) := by omega
  have e3 : (i : Int) ≤ 1000 := by omega
  clear hg hosm hn hmx hlen hgm hgn hfr hm ho hf hx
  simp only [List.cons_append, List.nil_append] at hp
  go_enter Tryz.func96, Tryz.ntmps96
  obtain ⟨gh, gp, go, gwa, gws, gwc, gla, gls, glc⟩ := g
  simp only [obV, obBl] at HXA HGM HGN
  go_wp2_with (first | ((with_reducible refine pre_load 67 _ rfl ?_); refine lA hp rfl (slot_tmp rfl) agg67 at3 ?_ (hv := HXA.out); simp only [put_some, put_none, List.set_cons_succ, List.set_cons_zero]) | go_skip | ((first | ((with_reducible refine pre_alloc _ rfl ?_); refine lZ hp rfl zeEF0 ?_; clear hp; intro b w1 hp) | ((with_reducible refine pre_box _ _ rfl ?_); refine lB hp rfl (slot_tmp rfl) rfl ?_; clear hp; intro b w1 hp) | ((with_reducible refine pre_load _ _ rfl ?_); first | refine lO hp rfl (slot_tmp rfl) ceEF2 aa14 ?_ | refine lA hp rfl (slot_tmp rfl) gaEF1 aa14 ?_) | ((with_reducible refine pre_store _ _ _ rfl ?_); (first | refine sO hp rfl (slot_tmp rfl) ceEF2 aa14 ?_ | refine sA hp rfl (slot_tmp rfl) (slot_tmp rfl) gaEF1 aa14 ?_ | refine sG hp rfl (slot_tmp rfl) (slot_tmp rfl) gaEF1 aa14 ?_); clear hp; intro w1 hp; simp only [spl, List.set_cons_zero, List.set_cons_succ] at hp) | ((with_reducible refine pre_build _ _ _ rfl ?_); refine lS hp rfl (by intro w; go_simp; rfl) ?_; clear hp; intro b w1 hp; simp only [List.length_cons, List.length_nil, Nat.reduceAdd] at hp)); simp only [put_some, put_none, List.set_cons_succ, List.set_cons_zero]))
  obtain ⟨bg, rfl⟩ := hp.id0
  obtain ⟨br, rfl⟩ := hp.id1
  obtain ⟨bG, rfl⟩ := hp.id2
  obtain ⟨bH, rfl⟩ := hp.id3
  clear HXA e2
  go_loopg [7, 8] os.length (fun k v iv wr => ∃ q : Nat, k + q = os.length ∧ iv = .int .i64 q ∧ FreeRel B w0 [⟨bg, [.int .i64 gh, .int .i64 gp, .int .i64 go, .slice gwa gws.length gwc, .slice gla gls.length glc], 67, 5⟩, ⟨br, [.int .i64 0, .int .i64 0], 34, 2⟩, ⟨bG, [.int .i64 0, .slice none 0 0, .int .i64 0, .int .i64 0, .int .i64 0, .int .i64 0, .int .i64 0, .slice none 0 0], 26, 8⟩, ⟨bH, [.int .i64 od, .slice (some ⟨go_, 0, none⟩) os.length oc, .int .i64 nx, .int .i64 t0, .int .i64 t1, .int .i64 t2, .int .i64 t3, .slice fa fs.length fc], 26, 8⟩, ⟨go_, os.flatMap obV, 67, oc * 5⟩] (RF ++ K) gh i os q v wr)
  case atStart =>
    refine ⟨0, by omega, rfl, M, [], Lib.hid (by rw [stay_zero]; exact OwnRow.nil _ _), Lib.hid (by rw [cutsAt_zero]; exact HM.out), hp.kp⟩
  case round =>
    clear hp
    obtain ⟨q, hkq, rfl, Mq, RL, HR, HMQ, hp⟩ := hrel
    simp only [List.cons_append, List.nil_append] at hp
    by_cases hlq : q < os.length
    · obtain ⟨x, hj⟩ : ∃ x, os[q]? = some x := ⟨_, List.getElem?_eq_getElem hlq⟩
      have hls := HSM.out _ (List.mem_of_getElem? hj)
      have hxa := flat_at 5 obV_len hj
      obtain ⟨N1, R, N2, rfl, hox, hnew, _⟩ := HMQ.out.at_ (cutsAt_get (h := gh) hj)
      have hst := cutsAt_step (h := gh) hj
      obtain ⟨Rw, Rl, rfl, hrw, hrl⟩ := hox
      have HNEW := Lib.hid hnew
      have HST := Lib.hid hst
      have HXB := Lib.hid hxa
      have HRW := Lib.hid hrw
      have HJ := Lib.hid hj
      have HRL0 := Lib.hid hrl
      clear hnew hst hxa hj hrw hrl HMQ
      obtain ⟨xh, xp, xo, wa, ws, wc, la, ls, lc⟩ := x
      simp only [obV] at HXB
      simp only at hls HRW HRL0
      have f1 : (0 : Int) ≤ (q : Int) := by omega
      have f2 : (q : Int) < (os.length : Int) := by omega
      go_wp2_with (first | ((with_reducible refine pre_load 67 _ rfl ?_); refine lA hp rfl (slot_tmp rfl) agg67 at4 ?_ (hv := HXB.out); simp only [put_some, put_none, List.set_cons_succ, List.set_cons_zero]) | go_skip | ((first | ((with_reducible refine pre_alloc _ rfl ?_); refine lZ hp rfl zeEF0 ?_; clear hp; intro b w1 hp) | ((with_reducible refine pre_box _ _ rfl ?_); refine lB hp rfl (slot_tmp rfl) rfl ?_; clear hp; intro b w1 hp) | ((with_reducible refine pre_load _ _ rfl ?_); first | refine lO hp rfl (slot_tmp rfl) ceEF2 aa14 ?_ | refine lA hp rfl (slot_tmp rfl) gaEF1 aa14 ?_) | ((with_reducible refine pre_store _ _ _ rfl ?_); (first | refine sO hp rfl (slot_tmp rfl) ceEF2 aa14 ?_ | refine sA hp rfl (slot_tmp rfl) (slot_tmp rfl) gaEF1 aa14 ?_ | refine sG hp rfl (slot_tmp rfl) (slot_tmp rfl) gaEF1 aa14 ?_); clear hp; intro w1 hp; simp only [spl, List.set_cons_zero, List.set_cons_succ] at hp) | ((with_reducible refine pre_build _ _ _ rfl ?_); refine lS hp rfl (by intro w; go_simp; rfl) ?_; clear hp; intro b w1 hp; simp only [List.length_cons, List.length_nil, Nat.reduceAdd] at hp)); simp only [put_some, put_none, List.set_cons_succ, List.set_cons_zero]))
      obtain ⟨bx, rfl⟩ := hp.id0
      go_loopg [10] ls.length (fun k jv wr => ∃ (j : Nat) (Rl : List Blk), k + j = ls.length ∧ jv = .int .i64 j ∧ RowKit.Hid (OwnRow 3 1 (.slice la ls.length lc) ls.length ((cutAt gh ls j).flatMap iV) Rl) ∧
        Hp B w0 wr (⟨bx, [.int .i64 xh, .int .i64 xp, .int .i64 xo, .slice wa ws.length wc, .slice la ls.length lc], 67, 5⟩ :: ⟨bg, [.int .i64 gh, .int .i64 gp, .int .i64 go, .slice gwa gws.length gwc, .slice gla gls.length glc], 67, 5⟩ :: ⟨br, [.int .i64 0, .int .i64 0], 34, 2⟩ :: ⟨bG, [.int .i64 0, .slice none 0 0, .int .i64 0, .int .i64 0, .int .i64 0, .int .i64 0, .int .i64 0, .slice none 0 0], 26, 8⟩ :: ⟨bH, [.int .i64 od, .slice (some ⟨go_, 0, none⟩) os.length oc, .int .i64 nx, .int .i64 t0, .int .i64 t1, .int .i64 t2, .int .i64 t3, .slice fa fs.length fc], 26, 8⟩ :: ⟨go_, os.flatMap obV, 67, oc * 5⟩ :: (Rl ++ (RL ++ (Rw ++ (N1 ++ (N2 ++ (RF ++ K))))))))
      case atStart => exact ⟨0, Rl, by omega, rfl, by rw [cutAt_zero]; exact HRL0, hp.kp⟩
      case round =>
        clear hp
        obtain ⟨j, Rl, hkj, rfl, HRL, hp⟩ := hrel
        by_cases hlj : j < ls.length
        · obtain ⟨gl, rfl, hn, hmx, rfl, hlen⟩ := HRL.out.own (by omega)
          obtain ⟨t, hj⟩ : ∃ t, ls[j]? = some t := ⟨_, List.getElem?_eq_getElem hlj⟩
          have hg := ints_get (cutAt_get (h := gh) hj)
          have hstep := cutAt_step (h := gh) hj
          have hset := ints_set (l := cutAt gh ls j) (q := j) 0
          have hof2 : j < ((cutAt gh ls j).flatMap iV).length := by rw [ints_len, cutAt_len]; omega
          have hself := set_self (cutAt_get (h := gh) hj)
          have HNX := Lib.hid hn
          have HMX := Lib.hid hmx
          have g1 : (0 : Int) ≤ (j : Int) := by omega
          have g2 : (j : Int) < (ls.length : Int) := by omega
          simp only [List.cons_append, List.nil_append] at hp
          by_cases he : t = gh
          · have e3 : (t == gh) = true := by simp [he]
            rw [show cutI gh t = 0 by unfold cutI; rw [if_pos he]] at hstep
            rw [← hstep] at hset
            have HST2 := Lib.hid hset
            have HG := Lib.hid hg
            have HOF := Lib.hid hof2
            clear hj hg hstep hset hof2 hself he hn hmx hlen
            generalize (cutAt gh ls j).flatMap iV = cells at hp HST2 HG HOF HRL
            go_wp2_with (first | go_skip | ((first | ((with_reducible refine pre_alloc _ rfl ?_); refine lZ hp rfl zeEF0 ?_; clear hp; intro b w1 hp) | ((with_reducible refine pre_box _ _ rfl ?_); refine lB hp rfl (slot_tmp rfl) rfl ?_; clear hp; intro b w1 hp) | ((with_reducible refine pre_load _ _ rfl ?_); first | refine lO hp rfl (slot_tmp rfl) ceEF2 aa14 ?_ | refine lA hp rfl (slot_tmp rfl) gaEF1 aa14 ?_) | ((with_reducible refine pre_store _ _ _ rfl ?_); (first | refine sO hp rfl (slot_tmp rfl) ceEF2 aa14 ?_ | refine sA hp rfl (slot_tmp rfl) (slot_tmp rfl) gaEF1 aa14 ?_ | refine sG hp rfl (slot_tmp rfl) (slot_tmp rfl) gaEF1 aa14 ?_); clear hp; intro w1 hp; simp only [spl, List.set_cons_zero, List.set_cons_succ] at hp) | ((with_reducible refine pre_build _ _ _ rfl ?_); refine lS hp rfl (by intro w; go_simp; rfl) ?_; clear hp; intro b w1 hp; simp only [List.length_cons, List.length_nil, Nat.reduceAdd] at hp)); simp only [put_some, put_none, List.set_cons_succ, List.set_cons_zero]))
            refine wp_region_keeps [_, _, _] (Keeps.three hp.drew at0 at1 at6) [] [(0, true), (1, true), (2, true), (3, true), (4, true), (5, true), (6, true), (7, true)] (by kernel_rfl) (by kernel_rfl) rfl (by kernel_rfl) (fun _ _ d _ _ h => by cases d <;> exact h) ?_
            replace hp := hp.drew
            repeat' (with_reducible refine plan_is ?_); first | (with_reducible refine plan_nil ?_) | ((with_reducible refine plan_t ?_); refine plan_tk rfl ?_; (first | ((with_reducible refine tk_mv _ rfl ?_); refine tM rfl ?_) | ((with_reducible refine tk_ld _ _ rfl ?_); first | refine tL rfl (slot_tmp rfl) (fun w hS => hS.loadOne cell3 at2 _ _ HG.out) ?_ | refine tO rfl (slot_tmp rfl) (by with_reducible first | exact cell3 | exact cell65) aa14 ?_) | refine tG (fun w _ => (by go_simp; try rfl)) ?_); try simp only [put_some, put_none, eval_tmp, eval_const, List.set_cons_succ, List.set_cons_zero, List.getD_cons_succ, List.getD_cons_zero, wrap_eq])
            go_wp2_with (first | ((with_reducible refine pre_store 3 _ _ rfl ?_); refine sO hp rfl (slot_tmp rfl) cell3 at6 ?_ (hlen := HOF.out); clear hp; intro w1 hp; simp only [List.set_cons_succ, List.set_cons_zero] at hp; simp only [put_some, put_none, List.set_cons_succ, List.set_cons_zero]) | go_skip | ((first | ((with_reducible refine pre_alloc _ rfl ?_); refine lZ hp rfl zeEF0 ?_; clear hp; intro b w1 hp) | ((with_reducible refine pre_box _ _ rfl ?_); refine lB hp rfl (slot_tmp rfl) rfl ?_; clear hp; intro b w1 hp) | ((with_reducible refine pre_load _ _ rfl ?_); first | refine lO hp rfl (slot_tmp rfl) ceEF2 aa14 ?_ | refine lA hp rfl (slot_tmp rfl) gaEF1 aa14 ?_) | ((with_reducible refine pre_store _ _ _ rfl ?_); (first | refine sO hp rfl (slot_tmp rfl) ceEF2 aa14 ?_ | refine sA hp rfl (slot_tmp rfl) (slot_tmp rfl) gaEF1 aa14 ?_ | refine sG hp rfl (slot_tmp rfl) (slot_tmp rfl) gaEF1 aa14 ?_); clear hp; intro w1 hp; simp only [spl, List.set_cons_zero, List.set_cons_succ] at hp) | ((with_reducible refine pre_build _ _ _ rfl ?_); refine lS hp rfl (by intro w; go_simp; rfl) ?_; clear hp; intro b w1 hp; simp only [List.length_cons, List.length_nil, Nat.reduceAdd] at hp)); simp only [put_some, put_none, List.set_cons_succ, List.set_cons_zero]))
            go_roundg (gk - 1)
            case measure => omega
            case rel => exact ⟨j + 1, [⟨gl, (cutAt gh ls (j + 1)).flatMap iV, 3, lc * 1⟩], by omega, by go_num, Lib.hid ⟨by rw [ints_len, cutAt_len], .inr ⟨gl, lc, rfl, HNX.out, HMX.out, rfl⟩⟩, by rw [← HST2.out]; exact hp⟩
          · have e3 : (t == gh) = false := by simp [he]
            rw [show cutI gh t = t by unfold cutI; rw [if_neg he], hself] at hstep
            have HST2 : RowKit.Hid ((cutAt gh ls (j + 1)).flatMap iV = (cutAt gh ls j).flatMap iV) := Lib.hid (by rw [hstep])
            have HG := Lib.hid hg
            clear hj hg hstep hset hof2 hself he hn hmx hlen
            generalize (cutAt gh ls j).flatMap iV = cells at hp HST2 HG HRL
            go_wp2_with (first | go_skip | ((first | ((with_reducible refine pre_alloc _ rfl ?_); refine lZ hp rfl zeEF0 ?_; clear hp; intro b w1 hp) | ((with_reducible refine pre_box _ _ rfl ?_); refine lB hp rfl (slot_tmp rfl) rfl ?_; clear hp; intro b w1 hp) | ((with_reducible refine pre_load _ _ rfl ?_); first | refine lO hp rfl (slot_tmp rfl) ceEF2 aa14 ?_ | refine lA hp rfl (slot_tmp rfl) gaEF1 aa14 ?_) | ((with_reducible refine pre_store _ _ _ rfl ?_); (first | refine sO hp rfl (slot_tmp rfl) ceEF2 aa14 ?_ | refine sA hp rfl (slot_tmp rfl) (slot_tmp rfl) gaEF1 aa14 ?_ | refine sG hp rfl (slot_tmp rfl) (slot_tmp rfl) gaEF1 aa14 ?_); clear hp; intro w1 hp; simp only [spl, List.set_cons_zero, List.set_cons_succ] at hp) | ((with_reducible refine pre_build _ _ _ rfl ?_); refine lS hp rfl (by intro w; go_simp; rfl) ?_; clear hp; intro b w1 hp; simp only [List.length_cons, List.length_nil, Nat.reduceAdd] at hp)); simp only [put_some, put_none, List.set_cons_succ, List.set_cons_zero]))
            refine wp_region_keeps [_, _, _] (Keeps.three hp.drew at0 at1 at6) [] [(0, true), (1, true), (2, true), (3, true), (4, true), (5, true), (6, true), (7, true)] (by kernel_rfl) (by kernel_rfl) rfl (by kernel_rfl) (fun _ _ d _ _ h => by cases d <;> exact h) ?_
            replace hp := hp.drew
            repeat' (with_reducible refine plan_is ?_); first | (with_reducible refine plan_nil ?_) | ((with_reducible refine plan_t ?_); refine plan_tk rfl ?_; (first | ((with_reducible refine tk_mv _ rfl ?_); refine tM rfl ?_) | ((with_reducible refine tk_ld _ _ rfl ?_); first | refine tL rfl (slot_tmp rfl) (fun w hS => hS.loadOne cell3 at2 _ _ HG.out) ?_ | refine tO rfl (slot_tmp rfl) (by with_reducible first | exact cell3 | exact cell65) aa14 ?_) | refine tG (fun w _ => (by go_simp; try rfl)) ?_); try simp only [put_some, put_none, eval_tmp, eval_const, List.set_cons_succ, List.set_cons_zero, List.getD_cons_succ, List.getD_cons_zero, wrap_eq])
            go_wp2_with (first | go_skip | ((first | ((with_reducible refine pre_alloc _ rfl ?_); refine lZ hp rfl zeEF0 ?_; clear hp; intro b w1 hp) | ((with_reducible refine pre_box _ _ rfl ?_); refine lB hp rfl (slot_tmp rfl) rfl ?_; clear hp; intro b w1 hp) | ((with_reducible refine pre_load _ _ rfl ?_); first | refine lO hp rfl (slot_tmp rfl) ceEF2 aa14 ?_ | refine lA hp rfl (slot_tmp rfl) gaEF1 aa14 ?_) | ((with_reducible refine pre_store _ _ _ rfl ?_); (first | refine sO hp rfl (slot_tmp rfl) ceEF2 aa14 ?_ | refine sA hp rfl (slot_tmp rfl) (slot_tmp rfl) gaEF1 aa14 ?_ | refine sG hp rfl (slot_tmp rfl) (slot_tmp rfl) gaEF1 aa14 ?_); clear hp; intro w1 hp; simp only [spl, List.set_cons_zero, List.set_cons_succ] at hp) | ((with_reducible refine pre_build _ _ _ rfl ?_); refine lS hp rfl (by intro w; go_simp; rfl) ?_; clear hp; intro b w1 hp; simp only [List.length_cons, List.length_nil, Nat.reduceAdd] at hp)); simp only [put_some, put_none, List.set_cons_succ, List.set_cons_zero]))
            go_roundg (gk - 1)
            case measure => omega
            case rel => exact ⟨j + 1, [⟨gl, (cutAt gh ls (j + 1)).flatMap iV, 3, lc * 1⟩], by omega, by go_num, Lib.hid ⟨by rw [ints_len, cutAt_len], .inr ⟨gl, lc, rfl, HNX.out, HMX.out, rfl⟩⟩, by rw [HST2.out]; exact hp⟩
        · obtain rfl : j = ls.length := by omega
          have hrl := HRL.out
          rw [cutAt_all] at hrl
          have HNW : RowKit.Hid (ObsR (cutsAt gh os (q + 1)) (N1 ++ ((Rw ++ Rl) ++ N2))) := Lib.hid (by rw [HST.out]; exact HNEW.out _ _ ⟨Rw, Rl, rfl, HRW.out, by simp only [cutO, List.length_map]; exact hrl⟩)
          have g2 : decide ((ls.length : Int) < (ls.length : Int)) = false := by simp
          clear HRL HNEW HST HRL0 HRW hrl
          by_cases hqi : q = i
          · have e4 : ((q : Int) == (i : Int)) = true := by simp [hqi]
            have HSY := Lib.hid (by rw [hqi] at HJ ⊢; exact stay_same HJ.out : stayAt i os (q + 1) = stayAt i os q)
            clear hqi
            go_wp2_with (first | go_skip | ((first | ((with_reducible refine pre_alloc _ rfl ?_); refine lZ hp rfl zeEF0 ?_; clear hp; intro b w1 hp) | ((with_reducible refine pre_box _ _ rfl ?_); refine lB hp rfl (slot_tmp rfl) rfl ?_; clear hp; intro b w1 hp) | ((with_reducible refine pre_load _ _ rfl ?_); first | refine lO hp rfl (slot_tmp rfl) ceEF2 aa14 ?_ | refine lA hp rfl (slot_tmp rfl) gaEF1 aa14 ?_) | ((with_reducible refine pre_store _ _ _ rfl ?_); (first | refine sO hp rfl (slot_tmp rfl) ceEF2 aa14 ?_ | refine sA hp rfl (slot_tmp rfl) (slot_tmp rfl) gaEF1 aa14 ?_ | refine sG hp rfl (slot_tmp rfl) (slot_tmp rfl) gaEF1 aa14 ?_); clear hp; intro w1 hp; simp only [spl, List.set_cons_zero, List.set_cons_succ] at hp) | ((with_reducible refine pre_build _ _ _ rfl ?_); refine lS hp rfl (by intro w; go_simp; rfl) ?_; clear hp; intro b w1 hp; simp only [List.length_cons, List.length_nil, Nat.reduceAdd] at hp)); simp only [put_some, put_none, List.set_cons_succ, List.set_cons_zero]))
            go_roundg (os.length - (q + 1))
            case measure => omega
            case rel => exact ⟨q + 1, by omega, by go_num, N1 ++ ((Rw ++ Rl) ++ N2), RL, Lib.hid (by rw [HSY.out]; exact HR.out), HNW, hp.kp⟩
          · have e4 : ((q : Int) == (i : Int)) = false := by simp; omega
            have HSY := Lib.hid (stay_step HJ.out hqi)
            have hsl := stay_le i os q
            have sm5 : (stayAt i os q).length + 1 ≤ maxLen := by unfold maxLen; omega
            have sm6 : ((stayAt i os q).length + 1) * 72 ≤ 140737488355328 := by omega
            clear hqi
            replace hp := hp.kp (L' := ⟨bx, [.int .i64 xh, .int .i64 xp, .int .i64 xo, .slice wa ws.length wc, .slice la ls.length lc], 67, 5⟩ :: ⟨bg, [.int .i64 gh, .int .i64 gp, .int .i64 go, .slice gwa gws.length gwc, .slice gla gls.length glc], 67, 5⟩ :: ⟨br, [.int .i64 0, .int .i64 0], 34, 2⟩ :: ⟨bG, [.int .i64 0, .slice none 0 0, .int .i64 0, .int .i64 0, .int .i64 0, .int .i64 0, .int .i64 0, .slice none 0 0], 26, 8⟩ :: ⟨bH, [.int .i64 od, .slice (some ⟨go_, 0, none⟩) os.length oc, .int .i64 nx, .int .i64 t0, .int .i64 t1, .int .i64 t2, .int .i64 t3, .slice fa fs.length fc], 26, 8⟩ :: ⟨go_, os.flatMap obV, 67, oc * 5⟩ :: (RL ++ (Rw ++ (Rl ++ (N1 ++ (N2 ++ (RF ++ K)))))))
            go_wp2_with (first | ((with_reducible refine pre_append _ _ 22 rfl ?_); refine wpList_appendGrow (K := [_, _, _, _, _, _]) hp _ _ _ rfl wy i0 _ 72 Tryz.underlying22 hi0 hz0 hz1 hz2 rfl (by decide) (slot_tmp rfl) HR.out 1 1 (slot_tmp rfl) (by rfl) (by decide) (by rfl) sm5 sm6 ?_; clear hp HR; intro v' R' w1 hR' hp; have HR' := Lib.hid hR'; clear hR'; simp only [List.cons_append, List.nil_append] at hp; simp only [put_some, put_none, List.set_cons_succ, List.set_cons_zero]) | go_skip | ((first | ((with_reducible refine pre_alloc _ rfl ?_); refine lZ hp rfl zeEF0 ?_; clear hp; intro b w1 hp) | ((with_reducible refine pre_box _ _ rfl ?_); refine lB hp rfl (slot_tmp rfl) rfl ?_; clear hp; intro b w1 hp) | ((with_reducible refine pre_load _ _ rfl ?_); first | refine lO hp rfl (slot_tmp rfl) ceEF2 aa14 ?_ | refine lA hp rfl (slot_tmp rfl) gaEF1 aa14 ?_) | ((with_reducible refine pre_store _ _ _ rfl ?_); (first | refine sO hp rfl (slot_tmp rfl) ceEF2 aa14 ?_ | refine sA hp rfl (slot_tmp rfl) (slot_tmp rfl) gaEF1 aa14 ?_ | refine sG hp rfl (slot_tmp rfl) (slot_tmp rfl) gaEF1 aa14 ?_); clear hp; intro w1 hp; simp only [spl, List.set_cons_zero, List.set_cons_succ] at hp) | ((with_reducible refine pre_build _ _ _ rfl ?_); refine lS hp rfl (by intro w; go_simp; rfl) ?_; clear hp; intro b w1 hp; simp only [List.length_cons, List.length_nil, Nat.reduceAdd] at hp)); simp only [put_some, put_none, List.set_cons_succ, List.set_cons_zero]))
            go_roundg (os.length - (q + 1))
            case measure => omega
            case rel => exact ⟨q + 1, by omega, by go_num, N1 ++ ((Rw ++ Rl) ++ N2), R', Lib.hid (by rw [HSY.out, obs_snoc, List.length_append]; exact HR'.out), HNW, hp.kp⟩
    · obtain rfl : q = os.length := by omega
      have f2 : decide ((os.length : Int) < (os.length : Int)) = false := by simp
      have hr := HR.out
      rw [stay_all] at hr
      obtain ⟨a3, c3, rfl, _⟩ := hr.kept
      have hmq := HMQ.out
      rw [cutsAt_all] at hmq
      obtain ⟨M1, RX, M2, rfl, _, _, her⟩ := hmq.at_ (by rw [List.getElem?_map, HG0.out]; rfl)
      rw [erase_map] at her
      have HER := Lib.hid her
      have HRE := Lib.hid hr
      clear hr hmq her HMQ HR HM HG0 HSM
      go_wp2_with (first | go_skip | ((first | ((with_reducible refine pre_alloc _ rfl ?_); refine lZ hp rfl zeEF0 ?_; clear hp; intro b w1 hp) | ((with_reducible refine pre_box _ _ rfl ?_); refine lB hp rfl (slot_tmp rfl) rfl ?_; clear hp; intro b w1 hp) | ((with_reducible refine pre_load _ _ rfl ?_); first | refine lO hp rfl (slot_tmp rfl) ceEF2 aa14 ?_ | refine lA hp rfl (slot_tmp rfl) gaEF1 aa14 ?_) | ((with_reducible refine pre_store _ _ _ rfl ?_); (first | refine sO hp rfl (slot_tmp rfl) ceEF2 aa14 ?_ | refine sA hp rfl (slot_tmp rfl) (slot_tmp rfl) gaEF1 aa14 ?_ | refine sG hp rfl (slot_tmp rfl) (slot_tmp rfl) gaEF1 aa14 ?_); clear hp; intro w1 hp; simp only [spl, List.set_cons_zero, List.set_cons_succ] at hp) | ((with_reducible refine pre_build _ _ _ rfl ?_); refine lS hp rfl (by intro w; go_simp; rfl) ?_; clear hp; intro b w1 hp; simp only [List.length_cons, List.length_nil, Nat.reduceAdd] at hp)); simp only [put_some, put_none, List.set_cons_succ, List.set_cons_zero]))
      clear f2
      go_loopg [11] 4 (fun k iv wr => ∃ (a b c d : Int), TopsAt gh t0 t1 t2 t3 k iv a b c d ∧ Hp B w0 wr (⟨bg, [.int .i64 gh, .int .i64 gp, .int .i64 go, .slice gwa gws.length gwc, .slice gla gls.length glc], 67, 5⟩ :: ⟨br, [.int .i64 0, .int .i64 0], 34, 2⟩ :: ⟨bG, [.int .i64 0, .slice none 0 0, .int .i64 0, .int .i64 0, .int .i64 0, .int .i64 0, .int .i64 0, .slice none 0 0], 26, 8⟩ :: ⟨bH, [.int .i64 od, .slice (some ⟨go_, 0, none⟩) os.length oc, .int .i64 nx, .int .i64 a, .int .i64 b, .int .i64 c, .int .i64 d, .slice fa fs.length fc], 26, 8⟩ :: ⟨go_, os.flatMap obV, 67, oc * 5⟩ :: (RL ++ ((M1 ++ (RX ++ M2)) ++ (RF ++ K)))))
      case atStart => exact ⟨t0, t1, t2, t3, .inl ⟨rfl, rfl, rfl, rfl, rfl, rfl⟩, hp⟩
      case round =>
       clear hp
       obtain ⟨a, b, c, d, hto, hp⟩ := hrel
       rcases hto with ⟨rfl, rfl, ha, hb, hc, hd⟩ | ⟨rfl, rfl, ha, hb, hc, hd⟩ | ⟨rfl, rfl, ha, hb, hc, hd⟩ | ⟨rfl, rfl, ha, hb, hc, hd⟩ | ⟨rfl, rfl, ha, hb, hc, hd⟩
       all_goals
         rw [ha, hb, hc, hd] at hp
         clear ha hb hc hd a b c d
       · rcases cutI_ways gh t0 with ⟨e5, HC⟩ | ⟨e5, HC⟩
         all_goals
           go_wp2_with (first | go_skip | ((first | ((with_reducible refine pre_alloc _ rfl ?_); refine lZ hp rfl zeEF0 ?_; clear hp; intro b w1 hp) | ((with_reducible refine pre_box _ _ rfl ?_); refine lB hp rfl (slot_tmp rfl) rfl ?_; clear hp; intro b w1 hp) | ((with_reducible refine pre_load _ _ rfl ?_); first | refine lO hp rfl (slot_tmp rfl) ceEF2 aa14 ?_ | refine lA hp rfl (slot_tmp rfl) gaEF1 aa14 ?_) | ((with_reducible refine pre_store _ _ _ rfl ?_); (first | refine sO hp rfl (slot_tmp rfl) ceEF2 aa14 ?_ | refine sA hp rfl (slot_tmp rfl) (slot_tmp rfl) gaEF1 aa14 ?_ | refine sG hp rfl (slot_tmp rfl) (slot_tmp rfl) gaEF1 aa14 ?_); clear hp; intro w1 hp; simp only [spl, List.set_cons_zero, List.set_cons_succ] at hp) | ((with_reducible refine pre_build _ _ _ rfl ?_); refine lS hp rfl (by intro w; go_simp; rfl) ?_; clear hp; intro b w1 hp; simp only [List.length_cons, List.length_nil, Nat.reduceAdd] at hp)); simp only [put_some, put_none, List.set_cons_succ, List.set_cons_zero]))
           refine wp_region_keeps [_, _] (Keeps.two hp.drew at0 at3) [] [(0, true), (1, true), (2, true), (3, true), (4, true), (5, true), (6, true)] (by kernel_rfl) (by kernel_rfl) rfl (by kernel_rfl) (fun _ _ d _ _ h => by cases d <;> exact h) ?_
           replace hp := hp.drew
           repeat' (with_reducible refine plan_is ?_); first | (with_reducible refine plan_nil ?_) | ((with_reducible refine plan_t ?_); refine plan_tk rfl ?_; (first | ((with_reducible refine tk_mv _ rfl ?_); refine tM rfl ?_) | ((with_reducible refine tk_ld _ _ rfl ?_); refine tO rfl (slot_tmp rfl) cell3 aa14 ?_) | refine tG (fun w _ => (by go_simp; try rfl)) ?_); try simp only [put_some, put_none, eval_tmp, eval_const, List.set_cons_succ, List.set_cons_zero, List.getD_cons_succ, List.getD_cons_zero, wrap_eq])
           go_wp2_with (first | go_skip | ((first | ((with_reducible refine pre_alloc _ rfl ?_); refine lZ hp rfl zeEF0 ?_; clear hp; intro b w1 hp) | ((with_reducible refine pre_box _ _ rfl ?_); refine lB hp rfl (slot_tmp rfl) rfl ?_; clear hp; intro b w1 hp) | ((with_reducible refine pre_load _ _ rfl ?_); first | refine lO hp rfl (slot_tmp rfl) ceEF2 aa14 ?_ | refine lA hp rfl (slot_tmp rfl) gaEF1 aa14 ?_) | ((with_reducible refine pre_store _ _ _ rfl ?_); (first | refine sO hp rfl (slot_tmp rfl) ceEF2 aa14 ?_ | refine sA hp rfl (slot_tmp rfl) (slot_tmp rfl) gaEF1 aa14 ?_ | refine sG hp rfl (slot_tmp rfl) (slot_tmp rfl) gaEF1 aa14 ?_); clear hp; intro w1 hp; simp only [spl, List.set_cons_zero, List.set_cons_succ] at hp) | ((with_reducible refine pre_build _ _ _ rfl ?_); refine lS hp rfl (by intro w; go_simp; rfl) ?_; clear hp; intro b w1 hp; simp only [List.length_cons, List.length_nil, Nat.reduceAdd] at hp)); simp only [put_some, put_none, List.set_cons_succ, List.set_cons_zero]))
           go_roundg 3
           case measure => omega
           case rel => exact ⟨cutI gh t0, t1, t2, t3, .inr (.inl ⟨rfl, rfl, rfl, rfl, rfl, rfl⟩), by rw [HC.out]; exact hp⟩
       · rcases cutI_ways gh t1 with ⟨e5, HC⟩ | ⟨e5, HC⟩
         all_goals
           go_wp2_with (first | go_skip | ((first | ((with_reducible refine pre_alloc _ rfl ?_); refine lZ hp rfl zeEF0 ?_; clear hp; intro b w1 hp) | ((with_reducible refine pre_box _ _ rfl ?_); refine lB hp rfl (slot_tmp rfl) rfl ?_; clear hp; intro b w1 hp) | ((with_reducible refine pre_load _ _ rfl ?_); first | refine lO hp rfl (slot_tmp rfl) ceEF2 aa14 ?_ | refine lA hp rfl (slot_tmp rfl) gaEF1 aa14 ?_) | ((with_reducible refine pre_store _ _ _ rfl ?_); (first | refine sO hp rfl (slot_tmp rfl) ceEF2 aa14 ?_ | refine sA hp rfl (slot_tmp rfl) (slot_tmp rfl) gaEF1 aa14 ?_ | refine sG hp rfl (slot_tmp rfl) (slot_tmp rfl) gaEF1 aa14 ?_); clear hp; intro w1 hp; simp only [spl, List.set_cons_zero, List.set_cons_succ] at hp) | ((with_reducible refine pre_build _ _ _ rfl ?_); refine lS hp rfl (by intro w; go_simp; rfl) ?_; clear hp; intro b w1 hp; simp only [List.length_cons, List.length_nil, Nat.reduceAdd] at hp)); simp only [put_some, put_none, List.set_cons_succ, List.set_cons_zero]))
           refine wp_region_keeps [_, _] (Keeps.two hp.drew at0 at3) [] [(0, true), (1, true), (2, true), (3, true), (4, true), (5, true), (6, true)] (by kernel_rfl) (by kernel_rfl) rfl (by kernel_rfl) (fun _ _ d _ _ h => by cases d <;> exact h) ?_
           replace hp := hp.drew
           repeat' (with_reducible refine plan_is ?_); first | (with_reducible refine plan_nil ?_) | ((with_reducible refine plan_t ?_); refine plan_tk rfl ?_; (first | ((with_reducible refine tk_mv _ rfl ?_); refine tM rfl ?_) | ((with_reducible refine tk_ld _ _ rfl ?_); refine tO rfl (slot_tmp rfl) cell3 aa14 ?_) | refine tG (fun w _ => (by go_simp; try rfl)) ?_); try simp only [put_some, put_none, eval_tmp, eval_const, List.set_cons_succ, List.set_cons_zero, List.getD_cons_succ, List.getD_cons_zero, wrap_eq])
           go_wp2_with (first | go_skip | ((first | ((with_reducible refine pre_alloc _ rfl ?_); refine lZ hp rfl zeEF0 ?_; clear hp; intro b w1 hp) | ((with_reducible refine pre_box _ _ rfl ?_); refine lB hp rfl (slot_tmp rfl) rfl ?_; clear hp; intro b w1 hp) | ((with_reducible refine pre_load _ _ rfl ?_); first | refine lO hp rfl (slot_tmp rfl) ceEF2 aa14 ?_ | refine lA hp rfl (slot_tmp rfl) gaEF1 aa14 ?_) | ((with_reducible refine pre_store _ _ _ rfl ?_); (first | refine sO hp rfl (slot_tmp rfl) ceEF2 aa14 ?_ | refine sA hp rfl (slot_tmp rfl) (slot_tmp rfl) gaEF1 aa14 ?_ | refine sG hp rfl (slot_tmp rfl) (slot_tmp rfl) gaEF1 aa14 ?_); clear hp; intro w1 hp; simp only [spl, List.set_cons_zero, List.set_cons_succ] at hp) | ((with_reducible refine pre_build _ _ _ rfl ?_); refine lS hp rfl (by intro w; go_simp; rfl) ?_; clear hp; intro b w1 hp; simp only [List.length_cons, List.length_nil, Nat.reduceAdd] at hp)); simp only [put_some, put_none, List.set_cons_succ, List.set_cons_zero]))
           go_roundg 2
           case measure => omega
           case rel => exact ⟨cutI gh t0, cutI gh t1, t2, t3, .inr (.inr (.inl ⟨rfl, rfl, rfl, rfl, rfl, rfl⟩)), by rw [HC.out]; exact hp⟩
       · rcases cutI_ways gh t2 with ⟨e5, HC⟩ | ⟨e5, HC⟩
         all_goals
           go_wp2_with (first | go_skip | ((first | ((with_reducible refine pre_alloc _ rfl ?_); refine lZ hp rfl zeEF0 ?_; clear hp; intro b w1 hp) | ((with_reducible refine pre_box _ _ rfl ?_); refine lB hp rfl (slot_tmp rfl) rfl ?_; clear hp; intro b w1 hp) | ((with_reducible refine pre_load _ _ rfl ?_); first | refine lO hp rfl (slot_tmp rfl) ceEF2 aa14 ?_ | refine lA hp rfl (slot_tmp rfl) gaEF1 aa14 ?_) | ((with_reducible refine pre_store _ _ _ rfl ?_); (first | refine sO hp rfl (slot_tmp rfl) ceEF2 aa14 ?_ | refine sA hp rfl (slot_tmp rfl) (slot_tmp rfl) gaEF1 aa14 ?_ | refine sG hp rfl (slot_tmp rfl) (slot_tmp rfl) gaEF1 aa14 ?_); clear hp; intro w1 hp; simp only [spl, List.set_cons_zero, List.set_cons_succ] at hp) | ((with_reducible refine pre_build _ _ _ rfl ?_); refine lS hp rfl (by intro w; go_simp; rfl) ?_; clear hp; intro b w1 hp; simp only [List.length_cons, List.length_nil, Nat.reduceAdd] at hp)); simp only [put_some, put_none, List.set_cons_succ, List.set_cons_zero]))
           refine wp_region_keeps [_, _] (Keeps.two hp.drew at0 at3) [] [(0, true), (1, true), (2, true), (3, true), (4, true), (5, true), (6, true)] (by kernel_rfl) (by kernel_rfl) rfl (by kernel_rfl) (fun _ _ d _ _ h => by cases d <;> exact h) ?_
           replace hp := hp.drew
           repeat' (with_reducible refine plan_is ?_); first | (with_reducible refine plan_nil ?_) | ((with_reducible refine plan_t ?_); refine plan_tk rfl ?_; (first | ((with_reducible refine tk_mv _ rfl ?_); refine tM rfl ?_) | ((with_reducible refine tk_ld _ _ rfl ?_); refine tO rfl (slot_tmp rfl) cell3 aa14 ?_) | refine tG (fun w _ => (by go_simp; try rfl)) ?_); try simp only [put_some, put_none, eval_tmp, eval_const, List.set_cons_succ, List.set_cons_zero, List.getD_cons_succ, List.getD_cons_zero, wrap_eq])
           go_wp2_with (first | go_skip | ((first | ((with_reducible refine pre_alloc _ rfl ?_); refine lZ hp rfl zeEF0 ?_; clear hp; intro b w1 hp) | ((with_reducible refine pre_box _ _ rfl ?_); refine lB hp rfl (slot_tmp rfl) rfl ?_; clear hp; intro b w1 hp) | ((with_reducible refine pre_load _ _ rfl ?_); first | refine lO hp rfl (slot_tmp rfl) ceEF2 aa14 ?_ | refine lA hp rfl (slot_tmp rfl) gaEF1 aa14 ?_) | ((with_reducible refine pre_store _ _ _ rfl ?_); (first | refine sO hp rfl (slot_tmp rfl) ceEF2 aa14 ?_ | refine sA hp rfl (slot_tmp rfl) (slot_tmp rfl) gaEF1 aa14 ?_ | refine sG hp rfl (slot_tmp rfl) (slot_tmp rfl) gaEF1 aa14 ?_); clear hp; intro w1 hp; simp only [spl, List.set_cons_zero, List.set_cons_succ] at hp) | ((with_reducible refine pre_build _ _ _ rfl ?_); refine lS hp rfl (by intro w; go_simp; rfl) ?_; clear hp; intro b w1 hp; simp only [List.length_cons, List.length_nil, Nat.reduceAdd] at hp)); simp only [put_some, put_none, List.set_cons_succ, List.set_cons_zero]))
           go_roundg 1
           case measure => omega
           case rel => exact ⟨cutI gh t0, cutI gh t1, cutI gh t2, t3, .inr (.inr (.inr (.inl ⟨rfl, rfl, rfl, rfl, rfl, rfl⟩))), by rw [HC.out]; exact hp⟩
       · rcases cutI_ways gh t3 with ⟨e5, HC⟩ | ⟨e5, HC⟩
         all_goals
           go_wp2_with (first | go_skip | ((first | ((with_reducible refine pre_alloc _ rfl ?_); refine lZ hp rfl zeEF0 ?_; clear hp; intro b w1 hp) | ((with_reducible refine pre_box _ _ rfl ?_); refine lB hp rfl (slot_tmp rfl) rfl ?_; clear hp; intro b w1 hp) | ((with_reducible refine pre_load _ _ rfl ?_); first | refine lO hp rfl (slot_tmp rfl) ceEF2 aa14 ?_ | refine lA hp rfl (slot_tmp rfl) gaEF1 aa14 ?_) | ((with_reducible refine pre_store _ _ _ rfl ?_); (first | refine sO hp rfl (slot_tmp rfl) ceEF2 aa14 ?_ | refine sA hp rfl (slot_tmp rfl) (slot_tmp rfl) gaEF1 aa14 ?_ | refine sG hp rfl (slot_tmp rfl) (slot_tmp rfl) gaEF1 aa14 ?_); clear hp; intro w1 hp; simp only [spl, List.set_cons_zero, List.set_cons_succ] at hp) | ((with_reducible refine pre_build _ _ _ rfl ?_); refine lS hp rfl (by intro w; go_simp; rfl) ?_; clear hp; intro b w1 hp; simp only [List.length_cons, List.length_nil, Nat.reduceAdd] at hp)); simp only [put_some, put_none, List.set_cons_succ, List.set_cons_zero]))
           refine wp_region_keeps [_, _] (Keeps.two hp.drew at0 at3) [] [(0, true), (1, true), (2, true), (3, true), (4, true), (5, true), (6, true)] (by kernel_rfl) (by kernel_rfl) rfl (by kernel_rfl) (fun _ _ d _ _ h => by cases d <;> exact h) ?_
           replace hp := hp.drew
           repeat' (with_reducible refine plan_is ?_); first | (with_reducible refine plan_nil ?_) | ((with_reducible refine plan_t ?_); refine plan_tk rfl ?_; (first | ((with_reducible refine tk_mv _ rfl ?_); refine tM rfl ?_) | ((with_reducible refine tk_ld _ _ rfl ?_); refine tO rfl (slot_tmp rfl) cell3 aa14 ?_) | refine tG (fun w _ => (by go_simp; try rfl)) ?_); try simp only [put_some, put_none, eval_tmp, eval_const, List.set_cons_succ, List.set_cons_zero, List.getD_cons_succ, List.getD_cons_zero, wrap_eq])
           go_wp2_with (first | go_skip | ((first | ((with_reducible refine pre_alloc _ rfl ?_); refine lZ hp rfl zeEF0 ?_; clear hp; intro b w1 hp) | ((with_reducible refine pre_box _ _ rfl ?_); refine lB hp rfl (slot_tmp rfl) rfl ?_; clear hp; intro b w1 hp) | ((with_reducible refine pre_load _ _ rfl ?_); first | refine lO hp rfl (slot_tmp rfl) ceEF2 aa14 ?_ | refine lA hp rfl (slot_tmp rfl) gaEF1 aa14 ?_) | ((with_reducible refine pre_store _ _ _ rfl ?_); (first | refine sO hp rfl (slot_tmp rfl) ceEF2 aa14 ?_ | refine sA hp rfl (slot_tmp rfl) (slot_tmp rfl) gaEF1 aa14 ?_ | refine sG hp rfl (slot_tmp rfl) (slot_tmp rfl) gaEF1 aa14 ?_); clear hp; intro w1 hp; simp only [spl, List.set_cons_zero, List.set_cons_succ] at hp) | ((with_reducible refine pre_build _ _ _ rfl ?_); refine lS hp rfl (by intro w; go_simp; rfl) ?_; clear hp; intro b w1 hp; simp only [List.length_cons, List.length_nil, Nat.reduceAdd] at hp)); simp only [put_some, put_none, List.set_cons_succ, List.set_cons_zero]))
           go_roundg 0
           case measure => omega
           case rel => exact ⟨cutI gh t0, cutI gh t1, cutI gh t2, cutI gh t3, .inr (.inr (.inr (.inr (⟨rfl, rfl, rfl, rfl, rfl, rfl⟩)))), by rw [HC.out]; exact hp⟩
       · go_wp2_with (first | (go_at_call 122; (with_reducible refine (give122_yes od fs fa fc hfl gp go _ (HRF.out.at hp (fun p hm => by simp [hm])) HFR.out HGM.out).mono ?_); rintro e w1 ⟨_, hgv⟩; obtain ⟨a2, k2, R2, rfl, hr2, hpx⟩ := hgv HGN.out; replace hp := hp.join hpx; have HR2 := Lib.hid hr2; clear hgv hr2 hpx; simp only [List.cons_append, List.nil_append, List.append_assoc] at hp) | go_skip | ((first | ((with_reducible refine pre_alloc _ rfl ?_); refine lZ hp rfl zeEF0 ?_; clear hp; intro b w1 hp) | ((with_reducible refine pre_box _ _ rfl ?_); refine lB hp rfl (slot_tmp rfl) rfl ?_; clear hp; intro b w1 hp) | ((with_reducible refine pre_load _ _ rfl ?_); first | refine lO hp rfl (slot_tmp rfl) ceEF2 aa14 ?_ | refine lA hp rfl (slot_tmp rfl) gaEF1 aa14 ?_) | ((with_reducible refine pre_store _ _ _ rfl ?_); (first | refine sO hp rfl (slot_tmp rfl) ceEF2 aa14 ?_ | refine sA hp rfl (slot_tmp rfl) (slot_tmp rfl) gaEF1 aa14 ?_ | refine sG hp rfl (slot_tmp rfl) (slot_tmp rfl) gaEF1 aa14 ?_); clear hp; intro w1 hp; simp only [spl, List.set_cons_zero, List.set_cons_succ] at hp) | ((with_reducible refine pre_build _ _ _ rfl ?_); refine lS hp rfl (by intro w; go_simp; rfl) ?_; clear hp; intro b w1 hp; simp only [List.length_cons, List.length_nil, Nat.reduceAdd] at hp)); simp only [put_some, put_none, List.set_cons_succ, List.set_cons_zero]))
         refine bodyPost_ret (results_many (rs := [.cell 4 26, .cell 5 34]) Tryz.results96 (.cell rfl (hp.loadAgg agg26 at2 0 _ (by rfl) (by rfl)) (.cell rfl (hp.loadAgg agg34 at1 0 _ (by rfl) (by rfl)) .nil))) rfl ⟨⟨od, a3, (os.eraseIdx i).map (cutO gh), c3, nx, cutI gh t0, cutI gh t1, cutI gh t2, cutI gh t3, a2, givenL od fs ⟨gp, go⟩, k2⟩, ?_, ?_, RL, R2, M1 ++ M2, ⟨?_, HR2.out, HER.out⟩, hp.kp⟩
         · simp only [hvL, List.length_map]; rfl
         · refine ⟨rfl, rfl, rfl, rfl, rfl, rfl, ?_, rfl⟩
           simp only [freeH]
           exact ObsSm.refl _
         · simp only [List.length_map, flat_cut]; exact HRE.out
end Go.Proofs.YtppdjlgjcdmiaaaGreat
