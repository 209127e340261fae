import Derived.Test.YtcjbepaclbhjaaaTjDO
/- The walk of begin: a heap in blocks of the call's own. -/
set_option linter.unusedSimpArgs false
set_option linter.unusedVariables false
namespace Go.Proofs.Ytcjbepaclbhjaaa
open Go.RowKit
theorem ceDB0 {ty : TypeId} (h : cellB Try.prog ty = true := by with_reducible first | exact cell3 | exact cell4 | exact cell46 | exact cell23 | exact cell25) : cellB Try.prog ty = true := h
theorem agg62 : aggB Try.prog 62 8 = true := by kernel_rfl
theorem obs_len (os : List Ob) : (os.flatMap obV).length = os.length * 5 := flat_len obV 5 obV_len os
theorem ints_len (l : List Int) : (l.flatMap iV).length = l.length * 1 := flat_len iV 1 iV_len l
theorem obs_one (os : List Ob) : (os.flatMap obV).all (·.oneCell') = true := by
  rw [List.all_eq_true]; intro u hu; obtain ⟨x, _, hx⟩ := List.mem_flatMap.1 hu; simp [obV] at hx; rcases hx with rfl | rfl | rfl | rfl | rfl <;> rfl
theorem OwnRow.val {e : TypeId} {c n : Nat} {v : Value} {xs : List Value} {R : List Blk} (h : OwnRow e c v n xs R) : ∃ a k, v = .slice a n k := by
  obtain ⟨a, k, hv, _⟩ := h.kept
  exact ⟨a, k, hv⟩
theorem OwnRow.alike {e : TypeId} {c n : Nat} {v : Value} {xs : List Value} {R : List Blk} (h : OwnRow e c v n xs R) (hn : 0 < n) : ∃ g cap, v = .slice (some ⟨g, 0, none⟩) n cap ∧ R = [⟨g, xs, e, cap * c⟩] ∧ ∀ ys : List Value, ys.length = n * c → OwnRow e c v n ys [⟨g, ys, e, cap * c⟩] := by
  obtain ⟨hl, ⟨h0, _⟩ | ⟨g, cap, hv, h1, h2, hr⟩⟩ := h
  · omega
  · exact ⟨g, cap, hv, hr, fun ys hy => ⟨hy, .inr ⟨g, cap, hv, h1, h2, rfl⟩⟩⟩
theorem begun_set {ys os : List Ob} {q : Nat} {x : Ob} (hq : ys.length = q) (hx : os[q]? = some x) (a b : Option Addr) (m n : Nat) :
    (((ys ++ os.drop q).flatMap obV).set (q * 5 + 3) (.slice a x.ws.length m)).set (q * 5 + 4) (.slice b x.ls.length n) = ((ys ++ [(⟨x.h, x.p, x.o, a, x.ws, m, b, x.ls, n⟩ : Ob)]) ++ os.drop (q + 1)).flatMap obV := by
  obtain ⟨hlt, rfl⟩ := List.getElem?_eq_some_iff.1 hx
  rw [List.drop_eq_getElem_cons hlt]
  generalize os[q] = x
  rw [List.flatMap_append, List.flatMap_cons, List.flatMap_append, List.flatMap_append]
  have hl : (ys.flatMap obV).length = q * 5 := by rw [obs_len, hq]
  rw [List.set_append_right _ _ (by omega), List.set_append_right _ _ (by omega), hl, show q * 5 + 3 - q * 5 = 3 by omega, show q * 5 + 4 - q * 5 = 4 by omega]
  simp [obV]
theorem begun_at {ys os : List Ob} {q : Nat} {x : Ob} (hq : ys.length = q) (hx : os[q]? = some x) : (((ys ++ os.drop q).flatMap obV).drop (q * 5)).take 5 = obV x :=
  flat_at 5 obV_len (by rw [List.getElem?_append_right (by omega), hq, Nat.sub_self, List.getElem?_drop]; simpa using hx)
def BeginPost (w : World) (x : Hv) (e : Ending) (w' : World) : Prop := ∃ b y, e = .returned (.pointer (some ⟨b, 0, none⟩)) ∧ y.Sm x ∧ WorkAt w.heap.size w w' b y []
set_option maxRecDepth 100000 in
set_option maxHeartbeats 8000000 in
theorem begin18 (x : Hv) (hs : x.Small) (w : World) (hx0 : x.Is w) : Calls Try.prog 18 #[.agg (hvL x).toArray] w (BeginPost w x) := by
  obtain ⟨od, oa, os, oc, nx, t0, t1, t2, t3, fa, fs, fc⟩ := x
  obtain ⟨⟨hol, hosm⟩, hfl⟩ := hs
  obtain ⟨ho, hoo, hf⟩ := hx0
  simp only at hol hosm hfl ho hoo hf
  simp only [hvL]
  have hp := Hp.start w
  have hol5 : os.length ≤ 2000 := by omega
  have HO := Lib.hid ho
  have HOO := Lib.hid hoo
  have HOS := Lib.hid hosm
  have HF := Lib.hid hf
  clear ho hoo hosm hf
  go_enter Try.func18, Try.ntmps18
  go_wp2_with (first | go_skip | ((first | ((with_reducible refine pre_alloc _ rfl ?_); refine lZ hp rfl zero48 ?_; clear hp; intro b w1 hp) | ((with_reducible refine pre_box _ _ rfl ?_); refine lB hp rfl (slot_tmp rfl) rfl ?_; clear hp; intro b w1 hp) | ((with_reducible refine pre_load _ _ rfl ?_); first | refine lO hp rfl (slot_tmp rfl) ceDB0 aa5 ?_ | refine lA hp rfl (slot_tmp rfl) (by with_reducible first | exact agg27 | exact agg48 | exact agg45 | exact agg62) aa5 ?_) | ((with_reducible refine pre_store _ _ _ rfl ?_); (first | refine sO hp rfl (slot_tmp rfl) ceDB0 aa5 ?_ | refine sA hp rfl (slot_tmp rfl) (slot_tmp rfl) (by with_reducible first | exact agg27 | exact agg48 | exact agg45 | exact agg62) aa5 ?_ | refine sG hp rfl (slot_tmp rfl) (slot_tmp rfl) (by with_reducible first | exact agg27 | exact agg48 | exact agg45 | exact agg62) aa5 ?_); clear hp; intro w1 hp; simp only [spl, List.set_cons_zero, List.set_cons_succ] at hp) | ((with_reducible refine pre_build _ _ _ rfl ?_); refine lS hp rfl (by intro w; go_simp; rfl) ?_; clear hp; intro b w1 hp; simp only [List.length_cons, List.length_nil, Nat.reduceAdd] at hp)); simp only [put_some, put_none, List.set_cons_succ, List.set_cons_zero]))
  refine wp_region_keeps [_] (Keeps.one hp.drew at0) [7, 8, 9] [(0, true), (1, true), (3, true), (4, true), (2, false), (6, true), (5, false), (7, false), (8, false), (9, false)] (by kernel_rfl) (by kernel_rfl) rfl (by kernel_rfl) (fun _ _ d _ _ h => by cases d <;> exact h) ?_
  replace hp := hp.drew
  repeat' (with_reducible refine plan_is ?_); first | (with_reducible refine plan_nil ?_) | ((with_reducible refine plan_t ?_); refine plan_tk rfl ?_; (first | ((with_reducible refine tk_ld _ _ rfl ?_); refine tO rfl (slot_tmp rfl) (by with_reducible first | exact cell23 | exact cell25) aa5 ?_) | refine tG (fun w _ => (by go_simp; try rfl)) ?_); try simp only [put_some, put_none, eval_tmp, eval_const, List.set_cons_succ, List.set_cons_zero, List.getD_cons_succ, List.getD_cons_zero, wrap_eq]) | (refine plan_do rfl (fun K hK => ?_); go_wp2_with (first | (go_at_call 33; (with_reducible refine (clone33 oa os.length oc hol5 _ (obs_len os) (obs_one os) _ (HO.out.below hp.below)).mono ?_); rintro e w1 ⟨v1, R1, rfl, hr1, hp1⟩; replace hp := hp.join hp1; obtain ⟨a1, c1, rfl⟩ := hr1.val; have HR1 := Lib.hid hr1; clear hp1 hr1; simp only [List.cons_append, List.nil_append, List.append_assoc] at hp) | (go_at_call 25; (with_reducible refine (clone25 fa fs.length fc (by omega) _ (lit_len fs) (blsOne fs) _ (HF.out.below hp.below)).mono ?_); rintro e w1 ⟨v2, R2, rfl, hr2, hp2⟩; replace hp := hp.join hp2; obtain ⟨a2, c2, rfl⟩ := hr2.val; have HR2 := Lib.hid hr2; clear hp2 hr2; simp only [List.cons_append, List.nil_append, List.append_assoc] at hp) | go_skip | (((with_reducible refine pre_store _ _ _ rfl ?_); (first | refine sO hp rfl (slot_tmp rfl) ceDB0 aa5 ?_ | refine sA hp rfl (slot_tmp rfl) (slot_tmp rfl) (by with_reducible first | exact agg27 | exact agg48 | exact agg45 | exact agg62) aa5 ?_ | refine sG hp rfl (slot_tmp rfl) (slot_tmp rfl) (by with_reducible first | exact agg27 | exact agg48 | exact agg45 | exact agg62) aa5 ?_); clear hp; intro w1 hp; simp only [spl, List.set_cons_zero, List.set_cons_succ] at hp); simp only [put_some, put_none, List.set_cons_succ, List.set_cons_zero])); (first | refine hK.out _ _ (.inl rfl) ?_ | refine hK.out _ _ (.inr (Keeps.one hp aa5)) ?_); clear hK K; try simp only [put_some, put_none, eval_tmp, eval_const, List.set_cons_succ, List.set_cons_zero, List.getD_cons_succ, List.getD_cons_zero, wrap_eq])
  obtain ⟨b1, rfl⟩ := hp.id0
  go_wp2_with (first | go_skip | ((first | ((with_reducible refine pre_alloc _ rfl ?_); refine lZ hp rfl zero48 ?_; clear hp; intro b w1 hp) | ((with_reducible refine pre_box _ _ rfl ?_); refine lB hp rfl (slot_tmp rfl) rfl ?_; clear hp; intro b w1 hp) | ((with_reducible refine pre_load _ _ rfl ?_); first | refine lO hp rfl (slot_tmp rfl) ceDB0 aa5 ?_ | refine lA hp rfl (slot_tmp rfl) (by with_reducible first | exact agg27 | exact agg48 | exact agg45 | exact agg62) aa5 ?_) | ((with_reducible refine pre_store _ _ _ rfl ?_); (first | refine sO hp rfl (slot_tmp rfl) ceDB0 aa5 ?_ | refine sA hp rfl (slot_tmp rfl) (slot_tmp rfl) (by with_reducible first | exact agg27 | exact agg48 | exact agg45 | exact agg62) aa5 ?_ | refine sG hp rfl (slot_tmp rfl) (slot_tmp rfl) (by with_reducible first | exact agg27 | exact agg48 | exact agg45 | exact agg62) aa5 ?_); clear hp; intro w1 hp; simp only [spl, List.set_cons_zero, List.set_cons_succ] at hp) | ((with_reducible refine pre_build _ _ _ rfl ?_); refine lS hp rfl (by intro w; go_simp; rfl) ?_; clear hp; intro b w1 hp; simp only [List.length_cons, List.length_nil, Nat.reduceAdd] at hp)); simp only [put_some, put_none, List.set_cons_succ, List.set_cons_zero]))
  go_loopg [16] os.length (fun k i wr => ∃ (q : Nat) (ys : List Ob) (R M : List Blk), k + q = os.length ∧ i = .int .i64 q ∧ RowKit.Hid (ys.length = q) ∧ RowKit.Hid (∀ (i : Nat) a b, os[i]? = some a → ys[i]? = some b → a.Sm b) ∧
    RowKit.Hid (OwnRow 48 5 (.slice a1 os.length c1) os.length ((ys ++ os.drop q).flatMap obV) R) ∧ RowKit.Hid (ObsR ys M) ∧
    Hp w.heap.size w wr (⟨b1, [.int .i64 od, .slice a1 os.length c1, .int .i64 nx, .int .i64 t0, .int .i64 t1, .int .i64 t2, .int .i64 t3, .slice a2 fs.length c2], 27, 8⟩ :: (R ++ (R2 ++ M))))
  case atStart => exact ⟨0, [], R1, [], by omega, rfl, Lib.hid rfl, Lib.hid (fun i a b _ h => by simp at h), HR1, Lib.hid ObsR.nil, by simpa using hp⟩
  case round =>
    clear hp HR1
    obtain ⟨q, ys, R, M, hkq, rfl, HYL, HYS, HR, HM, hp⟩ := hrel
    by_cases hlt : q < os.length
    · have hj := List.getElem?_eq_getElem hlt
      have hmem := List.getElem_mem hlt
      obtain ⟨hw1, hw2⟩ := HOO.out _ hmem
      obtain ⟨hw3, hw4⟩ := HOS.out _ hmem
      have hset := fun a b m n => begun_set HYL.out hj a b m n
      have hat := begun_at HYL.out hj
      obtain ⟨g, cap, hv, rfl, hnew⟩ := HR.out.alike (by omega)
      injection hv with v1 v2 v3
      subst v1 v3
      have HNEW := Lib.hid hnew
      have HSET := Lib.hid hset
      have HXA := Lib.hid hat
      have hcl : ((ys ++ os.drop q).flatMap obV).length = os.length * 5 := by rw [obs_len, List.length_append, List.length_drop, HYL.out, show q + (os.length - q) = os.length by omega]
      have HS3 : RowKit.Hid (q * 5 + 3 < ((ys ++ os.drop q).flatMap obV).length) := Lib.hid (by omega)
      have HS4 : RowKit.Hid (q * 5 + 4 < ((ys ++ os.drop q).flatMap obV).length) := Lib.hid (by omega)
      have HJ := Lib.hid hj
      clear hj hmem hnew hset hat HR hcl
      generalize (ys ++ os.drop q).flatMap obV = xs at hp HSET HXA HS3 HS4
      generalize os[q] = x at hw1 hw2 hw3 hw4 HJ HSET HXA
      obtain ⟨xh, xp, xo, wa, ws, wc, la, ls, lc⟩ := x
      simp only [obV] at hw1 hw2 hw3 hw4 HXA HSET
      have HW := Lib.hid hw1
      have HK := Lib.hid hw2
      clear hw1 hw2
      have e1 : (0 : Int) ≤ (q : Int) := by omega
      have e2 : (q : Int) < (os.length : Int) := by omega
      simp only [List.cons_append, List.nil_append] at hp
      go_wp2_with (first | ((with_reducible refine pre_load 48 _ rfl ?_); refine wpList_loadAgg_hp hp _ _ rfl wy _ _ (slot_tmp rfl) _ agg48 1 _ _ _ at1 _ HXA.out rfl ?_; simp only [put_some, put_none, List.set_cons_succ, List.set_cons_zero]) | go_skip | ((first | ((with_reducible refine pre_alloc _ rfl ?_); refine lZ hp rfl zero48 ?_; clear hp; intro b w1 hp) | ((with_reducible refine pre_box _ _ rfl ?_); refine lB hp rfl (slot_tmp rfl) rfl ?_; clear hp; intro b w1 hp) | ((with_reducible refine pre_load _ _ rfl ?_); first | refine lO hp rfl (slot_tmp rfl) ceDB0 aa5 ?_ | refine lA hp rfl (slot_tmp rfl) (by with_reducible first | exact agg27 | exact agg48 | exact agg45 | exact agg62) aa5 ?_) | ((with_reducible refine pre_store _ _ _ rfl ?_); (first | refine sO hp rfl (slot_tmp rfl) ceDB0 aa5 ?_ | refine sA hp rfl (slot_tmp rfl) (slot_tmp rfl) (by with_reducible first | exact agg27 | exact agg48 | exact agg45 | exact agg62) aa5 ?_ | refine sG hp rfl (slot_tmp rfl) (slot_tmp rfl) (by with_reducible first | exact agg27 | exact agg48 | exact agg45 | exact agg62) aa5 ?_); clear hp; intro w1 hp; simp only [spl, List.set_cons_zero, List.set_cons_succ] at hp) | ((with_reducible refine pre_build _ _ _ rfl ?_); refine lS hp rfl (by intro w; go_simp; rfl) ?_; clear hp; intro b w1 hp; simp only [List.length_cons, List.length_nil, Nat.reduceAdd] at hp)); simp only [put_some, put_none, List.set_cons_succ, List.set_cons_zero]))
      refine wp_region_keeps [_, _] (Keeps.two hp.drew at0 at1) [17] [(0, true), (1, true), (2, true), (3, true), (4, true), (5, true), (6, true), (7, true), (9, true), (10, true), (8, false), (11, false), (12, true), (13, true), (14, false), (15, true), (16, true), (17, false)] (by kernel_rfl) (by kernel_rfl) rfl (by kernel_rfl) (fun _ _ d _ _ h => by cases d <;> exact h) ?_
      replace hp := hp.drew
      repeat' (with_reducible refine plan_is ?_); first | (with_reducible refine plan_nil ?_) | ((with_reducible refine plan_t ?_); refine plan_tk rfl ?_; (first | ((with_reducible refine tk_mv _ rfl ?_); refine tM rfl ?_) | ((with_reducible refine tk_ld _ _ rfl ?_); refine tO rfl (slot_tmp rfl) (by with_reducible first | exact cell46 | exact cell23) aa5 ?_) | refine tG (fun w _ => (by go_simp; try rfl)) ?_); try simp only [put_some, put_none, eval_tmp, eval_const, List.set_cons_succ, List.set_cons_zero, List.getD_cons_succ, List.getD_cons_zero, wrap_eq]) | (refine plan_do rfl (fun K hK => ?_); go_wp2_with (first | (go_at_call 34; (with_reducible refine (clone34 wa ws.length wc hw3 _ (ints_len ws) (ints_one ws) _ (HW.out.below hp.below)).mono ?_); rintro e w1 ⟨v3, R3, rfl, hr3, hp3⟩; replace hp := hp.join hp3; obtain ⟨a3, c3, rfl⟩ := hr3.val; have HR3 := Lib.hid hr3; clear hp3 hr3; simp only [List.cons_append, List.nil_append, List.append_assoc] at hp) | (go_at_call 34; (with_reducible refine (clone34 la ls.length lc hw4 _ (ints_len ls) (ints_one ls) _ (HK.out.below hp.below)).mono ?_); rintro e w1 ⟨v4, R4, rfl, hr4, hp4⟩; replace hp := hp.join hp4; obtain ⟨a4, c4, rfl⟩ := hr4.val; have HR4 := Lib.hid hr4; clear hp4 hr4; simp only [List.cons_append, List.nil_append, List.append_assoc] at hp) | ((with_reducible refine pre_store 46 _ _ rfl ?_); refine wpList_storeOne_hp hp _ _ _ rfl wy _ _ (slot_tmp rfl) _ (slot_tmp rfl) cell46 2 _ _ _ at2 (by first | exact HS3.out | (rw [List.length_set]; exact HS4.out)) rfl ?_; clear hp; intro w1 hp; simp only [List.set_cons_zero, List.set_cons_succ] at hp; simp only [put_some, put_none, List.set_cons_succ, List.set_cons_zero]) | go_skip | (((with_reducible refine pre_store _ _ _ rfl ?_); (first | refine sO hp rfl (slot_tmp rfl) ceDB0 aa5 ?_ | refine sA hp rfl (slot_tmp rfl) (slot_tmp rfl) (by with_reducible first | exact agg27 | exact agg48 | exact agg45 | exact agg62) aa5 ?_ | refine sG hp rfl (slot_tmp rfl) (slot_tmp rfl) (by with_reducible first | exact agg27 | exact agg48 | exact agg45 | exact agg62) aa5 ?_); clear hp; intro w1 hp; simp only [spl, List.set_cons_zero, List.set_cons_succ] at hp); simp only [put_some, put_none, List.set_cons_succ, List.set_cons_zero])); (first | refine hK.out _ _ (.inl rfl) ?_ | refine hK.out _ _ (.inr (Keeps.two hp aa5 aa5)) ?_); clear hK K; try simp only [put_some, put_none, eval_tmp, eval_const, List.set_cons_succ, List.set_cons_zero, List.getD_cons_succ, List.getD_cons_zero, wrap_eq])
      go_wp2_with (first | go_skip | ((first | ((with_reducible refine pre_alloc _ rfl ?_); refine lZ hp rfl zero48 ?_; clear hp; intro b w1 hp) | ((with_reducible refine pre_box _ _ rfl ?_); refine lB hp rfl (slot_tmp rfl) rfl ?_; clear hp; intro b w1 hp) | ((with_reducible refine pre_load _ _ rfl ?_); first | refine lO hp rfl (slot_tmp rfl) ceDB0 aa5 ?_ | refine lA hp rfl (slot_tmp rfl) (by with_reducible first | exact agg27 | exact agg48 | exact agg45 | exact agg62) aa5 ?_) | ((with_reducible refine pre_store _ _ _ rfl ?_); (first | refine sO hp rfl (slot_tmp rfl) ceDB0 aa5 ?_ | refine sA hp rfl (slot_tmp rfl) (slot_tmp rfl) (by with_reducible first | exact agg27 | exact agg48 | exact agg45 | exact agg62) aa5 ?_ | refine sG hp rfl (slot_tmp rfl) (slot_tmp rfl) (by with_reducible first | exact agg27 | exact agg48 | exact agg45 | exact agg62) aa5 ?_); clear hp; intro w1 hp; simp only [spl, List.set_cons_zero, List.set_cons_succ] at hp) | ((with_reducible refine pre_build _ _ _ rfl ?_); refine lS hp rfl (by intro w; go_simp; rfl) ?_; clear hp; intro b w1 hp; simp only [List.length_cons, List.length_nil, Nat.reduceAdd] at hp)); simp only [put_some, put_none, List.set_cons_succ, List.set_cons_zero]))
      go_roundg (gk - 1)
      case measure => omega
      case rel =>
        rw [HSET.out a3 a4 c3 c4] at hp
        refine ⟨q + 1, ys ++ [(⟨xh, xp, xo, a3, ws, c3, a4, ls, c4⟩ : Ob)], _, M ++ (R3 ++ R4), by omega, by go_num, Lib.hid (by rw [List.length_append, HYL.out]; rfl), Lib.hid (ObsSm.snoc HJ.out ⟨rfl, rfl, rfl, rfl, rfl⟩ HYL.out HYS.out), Lib.hid (HNEW.out _ ?_), Lib.hid (ObsR.snoc HM.out ⟨R3, R4, rfl, HR3.out, HR4.out⟩), hp.tail⟩
        rw [obs_len, List.length_append, List.length_append, List.length_drop, HYL.out, List.length_singleton, show q + 1 + (os.length - (q + 1)) = os.length by omega]
    · have e2 : decide ((q : Int) < (os.length : Int)) = false := by simp; omega
      obtain rfl : os.length = q := by omega
      rw [List.drop_length, List.append_nil] at HR
      go_wp2_with (first | go_skip | ((first | ((with_reducible refine pre_alloc _ rfl ?_); refine lZ hp rfl zero48 ?_; clear hp; intro b w1 hp) | ((with_reducible refine pre_box _ _ rfl ?_); refine lB hp rfl (slot_tmp rfl) rfl ?_; clear hp; intro b w1 hp) | ((with_reducible refine pre_load _ _ rfl ?_); first | refine lO hp rfl (slot_tmp rfl) ceDB0 aa5 ?_ | refine lA hp rfl (slot_tmp rfl) (by with_reducible first | exact agg27 | exact agg48 | exact agg45 | exact agg62) aa5 ?_) | ((with_reducible refine pre_store _ _ _ rfl ?_); (first | refine sO hp rfl (slot_tmp rfl) ceDB0 aa5 ?_ | refine sA hp rfl (slot_tmp rfl) (slot_tmp rfl) (by with_reducible first | exact agg27 | exact agg48 | exact agg45 | exact agg62) aa5 ?_ | refine sG hp rfl (slot_tmp rfl) (slot_tmp rfl) (by with_reducible first | exact agg27 | exact agg48 | exact agg45 | exact agg62) aa5 ?_); clear hp; intro w1 hp; simp only [spl, List.set_cons_zero, List.set_cons_succ] at hp) | ((with_reducible refine pre_build _ _ _ rfl ?_); refine lS hp rfl (by intro w; go_simp; rfl) ?_; clear hp; intro b w1 hp; simp only [List.length_cons, List.length_nil, Nat.reduceAdd] at hp)); simp only [put_some, put_none, List.set_cons_succ, List.set_cons_zero]))
      obtain ⟨bw, rfl⟩ := hp.id0
      go_ret
      refine ⟨bw, ⟨od, a1, ys, c1, nx, t0, t1, t2, t3, a2, fs, c2⟩, rfl, ⟨rfl, rfl, rfl, rfl, rfl, rfl, ObsSm.symm ⟨HYL.out.symm, HYS.out⟩, rfl⟩, R, R2, M, ⟨?_, HR2.out, HM.out⟩, ?_⟩
      · simp only; rw [HYL.out]; exact HR.out
      · simp only [hvL]
        rw [HYL.out, List.append_nil]
        exact hp.sublist (List.Sublist.cons_cons _ (List.sublist_cons_self _ _))
end Go.Proofs.Ytcjbepaclbhjaaa
