/- Parts of the proof. -/
import Derived.Test.YtaafajaadfgaoaaGreatAz12
open List renaming set_cons_zero → zSet, set_cons_succ → sSet
/- The walk of begin: a heap in blocks of the call's own. -/
set_option linter.unusedSimpArgs false
set_option linter.unusedVariables false
namespace Go.Proofs.YtaafajaadfgaoaaGreat
open Go.RowKit
theorem ceDB0 {ty : TypeId} (h : cellB Tryz.prog ty = true := by with_reducible first | exact cell3 | exact cell4 | exact cell122 | exact cell43 | exact cell45) : cellB Tryz.prog ty = true := h
theorem agg113 : aggB Tryz.prog 113 8 = true := by kernel_rfl
theorem obs_len (os : List Ob) : (os.flatMap obV).length = os.length * 5 := flat_len obV 5 obV_len os
theorem ints_len (l : List Int) : (l.flatMap iV).length = l.length * 1 := flat_len iV 1 iV_len l
theorem obs_one (os : List Ob) : (os.flatMap obV).all (·.oneCell') = true := by
  rw [List.all_eq_true]; intro u hu; obtain ⟨x, _, hx⟩ := List.mem_flatMap.1 hu; simp [obV] at hx; rcases hx with rfl | rfl | rfl | rfl | rfl <;> rfl
theorem OwnRow.val {e : TypeId} {c n : Nat} {v : Value} {xs : List Value} {R : List Blk} (h : OwnRow e c v n xs R) : ∃ a k, v = .slice a n k := by
  obtain ⟨a, k, hv, _⟩ := h.kept
  exact ⟨a, k, hv⟩
theorem OwnRow.alike {e : TypeId} {c n : Nat} {v : Value} {xs : List Value} {R : List Blk} (h : OwnRow e c v n xs R) (hn : 0 < n) : ∃ g cap, v = .slice (some ⟨g, 0, none⟩) n cap ∧ R = [⟨g, xs, e, cap * c⟩] ∧ ∀ ys : List Value, ys.length = n * c → OwnRow e c v n ys [⟨g, ys, e, cap * c⟩] := by
  obtain ⟨hl, ⟨h0, _⟩ | ⟨g, cap, hv, h1, h2, hr⟩⟩ := h
  · omega
  · exact ⟨g, cap, hv, hr, fun ys hy => ⟨hy, .inr ⟨g, cap, hv, h1, h2, rfl⟩⟩⟩
theorem begun_set {ys os : List Ob} {q : Nat} {x : Ob} (hq : ys.length = q) (hx : os[q]? = some x) (a b : Option Addr) (m n : Nat) :
    (((ys ++ os.drop q).flatMap obV).set (q * 5 + 3) (.slice a x.ws.length m)).set (q * 5 + 4) (.slice b x.ls.length n) = ((ys ++ [(⟨x.h, x.p, x.o, a, x.ws, m, b, x.ls, n⟩ : Ob)]) ++ os.drop (q + 1)).flatMap obV := by
  obtain ⟨hlt, rfl⟩ := List.getElem?_eq_some_iff.1 hx
  rw [List.drop_eq_getElem_cons hlt]
  generalize os[q] = x
  rw [List.flatMap_append, List.flatMap_cons, List.flatMap_append, List.flatMap_append]
  have hl : (ys.flatMap obV).length = q * 5 := by rw [obs_len, hq]
  rw [List.set_append_right _ _ (by omega), List.set_append_right _ _ (by omega), hl, show q * 5 + 3 - q * 5 = 3 by omega, show q * 5 + 4 - q * 5 = 4 by omega]
  simp [obV]
theorem begun_at {ys os : List Ob} {q : Nat} {x : Ob} (hq : ys.length = q) (hx : os[q]? = some x) : (((ys ++ os.drop q).flatMap obV).drop (q * 5)).take 5 = obV x :=
  flat_at 5 obV_len (by rw [List.getElem?_append_right (by omega), hq, Nat.sub_self, List.getElem?_drop]; simpa using hx)
def BeginPost (w : World) (x : Hv) (e : Ending) (w' : World) : Prop := ∃ b y, e = .returned (.pointer (some ⟨b, 0, none⟩)) ∧ y.Sm x ∧ WorkAt w.heap.size w w' b y []
set_option maxRecDepth 100000 in
set_option maxHeartbeats 8000000 in
theorem begin76 (x : Hv) (hs : x.Small) (w : World) (hx0 : x.Is w) : Calls Tryz.prog 76 #[.agg (hvL x).toArray] w (BeginPost w x) := by
  obtain ⟨od, oa, os, oc, nx, t0, t1, t2, t3, fa, fs, fc⟩ := x
  obtain ⟨⟨hol, hosm⟩, hfl⟩ := hs
  obtain ⟨ho, hoo, hf⟩ := hx0
  simp only at hol hosm hfl ho hoo hf
  simp only [hvL]
  have hp := Hp.start w
  have hol5 : os.length ≤ 2000 := by omega
  have HO := Lib.hid ho
  have HOO := Lib.hid hoo
  have HOS := Lib.hid hosm
  have HF := Lib.hid hf
  clear ho hoo hosm hf
  go_enter Tryz.func76, Tryz.ntmps76
  go_wp2_with (first | go_skip | ((first | ((with_reducible refine pre_alloc _ rfl ?_); refine lZ hp rfl zero126 ?_; clear hp; intro b w1 hp) | ((with_reducible refine pre_box _ _ rfl ?_); refine lB hp rfl (sTm rfl) rfl ?_; clear hp; intro b w1 hp) | ((with_reducible refine pre_load _ _ rfl ?_); first | refine lO hp rfl (sTm rfl) ceDB0 aa5 ?_ | refine lA hp rfl (sTm rfl) (by with_reducible first | exact agg47 | exact agg126 | exact agg124 | exact agg113) aa5 ?_) | ((with_reducible refine pre_store _ _ _ rfl ?_); (first | refine sO hp rfl (sTm rfl) ceDB0 aa5 ?_ | refine sA hp rfl (sTm rfl) (sTm rfl) (by with_reducible first | exact agg47 | exact agg126 | exact agg124 | exact agg113) aa5 ?_ | refine sG hp rfl (sTm rfl) (sTm rfl) (by with_reducible first | exact agg47 | exact agg126 | exact agg124 | exact agg113) aa5 ?_); clear hp; intro w1 hp; simp only [spl, zSet, sSet] at hp) | ((with_reducible refine pre_build _ _ _ rfl ?_); refine lS hp rfl (by intro w; go_simp; rfl) ?_; clear hp; intro b w1 hp; simp only [List.length_cons, List.length_nil, Nat.reduceAdd] at hp)); simp only [put_some, put_none, sSet, zSet]))
  refine wp_region_keeps [_] (Keeps.one hp.drew at0) [7, 8, 9] [(0, true), (1, true), (3, true), (4, true), (2, false), (6, true), (5, false), (7, false), (8, false), (9, false)] (by kernel_rfl) (by kernel_rfl) rfl (by kernel_rfl) (fun _ _ d _ _ h => by cases d <;> exact h) ?_
  replace hp := hp.drew
  repeat' (with_reducible refine plan_is ?_); first | (with_reducible refine plan_nil ?_) | ((with_reducible refine plan_t ?_); refine plan_tk rfl ?_; (first | ((with_reducible refine tk_ld _ _ rfl ?_); refine tO rfl (sTm rfl) (by with_reducible first | exact cell43 | exact cell45) aa5 ?_) | refine tG (fun w _ => (by go_simp; try rfl)) ?_); try simp only [put_some, put_none, eval_tmp, eval_const, sSet, zSet, List.getD_cons_succ, List.getD_cons_zero, wrap_eq]) | (refine plan_do rfl (fun K hK => ?_); go_wp2_with (first | (go_at_call 149; (with_reducible refine (clone149 oa os.length oc hol5 _ (obs_len os) (obs_one os) _ (HO.out.below hp.below)).mono ?_); rintro e w1 ⟨v1, R1, rfl, hr1, hp1⟩; replace hp := hp.join hp1; obtain ⟨a1, c1, rfl⟩ := hr1.val; have HR1 := Lib.hid hr1; clear hp1 hr1; simp only [List.cons_append, List.nil_append, List.append_assoc] at hp) | (go_at_call 142; (with_reducible refine (clone142 fa fs.length fc (by omega) _ (lit_len fs) (blsOne fs) _ (HF.out.below hp.below)).mono ?_); rintro e w1 ⟨v2, R2, rfl, hr2, hp2⟩; replace hp := hp.join hp2; obtain ⟨a2, c2, rfl⟩ := hr2.val; have HR2 := Lib.hid hr2; clear hp2 hr2; simp only [List.cons_append, List.nil_append, List.append_assoc] at hp) | go_skip | (((with_reducible refine pre_store _ _ _ rfl ?_); (first | refine sO hp rfl (sTm rfl) ceDB0 aa5 ?_ | refine sA hp rfl (sTm rfl) (sTm rfl) (by with_reducible first | exact agg47 | exact agg126 | exact agg124 | exact agg113) aa5 ?_ | refine sG hp rfl (sTm rfl) (sTm rfl) (by with_reducible first | exact agg47 | exact agg126 | exact agg124 | exact agg113) aa5 ?_); clear hp; intro w1 hp; simp only [spl, zSet, sSet] at hp); simp only [put_some, put_none, sSet, zSet])); (first | refine hK.out _ _ (.inl rfl) ?_ | refine hK.out _ _ (.inr (Keeps.one hp aa5)) ?_); clear hK K; try simp only [put_some, put_none, eval_tmp, eval_const, sSet, zSet, List.getD_cons_succ, List.getD_cons_zero, wrap_eq])
  obtain ⟨b1, rfl⟩ := hp.id0
  go_wp2_with (first | go_skip | ((first | ((with_reducible refine pre_alloc _ rfl ?_); refine lZ hp rfl zero126 ?_; clear hp; intro b w1 hp) | ((with_reducible refine pre_box _ _ rfl ?_); refine lB hp rfl (sTm rfl) rfl ?_; clear hp; intro b w1 hp) | ((with_reducible refine pre_load _ _ rfl ?_); first | refine lO hp rfl (sTm rfl) ceDB0 aa5 ?_ | refine lA hp rfl (sTm rfl) (by with_reducible first | exact agg47 | exact agg126 | exact agg124 | exact agg113) aa5 ?_) | ((with_reducible refine pre_store _ _ _ rfl ?_); (first | refine sO hp rfl (sTm rfl) ceDB0 aa5 ?_ | refine sA hp rfl (sTm rfl) (sTm rfl) (by with_reducible first | exact agg47 | exact agg126 | exact agg124 | exact agg113) aa5 ?_ | refine sG hp rfl (sTm rfl) (sTm rfl) (by with_reducible first | exact agg47 | exact agg126 | exact agg124 | exact agg113) aa5 ?_); clear hp; intro w1 hp; simp only [spl, zSet, sSet] at hp) | ((with_reducible refine pre_build _ _ _ rfl ?_); refine lS hp rfl (by intro w; go_simp; rfl) ?_; clear hp; intro b w1 hp; simp only [List.length_cons, List.length_nil, Nat.reduceAdd] at hp)); simp only [put_some, put_none, sSet, zSet]))
  go_loopg [16] os.length (fun k i wr => ∃ (q : Nat) (ys : List Ob) (R M : List Blk), k + q = os.length ∧ i = .int .i64 q ∧ RowKit.Hid (ys.length = q) ∧ RowKit.Hid (∀ (i : Nat) a b, os[i]? = some a → ys[i]? = some b → a.Sm b) ∧
    RowKit.Hid (OwnRow 126 5 (.slice a1 os.length c1) os.length ((ys ++ os.drop q).flatMap obV) R) ∧ RowKit.Hid (ObsR ys M) ∧
    Hp w.heap.size w wr (⟨b1, [.int .i64 od, .slice a1 os.length c1, .int .i64 nx, .int .i64 t0, .int .i64 t1, .int .i64 t2, .int .i64 t3, .slice a2 fs.length c2], 47, 8⟩ :: (R ++ (R2 ++ M))))
  case atStart => exact ⟨0, [], R1, [], by omega, rfl, Lib.hid rfl, Lib.hid (fun i a b _ h => by simp at h), HR1, Lib.hid ObsR.nil, by simpa using hp⟩
  case round =>
    clear hp HR1
    obtain ⟨q, ys, R, M, hkq, rfl, HYL, HYS, HR, HM, hp⟩ := hrel
    by_cases hlt : q < os.length
    · have hj := List.getElem?_eq_getElem hlt
      have hmem := List.getElem_mem hlt
      obtain ⟨hw1, hw2⟩ := HOO.out _ hmem
      obtain ⟨hw3, hw4⟩ := HOS.out _ hmem
      have hset := fun a b m n => begun_set HYL.out hj a b m n
      have hat := begun_at HYL.out hj
      obtain ⟨g, cap, hv, rfl, hnew⟩ := HR.out.alike (by omega)
      injection hv with v1 v2 v3
      subst v1 v3
      have HNEW := Lib.hid hnew
      have HSET := Lib.hid hset
      have HXA := Lib.hid hat
      have hcl : ((ys ++ os.drop q).flatMap obV).length = os.length * 5 := by rw [obs_len, List.length_append, List.length_drop, HYL.out, show q + (os.length - q) = os.length by omega]
      have HS3 : RowKit.Hid (q * 5 + 3 < ((ys ++ os.drop q).flatMap obV).length) := Lib.hid (by omega)
      have HS4 : RowKit.Hid (q * 5 + 4 < ((ys ++ os.drop q).flatMap obV).length) := Lib.hid (by omega)
      have HJ := Lib.hid hj
      clear hj hmem hnew hset hat HR hcl
      generalize (ys ++ os.drop q).flatMap obV = xs at hp HSET HXA HS3 HS4
      generalize os[q] = x at hw1 hw2 hw3 hw4 HJ HSET HXA
      obtain ⟨xh, xp, xo, wa, ws, wc, la, ls, lc⟩ := x
      simp only [obV] at hw1 hw2 hw3 hw4 HXA HSET
      have HW := Lib.hid hw1
      have HK := Lib.hid hw2
      clear hw1 hw2
      have e1 : (0 : Int) ≤ (q : Int) := by omega
      have e2 : (q : Int) < (os.length : Int) := by omega
      simp only [List.cons_append, List.nil_append] at hp
      go_wp2_with (first | ((with_reducible refine pre_load 126 _ rfl ?_); refine wpList_loadAgg_hp hp _ _ rfl wy _ _ (sTm rfl) _ agg126 1 _ _ _ at1 _ HXA.out rfl ?_; simp only [put_some, put_none, sSet, zSet]) | go_skip | ((first | ((with_reducible refine pre_alloc _ rfl ?_); refine lZ hp rfl zero126 ?_; clear hp; intro b w1 hp) | ((with_reducible refine pre_box _ _ rfl ?_); refine lB hp rfl (sTm rfl) rfl ?_; clear hp; intro b w1 hp) | ((with_reducible refine pre_load _ _ rfl ?_); first | refine lO hp rfl (sTm rfl) ceDB0 aa5 ?_ | refine lA hp rfl (sTm rfl) (by with_reducible first | exact agg47 | exact agg126 | exact agg124 | exact agg113) aa5 ?_) | ((with_reducible refine pre_store _ _ _ rfl ?_); (first | refine sO hp rfl (sTm rfl) ceDB0 aa5 ?_ | refine sA hp rfl (sTm rfl) (sTm rfl) (by with_reducible first | exact agg47 | exact agg126 | exact agg124 | exact agg113) aa5 ?_ | refine sG hp rfl (sTm rfl) (sTm rfl) (by with_reducible first | exact agg47 | exact agg126 | exact agg124 | exact agg113) aa5 ?_); clear hp; intro w1 hp; simp only [spl, zSet, sSet] at hp) | ((with_reducible refine pre_build _ _ _ rfl ?_); refine lS hp rfl (by intro w; go_simp; rfl) ?_; clear hp; intro b w1 hp; simp only [List.length_cons, List.length_nil, Nat.reduceAdd] at hp)); simp only [put_some, put_none, sSet, zSet]))
      refine wp_region_keeps [_, _] (Keeps.two hp.drew at0 at1) [17] [(0, true), (1, true), (2, true), (3, true), (4, true), (5, true), (6, true), (7, true), (9, true), (10, true), (8, false), (11, false), (12, true), (13, true), (14, false), (15, true), (16, true), (17, false)] (by kernel_rfl) (by kernel_rfl) rfl (by kernel_rfl) (fun _ _ d _ _ h => by cases d <;> exact h) ?_
      replace hp := hp.drew
      repeat' (with_reducible refine plan_is ?_); first | (with_reducible refine plan_nil ?_) | ((with_reducible refine plan_t ?_); refine plan_tk rfl ?_; (first | ((with_reducible refine tk_mv _ rfl ?_); refine tM rfl ?_) | ((with_reducible refine tk_ld _ _ rfl ?_); refine tO rfl (sTm rfl) (by with_reducible first | exact cell122 | exact cell43) aa5 ?_) | refine tG (fun w _ => (by go_simp; try rfl)) ?_); try simp only [put_some, put_none, eval_tmp, eval_const, sSet, zSet, List.getD_cons_succ, List.getD_cons_zero, wrap_eq]) | (refine plan_do rfl (fun K hK => ?_); go_wp2_with (first | (go_at_call 150; (with_reducible refine (clone150 wa ws.length wc hw3 _ (ints_len ws) (ints_one ws) _ (HW.out.below hp.below)).mono ?_); rintro e w1 ⟨v3, R3, rfl, hr3, hp3⟩; replace hp := hp.join hp3; obtain ⟨a3, c3, rfl⟩ := hr3.val; have HR3 := Lib.hid hr3; clear hp3 hr3; simp only [List.cons_append, List.nil_append, List.append_assoc] at hp) | (go_at_call 150; (with_reducible refine (clone150 la ls.length lc hw4 _ (ints_len ls) (ints_one ls) _ (HK.out.below hp.below)).mono ?_); rintro e w1 ⟨v4, R4, rfl, hr4, hp4⟩; replace hp := hp.join hp4; obtain ⟨a4, c4, rfl⟩ := hr4.val; have HR4 := Lib.hid hr4; clear hp4 hr4; simp only [List.cons_append, List.nil_append, List.append_assoc] at hp) | ((with_reducible refine pre_store 122 _ _ rfl ?_); refine wpList_storeOne_hp hp _ _ _ rfl wy _ _ (sTm rfl) _ (sTm rfl) cell122 2 _ _ _ at2 (by first | exact HS3.out | (rw [List.length_set]; exact HS4.out)) rfl ?_; clear hp; intro w1 hp; simp only [zSet, sSet] at hp; simp only [put_some, put_none, sSet, zSet]) | go_skip | (((with_reducible refine pre_store _ _ _ rfl ?_); (first | refine sO hp rfl (sTm rfl) ceDB0 aa5 ?_ | refine sA hp rfl (sTm rfl) (sTm rfl) (by with_reducible first | exact agg47 | exact agg126 | exact agg124 | exact agg113) aa5 ?_ | refine sG hp rfl (sTm rfl) (sTm rfl) (by with_reducible first | exact agg47 | exact agg126 | exact agg124 | exact agg113) aa5 ?_); clear hp; intro w1 hp; simp only [spl, zSet, sSet] at hp); simp only [put_some, put_none, sSet, zSet])); (first | refine hK.out _ _ (.inl rfl) ?_ | refine hK.out _ _ (.inr (Keeps.two hp aa5 aa5)) ?_); clear hK K; try simp only [put_some, put_none, eval_tmp, eval_const, sSet, zSet, List.getD_cons_succ, List.getD_cons_zero, wrap_eq])
      go_wp2_with (first | go_skip | ((first | ((with_reducible refine pre_alloc _ rfl ?_); refine lZ hp rfl zero126 ?_; clear hp; intro b w1 hp) | ((with_reducible refine pre_box _ _ rfl ?_); refine lB hp rfl (sTm rfl) rfl ?_; clear hp; intro b w1 hp) | ((with_reducible refine pre_load _ _ rfl ?_); first | refine lO hp rfl (sTm rfl) ceDB0 aa5 ?_ | refine lA hp rfl (sTm rfl) (by with_reducible first | exact agg47 | exact agg126 | exact agg124 | exact agg113) aa5 ?_) | ((with_reducible refine pre_store _ _ _ rfl ?_); (first | refine sO hp rfl (sTm rfl) ceDB0 aa5 ?_ | refine sA hp rfl (sTm rfl) (sTm rfl) (by with_reducible first | exact agg47 | exact agg126 | exact agg124 | exact agg113) aa5 ?_ | refine sG hp rfl (sTm rfl) (sTm rfl) (by with_reducible first | exact agg47 | exact agg126 | exact agg124 | exact agg113) aa5 ?_); clear hp; intro w1 hp; simp only [spl, zSet, sSet] at hp) | ((with_reducible refine pre_build _ _ _ rfl ?_); refine lS hp rfl (by intro w; go_simp; rfl) ?_; clear hp; intro b w1 hp; simp only [List.length_cons, List.length_nil, Nat.reduceAdd] at hp)); simp only [put_some, put_none, sSet, zSet]))
      go_roundg (gk - 1)
      case measure => omega
      case rel =>
        rw [HSET.out a3 a4 c3 c4] at hp
        refine ⟨q + 1, ys ++ [(⟨xh, xp, xo, a3, ws, c3, a4, ls, c4⟩ : Ob)], _, M ++ (R3 ++ R4), by omega, by go_num, Lib.hid (by rw [List.length_append, HYL.out]; rfl), Lib.hid (ObsSm.snoc HJ.out ⟨rfl, rfl, rfl, rfl, rfl⟩ HYL.out HYS.out), Lib.hid (HNEW.out _ ?_), Lib.hid (ObsR.snoc HM.out ⟨R3, R4, rfl, HR3.out, HR4.out⟩), hp.tail⟩
        rw [obs_len, List.length_append, List.length_append, List.length_drop, HYL.out, List.length_singleton, show q + 1 + (os.length - (q + 1)) = os.length by omega]
    · have e2 : decide ((q : Int) < (os.length : Int)) = false := by simp; omega
      obtain rfl : os.length = q := by omega
      rw [List.drop_length, List.append_nil] at HR
      go_wp2_with (first | go_skip | ((first | ((with_reducible refine pre_alloc _ rfl ?_); refine lZ hp rfl zero126 ?_; clear hp; intro b w1 hp) | ((with_reducible refine pre_box _ _ rfl ?_); refine lB hp rfl (sTm rfl) rfl ?_; clear hp; intro b w1 hp) | ((with_reducible refine pre_load _ _ rfl ?_); first | refine lO hp rfl (sTm rfl) ceDB0 aa5 ?_ | refine lA hp rfl (sTm rfl) (by with_reducible first | exact agg47 | exact agg126 | exact agg124 | exact agg113) aa5 ?_) | ((with_reducible refine pre_store _ _ _ rfl ?_); (first | refine sO hp rfl (sTm rfl) ceDB0 aa5 ?_ | refine sA hp rfl (sTm rfl) (sTm rfl) (by with_reducible first | exact agg47 | exact agg126 | exact agg124 | exact agg113) aa5 ?_ | refine sG hp rfl (sTm rfl) (sTm rfl) (by with_reducible first | exact agg47 | exact agg126 | exact agg124 | exact agg113) aa5 ?_); clear hp; intro w1 hp; simp only [spl, zSet, sSet] at hp) | ((with_reducible refine pre_build _ _ _ rfl ?_); refine lS hp rfl (by intro w; go_simp; rfl) ?_; clear hp; intro b w1 hp; simp only [List.length_cons, List.length_nil, Nat.reduceAdd] at hp)); simp only [put_some, put_none, sSet, zSet]))
      obtain ⟨bw, rfl⟩ := hp.id0
      go_ret
      refine ⟨bw, ⟨od, a1, ys, c1, nx, t0, t1, t2, t3, a2, fs, c2⟩, rfl, ⟨rfl, rfl, rfl, rfl, rfl, rfl, ObsSm.symm ⟨HYL.out.symm, HYS.out⟩, rfl⟩, R, R2, M, ⟨?_, HR2.out, HM.out⟩, ?_⟩
      · simp only; rw [HYL.out]; exact HR.out
      · simp only [hvL]
        rw [HYL.out, List.append_nil]
        exact hp.sublist (List.Sublist.cons_cons _ (List.sublist_cons_self _ _))
end Go.Proofs.YtaafajaadfgaoaaGreat
/- The walks of no and lead. -/
namespace Go.Proofs.YtaafajaadfgaoaaGreat
open Go.RowKit
theorem agg54 : aggB Tryz.prog 54 2 = true := by kernel_rfl
theorem agg29 : aggB Tryz.prog 29 7 = true := by kernel_rfl
theorem cell27 : cellB Tryz.prog 27 = true := by kernel_rfl
theorem zero54 : zeroL Tryz.prog 54 = some ([.int .i64 0, .int .i64 0], 2) := by kernel_rfl
def resV (c v : Int) : Value := .agg #[.int .i64 c, .int .i64 v]
set_option maxRecDepth 100000 in
set_option maxHeartbeats 4000000 in
theorem no75 (e : Int) (w : World) : Calls Tryz.prog 75 #[.int .i64 e] w fun r w' => r = .returned (resV e 0) ∧ Below w.heap.size w w' := by
  have hp := Hp.start w
  go_enter Tryz.func75, Tryz.ntmps75
  go_wp2_with (first | go_skip | ((first | ((with_reducible refine pre_alloc _ rfl ?_); refine lZ hp rfl zero54 ?_; clear hp; intro b w1 hp) | ((with_reducible refine pre_box _ _ rfl ?_); refine lB hp rfl (sTm rfl) rfl ?_; clear hp; intro b w1 hp) | ((with_reducible refine pre_load _ _ rfl ?_); first | refine lO hp rfl (sTm rfl) (by with_reducible first | exact cell3 | exact cell43) aa5 ?_ | refine lA hp rfl (sTm rfl) (by with_reducible first | exact agg113 | exact agg54) aa5 ?_) | ((with_reducible refine pre_store _ _ _ rfl ?_); (first | refine sO hp rfl (sTm rfl) (by with_reducible first | exact cell3 | exact cell43) aa5 ?_ | refine sA hp rfl (sTm rfl) (sTm rfl) (by with_reducible first | exact agg113 | exact agg54) aa5 ?_ | refine sG hp rfl (sTm rfl) (sTm rfl) (by with_reducible first | exact agg113 | exact agg54) aa5 ?_); clear hp; intro w1 hp; simp only [spl, zSet, sSet] at hp)); simp only [put_some, put_none, sSet, zSet]))
  exact bodyPost_ret (results_one (rs := [.cell 2 54]) Tryz.results75 (.cell rfl (hp.loadAgg agg54 at0 0 _ (by rfl) (by rfl)) .nil)) rfl ⟨rfl, hp.below⟩
def LeadPost (B : Nat) (w0 : World) (L L' : List Blk) (ok : Bool) (e : Ending) (w' : World) : Prop := (ok = true ∧ e = .returned (resV 0 0) ∧ Hp B w0 w' L') ∨ (ok = false ∧ e = .returned (resV 51 0) ∧ Hp B w0 w' L)
set_option maxRecDepth 100000 in
set_option maxHeartbeats 4000000 in
theorem lead153 (os : List Ob) (oa : Option Addr) (oc : Nat) (hol : os.length ≤ 1000) (hs : SortedO os) (to : Int) {B : Nat} {w0 w : World} {L : List Blk} (hp : Hp B w0 w L) {i j b n m off g : Nat} {l cells : List Value} {t u : TypeId}
    (hj : L[j]? = some ⟨b, l, u, m⟩) (hl : l[1]? = some (.slice oa os.length oc)) (ho : Kept L fun w => RowIs w oa (os.flatMap obV)) (hi : L[i]? = some ⟨g, cells, t, n⟩) (hof : off < cells.length) :
    Calls Tryz.prog 153 #[.pointer (some ⟨b, 0, none⟩), .pointer (some ⟨g, off, none⟩), .int .i64 to] w (LeadPost B w0 L (L.set i ⟨g, cells.set off (.int .i64 to), t, n⟩) (leadsC os to)) := by
  have HS := Lib.hid hs
  have HO := Lib.hid ho
  have HJ : RowKit.Hid (∀ x : Blk, (x :: L)[j + 1]? = some ⟨b, l, u, m⟩) := Lib.hid (fun x => by simpa using hj)
  have HI : RowKit.Hid (∀ x : Blk, (x :: L)[i + 1]? = some ⟨g, cells, t, n⟩) := Lib.hid (fun x => by simpa using hi)
  have HSL := Lib.hid hl
  have HOF := Lib.hid hof
  clear hs ho hj hi hl hof
  obtain ⟨ok, hok⟩ : ∃ ok, leadsC os to = ok := ⟨_, rfl⟩
  have HE : RowKit.Hid (leadsB os to = ok) := Lib.hid (by rw [← leadsC_B]; exact hok)
  rw [hok]
  clear hok
  go_enter Tryz.func153, Tryz.ntmps153
  cases ok
  · go_wp2_with (first | ((with_reducible refine pre_load 43 _ rfl ?_); refine lO hp rfl (sTm rfl) cell43 (HJ.out _) ?_ (hv := HSL.out); simp only [put_some, put_none, sSet, zSet]) | (go_at_call 147; (with_reducible refine (leads147 os oa oc hol HS.out to _ (HO.out.at hp (fun p hm => List.mem_cons_of_mem _ hm))).mono ?_); rintro e w1 ⟨rfl, hb⟩; rw [HE.out]; replace hp := hp.call hb; clear hb) | (go_at_call 75; (with_reducible refine (no75 _ _).mono ?_); rintro e w1 ⟨rfl, hb⟩; replace hp := hp.call hb; clear hb) | go_skip | ((first | ((with_reducible refine pre_alloc _ rfl ?_); refine lZ hp rfl zero54 ?_; clear hp; intro b w1 hp) | ((with_reducible refine pre_box _ _ rfl ?_); refine lB hp rfl (sTm rfl) rfl ?_; clear hp; intro b w1 hp) | ((with_reducible refine pre_load _ _ rfl ?_); first | refine lO hp rfl (sTm rfl) (by with_reducible first | exact cell3 | exact cell43) aa5 ?_ | refine lA hp rfl (sTm rfl) (by with_reducible first | exact agg113 | exact agg54) aa5 ?_) | ((with_reducible refine pre_store _ _ _ rfl ?_); (first | refine sO hp rfl (sTm rfl) (by with_reducible first | exact cell3 | exact cell43) aa5 ?_ | refine sA hp rfl (sTm rfl) (sTm rfl) (by with_reducible first | exact agg113 | exact agg54) aa5 ?_ | refine sG hp rfl (sTm rfl) (sTm rfl) (by with_reducible first | exact agg113 | exact agg54) aa5 ?_); clear hp; intro w1 hp; simp only [spl, zSet, sSet] at hp)); simp only [put_some, put_none, sSet, zSet]))
    exact bodyPost_ret (results_one (rs := [.cell 6 54]) Tryz.results153 (.cell rfl (hp.loadAgg agg54 at0 0 _ (by rfl) (by rfl)) .nil)) rfl (.inr ⟨rfl, rfl, hp.tail⟩)
  · go_wp2_with (first | ((with_reducible refine pre_load 43 _ rfl ?_); refine lO hp rfl (sTm rfl) cell43 (HJ.out _) ?_ (hv := HSL.out); simp only [put_some, put_none, sSet, zSet]) | (go_at_call 147; (with_reducible refine (leads147 os oa oc hol HS.out to _ (HO.out.at hp (fun p hm => List.mem_cons_of_mem _ hm))).mono ?_); rintro e w1 ⟨rfl, hb⟩; rw [HE.out]; replace hp := hp.call hb; clear hb) | (go_at_call 75; (with_reducible refine (no75 _ _).mono ?_); rintro e w1 ⟨rfl, hb⟩; replace hp := hp.call hb; clear hb) | ((with_reducible refine pre_store 3 _ _ rfl ?_); refine sO hp rfl (sTm rfl) cell3 (HI.out _) ?_ (hlen := HOF.out); clear hp; intro w1 hp; simp only [sSet] at hp; simp only [put_some, put_none, sSet, zSet]) | go_skip | ((first | ((with_reducible refine pre_alloc _ rfl ?_); refine lZ hp rfl zero54 ?_; clear hp; intro b w1 hp) | ((with_reducible refine pre_box _ _ rfl ?_); refine lB hp rfl (sTm rfl) rfl ?_; clear hp; intro b w1 hp) | ((with_reducible refine pre_load _ _ rfl ?_); first | refine lO hp rfl (sTm rfl) (by with_reducible first | exact cell3 | exact cell43) aa5 ?_ | refine lA hp rfl (sTm rfl) (by with_reducible first | exact agg113 | exact agg54) aa5 ?_) | ((with_reducible refine pre_store _ _ _ rfl ?_); (first | refine sO hp rfl (sTm rfl) (by with_reducible first | exact cell3 | exact cell43) aa5 ?_ | refine sA hp rfl (sTm rfl) (sTm rfl) (by with_reducible first | exact agg113 | exact agg54) aa5 ?_ | refine sG hp rfl (sTm rfl) (sTm rfl) (by with_reducible first | exact agg113 | exact agg54) aa5 ?_); clear hp; intro w1 hp; simp only [spl, zSet, sSet] at hp)); simp only [put_some, put_none, sSet, zSet]))
    exact bodyPost_ret (results_one (rs := [.cell 6 54]) Tryz.results153 (.cell rfl (hp.loadAgg agg54 at0 0 _ (by rfl) (by rfl)) .nil)) rfl (.inl ⟨rfl, rfl, hp.tail⟩)
end Go.Proofs.YtaafajaadfgaoaaGreat
