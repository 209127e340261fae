/- Parts of the proof. -/
import Derived.Test.YtaafajaadfgaoaaGreatAz13
import Derived.Test.YtaafajaadfgaoaaGreatAz0
import Derived.Test.YtaafajaadfgaoaaGreatAz7
open List renaming set_cons_zero → zSet, set_cons_succ → sSet
/- The walk of the closure that cuts the links to what is gone. -/
set_option linter.unusedSimpArgs false
set_option linter.unusedVariables false
namespace Go.Proofs.YtaafajaadfgaoaaGreat
open Go.RowKit
def cutAt (h : Int) (l : List Int) (q : Nat) : List Int := (l.take q).map (cutI h) ++ l.drop q
theorem cutAt_zero (h : Int) (l : List Int) : cutAt h l 0 = l := by simp [cutAt]
theorem cutAt_all (h : Int) (l : List Int) : cutAt h l l.length = l.map (cutI h) := by simp [cutAt]
theorem cutAt_len (h : Int) (l : List Int) (q : Nat) : (cutAt h l q).length = l.length := by
  simp only [cutAt, List.length_append, List.length_map, List.length_take, List.length_drop]; omega
theorem cutAt_get {h : Int} {l : List Int} {q : Nat} {t : Int} (ht : l[q]? = some t) : (cutAt h l q)[q]? = some t := by
  have hlt := (List.getElem?_eq_some_iff.1 ht).1
  unfold cutAt
  have hl : ((l.take q).map (cutI h)).length = q := by rw [List.length_map, List.length_take]; omega
  rw [List.getElem?_append_right (by omega), hl, Nat.sub_self, List.getElem?_drop]
  exact ht
theorem cutAt_step {h : Int} {l : List Int} {q : Nat} {t : Int} (ht : l[q]? = some t) : cutAt h l (q + 1) = (cutAt h l q).set q (cutI h t) := by
  obtain ⟨hlt, rfl⟩ := List.getElem?_eq_some_iff.1 ht
  unfold cutAt
  have hl : ((l.take q).map (cutI h)).length = q := by rw [List.length_map, List.length_take]; omega
  rw [List.set_append_right _ _ (by omega), hl, Nat.sub_self, List.drop_eq_getElem_cons hlt, zSet, List.take_succ_eq_append_getElem hlt, List.map_append, List.append_assoc]
  rfl
def midC (pre : List Value) (l : List Int) (post : List Value) : List Value := pre ++ (l.flatMap iV ++ post)
theorem midC_get {pre post : List Value} {l : List Int} {q : Nat} {t : Int} (h : l[q]? = some t) : (midC pre l post)[pre.length + q]? = some (.int .i64 t) := by
  have hlt := (List.getElem?_eq_some_iff.1 h).1
  unfold midC
  rw [List.getElem?_append_right (by omega), show pre.length + q - pre.length = q by omega, List.getElem?_append_left (by rw [ints_len]; omega)]
  have := flat_get iV 1 iV_len l q 0 t (.int .i64 t) h rfl
  simpa using this
theorem ints_map (l : List Int) : l.flatMap iV = l.map (Value.int .i64) := by
  induction l with
  | nil => rfl
  | cons x l ih => rw [List.flatMap_cons, ih]; rfl
theorem midC_set {pre post : List Value} {l : List Int} {q : Nat} (t : Int) (h : q < l.length) : (midC pre l post).set (pre.length + q) (.int .i64 t) = midC pre (l.set q t) post := by
  unfold midC
  rw [List.set_append_right _ _ (by omega), show pre.length + q - pre.length = q by omega, List.set_append_left _ _ (by rw [ints_len]; omega), ints_map, ints_map, List.map_set]
theorem midC_len (pre : List Value) (l : List Int) (post : List Value) : (midC pre l post).length = pre.length + l.length + post.length := by
  unfold midC
  rw [List.length_append, List.length_append, ints_len]; omega
theorem set_self {l : List Int} {q : Nat} {t : Int} (h : l[q]? = some t) : l.set q t = l := set_same h
set_option maxRecDepth 100000 in
set_option maxHeartbeats 4000000 in
theorem cut233 {B : Nat} {w0 w : World} {bg g off n c : Nat} {t : TypeId} {x : Ob} {pre post : List Value} {ls : List Int} {L : List Blk} (hl : ls.length ≤ 5000) (hc : ls.length ≤ c) (hof : off = pre.length) (hp : Hp B w0 w (⟨bg, obV x, 126, 5⟩ :: ⟨g, midC pre ls post, t, n⟩ :: L)) :
    Calls Tryz.prog 233 #[.slice (some ⟨g, off, none⟩) ls.length c, .pointer (some ⟨bg, 0, none⟩)] w fun e w' => e = .returned (.tuple #[]) ∧ Hp B w0 w' (⟨bg, obV x, 126, 5⟩ :: ⟨g, midC pre (ls.map (cutI x.h)) post, t, n⟩ :: L) := by
  obtain ⟨xh, xp, xo, wa, ws, wc, la, lks, lc⟩ := x
  simp only [obV] at hp ⊢
  have HOFF := Lib.hid hof
  go_enter Tryz.func233, Tryz.ntmps233
  go_wp2_with (first | go_skip | ((first | ((with_reducible refine pre_box _ _ rfl ?_); refine lB hp rfl (sTm rfl) rfl ?_; clear hp; intro b w1 hp) | ((with_reducible refine pre_load _ _ rfl ?_); first | refine lO hp rfl (sTm rfl) cell3 aa5 ?_ | refine lA hp rfl (sTm rfl) agg126 aa5 ?_) | ((with_reducible refine pre_store _ _ _ rfl ?_); (first | refine sO hp rfl (sTm rfl) cell3 aa5 ?_ | refine sA hp rfl (sTm rfl) (sTm rfl) agg126 aa5 ?_ | refine sG hp rfl (sTm rfl) (sTm rfl) agg126 aa5 ?_); clear hp; intro w1 hp; simp only [spl, zSet, sSet] at hp)); simp only [put_some, put_none, sSet, zSet]))
  go_loopg [7] ls.length (fun k i wr => ∃ q : Nat, k + q = ls.length ∧ i = .int .i64 q ∧ Hp B w0 wr (⟨bg, [.int .i64 xh, .int .i64 xp, .int .i64 xo, .slice wa ws.length wc, .slice la lks.length lc], 126, 5⟩ :: ⟨g, midC pre (cutAt xh ls q) post, t, n⟩ :: L))
  case atStart => exact ⟨0, by omega, rfl, by rw [cutAt_zero]; exact hp⟩
  case round =>
    clear hp
    obtain ⟨q, hkq, rfl, hp⟩ := hrel
    by_cases hlt : q < ls.length
    · have hj := List.getElem?_eq_getElem hlt
      have hg := midC_get (pre := pre) (post := post) (cutAt_get (h := xh) hj)
      have hstep := cutAt_step (h := xh) hj
      have hset := midC_set (pre := pre) (post := post) (l := cutAt xh ls q) (q := q) 0 (by rw [cutAt_len]; exact hlt)
      have hof2 : pre.length + q < (midC pre (cutAt xh ls q) post).length := by rw [midC_len, cutAt_len]; omega
      have hself := set_self (cutAt_get (h := xh) hj)
      rw [← hof] at hg hset hof2
      have e1 : (0 : Int) ≤ (q : Int) := by omega
      have e2 : (q : Int) < (ls.length : Int) := by omega
      by_cases he : ls[q] = xh
      · have e3 : (ls[q] == xh) = true := by simp [he]
        rw [show cutI xh ls[q] = 0 by unfold cutI; rw [if_pos he]] at hstep
        rw [← hstep] at hset
        have HST := Lib.hid hset
        have HG := Lib.hid hg
        have HOF := Lib.hid hof2
        clear hj hg hstep hset hof2 hself he
        generalize midC pre (cutAt xh ls q) post = cells at hp HST HG HOF
        generalize ls[q] = tv at HG e3
        clear hof
        go_wp2_with (first | ((with_reducible refine pre_load 3 _ rfl ?_); refine lO hp rfl (sTm rfl) cell3 at1 ?_ (hv := HG.out); simp only [put_some, put_none, sSet, zSet]) | ((with_reducible refine pre_store 3 _ _ rfl ?_); refine sO hp rfl (sTm rfl) cell3 at1 ?_ (hlen := HOF.out); clear hp; intro w1 hp; simp only [sSet, zSet] at hp; simp only [put_some, put_none, sSet, zSet]) | go_skip | ((first | ((with_reducible refine pre_box _ _ rfl ?_); refine lB hp rfl (sTm rfl) rfl ?_; clear hp; intro b w1 hp) | ((with_reducible refine pre_load _ _ rfl ?_); first | refine lO hp rfl (sTm rfl) cell3 aa5 ?_ | refine lA hp rfl (sTm rfl) agg126 aa5 ?_) | ((with_reducible refine pre_store _ _ _ rfl ?_); (first | refine sO hp rfl (sTm rfl) cell3 aa5 ?_ | refine sA hp rfl (sTm rfl) (sTm rfl) agg126 aa5 ?_ | refine sG hp rfl (sTm rfl) (sTm rfl) agg126 aa5 ?_); clear hp; intro w1 hp; simp only [spl, zSet, sSet] at hp)); simp only [put_some, put_none, sSet, zSet]))
        go_roundg (gk - 1)
        case measure => omega
        case rel => exact ⟨q + 1, by omega, by go_num, by rw [HST.out] at hp; exact hp⟩
      · have e3 : (ls[q] == xh) = false := by simp [he]
        rw [show cutI xh ls[q] = ls[q] by unfold cutI; rw [if_neg he], hself] at hstep
        have HST : RowKit.Hid (midC pre (cutAt xh ls (q + 1)) post = midC pre (cutAt xh ls q) post) := Lib.hid (by rw [hstep])
        have HG := Lib.hid hg
        clear hj hg hstep hset hof2 hself he
        generalize midC pre (cutAt xh ls q) post = cells at hp HST HG
        generalize ls[q] = tv at HG e3
        clear hof
        go_wp2_with (first | ((with_reducible refine pre_load 3 _ rfl ?_); refine lO hp rfl (sTm rfl) cell3 at1 ?_ (hv := HG.out); simp only [put_some, put_none, sSet, zSet]) | go_skip | ((first | ((with_reducible refine pre_box _ _ rfl ?_); refine lB hp rfl (sTm rfl) rfl ?_; clear hp; intro b w1 hp) | ((with_reducible refine pre_load _ _ rfl ?_); first | refine lO hp rfl (sTm rfl) cell3 aa5 ?_ | refine lA hp rfl (sTm rfl) agg126 aa5 ?_) | ((with_reducible refine pre_store _ _ _ rfl ?_); (first | refine sO hp rfl (sTm rfl) cell3 aa5 ?_ | refine sA hp rfl (sTm rfl) (sTm rfl) agg126 aa5 ?_ | refine sG hp rfl (sTm rfl) (sTm rfl) agg126 aa5 ?_); clear hp; intro w1 hp; simp only [spl, zSet, sSet] at hp)); simp only [put_some, put_none, sSet, zSet]))
        go_roundg (gk - 1)
        case measure => omega
        case rel => exact ⟨q + 1, by omega, by go_num, by rw [HST.out]; exact hp⟩
    · obtain rfl : ls.length = q := by omega
      rw [cutAt_all] at hp
      go_wp2_with (first | go_skip | ((first | ((with_reducible refine pre_box _ _ rfl ?_); refine lB hp rfl (sTm rfl) rfl ?_; clear hp; intro b w1 hp) | ((with_reducible refine pre_load _ _ rfl ?_); first | refine lO hp rfl (sTm rfl) cell3 aa5 ?_ | refine lA hp rfl (sTm rfl) agg126 aa5 ?_) | ((with_reducible refine pre_store _ _ _ rfl ?_); (first | refine sO hp rfl (sTm rfl) cell3 aa5 ?_ | refine sA hp rfl (sTm rfl) (sTm rfl) agg126 aa5 ?_ | refine sG hp rfl (sTm rfl) (sTm rfl) agg126 aa5 ?_); clear hp; intro w1 hp; simp only [spl, zSet, sSet] at hp)); simp only [put_some, put_none, sSet, zSet]))
      exact bodyPost_end (results_none Tryz.results233 _ _ _) rfl ⟨rfl, hp⟩
set_option maxRecDepth 100000 in
set_option maxHeartbeats 4000000 in
theorem cut233_none {a : Option Addr} {c bg : Nat} (w : World) : Calls Tryz.prog 233 #[.slice a 0 c, .pointer (some ⟨bg, 0, none⟩)] w fun e w' => e = .returned (.tuple #[]) ∧ w = w' := by
  go_enter Tryz.func233, Tryz.ntmps233
  go_wp2
  go_loopg [7] 0 (fun k i wr => i = .int .i64 0 ∧ w = wr)
  case atStart => exact ⟨rfl, rfl⟩
  case round =>
    obtain ⟨rfl, rfl⟩ := hrel
    go_wp2
    exact bodyPost_end (results_none Tryz.results233 _ _ _) rfl ⟨rfl, rfl⟩
end Go.Proofs.YtaafajaadfgaoaaGreat
/- The walk of slices.Delete of one object. -/
namespace Go.Proofs.YtaafajaadfgaoaaGreat
open Go.RowKit Go.Lib
theorem zv126 (w : World) : (zeroValue 126).run Tryz.prog w = .ok (.agg #[.int .i64 0, .int .i64 0, .int .i64 0, .slice none 0 0, .slice none 0 0]) w := by kernel_rfl
theorem zc126 : (Builtin.zeroCells (Value.agg #[.int .i64 0, .int .i64 0, .int .i64 0, .slice none 0 0, .slice none 0 0]).cells 1).toList = [.int .i64 0, .int .i64 0, .int .i64 0, .slice none 0 0, .slice none 0 0] := by kernel_rfl
def DeldO (B : Nat) (w0 : World) (g m cap : Nat) (xs : List Value) (M : List Blk) (e : Ending) (w' : World) : Prop := e = .returned (.slice (some ⟨g, 0, none⟩) m cap) ∧ Hp B w0 w' (⟨g, xs, 126, cap * 5⟩ :: M)
set_option maxRecDepth 100000 in
set_option maxHeartbeats 4000000 in
theorem del231 {B : Nat} {w0 w : World} {g cap : Nat} {l : List Ob} {M : List Blk} (hp : Hp B w0 w (⟨g, l.flatMap obV, 126, cap * 5⟩ :: M)) (hl : l.length ≤ 1000) (hcap : l.length ≤ cap) {i j m n : Nat} (hj : j = i + 1) (hn : n = l.length) (hm : n = m + 1) (hi : i < n) :
    Calls Tryz.prog 231 #[.slice (some ⟨g, 0, none⟩) n cap, .int .i64 i, .int .i64 j] w (DeldO B w0 g m cap ((l.eraseIdx i).flatMap obV) M) := by
  obtain ⟨i0, hi0, hz0, hz1, hz2⟩ := info_parts info126
  have hxl := obs_len l
  have hx1 := obs_one l
  have HER : RowKit.Hid ((l.flatMap obV).take (i * 5) ++ (l.flatMap obV).drop (j * 5) = (l.eraseIdx i).flatMap obV) := Lib.hid (by
    rw [flat_drop 5 obV_len, hj, List.eraseIdx_eq_take_drop_succ, List.flatMap_append]
    congr 1
    have h := flat_drop 5 obV_len l i
    have h2 : l.flatMap obV = (l.take i).flatMap obV ++ (l.drop i).flatMap obV := by rw [← List.flatMap_append, List.take_append_drop]
    have h3 : ((l.take i).flatMap obV).length = i * 5 := by rw [obs_len, List.length_take, Nat.min_eq_left (by omega)]
    rw [h2, ← h3, List.take_left])
  generalize l.flatMap obV = xs at hp hxl hx1 HER
  rw [← hn] at hxl hcap hl
  clear hn
  have HYL : RowKit.Hid ((xs.drop (j * 5)).length = (n - j) * 5) := Lib.hid (by rw [List.length_drop, hxl]; omega)
  have HY1 : RowKit.Hid ((xs.drop (j * 5)).all (·.oneCell') = true) := Lib.hid (by rw [List.all_eq_true]; intro u hu; exact List.all_eq_true.1 hx1 u (List.mem_of_mem_drop hu))
  have HFI : RowKit.Hid (i + (n - j) ≤ cap) := Lib.hid (by omega)
  have HLE : RowKit.Hid ((i + (n - j)) * 5 ≤ xs.length) := Lib.hid (by rw [hxl]; omega)
  have HSUM : RowKit.Hid (i + (n - j) = m) := Lib.hid (by omega)
  have HSPL : RowKit.Hid (spl xs (i * 5) (xs.drop (j * 5)) = (xs.take (i * 5) ++ xs.drop (j * 5)) ++ xs.drop (i * 5 + (xs.drop (j * 5)).length)) := Lib.hid (by
    rw [spl_mid _ _ _ (by rw [List.length_drop, hxl]; omega), List.append_assoc])
  have HOFF : RowKit.Hid (m * 5 = (xs.take (i * 5) ++ xs.drop (j * 5)).length) := Lib.hid (by rw [List.length_append, List.length_take, List.length_drop, hxl]; omega)
  have HFC : RowKit.Hid ((xs.take (i * 5) ++ xs.drop (j * 5)).length + 5 ≤ cap * 5) := Lib.hid (by rw [← HOFF.out]; omega)
  have HNM : RowKit.Hid (n - m = 1) := Lib.hid (by omega)
  have f1 : (0 : Int) ≤ (i : Int) := by omega
  have f2 : (i : Int) ≤ (j : Int) := by omega
  have f3 : (j : Int) ≤ (n : Int) := by omega
  have f4 : (n : Int) ≤ (cap : Int) := by omega
  have f5 : ((i : Int) == (j : Int)) = false := by simp; omega
  have f5' : (i == j) = false := by simp; omega
  have f6 : (i : Int) ≤ (cap : Int) := by omega
  have f7 : (0 : Int) ≤ (j : Int) := by omega
  have f8 : (m : Int) ≤ (n : Int) := by omega
  have f9 : ¬ (cap = m) := by omega
  have f10 : (0 : Int) ≤ (m : Int) := by omega
  have f11 : ¬ (cap = i) := by omega
  have f12 : ¬ (n = i) := by omega
  by_cases hcj : j = cap
  · subst hcj
    have HNL : RowKit.Hid (∀ w a, RowIs w a (xs.drop (j * 5))) := Lib.hid (fun w a => by rw [List.drop_eq_nil_of_le (by omega)]; exact RowIs.nil _ _)
    clear hxl hx1 hm hj hi hl hcap
    go_enter Tryz.func231, Tryz.ntmps231
    go_wp2_with fail
    refine wp_region_keeps [] (Keeps.zero hp.drew) [] [(0, true), (1, true), (2, true), (3, true), (4, true), (5, true), (6, false), (7, false)] (by kernel_rfl) (by kernel_rfl) rfl (by kernel_rfl) (fun _ _ d _ _ h => by cases d <;> exact h) ?_
    replace hp := hp.drew
    repeat' (with_reducible refine plan_is ?_); first | (with_reducible refine plan_nil ?_) | ((with_reducible refine plan_t ?_); refine plan_tk rfl ?_; (first | ((with_reducible refine tk_mv _ rfl ?_); refine tM rfl ?_) | refine tG (fun w _ => (by go_simp; try rfl)) ?_); try simp only [put_some, put_none, eval_tmp, eval_const, sSet, zSet, List.getD_cons_succ, List.getD_cons_zero, wrap_eq]) | (refine plan_do rfl (fun K hK => ?_); go_wp2_with (first | ((with_reducible refine pre_append _ _ 43 rfl ?_); first | (refine wpList_appendFit hp _ _ _ rfl wy Tryz.underlying43 i0 hi0 hz1 (by decide) (sTm rfl) _ (n - j) _ (sTm rfl) (xs.drop (j * 5)) HYL.out (by first | exact RowIs.part hp | exact HNL.out _ _) HY1.out HFI.out HLE.out ?_); clear hp; intro w1 hp; rw [HSPL.out] at hp; replace hp := hp.less; rw [HSUM.out]; simp only [put_some, put_none, sSet, zSet])); (refine hK.out _ _ (.inr (Keeps.zero hp)) ?_); clear hK K; try simp only [put_some, put_none, eval_tmp, eval_const, sSet, zSet, List.getD_cons_succ, List.getD_cons_zero, wrap_eq])
    go_wp2_with (first | ((with_reducible refine pre_clear _ _ rfl ?_); refine wpList_clearOne hp _ _ rfl wy Tryz.underlying43 _ zv126 _ _ (sTm rfl) HNM.out _ zc126 rfl rfl HOFF.out HFC.out ?_; clear hp; intro v1 w1 hp; simp only [put_some, put_none, sSet, zSet]))
    go_ret
    exact ⟨rfl, by rw [← HER.out]; exact hp⟩
  · have f13 : ¬ (cap = j) := fun h => hcj h.symm
    have HNL : RowKit.Hid True := Lib.hid trivial
    clear hxl hx1 hm hj hi hl hcap
    go_enter Tryz.func231, Tryz.ntmps231
    go_wp2_with fail
    refine wp_region_keeps [] (Keeps.zero hp.drew) [] [(0, true), (1, true), (2, true), (3, true), (4, true), (5, true), (6, false), (7, false)] (by kernel_rfl) (by kernel_rfl) rfl (by kernel_rfl) (fun _ _ d _ _ h => by cases d <;> exact h) ?_
    replace hp := hp.drew
    repeat' (with_reducible refine plan_is ?_); first | (with_reducible refine plan_nil ?_) | ((with_reducible refine plan_t ?_); refine plan_tk rfl ?_; (first | ((with_reducible refine tk_mv _ rfl ?_); refine tM rfl ?_) | refine tG (fun w _ => (by go_simp; try rfl)) ?_); try simp only [put_some, put_none, eval_tmp, eval_const, sSet, zSet, List.getD_cons_succ, List.getD_cons_zero, wrap_eq]) | (refine plan_do rfl (fun K hK => ?_); go_wp2_with (first | ((with_reducible refine pre_append _ _ 43 rfl ?_); first | (refine wpList_appendFit hp _ _ _ rfl wy Tryz.underlying43 i0 hi0 hz1 (by decide) (sTm rfl) _ (n - j) _ (sTm rfl) (xs.drop (j * 5)) HYL.out (by first | exact RowIs.part hp | exact HNL.out _ _) HY1.out HFI.out HLE.out ?_); clear hp; intro w1 hp; rw [HSPL.out] at hp; replace hp := hp.less; rw [HSUM.out]; simp only [put_some, put_none, sSet, zSet])); (refine hK.out _ _ (.inr (Keeps.zero hp)) ?_); clear hK K; try simp only [put_some, put_none, eval_tmp, eval_const, sSet, zSet, List.getD_cons_succ, List.getD_cons_zero, wrap_eq])
    go_wp2_with (first | ((with_reducible refine pre_clear _ _ rfl ?_); refine wpList_clearOne hp _ _ rfl wy Tryz.underlying43 _ zv126 _ _ (sTm rfl) HNM.out _ zc126 rfl rfl HOFF.out HFC.out ?_; clear hp; intro v1 w1 hp; simp only [put_some, put_none, sSet, zSet]))
    go_ret
    exact ⟨rfl, by rw [← HER.out]; exact hp⟩
end Go.Proofs.YtaafajaadfgaoaaGreat
