/- Parts of the proof. -/
import Derived.Test.YtaafajaadfgaoaaGreatPk40
open List renaming set_cons_zero → zSet, set_cons_succ → sSet
/- The walk of fold: a log that comes in, no kind of record; all of them. -/
set_option linter.unusedSimpArgs false
set_option linter.unusedVariables false
namespace Go.Proofs.YtaafajaadfgaoaaGreat
open Go.RowKit
theorem ceOG0 {ty : TypeId} (h : cellB Tryz.prog ty = true := by with_reducible first | exact cell3 | exact cell22 | exact cell9) : cellB Tryz.prog ty = true := h
theorem gaOG1 {ty : TypeId} {k : Nat} (h : aggB Tryz.prog ty k = true := by with_reducible first | exact agg24 | exact agg33 | exact agg31) : aggB Tryz.prog ty k = true := h
theorem ceOG2 {ty : TypeId} (h : cellB Tryz.prog ty = true := by with_reducible first | exact cell3 | exact cell4 | exact cell22 | exact cell9 | exact cell37 | exact cell26) : cellB Tryz.prog ty = true := h
set_option maxRecDepth 100000 in
set_option maxHeartbeats 16000000 in
theorem fold_import (bw : Nat) (vw nm bs : Int) (im : ByteArray) (ea : Option Addr) (es : List Env) (ec : Nat) (rv rf rn : Int) (rim : ByteArray) (nu vi cl sq kk hh ii nn cc vv tt : Int) (ra : Option Addr) (rs : List Env) (rc : Nat) {R TT : List Blk} {w0 w : World} (hR : SubRow 31 11 (.slice ea es.length ec) es.length (es.flatMap envL) R) (hec : es.length ≤ ec) (hes : es.length ≤ 1500) (him : im.size ≤ 1000000) (hrs : rs.length ≤ 1500) (hrc : rs.length ≤ rc) (hri : rim.size ≤ 1000000) (hok : okC ⟨vw, nm, bs, im, ea, es, ec⟩ = true) (kd : Int) (hkd : kd = 5) (hp : Hp w0.heap.size w0 w (⟨bw, [.int .i64 vw, .int .i64 nm, .int .i64 bs, .string im, .slice ea es.length ec], 103, 5⟩ :: (R ++ TT))) (ha : RowIs w0 ra (rs.flatMap envL)) : Calls Tryz.prog 70 #[.pointer (some ⟨bw, 0, none⟩), .agg #[.int .i64 kd, .int .i64 rv, .int .i64 rf, .int .i64 rn, .string rim, .int .i64 nu, .int .i64 vi, .int .i64 cl, .int .i64 sq, .int .i64 kk, .int .i64 hh, .int .i64 ii, .int .i64 nn, .int .i64 cc, .int .i64 vv, .int .i64 tt, .slice ra rs.length rc]] w (FoldP w0 bw (foldK ⟨vw, nm, bs, im, ea, es, ec⟩ ⟨kd, rv, rf, rn, rim, ⟨nu, vi, cl, sq, ⟨kk, hh, ii, nn, cc, vv, tt⟩⟩, ra, rs, rc⟩) TT) := by
  subst hkd
  have HR := Lib.hid hR
  have HRA := Lib.hid ha
  have hok2 := ok_facts hok
  simp only at hok2
  have e0 : wrap64 (bs + es.length) = bs + es.length := by unfold wrap64; omega
  have HRL : RowKit.Hid (rs.length ≤ 100000) := Lib.hid (by omega)
  by_cases h1 : rv < vw
  · have hf : foldK ⟨vw, nm, bs, im, ea, es, ec⟩ ⟨5, rv, rf, rn, rim, ⟨nu, vi, cl, sq, ⟨kk, hh, ii, nn, cc, vv, tt⟩⟩, ra, rs, rc⟩ = (141, ⟨vw, nm, bs, im, ea, es, ec⟩) := by unfold foldK madeK; simp [h1]
    rw [hf]
    have e1 : decide (rv < vw) = true := by simpa using h1
    clear h1 hf hok hec hes him hrs hrc hri ha hR hok2
    go_enter Tryz.func70, Tryz.ntmps70
    go_wp2_with (first | (go_at_call 71; (with_reducible refine (last71 vw nm bs im _ _ _ _).mono ?_); rintro e w1 ⟨rfl, hb⟩; replace hp := hp.call hb; clear hb) | go_skip | ((first | ((with_reducible refine pre_box _ _ rfl ?_); refine lB hp rfl (sTm rfl) rfl ?_; clear hp; intro b w1 hp) | ((with_reducible refine pre_load _ _ rfl ?_); first | refine lO hp rfl (sTm rfl) ceOG2 aa5 ?_ | refine lA hp rfl (sTm rfl) gaOG1 aa5 ?_) | ((with_reducible refine pre_store _ _ _ rfl ?_); (first | refine sO hp rfl (sTm rfl) ceOG2 aa5 ?_ | refine sA hp rfl (sTm rfl) (sTm rfl) gaOG1 aa5 ?_ | refine sG hp rfl (sTm rfl) (sTm rfl) gaOG1 aa5 ?_); clear hp; intro w1 hp; simp only [spl, zSet, sSet] at hp) | ((with_reducible refine pre_build _ _ _ rfl ?_); refine lS hp rfl (by intro w; go_simp; rfl) ?_; clear hp; intro b w1 hp; simp only [List.length_cons, List.length_nil, Nat.reduceAdd] at hp)); simp only [put_some, put_none, sSet, zSet]))
    refine wp_region_keeps [_, _] (Keeps.two hp.drew at0 at1) [] [(0, true), (1, true), (2, true), (3, true), (4, true), (5, true), (6, true), (7, true)] (by kernel_rfl) (by kernel_rfl) rfl (by kernel_rfl) (fun _ _ d _ _ h => by cases d <;> exact h) ?_
    replace hp := hp.drew
    repeat' (with_reducible refine plan_is ?_); first | (with_reducible refine plan_nil ?_) | ((with_reducible refine plan_t ?_); refine plan_tk rfl ?_; (first | ((with_reducible refine tk_mv _ rfl ?_); refine tM rfl ?_) | ((with_reducible refine tk_ld _ _ rfl ?_); refine tO rfl (sTm rfl) cell3 aa5 ?_) | refine tG (fun w _ => (by go_simp; try rfl)) ?_); try simp only [put_some, put_none, eval_tmp, eval_const, sSet, zSet, List.getD_cons_succ, List.getD_cons_zero, wrap_eq])
    go_wp2_with (first | (go_at_call 71; (with_reducible refine (last71 vw nm bs im _ _ _ _).mono ?_); rintro e w1 ⟨rfl, hb⟩; replace hp := hp.call hb; clear hb) | go_skip | ((first | ((with_reducible refine pre_box _ _ rfl ?_); refine lB hp rfl (sTm rfl) rfl ?_; clear hp; intro b w1 hp) | ((with_reducible refine pre_load _ _ rfl ?_); first | refine lO hp rfl (sTm rfl) ceOG2 aa5 ?_ | refine lA hp rfl (sTm rfl) gaOG1 aa5 ?_) | ((with_reducible refine pre_store _ _ _ rfl ?_); (first | refine sO hp rfl (sTm rfl) ceOG2 aa5 ?_ | refine sA hp rfl (sTm rfl) (sTm rfl) gaOG1 aa5 ?_ | refine sG hp rfl (sTm rfl) (sTm rfl) gaOG1 aa5 ?_); clear hp; intro w1 hp; simp only [spl, zSet, sSet] at hp) | ((with_reducible refine pre_build _ _ _ rfl ?_); refine lS hp rfl (by intro w; go_simp; rfl) ?_; clear hp; intro b w1 hp; simp only [List.length_cons, List.length_nil, Nat.reduceAdd] at hp)); simp only [put_some, put_none, sSet, zSet]))
    go_ret
    exact fold_bad (by decide) hp.kp
  · have e1 : decide (rv < vw) = false := by simpa using h1
    cases hi : inM rn 0 900000000 with
    | false =>
      have hf : foldK ⟨vw, nm, bs, im, ea, es, ec⟩ ⟨5, rv, rf, rn, rim, ⟨nu, vi, cl, sq, ⟨kk, hh, ii, nn, cc, vv, tt⟩⟩, ra, rs, rc⟩ = (140, ⟨vw, nm, bs, im, ea, es, ec⟩) := by unfold foldK madeK lastK; simp [h1, hi]
      rw [hf]
      have HI := Lib.hid hi
      clear h1 hf hi hok hec hes him hrs hrc hri ha hR hok2
      go_enter Tryz.func70, Tryz.ntmps70
      go_wp2_with (first | (go_at_call 71; (with_reducible refine (last71 vw nm bs im _ _ _ _).mono ?_); rintro e w1 ⟨rfl, hb⟩; replace hp := hp.call hb; clear hb) | go_skip | ((first | ((with_reducible refine pre_box _ _ rfl ?_); refine lB hp rfl (sTm rfl) rfl ?_; clear hp; intro b w1 hp) | ((with_reducible refine pre_load _ _ rfl ?_); first | refine lO hp rfl (sTm rfl) ceOG2 aa5 ?_ | refine lA hp rfl (sTm rfl) gaOG1 aa5 ?_) | ((with_reducible refine pre_store _ _ _ rfl ?_); (first | refine sO hp rfl (sTm rfl) ceOG2 aa5 ?_ | refine sA hp rfl (sTm rfl) (sTm rfl) gaOG1 aa5 ?_ | refine sG hp rfl (sTm rfl) (sTm rfl) gaOG1 aa5 ?_); clear hp; intro w1 hp; simp only [spl, zSet, sSet] at hp) | ((with_reducible refine pre_build _ _ _ rfl ?_); refine lS hp rfl (by intro w; go_simp; rfl) ?_; clear hp; intro b w1 hp; simp only [List.length_cons, List.length_nil, Nat.reduceAdd] at hp)); simp only [put_some, put_none, sSet, zSet]))
      refine wp_region_keeps [_, _] (Keeps.two hp.drew at0 at1) [] [(0, true), (1, true), (2, true), (3, true), (4, true), (5, true), (6, true), (7, true)] (by kernel_rfl) (by kernel_rfl) rfl (by kernel_rfl) (fun _ _ d _ _ h => by cases d <;> exact h) ?_
      replace hp := hp.drew
      repeat' (with_reducible refine plan_is ?_); first | (with_reducible refine plan_nil ?_) | ((with_reducible refine plan_t ?_); refine plan_tk rfl ?_; (first | ((with_reducible refine tk_mv _ rfl ?_); refine tM rfl ?_) | ((with_reducible refine tk_ld _ _ rfl ?_); refine tO rfl (sTm rfl) cell3 aa5 ?_) | refine tG (fun w _ => (by go_simp; try rfl)) ?_); try simp only [put_some, put_none, eval_tmp, eval_const, sSet, zSet, List.getD_cons_succ, List.getD_cons_zero, wrap_eq])
      go_wp2_with (first | (go_at_call 71; (with_reducible refine (last71 vw nm bs im _ _ _ _).mono ?_); rintro e w1 ⟨rfl, hb⟩; replace hp := hp.call hb; clear hb) | (go_at_call 136; (with_reducible refine (within_lit rn 0 900000000 _ HI.out _).mono ?_); rintro e w' ⟨rfl, rfl⟩) | (go_at_call 137; (with_reducible refine (follows_lit rs rn _ rc _ HF.out HRL.out _ (HRA.out.below hp.below)).mono ?_); rintro e w1 ⟨rfl, hb⟩; replace hp := hp.call hb; clear hb) | go_skip | ((first | ((with_reducible refine pre_box _ _ rfl ?_); refine lB hp rfl (sTm rfl) rfl ?_; clear hp; intro b w1 hp) | ((with_reducible refine pre_load _ _ rfl ?_); first | refine lO hp rfl (sTm rfl) ceOG2 aa5 ?_ | refine lA hp rfl (sTm rfl) gaOG1 aa5 ?_) | ((with_reducible refine pre_store _ _ _ rfl ?_); (first | refine sO hp rfl (sTm rfl) ceOG2 aa5 ?_ | refine sA hp rfl (sTm rfl) (sTm rfl) gaOG1 aa5 ?_ | refine sG hp rfl (sTm rfl) (sTm rfl) gaOG1 aa5 ?_); clear hp; intro w1 hp; simp only [spl, zSet, sSet] at hp) | ((with_reducible refine pre_build _ _ _ rfl ?_); refine lS hp rfl (by intro w; go_simp; rfl) ?_; clear hp; intro b w1 hp; simp only [List.length_cons, List.length_nil, Nat.reduceAdd] at hp)); simp only [put_some, put_none, sSet, zSet]))
      go_ret
      exact fold_bad (by decide) hp.kp
    | true =>
      have HI := Lib.hid hi
      cases hfo : folB rn 0 rs with
      | false =>
        have hf : foldK ⟨vw, nm, bs, im, ea, es, ec⟩ ⟨5, rv, rf, rn, rim, ⟨nu, vi, cl, sq, ⟨kk, hh, ii, nn, cc, vv, tt⟩⟩, ra, rs, rc⟩ = (140, ⟨vw, nm, bs, im, ea, es, ec⟩) := by unfold foldK madeK lastK; simp [h1, hi, hfo]
        rw [hf]
        have HF := Lib.hid hfo
        clear h1 hf hi hfo hok hec hes him hrs hrc hri ha hR hok2
        go_enter Tryz.func70, Tryz.ntmps70
        go_wp2_with (first | (go_at_call 71; (with_reducible refine (last71 vw nm bs im _ _ _ _).mono ?_); rintro e w1 ⟨rfl, hb⟩; replace hp := hp.call hb; clear hb) | go_skip | ((first | ((with_reducible refine pre_box _ _ rfl ?_); refine lB hp rfl (sTm rfl) rfl ?_; clear hp; intro b w1 hp) | ((with_reducible refine pre_load _ _ rfl ?_); first | refine lO hp rfl (sTm rfl) ceOG2 aa5 ?_ | refine lA hp rfl (sTm rfl) gaOG1 aa5 ?_) | ((with_reducible refine pre_store _ _ _ rfl ?_); (first | refine sO hp rfl (sTm rfl) ceOG2 aa5 ?_ | refine sA hp rfl (sTm rfl) (sTm rfl) gaOG1 aa5 ?_ | refine sG hp rfl (sTm rfl) (sTm rfl) gaOG1 aa5 ?_); clear hp; intro w1 hp; simp only [spl, zSet, sSet] at hp) | ((with_reducible refine pre_build _ _ _ rfl ?_); refine lS hp rfl (by intro w; go_simp; rfl) ?_; clear hp; intro b w1 hp; simp only [List.length_cons, List.length_nil, Nat.reduceAdd] at hp)); simp only [put_some, put_none, sSet, zSet]))
        refine wp_region_keeps [_, _] (Keeps.two hp.drew at0 at1) [] [(0, true), (1, true), (2, true), (3, true), (4, true), (5, true), (6, true), (7, true)] (by kernel_rfl) (by kernel_rfl) rfl (by kernel_rfl) (fun _ _ d _ _ h => by cases d <;> exact h) ?_
        replace hp := hp.drew
        repeat' (with_reducible refine plan_is ?_); first | (with_reducible refine plan_nil ?_) | ((with_reducible refine plan_t ?_); refine plan_tk rfl ?_; (first | ((with_reducible refine tk_mv _ rfl ?_); refine tM rfl ?_) | ((with_reducible refine tk_ld _ _ rfl ?_); refine tO rfl (sTm rfl) cell3 aa5 ?_) | refine tG (fun w _ => (by go_simp; try rfl)) ?_); try simp only [put_some, put_none, eval_tmp, eval_const, sSet, zSet, List.getD_cons_succ, List.getD_cons_zero, wrap_eq])
        go_wp2_with (first | (go_at_call 71; (with_reducible refine (last71 vw nm bs im _ _ _ _).mono ?_); rintro e w1 ⟨rfl, hb⟩; replace hp := hp.call hb; clear hb) | (go_at_call 136; (with_reducible refine (within_lit rn 0 900000000 _ HI.out _).mono ?_); rintro e w' ⟨rfl, rfl⟩) | (go_at_call 137; (with_reducible refine (follows_lit rs rn _ rc _ HF.out HRL.out _ (HRA.out.below hp.below)).mono ?_); rintro e w1 ⟨rfl, hb⟩; replace hp := hp.call hb; clear hb) | go_skip | ((first | ((with_reducible refine pre_box _ _ rfl ?_); refine lB hp rfl (sTm rfl) rfl ?_; clear hp; intro b w1 hp) | ((with_reducible refine pre_load _ _ rfl ?_); first | refine lO hp rfl (sTm rfl) ceOG2 aa5 ?_ | refine lA hp rfl (sTm rfl) gaOG1 aa5 ?_) | ((with_reducible refine pre_store _ _ _ rfl ?_); (first | refine sO hp rfl (sTm rfl) ceOG2 aa5 ?_ | refine sA hp rfl (sTm rfl) (sTm rfl) gaOG1 aa5 ?_ | refine sG hp rfl (sTm rfl) (sTm rfl) gaOG1 aa5 ?_); clear hp; intro w1 hp; simp only [spl, zSet, sSet] at hp) | ((with_reducible refine pre_build _ _ _ rfl ?_); refine lS hp rfl (by intro w; go_simp; rfl) ?_; clear hp; intro b w1 hp; simp only [List.length_cons, List.length_nil, Nat.reduceAdd] at hp)); simp only [put_some, put_none, sSet, zSet]))
        go_ret
        exact fold_bad (by decide) hp.kp
      | true =>
        have HF := Lib.hid hfo
        obtain ⟨b, hb⟩ : ∃ b, okC ⟨rv, rv, rn, rim, ea, rs, ec⟩ = b := ⟨_, rfl⟩
        have hf : foldK ⟨vw, nm, bs, im, ea, es, ec⟩ ⟨5, rv, rf, rn, rim, ⟨nu, vi, cl, sq, ⟨kk, hh, ii, nn, cc, vv, tt⟩⟩, ra, rs, rc⟩ = if b = true then (0, ⟨rv, rv, rn, rim, ea, rs, ec⟩) else (141, ⟨vw, nm, bs, im, ea, es, ec⟩) := by
          unfold foldK madeK lastK
          simp [h1, hi, hfo, hb]
        rw [hf]
        have HB : RowKit.Hid (∀ a c, okC ⟨rv, rv, rn, rim, a, rs, c⟩ = b) := Lib.hid (fun a c => by rw [← hb]; exact okC_sm ⟨rfl, rfl, rfl, rfl, rfl⟩)
        have HSS : RowKit.Hid (∀ a c, Kv.Small ⟨rv, rv, rn, rim, a, rs, c⟩) := Lib.hid (fun a c => ⟨by simp only; omega, hri⟩)
        have e4 : decide ((4000 : Int) < (rs.length : Int)) = false := by simp; omega
        clear h1 hf hi hfo hok hec hes him hrs hrc hri ha hR hok2 hb
        cases b
        rw [if_neg (by decide)]
        rotate_left
        rw [if_pos rfl]
        all_goals
          go_enter Tryz.func70, Tryz.ntmps70
          go_wp2_with (first | (go_at_call 71; (with_reducible refine (last71 vw nm bs im _ _ _ _).mono ?_); rintro e w1 ⟨rfl, hb⟩; replace hp := hp.call hb; clear hb) | go_skip | ((first | ((with_reducible refine pre_box _ _ rfl ?_); refine lB hp rfl (sTm rfl) rfl ?_; clear hp; intro b w1 hp) | ((with_reducible refine pre_load _ _ rfl ?_); first | refine lO hp rfl (sTm rfl) ceOG2 aa5 ?_ | refine lA hp rfl (sTm rfl) gaOG1 aa5 ?_) | ((with_reducible refine pre_store _ _ _ rfl ?_); (first | refine sO hp rfl (sTm rfl) ceOG2 aa5 ?_ | refine sA hp rfl (sTm rfl) (sTm rfl) gaOG1 aa5 ?_ | refine sG hp rfl (sTm rfl) (sTm rfl) gaOG1 aa5 ?_); clear hp; intro w1 hp; simp only [spl, zSet, sSet] at hp) | ((with_reducible refine pre_build _ _ _ rfl ?_); refine lS hp rfl (by intro w; go_simp; rfl) ?_; clear hp; intro b w1 hp; simp only [List.length_cons, List.length_nil, Nat.reduceAdd] at hp)); simp only [put_some, put_none, sSet, zSet]))
          refine wp_region_keeps [_, _] (Keeps.two hp.drew at0 at1) [] [(0, true), (1, true), (2, true), (3, true), (4, true), (5, true), (6, true), (7, true)] (by kernel_rfl) (by kernel_rfl) rfl (by kernel_rfl) (fun _ _ d _ _ h => by cases d <;> exact h) ?_
          replace hp := hp.drew
          repeat' (with_reducible refine plan_is ?_); first | (with_reducible refine plan_nil ?_) | ((with_reducible refine plan_t ?_); refine plan_tk rfl ?_; (first | ((with_reducible refine tk_mv _ rfl ?_); refine tM rfl ?_) | ((with_reducible refine tk_ld _ _ rfl ?_); refine tO rfl (sTm rfl) cell3 aa5 ?_) | refine tG (fun w _ => (by go_simp; try rfl)) ?_); try simp only [put_some, put_none, eval_tmp, eval_const, sSet, zSet, List.getD_cons_succ, List.getD_cons_zero, wrap_eq])
          go_wp2_with (first | (go_at_call 71; (with_reducible refine (last71 vw nm bs im _ _ _ _).mono ?_); rintro e w1 ⟨rfl, hb⟩; replace hp := hp.call hb; clear hb) | (go_at_call 136; (with_reducible refine (within_lit rn 0 900000000 _ HI.out _).mono ?_); rintro e w' ⟨rfl, rfl⟩) | (go_at_call 137; (with_reducible refine (follows_lit rs rn _ rc _ HF.out HRL.out _ (HRA.out.below hp.below)).mono ?_); rintro e w1 ⟨rfl, hb⟩; replace hp := hp.call hb; clear hb) | go_skip | ((first | ((with_reducible refine pre_box _ _ rfl ?_); refine lB hp rfl (sTm rfl) rfl ?_; clear hp; intro b w1 hp) | ((with_reducible refine pre_load _ _ rfl ?_); first | refine lO hp rfl (sTm rfl) ceOG2 aa5 ?_ | refine lA hp rfl (sTm rfl) gaOG1 aa5 ?_) | ((with_reducible refine pre_store _ _ _ rfl ?_); (first | refine sO hp rfl (sTm rfl) ceOG2 aa5 ?_ | refine sA hp rfl (sTm rfl) (sTm rfl) gaOG1 aa5 ?_ | refine sG hp rfl (sTm rfl) (sTm rfl) gaOG1 aa5 ?_); clear hp; intro w1 hp; simp only [spl, zSet, sSet] at hp) | ((with_reducible refine pre_build _ _ _ rfl ?_); refine lS hp rfl (by intro w; go_simp; rfl) ?_; clear hp; intro b w1 hp; simp only [List.length_cons, List.length_nil, Nat.reduceAdd] at hp)); simp only [put_some, put_none, sSet, zSet]))
          refine wp_region_keeps [_] (Keeps.one hp.drew at0) [15] [(0, true), (1, true), (2, true), (3, true), (4, true), (5, true), (6, true), (7, true), (8, true), (9, true), (10, true), (11, false), (12, true), (13, true), (14, true), (15, false)] (by kernel_rfl) (by kernel_rfl) rfl (by kernel_rfl) (fun _ _ d _ _ h => by cases d <;> exact h) ?_
          replace hp := hp.drew
          repeat' (with_reducible refine plan_is ?_); first | (with_reducible refine plan_nil ?_) | ((with_reducible refine plan_t ?_); refine plan_tk rfl ?_; (first | ((with_reducible refine tk_mv _ rfl ?_); refine tM rfl ?_) | ((with_reducible refine tk_ld _ _ rfl ?_); refine tO rfl (sTm rfl) ceOG0 aa5 ?_) | refine tG (fun w _ => (by go_simp; try rfl)) ?_); try simp only [put_some, put_none, eval_tmp, eval_const, sSet, zSet, List.getD_cons_succ, List.getD_cons_zero, wrap_eq]) | (refine plan_do rfl (fun K hK => ?_); go_wp2_with (first | (go_at_call 67; (with_reducible refine (clone_ents rs _ _ rc rfl HRL.out _ (HRA.out.below hp.below)).mono ?_); rintro e w1 ⟨ad, cd, RD, rfl, hcd, hrd, hpn⟩; replace hp := hp.join hpn; have HCD := Lib.hid hcd; have HRD := Lib.hid (SubRow.of_own hrd); clear hpn hcd hrd; simp only [List.cons_append, List.nil_append, List.append_assoc] at hp) | go_skip | (((with_reducible refine pre_store _ _ _ rfl ?_); (first | refine sO hp rfl (sTm rfl) ceOG2 aa5 ?_ | refine sA hp rfl (sTm rfl) (sTm rfl) gaOG1 aa5 ?_ | refine sG hp rfl (sTm rfl) (sTm rfl) gaOG1 aa5 ?_); clear hp; intro w1 hp; simp only [spl, zSet, sSet] at hp); simp only [put_some, put_none, sSet, zSet])); (first | refine hK.out _ _ (.inl rfl) ?_ | refine hK.out _ _ (.inr (Keeps.one hp aa5)) ?_); clear hK K; try simp only [put_some, put_none, eval_tmp, eval_const, sSet, zSet, List.getD_cons_succ, List.getD_cons_zero, wrap_eq])
          go_wp2_with (first | (go_at_call 64; (with_reducible refine (check64L rv rv rn rim _ rs _ _ (HB.out _ _) (HSS.out _ _) _ (HRD.out.keptS.at hp (fun p hm => by simp [hm]))).mono ?_); rintro e w1 ⟨rfl, hb⟩; replace hp := hp.call hb; clear hb; simp only [if_true, Bool.false_eq_true, if_false]) | go_skip | ((first | ((with_reducible refine pre_box _ _ rfl ?_); refine lB hp rfl (sTm rfl) rfl ?_; clear hp; intro b w1 hp) | ((with_reducible refine pre_load _ _ rfl ?_); first | refine lO hp rfl (sTm rfl) ceOG2 aa5 ?_ | refine lA hp rfl (sTm rfl) gaOG1 aa5 ?_) | ((with_reducible refine pre_store _ _ _ rfl ?_); (first | refine sO hp rfl (sTm rfl) ceOG2 aa5 ?_ | refine sA hp rfl (sTm rfl) (sTm rfl) gaOG1 aa5 ?_ | refine sG hp rfl (sTm rfl) (sTm rfl) gaOG1 aa5 ?_); clear hp; intro w1 hp; simp only [spl, zSet, sSet] at hp) | ((with_reducible refine pre_build _ _ _ rfl ?_); refine lS hp rfl (by intro w; go_simp; rfl) ?_; clear hp; intro b w1 hp; simp only [List.length_cons, List.length_nil, Nat.reduceAdd] at hp)); simp only [put_some, put_none, sSet, zSet]))
        · go_ret
          exact fold_good HCD.out HRD.out hp.kp
        · go_ret
          exact fold_bad (by decide) hp.kp
set_option maxRecDepth 100000 in
set_option maxHeartbeats 16000000 in
theorem fold_other (bw : Nat) (vw nm bs : Int) (im : ByteArray) (ea : Option Addr) (es : List Env) (ec : Nat) (rv rf rn : Int) (rim : ByteArray) (nu vi cl sq kk hh ii nn cc vv tt : Int) (ra : Option Addr) (rs : List Env) (rc : Nat) {R TT : List Blk} {w0 w : World} (hR : SubRow 31 11 (.slice ea es.length ec) es.length (es.flatMap envL) R) (hec : es.length ≤ ec) (hes : es.length ≤ 1500) (him : im.size ≤ 1000000) (hrs : rs.length ≤ 1500) (hrc : rs.length ≤ rc) (hri : rim.size ≤ 1000000) (hok : okC ⟨vw, nm, bs, im, ea, es, ec⟩ = true) (kd : Int) (k1 : kd ≠ 1) (k2 : kd ≠ 2) (k3 : kd ≠ 3) (k4 : kd ≠ 4) (k5 : kd ≠ 5) (hp : Hp w0.heap.size w0 w (⟨bw, [.int .i64 vw, .int .i64 nm, .int .i64 bs, .string im, .slice ea es.length ec], 103, 5⟩ :: (R ++ TT))) (ha : RowIs w0 ra (rs.flatMap envL)) : Calls Tryz.prog 70 #[.pointer (some ⟨bw, 0, none⟩), .agg #[.int .i64 kd, .int .i64 rv, .int .i64 rf, .int .i64 rn, .string rim, .int .i64 nu, .int .i64 vi, .int .i64 cl, .int .i64 sq, .int .i64 kk, .int .i64 hh, .int .i64 ii, .int .i64 nn, .int .i64 cc, .int .i64 vv, .int .i64 tt, .slice ra rs.length rc]] w (FoldP w0 bw (foldK ⟨vw, nm, bs, im, ea, es, ec⟩ ⟨kd, rv, rf, rn, rim, ⟨nu, vi, cl, sq, ⟨kk, hh, ii, nn, cc, vv, tt⟩⟩, ra, rs, rc⟩) TT) := by
  have hf : foldK ⟨vw, nm, bs, im, ea, es, ec⟩ ⟨kd, rv, rf, rn, rim, ⟨nu, vi, cl, sq, ⟨kk, hh, ii, nn, cc, vv, tt⟩⟩, ra, rs, rc⟩ = (141, ⟨vw, nm, bs, im, ea, es, ec⟩) := by unfold foldK madeK; simp [k1, k2, k3, k4, k5]
  rw [hf]
  have hok2 := ok_facts hok
  simp only at hok2
  have e0 : wrap64 (bs + es.length) = bs + es.length := by unfold wrap64; omega
  have e1 : (kd == 1) = false := by simpa using k1
  have e2 : (kd == 2) = false := by simpa using k2
  have e3 : (kd == 3) = false := by simpa using k3
  have e4 : (kd == 4) = false := by simpa using k4
  have e5 : (kd == 5) = false := by simpa using k5
  clear hf hok hec hes him hrs hrc hri ha hR hok2 k1 k2 k3 k4 k5
  go_enter Tryz.func70, Tryz.ntmps70
  go_wp2_with (first | (go_at_call 71; (with_reducible refine (last71 vw nm bs im _ _ _ _).mono ?_); rintro e w1 ⟨rfl, hb⟩; replace hp := hp.call hb; clear hb) | go_skip | ((first | ((with_reducible refine pre_box _ _ rfl ?_); refine lB hp rfl (sTm rfl) rfl ?_; clear hp; intro b w1 hp) | ((with_reducible refine pre_load _ _ rfl ?_); first | refine lO hp rfl (sTm rfl) ceOG2 aa5 ?_ | refine lA hp rfl (sTm rfl) gaOG1 aa5 ?_) | ((with_reducible refine pre_store _ _ _ rfl ?_); (first | refine sO hp rfl (sTm rfl) ceOG2 aa5 ?_ | refine sA hp rfl (sTm rfl) (sTm rfl) gaOG1 aa5 ?_ | refine sG hp rfl (sTm rfl) (sTm rfl) gaOG1 aa5 ?_); clear hp; intro w1 hp; simp only [spl, zSet, sSet] at hp) | ((with_reducible refine pre_build _ _ _ rfl ?_); refine lS hp rfl (by intro w; go_simp; rfl) ?_; clear hp; intro b w1 hp; simp only [List.length_cons, List.length_nil, Nat.reduceAdd] at hp)); simp only [put_some, put_none, sSet, zSet]))
  go_ret
  exact fold_bad (by decide) hp.kp
theorem fold70 (bw : Nat) (vw nm bs : Int) (im : ByteArray) (ea : Option Addr) (es : List Env) (ec : Nat) (rv rf rn : Int) (rim : ByteArray) (nu vi cl sq kk hh ii nn cc vv tt : Int) (ra : Option Addr) (rs : List Env) (rc : Nat) {R TT : List Blk} {w0 w : World} (hR : SubRow 31 11 (.slice ea es.length ec) es.length (es.flatMap envL) R) (hec : es.length ≤ ec) (hes : es.length ≤ 1500) (him : im.size ≤ 1000000) (hrs : rs.length ≤ 1500) (hrc : rs.length ≤ rc) (hri : rim.size ≤ 1000000) (hok : okC ⟨vw, nm, bs, im, ea, es, ec⟩ = true) (kd : Int) (hp : Hp w0.heap.size w0 w (⟨bw, [.int .i64 vw, .int .i64 nm, .int .i64 bs, .string im, .slice ea es.length ec], 103, 5⟩ :: (R ++ TT))) (ha : RowIs w0 ra (rs.flatMap envL)) : Calls Tryz.prog 70 #[.pointer (some ⟨bw, 0, none⟩), .agg #[.int .i64 kd, .int .i64 rv, .int .i64 rf, .int .i64 rn, .string rim, .int .i64 nu, .int .i64 vi, .int .i64 cl, .int .i64 sq, .int .i64 kk, .int .i64 hh, .int .i64 ii, .int .i64 nn, .int .i64 cc, .int .i64 vv, .int .i64 tt, .slice ra rs.length rc]] w (FoldP w0 bw (foldK ⟨vw, nm, bs, im, ea, es, ec⟩ ⟨kd, rv, rf, rn, rim, ⟨nu, vi, cl, sq, ⟨kk, hh, ii, nn, cc, vv, tt⟩⟩, ra, rs, rc⟩) TT) := by
  by_cases k1 : kd = 1
  · exact fold_view bw vw nm bs im ea es ec rv rf rn rim nu vi cl sq kk hh ii nn cc vv tt ra rs rc hR hec hes him hrs hrc hri hok kd k1 hp ha
  by_cases k2 : kd = 2
  · exact fold_entry bw vw nm bs im ea es ec rv rf rn rim nu vi cl sq kk hh ii nn cc vv tt ra rs rc hR hec hes him hrs hrc hri hok kd k2 hp ha
  by_cases k3 : kd = 3
  · exact fold_adopt bw vw nm bs im ea es ec rv rf rn rim nu vi cl sq kk hh ii nn cc vv tt ra rs rc hR hec hes him hrs hrc hri hok kd k3 hp ha
  by_cases k4 : kd = 4
  · exact fold_image bw vw nm bs im ea es ec rv rf rn rim nu vi cl sq kk hh ii nn cc vv tt ra rs rc hR hec hes him hrs hrc hri hok kd k4 hp ha
  by_cases k5 : kd = 5
  · exact fold_import bw vw nm bs im ea es ec rv rf rn rim nu vi cl sq kk hh ii nn cc vv tt ra rs rc hR hec hes him hrs hrc hri hok kd k5 hp ha
  exact fold_other bw vw nm bs im ea es ec rv rf rn rim nu vi cl sq kk hh ii nn cc vv tt ra rs rc hR hec hes him hrs hrc hri hok kd k1 k2 k3 k4 k5 hp ha
end Go.Proofs.YtaafajaadfgaoaaGreat
