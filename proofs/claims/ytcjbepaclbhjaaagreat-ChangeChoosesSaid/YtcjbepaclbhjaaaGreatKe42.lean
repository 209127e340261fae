/- Parts of the proof. -/
import Derived.Test.YtcjbepaclbhjaaaGreatKe1
import Derived.Test.YtcjbepaclbhjaaaGreatKe40
import Derived.Test.YtcjbepaclbhjaaaGreatKe41
open List renaming set_cons_zero → zSet, set_cons_succ → sSet
/- The walks of change's within, row and Adopt. -/
set_option linter.unusedSimpArgs false
set_option linter.unusedVariables false
namespace Go.Proofs.YtcjbepaclbhjaaaGreat
open Go.RowKit
theorem within33 (n lo hi : Int) (b : Bool) (hb : inM n lo hi = b) (w : World) : Calls Tryz.prog 33 #[.int .i64 n, .int .i64 lo, .int .i64 hi] w fun e w' => e = .returned (.bool b) ∧ w = w' := by
  subst hb
  go_enter Tryz.func33, Tryz.ntmps33
  go_wp2
  all_goals go_ret
  all_goals refine ⟨ret_bool ?_, rfl⟩
  all_goals (simp [inM, *]; try omega)
theorem row34 (l : List Env) (fr : Int) (a : Option Addr) (c : Nat) (b : Bool) (hb : folB fr 0 l = b) (hl : l.length ≤ 100000) (w : World) (ha : RowIs w a (l.flatMap envL)) :
    Calls Tryz.prog 34 #[.slice a l.length c, .int .i64 fr] w fun e w' => e = .returned (.bool b) ∧ Below w.heap.size w w' := by
  subst hb
  have hp := Hp.start w
  have HA := Lib.hid ha
  clear ha
  go_enter Tryz.func34, Tryz.ntmps34
  go_wp2_with (first | go_skip | (first | (refine hA1 ?_; clear hp; intro b w1 hp) | refine hL11 ?_ | (refine hS0 ?_; clear hp; intro w1 hp)))
  go_loopg [9] l.length (fun k i wr => ∃ q : Nat, k + q = l.length ∧ i = .int .i64 q ∧ RowKit.Hid (folB fr 0 l = folB fr q (l.drop q)) ∧ Hp w.heap.size w wr [])
  case atStart => exact ⟨0, by omega, rfl, Lib.hid rfl, hp⟩
  case round =>
    clear hp
    obtain ⟨q, hkq, rfl, HF, hp⟩ := hrel
    by_cases hlt : q < l.length
    · obtain ⟨bq, off, rfl, hx⟩ := HA.out.elems 11 envL_len11 (by omega) (by omega)
      have hj := List.getElem?_eq_getElem hlt
      replace hx := hx q _ hj
      have hd := List.drop_eq_getElem_cons hlt
      clear hj
      generalize l[q] = en at hx hd
      obtain ⟨nu, vi, cl, sq, ⟨kk, hh, ii, nn, cc, vv, tt⟩⟩ := en
      simp only [envL, opL, List.cons_append, List.nil_append] at hx
      have HX := Lib.hid hx
      have HF2 : RowKit.Hid (folB fr 0 l = (decide (wrap64 (wrap64 (nu - 1) - (q : Int)) = fr) && folB fr (q + 1) (l.drop (q + 1)))) := Lib.hid (by rw [HF.out, hd]; rfl)
      have f1 : (0 : Int) ≤ (q : Int) := by omega
      have f2 : (q : Int) < (l.length : Int) := by omega
      clear hx hd HF
      by_cases heq : wrap64 (wrap64 (nu - 1) - (q : Int)) = fr
      · have e3 : (wrap64 (wrap64 (nu - 1) - (q : Int)) == fr) = true := by simpa using heq
        have HE := Lib.hid heq
        clear heq
        go_wp2_with (first | go_skip | (first | (refine hA1 ?_; clear hp; intro b w1 hp) | refine hL11 ?_ | (refine hS0 ?_; clear hp; intro w1 hp)))
        go_roundg (gk - 1)
        case measure => omega
        case rel => exact ⟨q + 1, by omega, by go_num, Lib.hid (by rw [HF2.out, HE.out]; simp), hp.tail⟩
      · have e3 : (wrap64 (wrap64 (nu - 1) - (q : Int)) == fr) = false := by simpa using heq
        have HE := Lib.hid heq
        clear heq
        go_wp2_with (first | go_skip | (first | (refine hA1 ?_; clear hp; intro b w1 hp) | refine hL11 ?_ | (refine hS0 ?_; clear hp; intro w1 hp)))
        go_ret
        refine ⟨?_, hp.below⟩
        rw [HF2.out, decide_eq_false HE.out]; rfl
    · obtain rfl : q = l.length := by omega
      have e2 : decide ((l.length : Int) < (l.length : Int)) = false := by simp
      clear hkq hlt
      go_wp2_with (first | go_skip | (first | (refine hA1 ?_; clear hp; intro b w1 hp) | refine hL11 ?_ | (refine hS0 ?_; clear hp; intro w1 hp)))
      go_ret
      refine ⟨?_, hp.below⟩
      rw [HF.out, List.drop_length]; rfl
set_option maxRecDepth 100000 in
set_option maxHeartbeats 8000000 in
theorem adopt51_no (vw nm bs : Int) (im : ByteArray) (ea : Option Addr) (es : List Env) (ec : Nat) (cm nv nb : Int) (la : Option Addr) (l : List Env) (lc : Nat) (hs : Kv.Small ⟨vw, nm, bs, im, ea, es, ec⟩) (hl : l.length ≤ 100000) (w : World) (ha : RowIs w ea (es.flatMap envL)) (hla : RowIs w la (l.flatMap envL)) (h : adoptB ⟨vw, nm, bs, im, ea, es, ec⟩ cm nv nb l = false) : Calls Tryz.prog 51 #[.agg #[.int .i64 vw, .int .i64 nm, .int .i64 bs, .string im, .slice ea es.length ec], .int .i64 cm, .int .i64 nv, .int .i64 nb, .slice la l.length lc] w fun e w' => e = .returned (.tuple #[.agg #[.int .i64 0, .int .i64 0, .int .i64 0, .int .i64 0, .string ⟨#[]⟩, .int .i64 0, .int .i64 0, .int .i64 0, .int .i64 0, .int .i64 0, .int .i64 0, .int .i64 0, .int .i64 0, .int .i64 0, .int .i64 0, .int .i64 0, .slice none 0 0], .bool false]) ∧ Below w.heap.size w w' := by
  have hp := Hp.start w; have HSS := Lib.hid hs; have HA := Lib.hid ha; have HLA := Lib.hid hla; have HL := Lib.hid hl; clear hs ha hla hl
  cases hb : okC ⟨vw, nm, bs, im, ea, es, ec⟩ with
  | false =>
    have HB := Lib.hid hb
    have e0 : True := trivial
    clear h hb
    go_enter Tryz.func51, Tryz.ntmps51
    go_wp2_with (first | go_skip | (first | (refine hA0 ?_; clear hp; intro b w1 hp) | refine hL0 ?_ | (refine hS0 ?_; clear hp; intro w1 hp)))
    refine wp_region_keeps _ (Keeps.all hp.drew) [] [(0, true), (1, false), (2, true), (3, true), (4, true), (5, true), (6, true), (7, true), (8, false), (9, false), (10, true), (11, true), (12, true), (13, true), (14, true), (15, true), (16, false), (17, true), (18, true), (19, false)] (by kernel_rfl) (by kernel_rfl) rfl (by kernel_rfl) (fun _ _ d _ _ h => by cases d <;> exact h) ?_
    replace hp := hp.drew
    repeat' (with_reducible refine plan_is ?_); first | (with_reducible refine plan_nil ?_) | refine tk24 ?_ | (refine plan_do rfl (fun K hK => ?_); go_wp2_with (first | (go_at_call 27; (with_reducible refine (check27L vw nm bs im ea es ec _ HB.out HSS.out _ (HA.out.below hp.below)).mono ?_); rintro e w1 ⟨rfl, hb⟩; replace hp := hp.call hb; clear hb; simp only [if_true, Bool.false_eq_true, if_false]) | (go_at_call 29; (with_reducible refine (last29L vw nm bs im ea es ec _ HB.out HSS.out _ (HA.out.below hp.below)).mono ?_); rintro e w1 ⟨rfl, hb⟩; replace hp := hp.call hb; clear hb; simp only [if_true, Bool.false_eq_true, if_false]) | (go_at_call 33; (with_reducible refine (within33 cm bs (bs + es.length) _ HW1.out _).mono ?_); rintro e w' ⟨rfl, rfl⟩) | (go_at_call 33; (with_reducible refine (within33 nv vw 900000000 _ HW2.out _).mono ?_); rintro e w' ⟨rfl, rfl⟩) | go_skip); (refine hK.out _ _ (.inr (kall hp)) ?_); clear hK K; try simp only [put_some, put_none, eval_tmp, eval_const, sSet, zSet, List.getD_cons_succ, List.getD_cons_zero, wrap_eq, e0])
    go_wp2_with (first | go_skip | (first | (refine hA0 ?_; clear hp; intro b w1 hp) | refine hL0 ?_ | (refine hS0 ?_; clear hp; intro w1 hp)))
    exact bodyPost_ret (results_many (rs := [.cell 10 51, .tmp 11]) Tryz.results51 (.cell rfl (hp.loadAgg agg51 at0 0 _ (by rfl) (by rfl)) (.tmp rfl .nil))) rfl ⟨rfl, hp.below⟩
  | true =>
    have hf := ok_facts hb
    simp only at hf
    have HB := Lib.hid hb
    have e0 : wrap64 (bs + es.length) = bs + es.length := by unfold wrap64; omega
    have h0 : (inM cm bs (bs + es.length) && (inM nv vw 900000000 && (inM nb 0 cm && (folB nb 0 l && decide (cm - nb ≤ (l.length : Int)))))) = false := by unfold adoptB at h; rw [hb, Bool.true_and] at h; exact h
    clear h hb
    cases h1 : inM cm bs (bs + es.length) with
    | false =>
      have HW1 := Lib.hid h1
      clear h0 h1 hf
      go_enter Tryz.func51, Tryz.ntmps51
      go_wp2_with (first | go_skip | (first | (refine hA0 ?_; clear hp; intro b w1 hp) | refine hL0 ?_ | (refine hS0 ?_; clear hp; intro w1 hp)))
      refine wp_region_keeps _ (Keeps.all hp.drew) [] [(0, true), (1, false), (2, true), (3, true), (4, true), (5, true), (6, true), (7, true), (8, false), (9, false), (10, true), (11, true), (12, true), (13, true), (14, true), (15, true), (16, false), (17, true), (18, true), (19, false)] (by kernel_rfl) (by kernel_rfl) rfl (by kernel_rfl) (fun _ _ d _ _ h => by cases d <;> exact h) ?_
      replace hp := hp.drew
      repeat' (with_reducible refine plan_is ?_); first | (with_reducible refine plan_nil ?_) | refine tk24 ?_ | (refine plan_do rfl (fun K hK => ?_); go_wp2_with (first | (go_at_call 27; (with_reducible refine (check27L vw nm bs im ea es ec _ HB.out HSS.out _ (HA.out.below hp.below)).mono ?_); rintro e w1 ⟨rfl, hb⟩; replace hp := hp.call hb; clear hb; simp only [if_true, Bool.false_eq_true, if_false]) | (go_at_call 29; (with_reducible refine (last29L vw nm bs im ea es ec _ HB.out HSS.out _ (HA.out.below hp.below)).mono ?_); rintro e w1 ⟨rfl, hb⟩; replace hp := hp.call hb; clear hb; simp only [if_true, Bool.false_eq_true, if_false]) | (go_at_call 33; (with_reducible refine (within33 cm bs (bs + es.length) _ HW1.out _).mono ?_); rintro e w' ⟨rfl, rfl⟩) | (go_at_call 33; (with_reducible refine (within33 nv vw 900000000 _ HW2.out _).mono ?_); rintro e w' ⟨rfl, rfl⟩) | go_skip); (refine hK.out _ _ (.inr (kall hp)) ?_); clear hK K; try simp only [put_some, put_none, eval_tmp, eval_const, sSet, zSet, List.getD_cons_succ, List.getD_cons_zero, wrap_eq, e0])
      go_wp2_with (first | go_skip | (first | (refine hA0 ?_; clear hp; intro b w1 hp) | refine hL0 ?_ | (refine hS0 ?_; clear hp; intro w1 hp)))
      exact bodyPost_ret (results_many (rs := [.cell 10 51, .tmp 11]) Tryz.results51 (.cell rfl (hp.loadAgg agg51 at0 0 _ (by rfl) (by rfl)) (.tmp rfl .nil))) rfl ⟨rfl, hp.below⟩
    | true =>
      have HW1 := Lib.hid h1
      rw [h1, Bool.true_and] at h0
      cases h2 : inM nv vw 900000000 with
      | false =>
        have HW2 := Lib.hid h2
        clear h0 h1 h2 hf
        go_enter Tryz.func51, Tryz.ntmps51
        go_wp2_with (first | go_skip | (first | (refine hA0 ?_; clear hp; intro b w1 hp) | refine hL0 ?_ | (refine hS0 ?_; clear hp; intro w1 hp)))
        refine wp_region_keeps _ (Keeps.all hp.drew) [] [(0, true), (1, false), (2, true), (3, true), (4, true), (5, true), (6, true), (7, true), (8, false), (9, false), (10, true), (11, true), (12, true), (13, true), (14, true), (15, true), (16, false), (17, true), (18, true), (19, false)] (by kernel_rfl) (by kernel_rfl) rfl (by kernel_rfl) (fun _ _ d _ _ h => by cases d <;> exact h) ?_
        replace hp := hp.drew
        repeat' (with_reducible refine plan_is ?_); first | (with_reducible refine plan_nil ?_) | refine tk24 ?_ | (refine plan_do rfl (fun K hK => ?_); go_wp2_with (first | (go_at_call 27; (with_reducible refine (check27L vw nm bs im ea es ec _ HB.out HSS.out _ (HA.out.below hp.below)).mono ?_); rintro e w1 ⟨rfl, hb⟩; replace hp := hp.call hb; clear hb; simp only [if_true, Bool.false_eq_true, if_false]) | (go_at_call 29; (with_reducible refine (last29L vw nm bs im ea es ec _ HB.out HSS.out _ (HA.out.below hp.below)).mono ?_); rintro e w1 ⟨rfl, hb⟩; replace hp := hp.call hb; clear hb; simp only [if_true, Bool.false_eq_true, if_false]) | (go_at_call 33; (with_reducible refine (within33 cm bs (bs + es.length) _ HW1.out _).mono ?_); rintro e w' ⟨rfl, rfl⟩) | (go_at_call 33; (with_reducible refine (within33 nv vw 900000000 _ HW2.out _).mono ?_); rintro e w' ⟨rfl, rfl⟩) | go_skip); (refine hK.out _ _ (.inr (kall hp)) ?_); clear hK K; try simp only [put_some, put_none, eval_tmp, eval_const, sSet, zSet, List.getD_cons_succ, List.getD_cons_zero, wrap_eq, e0])
        go_wp2_with (first | go_skip | (first | (refine hA0 ?_; clear hp; intro b w1 hp) | refine hL0 ?_ | (refine hS0 ?_; clear hp; intro w1 hp)))
        exact bodyPost_ret (results_many (rs := [.cell 10 51, .tmp 11]) Tryz.results51 (.cell rfl (hp.loadAgg agg51 at0 0 _ (by rfl) (by rfl)) (.tmp rfl .nil))) rfl ⟨rfl, hp.below⟩
      | true =>
        have HW2 := Lib.hid h2
        rw [h2, Bool.true_and] at h0
        cases h3 : inM nb 0 cm with
        | false =>
          have HW3 := Lib.hid h3
          clear h0 h1 h2 h3 hf
          go_enter Tryz.func51, Tryz.ntmps51
          go_wp2_with (first | go_skip | (first | (refine hA0 ?_; clear hp; intro b w1 hp) | refine hL0 ?_ | (refine hS0 ?_; clear hp; intro w1 hp)))
          refine wp_region_keeps _ (Keeps.all hp.drew) [] [(0, true), (1, false), (2, true), (3, true), (4, true), (5, true), (6, true), (7, true), (8, false), (9, false), (10, true), (11, true), (12, true), (13, true), (14, true), (15, true), (16, false), (17, true), (18, true), (19, false)] (by kernel_rfl) (by kernel_rfl) rfl (by kernel_rfl) (fun _ _ d _ _ h => by cases d <;> exact h) ?_
          replace hp := hp.drew
          repeat' (with_reducible refine plan_is ?_); first | (with_reducible refine plan_nil ?_) | refine tk24 ?_ | (refine plan_do rfl (fun K hK => ?_); go_wp2_with (first | (go_at_call 27; (with_reducible refine (check27L vw nm bs im ea es ec _ HB.out HSS.out _ (HA.out.below hp.below)).mono ?_); rintro e w1 ⟨rfl, hb⟩; replace hp := hp.call hb; clear hb; simp only [if_true, Bool.false_eq_true, if_false]) | (go_at_call 29; (with_reducible refine (last29L vw nm bs im ea es ec _ HB.out HSS.out _ (HA.out.below hp.below)).mono ?_); rintro e w1 ⟨rfl, hb⟩; replace hp := hp.call hb; clear hb; simp only [if_true, Bool.false_eq_true, if_false]) | (go_at_call 33; (with_reducible refine (within33 cm bs (bs + es.length) _ HW1.out _).mono ?_); rintro e w' ⟨rfl, rfl⟩) | (go_at_call 33; (with_reducible refine (within33 nv vw 900000000 _ HW2.out _).mono ?_); rintro e w' ⟨rfl, rfl⟩) | go_skip); (refine hK.out _ _ (.inr (kall hp)) ?_); clear hK K; try simp only [put_some, put_none, eval_tmp, eval_const, sSet, zSet, List.getD_cons_succ, List.getD_cons_zero, wrap_eq, e0])
          go_wp2_with (first | (go_at_call 33; (with_reducible refine (within33 nb 0 cm _ HW3.out _).mono ?_); rintro e w' ⟨rfl, rfl⟩) | go_skip | (first | (refine hA0 ?_; clear hp; intro b w1 hp) | refine hL0 ?_ | (refine hS0 ?_; clear hp; intro w1 hp)))
          exact bodyPost_ret (results_many (rs := [.cell 10 51, .tmp 11]) Tryz.results51 (.cell rfl (hp.loadAgg agg51 at0 0 _ (by rfl) (by rfl)) (.tmp rfl .nil))) rfl ⟨rfl, hp.below⟩
        | true =>
          have HW3 := Lib.hid h3
          rw [h3, Bool.true_and] at h0
          cases h4 : folB nb 0 l with
          | false =>
            have HF := Lib.hid h4
            clear h0 h1 h2 h3 h4 hf
            go_enter Tryz.func51, Tryz.ntmps51
            go_wp2_with (first | go_skip | (first | (refine hA0 ?_; clear hp; intro b w1 hp) | refine hL0 ?_ | (refine hS0 ?_; clear hp; intro w1 hp)))
            refine wp_region_keeps _ (Keeps.all hp.drew) [] [(0, true), (1, false), (2, true), (3, true), (4, true), (5, true), (6, true), (7, true), (8, false), (9, false), (10, true), (11, true), (12, true), (13, true), (14, true), (15, true), (16, false), (17, true), (18, true), (19, false)] (by kernel_rfl) (by kernel_rfl) rfl (by kernel_rfl) (fun _ _ d _ _ h => by cases d <;> exact h) ?_
            replace hp := hp.drew
            repeat' (with_reducible refine plan_is ?_); first | (with_reducible refine plan_nil ?_) | refine tk24 ?_ | (refine plan_do rfl (fun K hK => ?_); go_wp2_with (first | (go_at_call 27; (with_reducible refine (check27L vw nm bs im ea es ec _ HB.out HSS.out _ (HA.out.below hp.below)).mono ?_); rintro e w1 ⟨rfl, hb⟩; replace hp := hp.call hb; clear hb; simp only [if_true, Bool.false_eq_true, if_false]) | (go_at_call 29; (with_reducible refine (last29L vw nm bs im ea es ec _ HB.out HSS.out _ (HA.out.below hp.below)).mono ?_); rintro e w1 ⟨rfl, hb⟩; replace hp := hp.call hb; clear hb; simp only [if_true, Bool.false_eq_true, if_false]) | (go_at_call 33; (with_reducible refine (within33 cm bs (bs + es.length) _ HW1.out _).mono ?_); rintro e w' ⟨rfl, rfl⟩) | (go_at_call 33; (with_reducible refine (within33 nv vw 900000000 _ HW2.out _).mono ?_); rintro e w' ⟨rfl, rfl⟩) | go_skip); (refine hK.out _ _ (.inr (kall hp)) ?_); clear hK K; try simp only [put_some, put_none, eval_tmp, eval_const, sSet, zSet, List.getD_cons_succ, List.getD_cons_zero, wrap_eq, e0])
            go_wp2_with (first | (go_at_call 33; (with_reducible refine (within33 nb 0 cm _ HW3.out _).mono ?_); rintro e w' ⟨rfl, rfl⟩) | (go_at_call 34; (with_reducible refine (row34 l nb _ lc _ HF.out HL.out _ (HLA.out.below hp.below)).mono ?_); rintro e w1 ⟨rfl, hb⟩; replace hp := hp.call hb; clear hb) | go_skip | (first | (refine hA0 ?_; clear hp; intro b w1 hp) | refine hL0 ?_ | (refine hS0 ?_; clear hp; intro w1 hp)))
            exact bodyPost_ret (results_many (rs := [.cell 10 51, .tmp 11]) Tryz.results51 (.cell rfl (hp.loadAgg agg51 at0 0 _ (by rfl) (by rfl)) (.tmp rfl .nil))) rfl ⟨rfl, hp.below⟩
          | true =>
            have HF := Lib.hid h4
            rw [h4, Bool.true_and, decide_eq_false_iff_not] at h0
            simp [inM] at h1 h3
            have e1 : wrap64 (cm - nb) = cm - nb := by unfold wrap64; have := HSS.out.1; simp only at this; omega
            have e2 : decide ((l.length : Int) < cm - nb) = true := by simp; omega
            clear h0 h1 h2 h3 h4 hf
            go_enter Tryz.func51, Tryz.ntmps51
            go_wp2_with (first | go_skip | (first | (refine hA0 ?_; clear hp; intro b w1 hp) | refine hL0 ?_ | (refine hS0 ?_; clear hp; intro w1 hp)))
            refine wp_region_keeps _ (Keeps.all hp.drew) [] [(0, true), (1, false), (2, true), (3, true), (4, true), (5, true), (6, true), (7, true), (8, false), (9, false), (10, true), (11, true), (12, true), (13, true), (14, true), (15, true), (16, false), (17, true), (18, true), (19, false)] (by kernel_rfl) (by kernel_rfl) rfl (by kernel_rfl) (fun _ _ d _ _ h => by cases d <;> exact h) ?_
            replace hp := hp.drew
            repeat' (with_reducible refine plan_is ?_); first | (with_reducible refine plan_nil ?_) | refine tk24 ?_ | (refine plan_do rfl (fun K hK => ?_); go_wp2_with (first | (go_at_call 27; (with_reducible refine (check27L vw nm bs im ea es ec _ HB.out HSS.out _ (HA.out.below hp.below)).mono ?_); rintro e w1 ⟨rfl, hb⟩; replace hp := hp.call hb; clear hb; simp only [if_true, Bool.false_eq_true, if_false]) | (go_at_call 29; (with_reducible refine (last29L vw nm bs im ea es ec _ HB.out HSS.out _ (HA.out.below hp.below)).mono ?_); rintro e w1 ⟨rfl, hb⟩; replace hp := hp.call hb; clear hb; simp only [if_true, Bool.false_eq_true, if_false]) | (go_at_call 33; (with_reducible refine (within33 cm bs (bs + es.length) _ HW1.out _).mono ?_); rintro e w' ⟨rfl, rfl⟩) | (go_at_call 33; (with_reducible refine (within33 nv vw 900000000 _ HW2.out _).mono ?_); rintro e w' ⟨rfl, rfl⟩) | go_skip); (refine hK.out _ _ (.inr (kall hp)) ?_); clear hK K; try simp only [put_some, put_none, eval_tmp, eval_const, sSet, zSet, List.getD_cons_succ, List.getD_cons_zero, wrap_eq, e0])
            go_wp2_with (first | (go_at_call 33; (with_reducible refine (within33 nb 0 cm _ HW3.out _).mono ?_); rintro e w' ⟨rfl, rfl⟩) | (go_at_call 34; (with_reducible refine (row34 l nb _ lc _ HF.out HL.out _ (HLA.out.below hp.below)).mono ?_); rintro e w1 ⟨rfl, hb⟩; replace hp := hp.call hb; clear hb) | go_skip | (first | (refine hA0 ?_; clear hp; intro b w1 hp) | refine hL0 ?_ | (refine hS0 ?_; clear hp; intro w1 hp)))
            exact bodyPost_ret (results_many (rs := [.cell 10 51, .tmp 11]) Tryz.results51 (.cell rfl (hp.loadAgg agg51 at0 0 _ (by rfl) (by rfl)) (.tmp rfl .nil))) rfl ⟨rfl, hp.below⟩
theorem row_nil (fr : Int) (a : Option Addr) (c : Nat) (w : World) : Calls Tryz.prog 34 #[.slice a 0 c, .int .i64 fr] w fun e w' => e = .returned (.bool true) ∧ Below w.heap.size w w' := row34 [] fr a c true rfl (by decide) w (RowIs.nil _ _)
def AdoptPost (w : World) (nv cm : Int) (l : List Env) (m : Nat) (e : Ending) (w' : World) : Prop := ∃ (a : Option Addr) (c : Nat) (R : List Blk), e = .returned (.tuple #[.agg #[.int .i64 3, .int .i64 nv, .int .i64 cm, .int .i64 0, .string ⟨#[]⟩, .int .i64 0, .int .i64 0, .int .i64 0, .int .i64 0, .int .i64 0, .int .i64 0, .int .i64 0, .int .i64 0, .int .i64 0, .int .i64 0, .int .i64 0, .slice a m c], .bool true]) ∧ m ≤ c ∧ Kept R (fun w => RowIs w a (l.flatMap envL)) ∧ Hp w.heap.size w w' R
set_option maxRecDepth 100000 in
set_option maxHeartbeats 8000000 in
theorem adopt51_yes (vw nm bs : Int) (im : ByteArray) (ea : Option Addr) (es : List Env) (ec : Nat) (cm nv nb : Int) (la : Option Addr) (l : List Env) (lc : Nat) (hs : Kv.Small ⟨vw, nm, bs, im, ea, es, ec⟩) (hl : l.length ≤ 100000) (w : World) (ha : RowIs w ea (es.flatMap envL)) (hla : RowIs w la (l.flatMap envL)) (hlc : l.length ≤ lc) (h : adoptB ⟨vw, nm, bs, im, ea, es, ec⟩ cm nv nb l = true) (m : Nat) (hm : (adoptL cm nb l).length = m) : Calls Tryz.prog 51 #[.agg #[.int .i64 vw, .int .i64 nm, .int .i64 bs, .string im, .slice ea es.length ec], .int .i64 cm, .int .i64 nv, .int .i64 nb, .slice la l.length lc] w (AdoptPost w nv cm (adoptL cm nb l) m) := by
  have hp := Hp.start w; have HSS := Lib.hid hs; have HA := Lib.hid ha; have HLA := Lib.hid hla; have HL := Lib.hid hl; clear hs ha hla hl
  obtain ⟨hb, h1, h2, h3, h4, h5⟩ := adoptB_facts h
  have hf := ok_facts hb
  simp only at hf h1 h2
  have h1' : bs ≤ cm ∧ cm ≤ bs + es.length := h1
  have HB := Lib.hid hb
  have HW1 : RowKit.Hid (inM cm bs (bs + es.length) = true) := Lib.hid (by simp [inM]; omega)
  have HW2 : RowKit.Hid (inM nv vw 900000000 = true) := Lib.hid (by simp [inM]; omega)
  have HW3 : RowKit.Hid (inM nb 0 cm = true) := Lib.hid (by simp [inM]; omega)
  have HF := Lib.hid h4
  have hsm : es.length ≤ 100000 := HSS.out.1
  have e0 : wrap64 (bs + es.length) = bs + es.length := by unfold wrap64; omega
  have e2 : decide ((l.length : Int) < cm - nb) = false := by simp; omega
  obtain ⟨k, hk⟩ : ∃ k : Nat, cm - nb = k := ⟨(cm - nb).toNat, by omega⟩
  have hkl : k ≤ l.length := by omega
  have had : adoptL cm nb l = l.drop k := by unfold adoptL; rw [show (cm - nb).toNat = k by omega]
  rw [had] at hm ⊢
  rw [hk] at e2
  have e1 : wrap64 (cm - nb) = (k : Int) := by unfold wrap64; omega
  have hm2 : m = l.length - k := by rw [← hm, List.length_drop]
  have HML : RowKit.Hid (m ≤ 100000) := Lib.hid (by have := HL.out; omega)
  have HDM := Lib.hid hm
  have f1 : (0 : Int) ≤ (k : Int) := by omega
  have f2 : (k : Int) ≤ (lc : Int) := by omega
  have f3 : (k : Int) ≤ (l.length : Int) := by omega
  have f5 : l.length - k = m := hm2.symm
  have f6 : (0 : Int) ≤ (lc : Int) := by omega
  clear had h hb h1 h1' h2 h3 h4 h5 hf hsm hk
  rcases Nat.eq_zero_or_pos l.length with hz | hpos
  · obtain rfl : l = [] := List.eq_nil_of_length_eq_zero hz
    obtain rfl : k = 0 := by simpa using hkl
    obtain rfl : m = 0 := by simpa using hm.symm
    clear hz hkl hm hm2 f1 f2 f3 f5
    go_enter Tryz.func51, Tryz.ntmps51
    go_wp2_with (first | go_skip | (first | (refine hA0 ?_; clear hp; intro b w1 hp) | refine hL0 ?_ | (refine hS0 ?_; clear hp; intro w1 hp)))
    refine wp_region_keeps _ (Keeps.all hp.drew) [] [(0, true), (1, false), (2, true), (3, true), (4, true), (5, true), (6, true), (7, true), (8, false), (9, false), (10, true), (11, true), (12, true), (13, true), (14, true), (15, true), (16, false), (17, true), (18, true), (19, false)] (by kernel_rfl) (by kernel_rfl) rfl (by kernel_rfl) (fun _ _ d _ _ h => by cases d <;> exact h) ?_
    replace hp := hp.drew
    repeat' (with_reducible refine plan_is ?_); first | (with_reducible refine plan_nil ?_) | refine tk24 ?_ | (refine plan_do rfl (fun K hK => ?_); go_wp2_with (first | (go_at_call 27; (with_reducible refine (check27L vw nm bs im ea es ec _ HB.out HSS.out _ (HA.out.below hp.below)).mono ?_); rintro e w1 ⟨rfl, hb⟩; replace hp := hp.call hb; clear hb; simp only [if_true, Bool.false_eq_true, if_false]) | (go_at_call 29; (with_reducible refine (last29L vw nm bs im ea es ec _ HB.out HSS.out _ (HA.out.below hp.below)).mono ?_); rintro e w1 ⟨rfl, hb⟩; replace hp := hp.call hb; clear hb; simp only [if_true, Bool.false_eq_true, if_false]) | (go_at_call 33; (with_reducible refine (within33 cm bs (bs + es.length) _ HW1.out _).mono ?_); rintro e w' ⟨rfl, rfl⟩) | (go_at_call 33; (with_reducible refine (within33 nv vw 900000000 _ HW2.out _).mono ?_); rintro e w' ⟨rfl, rfl⟩) | go_skip); (refine hK.out _ _ (.inr (kall hp)) ?_); clear hK K; try simp only [put_some, put_none, eval_tmp, eval_const, sSet, zSet, List.getD_cons_succ, List.getD_cons_zero, wrap_eq, e0])
    go_wp2_with (first | (go_at_call 33; (with_reducible refine (within33 nb 0 cm _ HW3.out _).mono ?_); rintro e w' ⟨rfl, rfl⟩) | (go_at_call 34; (with_reducible refine (row_nil nb _ lc _).mono ?_); rintro e w1 ⟨rfl, hb⟩; replace hp := hp.call hb; clear hb) | (go_at_call 60; (with_reducible refine (clone_ents [] _ 0 _ rfl (by decide) _ (RowIs.nil _ _)).mono ?_); rintro e w1 ⟨ad, cd, RD, rfl, hcd, hrd, hpn⟩; replace hp := hp.join hpn; have HCD := Lib.hid hcd; have HRD := Lib.hid hrd; clear hpn hcd hrd; simp only [List.cons_append, List.nil_append] at hp) | go_skip | (first | (refine hA0 ?_; clear hp; intro b w1 hp) | refine hL0 ?_ | (refine hS0 ?_; clear hp; intro w1 hp)))
    exact bodyPost_ret (results_many (rs := [.cell 10 51, .tmp 11]) Tryz.results51 (.cell rfl (hp.loadAgg agg51 at0 0 _ (by rfl) (by rfl)) (.tmp rfl .nil))) rfl ⟨ad, cd, RD, rfl, HCD.out, HRD.out.keptS, hp.tail.tail⟩
  obtain ⟨bq, off, rfl, _⟩ := HLA.out.elems 11 envL_len11 hpos (by decide)
  by_cases h : lc = k
  · subst h
    obtain rfl : m = 0 := by omega
    have hd : l.drop lc = [] := List.drop_eq_nil_of_le (by omega)
    rw [hd]
    have f7 : l.length - lc = 0 := by omega
    clear hkl hm hm2 hpos hd HDM f5
    go_enter Tryz.func51, Tryz.ntmps51
    go_wp2_with (first | go_skip | (first | (refine hA0 ?_; clear hp; intro b w1 hp) | refine hL0 ?_ | (refine hS0 ?_; clear hp; intro w1 hp)))
    refine wp_region_keeps _ (Keeps.all hp.drew) [] [(0, true), (1, false), (2, true), (3, true), (4, true), (5, true), (6, true), (7, true), (8, false), (9, false), (10, true), (11, true), (12, true), (13, true), (14, true), (15, true), (16, false), (17, true), (18, true), (19, false)] (by kernel_rfl) (by kernel_rfl) rfl (by kernel_rfl) (fun _ _ d _ _ h => by cases d <;> exact h) ?_
    replace hp := hp.drew
    repeat' (with_reducible refine plan_is ?_); first | (with_reducible refine plan_nil ?_) | refine tk24 ?_ | (refine plan_do rfl (fun K hK => ?_); go_wp2_with (first | (go_at_call 27; (with_reducible refine (check27L vw nm bs im ea es ec _ HB.out HSS.out _ (HA.out.below hp.below)).mono ?_); rintro e w1 ⟨rfl, hb⟩; replace hp := hp.call hb; clear hb; simp only [if_true, Bool.false_eq_true, if_false]) | (go_at_call 29; (with_reducible refine (last29L vw nm bs im ea es ec _ HB.out HSS.out _ (HA.out.below hp.below)).mono ?_); rintro e w1 ⟨rfl, hb⟩; replace hp := hp.call hb; clear hb; simp only [if_true, Bool.false_eq_true, if_false]) | (go_at_call 33; (with_reducible refine (within33 cm bs (bs + es.length) _ HW1.out _).mono ?_); rintro e w' ⟨rfl, rfl⟩) | (go_at_call 33; (with_reducible refine (within33 nv vw 900000000 _ HW2.out _).mono ?_); rintro e w' ⟨rfl, rfl⟩) | go_skip); (refine hK.out _ _ (.inr (kall hp)) ?_); clear hK K; try simp only [put_some, put_none, eval_tmp, eval_const, sSet, zSet, List.getD_cons_succ, List.getD_cons_zero, wrap_eq, e0])
    go_wp2_with (first | (go_at_call 33; (with_reducible refine (within33 nb 0 cm _ HW3.out _).mono ?_); rintro e w' ⟨rfl, rfl⟩) | (go_at_call 34; (with_reducible refine (row34 l nb _ lc _ HF.out HL.out _ (HLA.out.below hp.below)).mono ?_); rintro e w1 ⟨rfl, hb⟩; replace hp := hp.call hb; clear hb) | (go_at_call 60; (with_reducible refine (clone_ents [] _ 0 _ rfl (by decide) _ (RowIs.nil _ _)).mono ?_); rintro e w1 ⟨ad, cd, RD, rfl, hcd, hrd, hpn⟩; replace hp := hp.join hpn; have HCD := Lib.hid hcd; have HRD := Lib.hid hrd; clear hpn hcd hrd; simp only [List.cons_append, List.nil_append] at hp) | go_skip | (first | (refine hA0 ?_; clear hp; intro b w1 hp) | refine hL0 ?_ | (refine hS0 ?_; clear hp; intro w1 hp)))
    exact bodyPost_ret (results_many (rs := [.cell 10 51, .tmp 11]) Tryz.results51 (.cell rfl (hp.loadAgg agg51 at0 0 _ (by rfl) (by rfl)) (.tmp rfl .nil))) rfl ⟨ad, cd, RD, rfl, HCD.out, HRD.out.keptS, hp.tail.tail⟩
  · have HL2 : RowKit.Hid (RowIs w (some ⟨bq, off + k * 11, none⟩) ((l.drop k).flatMap envL)) := Lib.hid (by
      have := ents_row HLA.out k (l.length - k)
      rw [List.take_of_length_le (by rw [List.length_drop]; omega)] at this
      exact this)
    clear hkl hm hm2 hpos
    go_enter Tryz.func51, Tryz.ntmps51
    go_wp2_with (first | go_skip | (first | (refine hA0 ?_; clear hp; intro b w1 hp) | refine hL0 ?_ | (refine hS0 ?_; clear hp; intro w1 hp)))
    refine wp_region_keeps _ (Keeps.all hp.drew) [] [(0, true), (1, false), (2, true), (3, true), (4, true), (5, true), (6, true), (7, true), (8, false), (9, false), (10, true), (11, true), (12, true), (13, true), (14, true), (15, true), (16, false), (17, true), (18, true), (19, false)] (by kernel_rfl) (by kernel_rfl) rfl (by kernel_rfl) (fun _ _ d _ _ h => by cases d <;> exact h) ?_
    replace hp := hp.drew
    repeat' (with_reducible refine plan_is ?_); first | (with_reducible refine plan_nil ?_) | refine tk24 ?_ | (refine plan_do rfl (fun K hK => ?_); go_wp2_with (first | (go_at_call 27; (with_reducible refine (check27L vw nm bs im ea es ec _ HB.out HSS.out _ (HA.out.below hp.below)).mono ?_); rintro e w1 ⟨rfl, hb⟩; replace hp := hp.call hb; clear hb; simp only [if_true, Bool.false_eq_true, if_false]) | (go_at_call 29; (with_reducible refine (last29L vw nm bs im ea es ec _ HB.out HSS.out _ (HA.out.below hp.below)).mono ?_); rintro e w1 ⟨rfl, hb⟩; replace hp := hp.call hb; clear hb; simp only [if_true, Bool.false_eq_true, if_false]) | (go_at_call 33; (with_reducible refine (within33 cm bs (bs + es.length) _ HW1.out _).mono ?_); rintro e w' ⟨rfl, rfl⟩) | (go_at_call 33; (with_reducible refine (within33 nv vw 900000000 _ HW2.out _).mono ?_); rintro e w' ⟨rfl, rfl⟩) | go_skip); (refine hK.out _ _ (.inr (kall hp)) ?_); clear hK K; try simp only [put_some, put_none, eval_tmp, eval_const, sSet, zSet, List.getD_cons_succ, List.getD_cons_zero, wrap_eq, e0])
    go_wp2_with (first | (go_at_call 33; (with_reducible refine (within33 nb 0 cm _ HW3.out _).mono ?_); rintro e w' ⟨rfl, rfl⟩) | (go_at_call 34; (with_reducible refine (row34 l nb _ lc _ HF.out HL.out _ (HLA.out.below hp.below)).mono ?_); rintro e w1 ⟨rfl, hb⟩; replace hp := hp.call hb; clear hb) | (go_at_call 60; (with_reducible refine (clone_ents (l.drop k) _ m _ HDM.out HML.out _ (HL2.out.below hp.below)).mono ?_); rintro e w1 ⟨ad, cd, RD, rfl, hcd, hrd, hpn⟩; replace hp := hp.join hpn; have HCD := Lib.hid hcd; have HRD := Lib.hid hrd; clear hpn hcd hrd; simp only [List.cons_append, List.nil_append] at hp) | go_skip | (first | (refine hA0 ?_; clear hp; intro b w1 hp) | refine hL0 ?_ | (refine hS0 ?_; clear hp; intro w1 hp)))
    exact bodyPost_ret (results_many (rs := [.cell 10 51, .tmp 11]) Tryz.results51 (.cell rfl (hp.loadAgg agg51 at0 0 _ (by rfl) (by rfl)) (.tmp rfl .nil))) rfl ⟨ad, cd, RD, rfl, HCD.out, HRD.out.keptS, hp.tail.tail⟩
end Go.Proofs.YtcjbepaclbhjaaaGreat
