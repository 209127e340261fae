/- Parts of the proof. -/
import Derived.Test.YtcjbepaclbhjaaaGreatKe1
import Derived.Test.YtcjbepaclbhjaaaGreatKe43
import Derived.Test.YtcjbepaclbhjaaaGreatKe37
open List renaming set_cons_zero → zSet, set_cons_succ → sSet
/- The walk of the document's Adopt. -/
set_option linter.unusedSimpArgs false
set_option linter.unusedVariables false
namespace Go.Proofs.YtcjbepaclbhjaaaGreat
open Go.RowKit
theorem rwithin1736 (n lo hi : Int) (b : Bool) (hb : inM n lo hi = b) (w : World) : Calls Tryz.prog 36 #[.int .i64 n, .int .i64 lo, .int .i64 hi] w fun e w' => e = .returned (.bool b) ∧ w = w' := by
  subst hb
  go_enter Tryz.func36, Tryz.ntmps36
  go_wp2
  all_goals go_ret
  all_goals refine ⟨ret_bool ?_, rfl⟩
  all_goals (simp [inM, *]; try omega)
set_option maxRecDepth 100000 in
set_option maxHeartbeats 8000000 in
theorem radopt17_no (vw nm bs : Int) (im : ByteArray) (ea : Option Addr) (es : List Env) (ec : Nat) (cm nv nb : Int) (la : Option Addr) (l : List Env) (lc : Nat) (hs : Kv.Small ⟨vw, nm, bs, im, ea, es, ec⟩) (hl : l.length ≤ 100000) (w : World) (ha : RowIs w ea (es.flatMap envL)) (hla : RowIs w la (l.flatMap envL)) (h : adoptB ⟨vw, nm, bs, im, ea, es, ec⟩ cm nv nb l = false) : Calls Tryz.prog 56 #[.agg #[.int .i64 vw, .int .i64 nm, .int .i64 bs, .string im, .slice ea es.length ec], .int .i64 cm, .int .i64 nv, .int .i64 nb, .slice la l.length lc] w fun e w' => e = .returned (.tuple #[.agg #[.int .i64 0, .int .i64 0, .int .i64 0, .int .i64 0, .string ⟨#[]⟩, .int .i64 0, .int .i64 0, .int .i64 0, .int .i64 0, .int .i64 0, .int .i64 0, .int .i64 0, .int .i64 0, .int .i64 0, .int .i64 0, .int .i64 0, .slice none 0 0], .bool false]) ∧ Below w.heap.size w w' := by
  have hp := Hp.start w; have HSS := Lib.hid hs; have HA := Lib.hid ha; have HLA := Lib.hid hla; have HL := Lib.hid hl; clear hs ha hla
  cases hb : okC ⟨vw, nm, bs, im, ea, es, ec⟩ with
  | false =>
    have HB := Lib.hid hb
    have e0 : True := trivial
    clear h hb
    go_enter Tryz.func56, Tryz.ntmps56
    go_wp2_with (first | go_skip | (first | (refine hA0 ?_; clear hp; intro b w1 hp) | refine hL0 ?_ | (refine hS0 ?_; clear hp; intro w1 hp)))
    refine wp_region_keeps _ (Keeps.all hp.drew) [] [(0, true), (1, false), (2, true), (3, true), (4, true), (5, true), (6, true), (7, true), (8, false), (9, false), (10, true), (11, true), (12, true), (13, true), (14, true), (15, true), (16, false), (17, true), (18, true), (19, true), (20, true), (21, true), (22, false), (23, true), (24, true), (25, true), (26, true), (27, true), (28, false), (29, true), (30, true), (31, true), (32, true), (33, true), (34, true), (35, true), (36, true), (37, true), (38, true)] (by kernel_rfl) (by kernel_rfl) rfl (by kernel_rfl) (fun _ _ d _ _ h => by cases d <;> exact h) ?_
    replace hp := hp.drew
    repeat' (with_reducible refine plan_is ?_); first | (with_reducible refine plan_nil ?_) | refine tk24 ?_ | (refine plan_do rfl (fun K hK => ?_); go_wp2_with (first | (go_at_call 31; (with_reducible refine (right1531L vw nm bs im _ es ec _ HB.out HSS.out _ (HA.out.below hp.below)).mono ?_); rintro e w1 ⟨rfl, hb⟩; replace hp := hp.call hb; clear hb) | (go_at_call 32; (with_reducible refine (last15_lit vw nm bs im _ _ _ _ HW.out _).mono ?_); rintro e w1 ⟨rfl, hb⟩; replace hp := hp.call hb; clear hb) | (go_at_call 36; (with_reducible refine (rwithin1736 cm bs (bs + es.length) _ HW1.out _).mono ?_); rintro e w' ⟨rfl, rfl⟩) | (go_at_call 36; (with_reducible refine (rwithin1736 nv vw 900000000 _ HW2.out _).mono ?_); rintro e w' ⟨rfl, rfl⟩) | (go_at_call 36; (with_reducible refine (rwithin1736 nb 0 cm _ HW3.out _).mono ?_); rintro e w' ⟨rfl, rfl⟩) | (go_at_call 37; (with_reducible refine (rrow1637 l nb _ lc _ HF.out HL.out _ (HLA.out.below hp.below)).mono ?_); rintro e w1 ⟨rfl, hb⟩; replace hp := hp.call hb; clear hb) | go_skip); (refine hK.out _ _ (.inr (kall hp)) ?_); clear hK K; try simp only [put_some, put_none, eval_tmp, eval_const, sSet, zSet, List.getD_cons_succ, List.getD_cons_zero, wrap_eq, e0])
    go_wp2_with (first | go_skip | (first | (refine hA0 ?_; clear hp; intro b w1 hp) | refine hL0 ?_ | (refine hS0 ?_; clear hp; intro w1 hp)))
    exact bodyPost_ret (results_many (rs := [.cell 10 51, .tmp 11]) Tryz.results56 (.cell rfl (hp.loadAgg agg51 at0 0 _ (by rfl) (by rfl)) (.tmp rfl .nil))) rfl ⟨rfl, hp.below⟩
  | true =>
    have hf := ok_facts hb
    simp only at hf
    have HB := Lib.hid hb
    have HW : RowKit.Hid (wrap64 (bs + (es.length : Int)) = bs + es.length) := Lib.hid (by unfold wrap64; omega)
    have h0 : (inM cm bs (bs + es.length) && (inM nv vw 900000000 && (inM nb 0 cm && (folB nb 0 l && decide (cm - nb ≤ (l.length : Int)))))) = false := by unfold adoptB at h; rw [hb, Bool.true_and] at h; exact h
    clear h hb
    cases h1 : inM cm bs (bs + es.length) with
    | false =>
      have HW1 := Lib.hid h1
      clear h0 h1 hf
      go_enter Tryz.func56, Tryz.ntmps56
      go_wp2_with (first | go_skip | (first | (refine hA0 ?_; clear hp; intro b w1 hp) | refine hL0 ?_ | (refine hS0 ?_; clear hp; intro w1 hp)))
      refine wp_region_keeps _ (Keeps.all hp.drew) [] [(0, true), (1, false), (2, true), (3, true), (4, true), (5, true), (6, true), (7, true), (8, false), (9, false), (10, true), (11, true), (12, true), (13, true), (14, true), (15, true), (16, false), (17, true), (18, true), (19, true), (20, true), (21, true), (22, false), (23, true), (24, true), (25, true), (26, true), (27, true), (28, false), (29, true), (30, true), (31, true), (32, true), (33, true), (34, true), (35, true), (36, true), (37, true), (38, true)] (by kernel_rfl) (by kernel_rfl) rfl (by kernel_rfl) (fun _ _ d _ _ h => by cases d <;> exact h) ?_
      replace hp := hp.drew
      repeat' (with_reducible refine plan_is ?_); first | (with_reducible refine plan_nil ?_) | refine tk26 ?_ | (refine plan_do rfl (fun K hK => ?_); go_wp2_with (first | (go_at_call 31; (with_reducible refine (right1531L vw nm bs im _ es ec _ HB.out HSS.out _ (HA.out.below hp.below)).mono ?_); rintro e w1 ⟨rfl, hb⟩; replace hp := hp.call hb; clear hb) | (go_at_call 32; (with_reducible refine (last15_lit vw nm bs im _ _ _ _ HW.out _).mono ?_); rintro e w1 ⟨rfl, hb⟩; replace hp := hp.call hb; clear hb) | (go_at_call 36; (with_reducible refine (rwithin1736 cm bs (bs + es.length) _ HW1.out _).mono ?_); rintro e w' ⟨rfl, rfl⟩) | (go_at_call 36; (with_reducible refine (rwithin1736 nv vw 900000000 _ HW2.out _).mono ?_); rintro e w' ⟨rfl, rfl⟩) | (go_at_call 36; (with_reducible refine (rwithin1736 nb 0 cm _ HW3.out _).mono ?_); rintro e w' ⟨rfl, rfl⟩) | (go_at_call 37; (with_reducible refine (rrow1637 l nb _ lc _ HF.out HL.out _ (HLA.out.below hp.below)).mono ?_); rintro e w1 ⟨rfl, hb⟩; replace hp := hp.call hb; clear hb) | go_skip); (refine hK.out _ _ (.inr (kall hp)) ?_); clear hK K; try simp only [put_some, put_none, eval_tmp, eval_const, sSet, zSet, List.getD_cons_succ, List.getD_cons_zero, wrap_eq, HW.out])
      go_wp2_with (first | go_skip | (first | (refine hA0 ?_; clear hp; intro b w1 hp) | refine hL0 ?_ | (refine hS0 ?_; clear hp; intro w1 hp)))
      exact bodyPost_ret (results_many (rs := [.cell 10 51, .tmp 11]) Tryz.results56 (.cell rfl (hp.loadAgg agg51 at0 0 _ (by rfl) (by rfl)) (.tmp rfl .nil))) rfl ⟨rfl, hp.below⟩
    | true =>
      have HW1 := Lib.hid h1
      rw [h1, Bool.true_and] at h0
      cases h2 : inM nv vw 900000000 with
      | false =>
        have HW2 := Lib.hid h2
        clear h0 h1 h2 hf
        go_enter Tryz.func56, Tryz.ntmps56
        go_wp2_with (first | go_skip | (first | (refine hA0 ?_; clear hp; intro b w1 hp) | refine hL0 ?_ | (refine hS0 ?_; clear hp; intro w1 hp)))
        refine wp_region_keeps _ (Keeps.all hp.drew) [] [(0, true), (1, false), (2, true), (3, true), (4, true), (5, true), (6, true), (7, true), (8, false), (9, false), (10, true), (11, true), (12, true), (13, true), (14, true), (15, true), (16, false), (17, true), (18, true), (19, true), (20, true), (21, true), (22, false), (23, true), (24, true), (25, true), (26, true), (27, true), (28, false), (29, true), (30, true), (31, true), (32, true), (33, true), (34, true), (35, true), (36, true), (37, true), (38, true)] (by kernel_rfl) (by kernel_rfl) rfl (by kernel_rfl) (fun _ _ d _ _ h => by cases d <;> exact h) ?_
        replace hp := hp.drew
        repeat' (with_reducible refine plan_is ?_); first | (with_reducible refine plan_nil ?_) | refine tk26 ?_ | (refine plan_do rfl (fun K hK => ?_); go_wp2_with (first | (go_at_call 31; (with_reducible refine (right1531L vw nm bs im _ es ec _ HB.out HSS.out _ (HA.out.below hp.below)).mono ?_); rintro e w1 ⟨rfl, hb⟩; replace hp := hp.call hb; clear hb) | (go_at_call 32; (with_reducible refine (last15_lit vw nm bs im _ _ _ _ HW.out _).mono ?_); rintro e w1 ⟨rfl, hb⟩; replace hp := hp.call hb; clear hb) | (go_at_call 36; (with_reducible refine (rwithin1736 cm bs (bs + es.length) _ HW1.out _).mono ?_); rintro e w' ⟨rfl, rfl⟩) | (go_at_call 36; (with_reducible refine (rwithin1736 nv vw 900000000 _ HW2.out _).mono ?_); rintro e w' ⟨rfl, rfl⟩) | (go_at_call 36; (with_reducible refine (rwithin1736 nb 0 cm _ HW3.out _).mono ?_); rintro e w' ⟨rfl, rfl⟩) | (go_at_call 37; (with_reducible refine (rrow1637 l nb _ lc _ HF.out HL.out _ (HLA.out.below hp.below)).mono ?_); rintro e w1 ⟨rfl, hb⟩; replace hp := hp.call hb; clear hb) | go_skip); (refine hK.out _ _ (.inr (kall hp)) ?_); clear hK K; try simp only [put_some, put_none, eval_tmp, eval_const, sSet, zSet, List.getD_cons_succ, List.getD_cons_zero, wrap_eq, HW.out])
        go_wp2_with (first | go_skip | (first | (refine hA0 ?_; clear hp; intro b w1 hp) | refine hL0 ?_ | (refine hS0 ?_; clear hp; intro w1 hp)))
        exact bodyPost_ret (results_many (rs := [.cell 10 51, .tmp 11]) Tryz.results56 (.cell rfl (hp.loadAgg agg51 at0 0 _ (by rfl) (by rfl)) (.tmp rfl .nil))) rfl ⟨rfl, hp.below⟩
      | true =>
        have HW2 := Lib.hid h2
        rw [h2, Bool.true_and] at h0
        cases h3 : inM nb 0 cm with
        | false =>
          have HW3 := Lib.hid h3
          clear h0 h1 h2 h3 hf
          go_enter Tryz.func56, Tryz.ntmps56
          go_wp2_with (first | go_skip | (first | (refine hA0 ?_; clear hp; intro b w1 hp) | refine hL0 ?_ | (refine hS0 ?_; clear hp; intro w1 hp)))
          refine wp_region_keeps _ (Keeps.all hp.drew) [] [(0, true), (1, false), (2, true), (3, true), (4, true), (5, true), (6, true), (7, true), (8, false), (9, false), (10, true), (11, true), (12, true), (13, true), (14, true), (15, true), (16, false), (17, true), (18, true), (19, true), (20, true), (21, true), (22, false), (23, true), (24, true), (25, true), (26, true), (27, true), (28, false), (29, true), (30, true), (31, true), (32, true), (33, true), (34, true), (35, true), (36, true), (37, true), (38, true)] (by kernel_rfl) (by kernel_rfl) rfl (by kernel_rfl) (fun _ _ d _ _ h => by cases d <;> exact h) ?_
          replace hp := hp.drew
          repeat' (with_reducible refine plan_is ?_); first | (with_reducible refine plan_nil ?_) | refine tk26 ?_ | (refine plan_do rfl (fun K hK => ?_); go_wp2_with (first | (go_at_call 31; (with_reducible refine (right1531L vw nm bs im _ es ec _ HB.out HSS.out _ (HA.out.below hp.below)).mono ?_); rintro e w1 ⟨rfl, hb⟩; replace hp := hp.call hb; clear hb) | (go_at_call 32; (with_reducible refine (last15_lit vw nm bs im _ _ _ _ HW.out _).mono ?_); rintro e w1 ⟨rfl, hb⟩; replace hp := hp.call hb; clear hb) | (go_at_call 36; (with_reducible refine (rwithin1736 cm bs (bs + es.length) _ HW1.out _).mono ?_); rintro e w' ⟨rfl, rfl⟩) | (go_at_call 36; (with_reducible refine (rwithin1736 nv vw 900000000 _ HW2.out _).mono ?_); rintro e w' ⟨rfl, rfl⟩) | (go_at_call 36; (with_reducible refine (rwithin1736 nb 0 cm _ HW3.out _).mono ?_); rintro e w' ⟨rfl, rfl⟩) | (go_at_call 37; (with_reducible refine (rrow1637 l nb _ lc _ HF.out HL.out _ (HLA.out.below hp.below)).mono ?_); rintro e w1 ⟨rfl, hb⟩; replace hp := hp.call hb; clear hb) | go_skip); (refine hK.out _ _ (.inr (kall hp)) ?_); clear hK K; try simp only [put_some, put_none, eval_tmp, eval_const, sSet, zSet, List.getD_cons_succ, List.getD_cons_zero, wrap_eq, HW.out])
          go_wp2_with (first | go_skip | (first | (refine hA0 ?_; clear hp; intro b w1 hp) | refine hL0 ?_ | (refine hS0 ?_; clear hp; intro w1 hp)))
          exact bodyPost_ret (results_many (rs := [.cell 10 51, .tmp 11]) Tryz.results56 (.cell rfl (hp.loadAgg agg51 at0 0 _ (by rfl) (by rfl)) (.tmp rfl .nil))) rfl ⟨rfl, hp.below⟩
        | true =>
          have HW3 := Lib.hid h3
          rw [h3, Bool.true_and] at h0
          cases h4 : folB nb 0 l with
          | false =>
            have HF := Lib.hid h4
            clear h0 h1 h2 h3 h4 hf
            go_enter Tryz.func56, Tryz.ntmps56
            go_wp2_with (first | go_skip | (first | (refine hA0 ?_; clear hp; intro b w1 hp) | refine hL0 ?_ | (refine hS0 ?_; clear hp; intro w1 hp)))
            refine wp_region_keeps _ (Keeps.all hp.drew) [] [(0, true), (1, false), (2, true), (3, true), (4, true), (5, true), (6, true), (7, true), (8, false), (9, false), (10, true), (11, true), (12, true), (13, true), (14, true), (15, true), (16, false), (17, true), (18, true), (19, true), (20, true), (21, true), (22, false), (23, true), (24, true), (25, true), (26, true), (27, true), (28, false), (29, true), (30, true), (31, true), (32, true), (33, true), (34, true), (35, true), (36, true), (37, true), (38, true)] (by kernel_rfl) (by kernel_rfl) rfl (by kernel_rfl) (fun _ _ d _ _ h => by cases d <;> exact h) ?_
            replace hp := hp.drew
            repeat' (with_reducible refine plan_is ?_); first | (with_reducible refine plan_nil ?_) | refine tk26 ?_ | (refine plan_do rfl (fun K hK => ?_); go_wp2_with (first | (go_at_call 31; (with_reducible refine (right1531L vw nm bs im _ es ec _ HB.out HSS.out _ (HA.out.below hp.below)).mono ?_); rintro e w1 ⟨rfl, hb⟩; replace hp := hp.call hb; clear hb) | (go_at_call 32; (with_reducible refine (last15_lit vw nm bs im _ _ _ _ HW.out _).mono ?_); rintro e w1 ⟨rfl, hb⟩; replace hp := hp.call hb; clear hb) | (go_at_call 36; (with_reducible refine (rwithin1736 cm bs (bs + es.length) _ HW1.out _).mono ?_); rintro e w' ⟨rfl, rfl⟩) | (go_at_call 36; (with_reducible refine (rwithin1736 nv vw 900000000 _ HW2.out _).mono ?_); rintro e w' ⟨rfl, rfl⟩) | (go_at_call 36; (with_reducible refine (rwithin1736 nb 0 cm _ HW3.out _).mono ?_); rintro e w' ⟨rfl, rfl⟩) | (go_at_call 37; (with_reducible refine (rrow1637 l nb _ lc _ HF.out HL.out _ (HLA.out.below hp.below)).mono ?_); rintro e w1 ⟨rfl, hb⟩; replace hp := hp.call hb; clear hb) | go_skip); (refine hK.out _ _ (.inr (kall hp)) ?_); clear hK K; try simp only [put_some, put_none, eval_tmp, eval_const, sSet, zSet, List.getD_cons_succ, List.getD_cons_zero, wrap_eq, HW.out])
            go_wp2_with (first | go_skip | (first | (refine hA0 ?_; clear hp; intro b w1 hp) | refine hL0 ?_ | (refine hS0 ?_; clear hp; intro w1 hp)))
            exact bodyPost_ret (results_many (rs := [.cell 10 51, .tmp 11]) Tryz.results56 (.cell rfl (hp.loadAgg agg51 at0 0 _ (by rfl) (by rfl)) (.tmp rfl .nil))) rfl ⟨rfl, hp.below⟩
          | true =>
            have HF := Lib.hid h4
            rw [h4, Bool.true_and, decide_eq_false_iff_not] at h0
            simp [inM] at h1 h3
            have e1 : wrap64 (cm - nb) = cm - nb := by unfold wrap64; have := HSS.out.1; simp only at this; omega
            have e2 : decide ((l.length : Int) < cm - nb) = true := by simp; omega
            clear h0 h1 h2 h3 h4 hf
            go_enter Tryz.func56, Tryz.ntmps56
            go_wp2_with (first | go_skip | (first | (refine hA0 ?_; clear hp; intro b w1 hp) | refine hL0 ?_ | (refine hS0 ?_; clear hp; intro w1 hp)))
            refine wp_region_keeps _ (Keeps.all hp.drew) [] [(0, true), (1, false), (2, true), (3, true), (4, true), (5, true), (6, true), (7, true), (8, false), (9, false), (10, true), (11, true), (12, true), (13, true), (14, true), (15, true), (16, false), (17, true), (18, true), (19, true), (20, true), (21, true), (22, false), (23, true), (24, true), (25, true), (26, true), (27, true), (28, false), (29, true), (30, true), (31, true), (32, true), (33, true), (34, true), (35, true), (36, true), (37, true), (38, true)] (by kernel_rfl) (by kernel_rfl) rfl (by kernel_rfl) (fun _ _ d _ _ h => by cases d <;> exact h) ?_
            replace hp := hp.drew
            repeat' (with_reducible refine plan_is ?_); first | (with_reducible refine plan_nil ?_) | refine tk27 ?_ | (refine plan_do rfl (fun K hK => ?_); go_wp2_with (first | (go_at_call 31; (with_reducible refine (right1531L vw nm bs im _ es ec _ HB.out HSS.out _ (HA.out.below hp.below)).mono ?_); rintro e w1 ⟨rfl, hb⟩; replace hp := hp.call hb; clear hb) | (go_at_call 32; (with_reducible refine (last15_lit vw nm bs im _ _ _ _ HW.out _).mono ?_); rintro e w1 ⟨rfl, hb⟩; replace hp := hp.call hb; clear hb) | (go_at_call 36; (with_reducible refine (rwithin1736 cm bs (bs + es.length) _ HW1.out _).mono ?_); rintro e w' ⟨rfl, rfl⟩) | (go_at_call 36; (with_reducible refine (rwithin1736 nv vw 900000000 _ HW2.out _).mono ?_); rintro e w' ⟨rfl, rfl⟩) | (go_at_call 36; (with_reducible refine (rwithin1736 nb 0 cm _ HW3.out _).mono ?_); rintro e w' ⟨rfl, rfl⟩) | (go_at_call 37; (with_reducible refine (rrow1637 l nb _ lc _ HF.out HL.out _ (HLA.out.below hp.below)).mono ?_); rintro e w1 ⟨rfl, hb⟩; replace hp := hp.call hb; clear hb) | go_skip); (refine hK.out _ _ (.inr (kall hp)) ?_); clear hK K; try simp only [put_some, put_none, eval_tmp, eval_const, sSet, zSet, List.getD_cons_succ, List.getD_cons_zero, wrap_eq, HW.out, e1, e2])
            go_wp2_with (first | go_skip | (first | (refine hA0 ?_; clear hp; intro b w1 hp) | refine hL0 ?_ | (refine hS0 ?_; clear hp; intro w1 hp)))
            exact bodyPost_ret (results_many (rs := [.cell 10 51, .tmp 11]) Tryz.results56 (.cell rfl (hp.loadAgg agg51 at0 0 _ (by rfl) (by rfl)) (.tmp rfl .nil))) rfl ⟨rfl, hp.below⟩
def aftF (cm : Int) (l : List Env) : List Env := l.filter fun e => decide (cm < e.nu)
theorem aftF_snoc (cm : Int) (l : List Env) (q : Nat) (e : Env) (h : l[q]? = some e) : aftF cm (l.take (q + 1)) = aftF cm (l.take q) ++ (if cm < e.nu then [e] else []) := by
  rw [List.take_add_one, h]
  unfold aftF
  rw [List.filter_append]
  congr 1
  by_cases h1 : cm < e.nu
  · simp [h1]
  · simp [h1]
theorem aftF_drop {x : Kv} {cm nv nb : Int} {l : List Env} (h : adoptB x cm nv nb l = true) (hl : l.length ≤ 100000) (hn : ∀ e ∈ l, I64 e.nu) : aftF cm l = adoptL cm nb l := by
  have hnu := adopt_nu h hl hn
  obtain ⟨h1, h2, h3, h4, h5, h6⟩ := adoptB_facts h
  unfold aftF adoptL
  conv => lhs; rw [← List.take_append_drop (cm - nb).toNat l]
  rw [List.filter_append]
  have e1 : (l.take (cm - nb).toNat).filter (fun e => decide (cm < e.nu)) = [] := by
    rw [List.filter_eq_nil_iff]
    intro e he
    obtain ⟨i, hi, rfl⟩ := List.getElem_of_mem he
    rw [List.length_take] at hi
    rw [List.getElem_take, decide_eq_true_eq, hnu i (by omega)]
    omega
  have e2 : (l.drop (cm - nb).toNat).filter (fun e => decide (cm < e.nu)) = l.drop (cm - nb).toNat := by
    rw [List.filter_eq_self]
    intro e he
    obtain ⟨i, hi, rfl⟩ := List.getElem_of_mem he
    rw [List.length_drop] at hi
    rw [List.getElem_drop, decide_eq_true_eq, hnu _ (by omega)]
    omega
  rw [e1, e2, List.nil_append]
set_option maxRecDepth 100000 in
set_option maxHeartbeats 8000000 in
theorem radopt17_yes (vw nm bs : Int) (im : ByteArray) (ea : Option Addr) (es : List Env) (ec : Nat) (cm nv nb : Int) (la : Option Addr) (l : List Env) (lc : Nat) (hs : Kv.Small ⟨vw, nm, bs, im, ea, es, ec⟩) (hl : l.length ≤ 100000) (w : World) (ha : RowIs w ea (es.flatMap envL)) (hla : RowIs w la (l.flatMap envL)) (hn : ∀ e ∈ l, I64 e.nu) (h : adoptB ⟨vw, nm, bs, im, ea, es, ec⟩ cm nv nb l = true) (m : Nat) (hm : (adoptL cm nb l).length = m) : Calls Tryz.prog 56 #[.agg #[.int .i64 vw, .int .i64 nm, .int .i64 bs, .string im, .slice ea es.length ec], .int .i64 cm, .int .i64 nv, .int .i64 nb, .slice la l.length lc] w (AdoptPostO w nv cm (adoptL cm nb l) m) := by
  have hp := Hp.start w; have HSS := Lib.hid hs; have HA := Lib.hid ha; have HLA := Lib.hid hla; have HL := Lib.hid hl; clear hs ha hla
  obtain ⟨i0, hi0, hz0, hz1, hz2⟩ := info_parts info47
  have had := aftF_drop h hl hn
  obtain ⟨hb, h1, h2, h3, h4, h5⟩ := adoptB_facts h
  have hf := ok_facts hb
  simp only at hf h1 h2
  have h1' : bs ≤ cm ∧ cm ≤ bs + es.length := h1
  have HB := Lib.hid hb
  have HW : RowKit.Hid (wrap64 (bs + (es.length : Int)) = bs + es.length) := Lib.hid (by unfold wrap64; omega)
  have HW1 : RowKit.Hid (inM cm bs (bs + es.length) = true) := Lib.hid (by simp [inM]; omega)
  have HW2 : RowKit.Hid (inM nv vw 900000000 = true) := Lib.hid (by simp [inM]; omega)
  have HW3 : RowKit.Hid (inM nb 0 cm = true) := Lib.hid (by simp [inM]; omega)
  have HF := Lib.hid h4
  have hsm : es.length ≤ 100000 := HSS.out.1
  have e1 : wrap64 (cm - nb) = cm - nb := by unfold wrap64; omega
  have e2 : decide ((l.length : Int) < cm - nb) = false := by simp; omega
  rw [← had] at hm ⊢
  subst hm
  clear had h hb h1 h1' h2 h3 h4 h5 hf hsm hn
  obtain ⟨M0, hM0⟩ : ∃ M0 : List Blk, M0 = [] := ⟨_, rfl⟩
  go_enter Tryz.func56, Tryz.ntmps56
  go_wp2_with (first | go_skip | (first | (refine hA0 ?_; clear hp; intro b w1 hp) | refine hL0 ?_ | (refine hS0 ?_; clear hp; intro w1 hp)))
  refine wp_region_keeps _ (Keeps.all hp.drew) [] [(0, true), (1, false), (2, true), (3, true), (4, true), (5, true), (6, true), (7, true), (8, false), (9, false), (10, true), (11, true), (12, true), (13, true), (14, true), (15, true), (16, false), (17, true), (18, true), (19, true), (20, true), (21, true), (22, false), (23, true), (24, true), (25, true), (26, true), (27, true), (28, false), (29, true), (30, true), (31, true), (32, true), (33, true), (34, true), (35, true), (36, true), (37, true), (38, true)] (by kernel_rfl) (by kernel_rfl) rfl (by kernel_rfl) (fun _ _ d _ _ h => by cases d <;> exact h) ?_
  replace hp := hp.drew
  repeat' (with_reducible refine plan_is ?_); first | (with_reducible refine plan_nil ?_) | refine tk27 ?_ | (refine plan_do rfl (fun K hK => ?_); go_wp2_with (first | (go_at_call 31; (with_reducible refine (right1531L vw nm bs im _ es ec _ HB.out HSS.out _ (HA.out.below hp.below)).mono ?_); rintro e w1 ⟨rfl, hb⟩; replace hp := hp.call hb; clear hb) | (go_at_call 32; (with_reducible refine (last15_lit vw nm bs im _ _ _ _ HW.out _).mono ?_); rintro e w1 ⟨rfl, hb⟩; replace hp := hp.call hb; clear hb) | (go_at_call 36; (with_reducible refine (rwithin1736 cm bs (bs + es.length) _ HW1.out _).mono ?_); rintro e w' ⟨rfl, rfl⟩) | (go_at_call 36; (with_reducible refine (rwithin1736 nv vw 900000000 _ HW2.out _).mono ?_); rintro e w' ⟨rfl, rfl⟩) | (go_at_call 36; (with_reducible refine (rwithin1736 nb 0 cm _ HW3.out _).mono ?_); rintro e w' ⟨rfl, rfl⟩) | (go_at_call 37; (with_reducible refine (rrow1637 l nb _ lc _ HF.out HL.out _ (HLA.out.below hp.below)).mono ?_); rintro e w1 ⟨rfl, hb⟩; replace hp := hp.call hb; clear hb) | go_skip); (refine hK.out _ _ (.inr (kall hp)) ?_); clear hK K; try simp only [put_some, put_none, eval_tmp, eval_const, sSet, zSet, List.getD_cons_succ, List.getD_cons_zero, wrap_eq, HW.out, e1, e2])
  go_wp2_with (first | go_skip | (first | (refine hA0 ?_; clear hp; intro b w1 hp) | refine hL0 ?_ | (refine hS0 ?_; clear hp; intro w1 hp)))
  obtain ⟨b10, rfl⟩ := hp.id0
  obtain ⟨b5, rfl⟩ := hp.id1
  clear e1 e2
  go_loopg [12, 13] l.length (fun k v i wr => ∃ (q : Nat) (RO : List Blk), k + q = l.length ∧ i = .int .i64 q ∧ RowKit.Hid (OwnRow 47 11 v (aftF cm (l.take q)).length ((aftF cm (l.take q)).flatMap envL) RO) ∧ Hp w.heap.size w wr ([⟨b10, [.int .i64 0, .int .i64 0, .int .i64 0, .int .i64 0, .string ⟨#[]⟩, .int .i64 0, .int .i64 0, .int .i64 0, .int .i64 0, .int .i64 0, .int .i64 0, .int .i64 0, .int .i64 0, .int .i64 0, .int .i64 0, .int .i64 0, .slice none 0 0], 51, 17⟩, ⟨b5, [.int .i64 vw, .int .i64 nm, .int .i64 bs, .string im, .slice ea es.length ec], 24, 5⟩] ++ (RO ++ M0)))
  case atStart => exact ⟨0, [], by omega, rfl, Lib.hid (OwnRow.nil _ _), by rw [hM0]; exact hp⟩
  case round =>
    clear hp
    obtain ⟨q, RO, hkq, rfl, HRO, hp⟩ := hrel
    simp only [List.cons_append, List.nil_append] at hp
    by_cases hlt : q < l.length
    · obtain ⟨bq, off, rfl, hx⟩ := HLA.out.elems 11 envL_len11 (by omega) (by omega)
      have hj := List.getElem?_eq_getElem hlt
      have hsn := aftF_snoc cm l q _ hj
      replace hx := hx q _ hj
      clear hj
      generalize l[q] = en at hx hsn
      obtain ⟨nu, vi, cl, sq, ⟨kk, hh, ii, nn, cc, vv, tt⟩⟩ := en
      simp only [envL, opL, List.cons_append, List.nil_append] at hx
      have HX := Lib.hid hx
      have hlen : (aftF cm (l.take q)).length ≤ q := by
        have := List.length_filter_le (fun e : Env => decide (cm < e.nu)) (l.take q)
        rw [List.length_take] at this
        unfold aftF; omega
      have HL1 : RowKit.Hid ((aftF cm (l.take q)).length + 1 ≤ maxLen) := Lib.hid (by unfold maxLen; omega)
      have HL2 : RowKit.Hid (((aftF cm (l.take q)).length + 1) * 88 ≤ 140737488355328) := Lib.hid (by omega)
      have f1 : (0 : Int) ≤ (q : Int) := by omega
      have f2 : (q : Int) < (l.length : Int) := by omega
      clear hx hlen
      by_cases hg : cm < nu
      · have e5 : decide (cm < nu) = true := by simpa using hg
        have HSN : RowKit.Hid (aftF cm (l.take (q + 1)) = aftF cm (l.take q) ++ [⟨nu, vi, cl, sq, ⟨kk, hh, ii, nn, cc, vv, tt⟩⟩]) := Lib.hid (by rw [hsn]; simp only; rw [if_pos hg])
        clear hg hsn
        go_wp2_with (first | ((with_reducible refine pre_append _ _ 22 rfl ?_); refine wpList_appendGrow (K := [_, _]) (R := RO) (M := M0) hp _ _ _ rfl wy i0 _ 88 Tryz.underlying22 hi0 hz0 hz1 hz2 rfl (by decide) (sTm rfl) HRO.out 1 1 (sTm rfl) (by rfl) (by decide) (by rfl) HL1.out HL2.out ?_; clear hp HRO; intro v' R' w1 hR' hp; obtain ⟨av, kv, rfl, _⟩ := hR'.kept; have HR' := Lib.hid hR'; clear hR'; simp only [List.cons_append, List.nil_append, List.append_nil] at hp; simp only [put_some, put_none, sSet, zSet]) | go_skip | (first | (refine hA0 ?_; clear hp; intro b w1 hp) | refine hL5 ?_ | (refine hS0 ?_; clear hp; intro w1 hp)))
        go_roundg (gk - 1)
        case measure => omega
        case rel => exact ⟨q + 1, R', by omega, by go_num, Lib.hid (by rw [HSN.out, List.length_append, List.flatMap_append]; exact HR'.out), hp⟩
      · have e5 : decide (cm < nu) = false := by simpa using hg
        have HSN : RowKit.Hid (aftF cm (l.take (q + 1)) = aftF cm (l.take q)) := Lib.hid (by rw [hsn]; simp only; rw [if_neg hg, List.append_nil])
        clear hg hsn
        go_wp2_with (first | go_skip | (first | (refine hA0 ?_; clear hp; intro b w1 hp) | refine hL5 ?_ | (refine hS0 ?_; clear hp; intro w1 hp)))
        go_roundg (gk - 1)
        case measure => omega
        case rel => exact ⟨q + 1, RO, by omega, by go_num, Lib.hid (by rw [HSN.out]; exact HRO.out), hp⟩
    · obtain rfl : q = l.length := by omega
      have e5 : decide ((l.length : Int) < (l.length : Int)) = false := by simp
      have hro := HRO.out
      rw [List.take_length] at hro
      obtain ⟨ad, cd, rfl, _⟩ := hro.kept
      have HRO2 := Lib.hid hro
      clear hkq hlt HRO hro
      go_wp2_with (first | go_skip | (first | (refine hA0 ?_; clear hp; intro b w1 hp) | refine hL0 ?_ | (refine hS0 ?_; clear hp; intro w1 hp)))
      exact bodyPost_ret (results_many (rs := [.cell 10 51, .tmp 11]) Tryz.results56 (.cell rfl (hp.loadAgg agg51 at0 0 _ (by rfl) (by rfl)) (.tmp rfl .nil))) rfl ⟨ad, cd, RO, rfl, HRO2.out, hp.tail.tail.sub (List.sublist_append_left _ _)⟩
end Go.Proofs.YtcjbepaclbhjaaaGreat
