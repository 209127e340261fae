/- Parts of the proof. -/
import Derived.Test.YtcjbepaclbhjaaaGreatKd1
import Derived.Test.YtcjbepaclbhjaaaGreatKd41
import Derived.Test.YtcjbepaclbhjaaaGreatKd39
import Derived.Test.YtcjbepaclbhjaaaGreatKd43
open List renaming set_cons_zero → zSet, set_cons_succ → sSet
/- The walks of change's Adopt (its record's heap is one's own) and of over. -/
set_option linter.unusedSimpArgs false
set_option linter.unusedVariables false
namespace Go.Proofs.YtcjbepaclbhjaaaGreat
open Go.RowKit
theorem own_put17 {e : TypeId} {c n k g q : Nat} {cells : List Value} {R : List Blk} (h : OwnRow e c (.slice (some ⟨g, 0, none⟩) n k) n cells R) (hn : 0 < n) (v : Value) : OwnRow e c (.slice (some ⟨g, 0, none⟩) n k) n (cells.set q v) [⟨g, cells.set q v, e, k * c⟩] := by
  obtain ⟨hl, ⟨h0, _⟩ | ⟨g', cap, hv, h1, h2, hr⟩⟩ := h
  · omega
  · injection hv with v1 v2 v3
    injection v1 with v1; injection v1 with v1
    subst v1 v3
    exact ⟨by rw [List.length_set]; exact hl, .inr ⟨g, _, rfl, h1, h2, rfl⟩⟩
set_option maxRecDepth 100000 in
set_option maxHeartbeats 4000000 in
theorem over1718 (a : Option Addr) (n k : Nat) (cells : List Value) (R : List Blk) (h : OwnRow 47 11 (.slice a n k) n cells R) (hn : n ≤ 100000) {B : Nat} {w0 w : World} {K : List Blk} (hp : Hp B w0 w (R ++ K)) :
    Calls Tryz.prog 18 #[.slice a n k] w fun e w' => e = .returned (.tuple #[]) ∧ ∃ D, Hp B w0 w' (D ++ K) := by
  have HR := Lib.hid h
  clear h
  go_enter Tryz.func18, Tryz.ntmps18
  go_wp2_with (first | go_skip | (first | (refine hA2 ?_; clear hp; intro b w1 hp) | refine hL0 ?_ | (refine hS0 ?_; clear hp; intro w1 hp)))
  go_loopg [2] n (fun gk iv wr => ∃ (q : Nat) (cells : List Value) (R : List Blk), gk + q = n ∧ iv = .int .i64 q ∧ RowKit.Hid (OwnRow 47 11 (.slice a n k) n cells R) ∧ Hp B w0 wr (R ++ K))
  case atStart => exact ⟨0, cells, R, by omega, rfl, HR, hp⟩
  case round =>
    clear hp HR
    obtain ⟨q, cells, R, hkq, rfl, HR, hp⟩ := hrel
    by_cases hlq : q < n
    · obtain ⟨go, rfl, _, _, rfl, hcl⟩ := HR.out.own (by omega)
      have HQL : RowKit.Hid (q * 11 < cells.length) := Lib.hid (by omega)
      have HNW := Lib.hid (own_put17 HR.out (q := q * 11) (by omega) (.int .i64 (-77)))
      have f1 : (0 : Int) ≤ (q : Int) := by omega
      have f2 : (q : Int) < (n : Int) := by omega
      clear hcl
      simp only [List.cons_append, List.nil_append] at hp
      go_wp2_with (first | ((with_reducible refine pre_store 3 _ _ rfl ?_); refine sO hp rfl (sTm rfl) cell3 at0 ?_ (hlen := HQL.out); clear hp; intro w1 hp; simp only [sSet, zSet] at hp; simp only [put_some, put_none, sSet, zSet]) | go_skip | (first | (refine hA2 ?_; clear hp; intro b w1 hp) | refine hL0 ?_ | (refine hS0 ?_; clear hp; intro w1 hp)))
      go_roundg (gk - 1)
      case measure => omega
      case rel => exact ⟨q + 1, _, _, by omega, by go_num, HNW, hp⟩
    · obtain rfl : q = n := by omega
      have f2 : decide ((q : Int) < (q : Int)) = false := by simp
      clear hkq hlq
      go_wp2_with (first | go_skip | (first | (refine hA2 ?_; clear hp; intro b w1 hp) | refine hL0 ?_ | (refine hS0 ?_; clear hp; intro w1 hp)))
      exact bodyPost_end (results_none Tryz.results18 _ _ _) rfl ⟨rfl, R, hp⟩
end Go.Proofs.YtcjbepaclbhjaaaGreat
/- The walk of the document's Adopt. -/
namespace Go.Proofs.YtcjbepaclbhjaaaGreat
open Go.RowKit
theorem rwithin1736 (n lo hi : Int) (b : Bool) (hb : inM n lo hi = b) (w : World) : Calls Tryz.prog 36 #[.int .i64 n, .int .i64 lo, .int .i64 hi] w fun e w' => e = .returned (.bool b) ∧ w = w' := by
  subst hb
  go_enter Tryz.func36, Tryz.ntmps36
  go_wp2
  all_goals go_ret
  all_goals refine ⟨ret_bool ?_, rfl⟩
  all_goals (simp [inM, *]; try omega)
end Go.Proofs.YtcjbepaclbhjaaaGreat
/- The walk of the document's Right of a vote. -/
namespace Go.Proofs.YtcjbepaclbhjaaaGreat
open Go.RowKit
set_option maxRecDepth 100000 in
set_option maxHeartbeats 16000000 in
theorem rright14L (nd nm bs nu cm : Int) (va : Option Addr) (es : List Env) (vc : Nat) (b : Bool) (hb : checkV nd nm bs nu cm es = b) (hl : es.length ≤ 100000) (w : World) (ha : RowIs w va (es.flatMap envL)) :
    Calls Tryz.prog 14 #[.agg #[.int .i64 nd, .int .i64 nm, .int .i64 bs, .int .i64 nu, .int .i64 cm, .slice va es.length vc]] w fun e w' => e = .returned (.bool b) ∧ Below w.heap.size w w' := by
  subst hb
  have hp := Hp.start w
  have HA := Lib.hid ha
  have HL := Lib.hid hl
  clear ha
  cases h1 : inM nd 1 7 with
  | false =>
    have HNO : RowKit.Hid (checkV nd nm bs nu cm es = false) := Lib.hid (by unfold checkV headV; rw [h1]; rfl)
    have HW1 := Lib.hid h1
    clear h1
    (go_enter Tryz.func14, Tryz.ntmps14; go_wp2_with (first | (go_at_call 36; (with_reducible refine (rwithin1736 nd 1 7 _ HW1.out _).mono ?_); rintro e w' ⟨rfl, rfl⟩) | (go_at_call 36; (with_reducible refine (rwithin1736 nm 0 900000000 _ HW2.out _).mono ?_); rintro e w' ⟨rfl, rfl⟩) | (go_at_call 36; (with_reducible refine (rwithin1736 bs 0 900000000 _ HW3.out _).mono ?_); rintro e w' ⟨rfl, rfl⟩) | (go_at_call 37; (with_reducible refine (rrow1637 es bs va vc _ HF5.out HL.out _ (HA.out.below hp.below)).mono ?_); rintro e w1 ⟨rfl, hb⟩; replace hp := hp.call hb; clear hb) | go_skip | (first | (refine hA1 ?_; clear hp; intro b w1 hp) | refine hL0 ?_ | (refine hS0 ?_; clear hp; intro w1 hp))); go_ret; exact ⟨ret_bool HNO.out.symm, hp.below⟩)
  | true =>
  cases h2 : inM nm 0 900000000 with
  | false =>
    have HNO : RowKit.Hid (checkV nd nm bs nu cm es = false) := Lib.hid (by unfold checkV headV; rw [h1, h2]; rfl)
    have HW1 := Lib.hid h1
    have HW2 := Lib.hid h2
    clear h1 h2
    (go_enter Tryz.func14, Tryz.ntmps14; go_wp2_with (first | (go_at_call 36; (with_reducible refine (rwithin1736 nd 1 7 _ HW1.out _).mono ?_); rintro e w' ⟨rfl, rfl⟩) | (go_at_call 36; (with_reducible refine (rwithin1736 nm 0 900000000 _ HW2.out _).mono ?_); rintro e w' ⟨rfl, rfl⟩) | (go_at_call 36; (with_reducible refine (rwithin1736 bs 0 900000000 _ HW3.out _).mono ?_); rintro e w' ⟨rfl, rfl⟩) | (go_at_call 37; (with_reducible refine (rrow1637 es bs va vc _ HF5.out HL.out _ (HA.out.below hp.below)).mono ?_); rintro e w1 ⟨rfl, hb⟩; replace hp := hp.call hb; clear hb) | go_skip | (first | (refine hA1 ?_; clear hp; intro b w1 hp) | refine hL0 ?_ | (refine hS0 ?_; clear hp; intro w1 hp))); go_ret; exact ⟨ret_bool HNO.out.symm, hp.below⟩)
  | true =>
  cases h3 : inM bs 0 900000000 with
  | false =>
    have HNO : RowKit.Hid (checkV nd nm bs nu cm es = false) := Lib.hid (by unfold checkV headV; rw [h1, h2, h3]; rfl)
    have HW1 := Lib.hid h1
    have HW2 := Lib.hid h2
    have HW3 := Lib.hid h3
    clear h1 h2 h3
    (go_enter Tryz.func14, Tryz.ntmps14; go_wp2_with (first | (go_at_call 36; (with_reducible refine (rwithin1736 nd 1 7 _ HW1.out _).mono ?_); rintro e w' ⟨rfl, rfl⟩) | (go_at_call 36; (with_reducible refine (rwithin1736 nm 0 900000000 _ HW2.out _).mono ?_); rintro e w' ⟨rfl, rfl⟩) | (go_at_call 36; (with_reducible refine (rwithin1736 bs 0 900000000 _ HW3.out _).mono ?_); rintro e w' ⟨rfl, rfl⟩) | (go_at_call 37; (with_reducible refine (rrow1637 es bs va vc _ HF5.out HL.out _ (HA.out.below hp.below)).mono ?_); rintro e w1 ⟨rfl, hb⟩; replace hp := hp.call hb; clear hb) | go_skip | (first | (refine hA1 ?_; clear hp; intro b w1 hp) | refine hL0 ?_ | (refine hS0 ?_; clear hp; intro w1 hp))); go_ret; exact ⟨ret_bool HNO.out.symm, hp.below⟩)
  | true =>
  have HW1 := Lib.hid h1
  have HW2 := Lib.hid h2
  have HW3 := Lib.hid h3
  by_cases h4 : (4000 : Int) < (es.length : Int)
  · have e4 : decide ((4000 : Int) < (es.length : Int)) = true := decide_eq_true h4
    have HNO : RowKit.Hid (checkV nd nm bs nu cm es = false) := Lib.hid (by unfold checkV headV; rw [h1, h2, h3, show decide (es.length ≤ 4000) = false by simp; omega]; rfl)
    clear h1 h2 h3 h4
    (go_enter Tryz.func14, Tryz.ntmps14; go_wp2_with (first | (go_at_call 36; (with_reducible refine (rwithin1736 nd 1 7 _ HW1.out _).mono ?_); rintro e w' ⟨rfl, rfl⟩) | (go_at_call 36; (with_reducible refine (rwithin1736 nm 0 900000000 _ HW2.out _).mono ?_); rintro e w' ⟨rfl, rfl⟩) | (go_at_call 36; (with_reducible refine (rwithin1736 bs 0 900000000 _ HW3.out _).mono ?_); rintro e w' ⟨rfl, rfl⟩) | (go_at_call 37; (with_reducible refine (rrow1637 es bs va vc _ HF5.out HL.out _ (HA.out.below hp.below)).mono ?_); rintro e w1 ⟨rfl, hb⟩; replace hp := hp.call hb; clear hb) | go_skip | (first | (refine hA1 ?_; clear hp; intro b w1 hp) | refine hL0 ?_ | (refine hS0 ?_; clear hp; intro w1 hp))); go_ret; exact ⟨ret_bool HNO.out.symm, hp.below⟩)
  have e4 : decide ((4000 : Int) < (es.length : Int)) = false := decide_eq_false h4
  have g4 : decide (es.length ≤ 4000) = true := by simp; omega
  cases h5 : folB bs 0 es with
  | false =>
    have HNO : RowKit.Hid (checkV nd nm bs nu cm es = false) := Lib.hid (by unfold checkV headV; rw [h1, h2, h3, g4, h5]; rfl)
    have HF5 := Lib.hid h5
    clear h1 h2 h3 h4 h5 g4
    (go_enter Tryz.func14, Tryz.ntmps14; go_wp2_with (first | (go_at_call 36; (with_reducible refine (rwithin1736 nd 1 7 _ HW1.out _).mono ?_); rintro e w' ⟨rfl, rfl⟩) | (go_at_call 36; (with_reducible refine (rwithin1736 nm 0 900000000 _ HW2.out _).mono ?_); rintro e w' ⟨rfl, rfl⟩) | (go_at_call 36; (with_reducible refine (rwithin1736 bs 0 900000000 _ HW3.out _).mono ?_); rintro e w' ⟨rfl, rfl⟩) | (go_at_call 37; (with_reducible refine (rrow1637 es bs va vc _ HF5.out HL.out _ (HA.out.below hp.below)).mono ?_); rintro e w1 ⟨rfl, hb⟩; replace hp := hp.call hb; clear hb) | go_skip | (first | (refine hA1 ?_; clear hp; intro b w1 hp) | refine hL0 ?_ | (refine hS0 ?_; clear hp; intro w1 hp))); go_ret; exact ⟨ret_bool HNO.out.symm, hp.below⟩)
  | true =>
    have HF5 := Lib.hid h5
    have HOK : RowKit.Hid (checkV nd nm bs nu cm es = (entsB nm 0 es && (decide (nu = wrap64 (bs + es.length)) && inM cm bs nu))) := Lib.hid (by unfold checkV headV; rw [h1, h2, h3, g4, h5]; simp)
    have hel : es.length ≤ 4000 := by omega
    clear h1 h2 h3 h4 h5 g4
    go_enter Tryz.func14, Tryz.ntmps14
    go_wp2_with (first | (go_at_call 36; (with_reducible refine (rwithin1736 nd 1 7 _ HW1.out _).mono ?_); rintro e w' ⟨rfl, rfl⟩) | (go_at_call 36; (with_reducible refine (rwithin1736 nm 0 900000000 _ HW2.out _).mono ?_); rintro e w' ⟨rfl, rfl⟩) | (go_at_call 36; (with_reducible refine (rwithin1736 bs 0 900000000 _ HW3.out _).mono ?_); rintro e w' ⟨rfl, rfl⟩) | (go_at_call 37; (with_reducible refine (rrow1637 es bs va vc _ HF5.out HL.out _ (HA.out.below hp.below)).mono ?_); rintro e w1 ⟨rfl, hb⟩; replace hp := hp.call hb; clear hb) | go_skip | (first | (refine hA1 ?_; clear hp; intro b w1 hp) | refine hL0 ?_ | (refine hS0 ?_; clear hp; intro w1 hp)))
    obtain ⟨bk, hbk⟩ := hp.id0
    subst hbk
    go_loopg [3] es.length (fun k i wr => ∃ (q : Nat) (vq : Int), k + q = es.length ∧ i = .int .i64 q ∧ RowKit.Hid (entsB nm 0 es = entsB nm vq (es.drop q)) ∧ RowKit.Hid (LastV es q vq) ∧ Hp w.heap.size w wr [⟨bk, [.int .i64 nd, .int .i64 nm, .int .i64 bs, .int .i64 nu, .int .i64 cm, .slice va es.length vc], 27, 6⟩])
    case atStart => exact ⟨0, 0, by omega, rfl, Lib.hid rfl, Lib.hid ⟨fun _ => rfl, fun h => absurd h (Nat.lt_irrefl 0)⟩, hp⟩
    case round =>
      clear hp
      obtain ⟨q, vq, hkq, rfl, HF, HLV, hp⟩ := hrel
      by_cases hlt : q < es.length
      · obtain ⟨bq, off, rfl, hx⟩ := HA.out.elems 11 envL_len11 (by omega) (by omega)
        have HE := Lib.hid hx
        have hj := List.getElem?_eq_getElem hlt
        replace hx := hx q _ hj
        have hways := ent_ways hel HLV.out hj HF.out
        clear hj
        generalize es[q] = en at hx hways
        obtain ⟨nu2, vi, cl, sq, ⟨kk, hh, ii, nn, cc, vv, tt⟩⟩ := en
        simp only [envL, opL, List.cons_append, List.nil_append] at hx
        have HX := Lib.hid hx
        have f1 : (0 : Int) ≤ (q : Int) := by omega
        have f2 : (q : Int) < (es.length : Int) := by omega
        clear hx
        rcases hways with ⟨hm, hr⟩ | ⟨hm, d0, hr⟩ | ⟨hm, d0, d1, d2, hn, hl⟩ | ⟨k, y, hm, d0, d1, d2, d3, d5, d6, hy, hle, hr⟩ | ⟨k, y, hm, d0, d1, d2, d3, d5, d6, hy, hle, hn, hl⟩
        · have HM := Lib.hid hm
          have HRR := Lib.hid hr
          clear hm hr HE
          go_wp2_with (first | go_skip | (first | (refine hA1 ?_; clear hp; intro b w1 hp) | refine hL11 ?_ | (refine hS0 ?_; clear hp; intro w1 hp)))
          refine wp_region_keeps _ (Keeps.all hp.drew) [] [(0, true), (1, false), (2, true), (3, true), (4, true), (5, true), (6, true), (7, true), (8, true), (9, true), (10, true), (11, true), (12, true), (13, true), (14, true), (15, true), (16, true), (17, true), (18, true), (19, true), (20, true), (21, true), (22, true), (23, true), (24, true), (25, true)] (by kernel_rfl) (by kernel_rfl) rfl (by kernel_rfl) (fun _ _ d _ _ h => by cases d <;> exact h) ?_
          replace hp := hp.drew
          repeat' (with_reducible refine plan_is ?_); first | (with_reducible refine plan_nil ?_) | refine tk19 ?_ | (refine plan_do rfl (fun K hK => ?_); go_wp2_with (first | (go_at_call 38; (with_reducible refine (may14_lit _ _ _ _ _ _ _ _ _ _ _ _ HM.out _).mono ?_); rintro e w1 ⟨rfl, hb⟩; replace hp := hp.call hb; clear hb) | go_skip); (refine hK.out _ _ (.inr (kall hp)) ?_); clear hK K; try simp only [put_some, put_none, eval_tmp, eval_const, sSet, zSet, List.getD_cons_succ, List.getD_cons_zero, wrap_eq])
          (go_wp2_with (first | go_skip | (first | (refine hA1 ?_; clear hp; intro b w1 hp) | refine hL0 ?_ | (refine hS0 ?_; clear hp; intro w1 hp))); go_ret; refine ⟨ret_bool ?_, hp.below⟩; rw [HOK.out, HRR.out, Bool.false_and])
        · have HM := Lib.hid hm
          have HRR := Lib.hid hr
          simp only at d0
          clear hm hr HE
          go_wp2_with (first | go_skip | (first | (refine hA1 ?_; clear hp; intro b w1 hp) | refine hL11 ?_ | (refine hS0 ?_; clear hp; intro w1 hp)))
          refine wp_region_keeps _ (Keeps.all hp.drew) [] [(0, true), (1, false), (2, true), (3, true), (4, true), (5, true), (6, true), (7, true), (8, true), (9, true), (10, true), (11, true), (12, true), (13, true), (14, true), (15, true), (16, true), (17, true), (18, true), (19, true), (20, true), (21, true), (22, true), (23, true), (24, true), (25, true)] (by kernel_rfl) (by kernel_rfl) rfl (by kernel_rfl) (fun _ _ d _ _ h => by cases d <;> exact h) ?_
          replace hp := hp.drew
          repeat' (with_reducible refine plan_is ?_); first | (with_reducible refine plan_nil ?_) | refine tk19 ?_ | (refine plan_do rfl (fun K hK => ?_); go_wp2_with (first | (go_at_call 38; (with_reducible refine (may14_lit _ _ _ _ _ _ _ _ _ _ _ _ HM.out _).mono ?_); rintro e w1 ⟨rfl, hb⟩; replace hp := hp.call hb; clear hb) | go_skip); (refine hK.out _ _ (.inr (kall hp)) ?_); clear hK K; try simp only [put_some, put_none, eval_tmp, eval_const, sSet, zSet, List.getD_cons_succ, List.getD_cons_zero, wrap_eq])
          (go_wp2_with (first | go_skip | (first | (refine hA1 ?_; clear hp; intro b w1 hp) | refine hL0 ?_ | (refine hS0 ?_; clear hp; intro w1 hp))); go_ret; refine ⟨ret_bool ?_, hp.below⟩; rw [HOK.out, HRR.out, Bool.false_and])
        · have HM := Lib.hid hm
          have HNN := Lib.hid hn
          have HLL := Lib.hid hl
          simp only at d0
          have d3 : ¬ 0 < q := by simpa using d2
          clear hm hn hl HE
          go_wp2_with (first | go_skip | (first | (refine hA1 ?_; clear hp; intro b w1 hp) | refine hL11 ?_ | (refine hS0 ?_; clear hp; intro w1 hp)))
          refine wp_region_keeps _ (Keeps.all hp.drew) [] [(0, true), (1, false), (2, true), (3, true), (4, true), (5, true), (6, true), (7, true), (8, true), (9, true), (10, true), (11, true), (12, true), (13, true), (14, true), (15, true), (16, true), (17, true), (18, true), (19, true), (20, true), (21, true), (22, true), (23, true), (24, true), (25, true)] (by kernel_rfl) (by kernel_rfl) rfl (by kernel_rfl) (fun _ _ d _ _ h => by cases d <;> exact h) ?_
          replace hp := hp.drew
          repeat' (with_reducible refine plan_is ?_); first | (with_reducible refine plan_nil ?_) | refine tk19 ?_ | (refine plan_do rfl (fun K hK => ?_); go_wp2_with (first | (go_at_call 38; (with_reducible refine (may14_lit _ _ _ _ _ _ _ _ _ _ _ _ HM.out _).mono ?_); rintro e w1 ⟨rfl, hb⟩; replace hp := hp.call hb; clear hb) | go_skip); (refine hK.out _ _ (.inr (kall hp)) ?_); clear hK K; try simp only [put_some, put_none, eval_tmp, eval_const, sSet, zSet, List.getD_cons_succ, List.getD_cons_zero, wrap_eq])
          (go_wp2_with (first | go_skip | (first | (refine hA1 ?_; clear hp; intro b w1 hp) | refine hL0 ?_ | (refine hS0 ?_; clear hp; intro w1 hp))); go_roundg (gk - 1); (case measure => omega); (case rel => exact ⟨q + 1, vi, by omega, by go_num, HNN, HLL, hp.tail⟩))
        · have HM := Lib.hid hm
          have HRR := Lib.hid hr
          have HY := HE.out _ _ hy
          obtain ⟨yn, yv, yc, ys, ⟨y1, y2, y3, y4, y5, y6, y7⟩⟩ := y
          simp only [envL, opL, List.cons_append, List.nil_append] at HY
          have HK := Lib.hid HY
          have HW := Lib.hid d3
          have d7 : 0 < q := by simpa using d2
          simp only at d0 hle
          clear hm hr HE HY hy d3
          go_wp2_with (first | go_skip | (first | (refine hA1 ?_; clear hp; intro b w1 hp) | refine hL11 ?_ | (refine hS0 ?_; clear hp; intro w1 hp)))
          refine wp_region_keeps _ (Keeps.all hp.drew) [] [(0, true), (1, false), (2, true), (3, true), (4, true), (5, true), (6, true), (7, true), (8, true), (9, true), (10, true), (11, true), (12, true), (13, true), (14, true), (15, true), (16, true), (17, true), (18, true), (19, true), (20, true), (21, true), (22, true), (23, true), (24, true), (25, true)] (by kernel_rfl) (by kernel_rfl) rfl (by kernel_rfl) (fun _ _ d _ _ h => by cases d <;> exact h) ?_
          replace hp := hp.drew
          repeat' (with_reducible refine plan_is ?_); first | (with_reducible refine plan_nil ?_) | refine tk20 ?_ | (refine plan_do rfl (fun K hK => ?_); go_wp2_with (first | (go_at_call 38; (with_reducible refine (may14_lit _ _ _ _ _ _ _ _ _ _ _ _ HM.out _).mono ?_); rintro e w1 ⟨rfl, hb⟩; replace hp := hp.call hb; clear hb) | go_skip); (refine hK.out _ _ (.inr (kall hp)) ?_); clear hK K; try simp only [put_some, put_none, eval_tmp, eval_const, sSet, zSet, List.getD_cons_succ, List.getD_cons_zero, wrap_eq, HW.out])
          (go_wp2_with (first | go_skip | (first | (refine hA1 ?_; clear hp; intro b w1 hp) | refine hL0 ?_ | (refine hS0 ?_; clear hp; intro w1 hp))); go_ret; refine ⟨ret_bool ?_, hp.below⟩; rw [HOK.out, HRR.out, Bool.false_and])
        · have HM := Lib.hid hm
          have HNN := Lib.hid hn
          have HLL := Lib.hid hl
          have HY := HE.out _ _ hy
          obtain ⟨yn, yv, yc, ys, ⟨y1, y2, y3, y4, y5, y6, y7⟩⟩ := y
          simp only [envL, opL, List.cons_append, List.nil_append] at HY
          have HK := Lib.hid HY
          have HW := Lib.hid d3
          have d7 : 0 < q := by simpa using d2
          simp only at d0 hle
          clear hm hn hl HE HY hy d3
          go_wp2_with (first | go_skip | (first | (refine hA1 ?_; clear hp; intro b w1 hp) | refine hL11 ?_ | (refine hS0 ?_; clear hp; intro w1 hp)))
          refine wp_region_keeps _ (Keeps.all hp.drew) [] [(0, true), (1, false), (2, true), (3, true), (4, true), (5, true), (6, true), (7, true), (8, true), (9, true), (10, true), (11, true), (12, true), (13, true), (14, true), (15, true), (16, true), (17, true), (18, true), (19, true), (20, true), (21, true), (22, true), (23, true), (24, true), (25, true)] (by kernel_rfl) (by kernel_rfl) rfl (by kernel_rfl) (fun _ _ d _ _ h => by cases d <;> exact h) ?_
          replace hp := hp.drew
          repeat' (with_reducible refine plan_is ?_); first | (with_reducible refine plan_nil ?_) | refine tk20 ?_ | (refine plan_do rfl (fun K hK => ?_); go_wp2_with (first | (go_at_call 38; (with_reducible refine (may14_lit _ _ _ _ _ _ _ _ _ _ _ _ HM.out _).mono ?_); rintro e w1 ⟨rfl, hb⟩; replace hp := hp.call hb; clear hb) | go_skip); (refine hK.out _ _ (.inr (kall hp)) ?_); clear hK K; try simp only [put_some, put_none, eval_tmp, eval_const, sSet, zSet, List.getD_cons_succ, List.getD_cons_zero, wrap_eq, HW.out])
          (go_wp2_with (first | go_skip | (first | (refine hA1 ?_; clear hp; intro b w1 hp) | refine hL0 ?_ | (refine hS0 ?_; clear hp; intro w1 hp))); go_roundg (gk - 1); (case measure => omega); (case rel => exact ⟨q + 1, vi, by omega, by go_num, HNN, HLL, hp.tail⟩))
      · obtain rfl : q = es.length := by omega
        have f2 : decide ((es.length : Int) < (es.length : Int)) = false := by simp
        have HE : RowKit.Hid (entsB nm 0 es = true) := Lib.hid (by rw [HF.out, List.drop_length]; rfl)
        clear hkq hlt HF
        by_cases hn : nu = wrap64 (bs + es.length)
        · have e1 : (nu == wrap64 (bs + es.length)) = true := by simpa using hn
          have HN := Lib.hid (decide_eq_true hn)
          obtain ⟨r, hc⟩ : ∃ r, inM cm bs nu = r := ⟨_, rfl⟩
          have HWC := Lib.hid hc
          clear hc hn
          go_wp2_with (first | (go_at_call 36; (with_reducible refine (rwithin1736 cm bs _ _ HWC.out _).mono ?_); rintro e w' ⟨rfl, rfl⟩) | go_skip | (first | (refine hA1 ?_; clear hp; intro b w1 hp) | refine hL0 ?_ | (refine hS0 ?_; clear hp; intro w1 hp)))
          go_ret
          refine ⟨ret_bool ?_, hp.below⟩
          rw [HOK.out, HE.out, HN.out, HWC.out, Bool.true_and, Bool.true_and]
        · have e1 : (nu == wrap64 (bs + es.length)) = false := by simpa using hn
          have HN := Lib.hid (decide_eq_false hn)
          clear hn
          go_wp2_with (first | (go_at_call 36; (with_reducible refine (rwithin1736 cm bs _ _ HWC.out _).mono ?_); rintro e w' ⟨rfl, rfl⟩) | go_skip | (first | (refine hA1 ?_; clear hp; intro b w1 hp) | refine hL0 ?_ | (refine hS0 ?_; clear hp; intro w1 hp)))
          go_ret
          refine ⟨ret_bool ?_, hp.below⟩
          rw [HOK.out, HE.out, HN.out]; rfl
end Go.Proofs.YtcjbepaclbhjaaaGreat
