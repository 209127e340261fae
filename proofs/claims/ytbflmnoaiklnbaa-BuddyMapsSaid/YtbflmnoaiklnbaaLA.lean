/- The document's example of taking and giving back; Own of blocks. -/
import Derived.Test.YtbflmnoaiklnbaaGW
import Derived.Test.YtbflmnoaiklnbaaRTS
import Derived.Test.YtbflmnoaiklnbaaTK
import Derived.Test.YtbflmnoaiklnbaaBAll
set_option linter.unusedSimpArgs false
set_option linter.unusedVariables false
namespace Go.Proofs.Ytbflmnoaiklnbaa
open Go.RowKit
set_option maxRecDepth 100000 in
set_option maxHeartbeats 4000000 in
theorem ownc41 (l : List Bl) (a : Option Addr) (c : Nat) (hl : l.length ≤ 2000) (w : World) (ha : RowIs w a (l.flatMap blV)) : Calls Try.prog 41 #[.slice a l.length c] w (ClonePostBl w l.length (l.flatMap blV)) := by
  obtain ⟨i0, hi0, hz0, hz1, hz2⟩ := info_parts info44
  have hp := Hp.start w
  have HA := Lib.hid ha
  have sm1 : 0 + l.length ≤ maxLen := by unfold maxLen; omega
  have sm2 : (0 + l.length) * 16 ≤ 140737488355328 := by omega
  clear ha
  go_enter Try.func41, Try.ntmps41
  go_wp2_with (first | ((with_reducible refine pre_append _ _ 24 rfl ?_); refine wpList_appendGrowRow (K := []) (R := []) (M := []) hp _ _ _ rfl wy i0 _ 16 Try.underlying24 hi0 hz0 hz1 hz2 rfl (by decide) (slot_tmp rfl) (OwnRow.nil _ _) a l.length c (slot_tmp rfl) _ (lit_len l) (HA.out.below hp.below) (blsOne l) sm1 sm2 ?_; clear hp; intro v' R' w1 hR' hp; have HR' := Lib.hid hR'; clear hR'; simp only [put_some, put_none, List.set_cons_succ, List.set_cons_zero]) | go_skip)
  go_ret
  exact ⟨v', R', rfl, by simpa using HR'.out, by simpa using hp⟩
theorem right_rest : rightB 3 [⟨2, 1⟩, ⟨4, 2⟩] = true := rightB_yes (by decide) (by
  intro i y hi
  match i, hi with
  | 0, hi =>
    simp at hi; subst hi
    exact ⟨by decide, fun k x hk => by omega⟩
  | 1, hi =>
    simp at hi; subst hi
    refine ⟨by decide, fun k x hk hx => ?_⟩
    have : k = 0 := by omega
    subst this
    simp at hx; subst hx
    exact ⟨by decide, by decide⟩
  | i + 2, hi => simp at hi)
theorem right_nil : rightB 3 [] = true := rightB_yes (by decide) (Good.nil 3)
def Row2 (w : World) (c1 c2 n : Int) (k : Nat) (xs : List Value) (e : Ending) (w' : World) : Prop := ∃ g cap, e = .returned (.tuple #[.agg #[.int .i64 c1, .int .i64 c2], .slice (some ⟨g, 0, none⟩) k cap, .int .i64 n]) ∧ Hp w.heap.size w w' [⟨g, xs, 44, cap * 2⟩]
def Row1 (w : World) (n : Int) (k : Nat) (xs : List Value) (e : Ending) (w' : World) : Prop := ∃ g cap, e = .returned (.tuple #[.slice (some ⟨g, 0, none⟩) k cap, .int .i64 n]) ∧ Hp w.heap.size w w' [⟨g, xs, 44, cap * 2⟩]
theorem taken_ex : takenL [⟨0, 3⟩] ⟨0, 3⟩ 1 = [⟨2, 1⟩, ⟨4, 2⟩] := by decide
theorem given_ex : givenL 3 [⟨2, 1⟩, ⟨4, 2⟩] ⟨0, 1⟩ = [⟨0, 3⟩] := by decide
theorem ex_take (b : Nat) (w : World) (h : RowIs w (some ⟨b, 0, none⟩) [.int .i64 0, .int .i64 3]) : Calls Try.prog 24 #[.int .i64 3, .slice (some ⟨b, 0, none⟩) 1 1, .int .i64 1] w (Row2 w 0 1 0 2 [.int .i64 2, .int .i64 1, .int .i64 4, .int .i64 2]) := by
  refine (take24_ok 3 1 [⟨0, 3⟩] (some ⟨b, 0, none⟩) 1 (by decide) w h right_one (by decide) (by decide) (by decide)).mono ?_
  rintro e w' ⟨t, a, k, R, s, rfl, hl, ht, hr, hp⟩
  obtain ⟨tp, to⟩ := t
  have hm := hl.mem
  simp at hm
  obtain ⟨rfl, rfl⟩ := hm
  have hs := taken_eq (good_one 3 (by decide)).disj hl.mem (by decide) (by decide) ht
  rw [taken_ex] at hs
  subst hs
  obtain ⟨g, cap, hv, h1, h2, rfl⟩ := OwnRow.cons2 (n := 1) hr
  injection hv with hv1 hv2 hv3
  subst hv1 hv3
  exact ⟨g, _, rfl, hp⟩
theorem ex_give (g cap : Nat) (w : World) (h : RowIs w (some ⟨g, 0, none⟩) [.int .i64 2, .int .i64 1, .int .i64 4, .int .i64 2]) : Calls Try.prog 60 #[.int .i64 3, .slice (some ⟨g, 0, none⟩) 2 cap, .agg #[.int .i64 0, .int .i64 1]] w (Row1 w 0 1 [.int .i64 0, .int .i64 3]) := by
  refine (give60_ok 3 [⟨2, 1⟩, ⟨4, 2⟩] (some ⟨g, 0, none⟩) cap (by decide) 0 1 w h right_rest (by decide) (by decide)).mono ?_
  rintro e w' ⟨a, k, R, rfl, hr, hp⟩
  rw [given_ex] at hr
  obtain ⟨g, cap, hv, h1, h2, rfl⟩ := OwnRow.cons2 (n := 0) hr
  injection hv with hv1 hv2 hv3
  subst hv1 hv3
  refine ⟨g, _, ?_, hp⟩
  rw [given_ex]; rfl
theorem ex_full (w : World) : Calls Try.prog 24 #[.int .i64 3, .slice none 0 0, .int .i64 0] w (TakeNo w 40) := take24_full 3 0 [] none 0 (by decide) w (RowIs.nil _ _) right_nil (by decide) (by decide) (by decide)
theorem ex_block (b : Nat) (w : World) (h : RowIs w (some ⟨b, 0, none⟩) [.int .i64 0, .int .i64 3]) : Calls Try.prog 60 #[.int .i64 3, .slice (some ⟨b, 0, none⟩) 1 1, .agg #[.int .i64 0, .int .i64 0]] w (GiveNo w 41) := give60_no 3 [⟨0, 3⟩] (some ⟨b, 0, none⟩) 1 (by decide) 0 0 w h right_one (.inr ⟨by decide, by decide⟩)
theorem ex_all (w : World) : Calls Try.prog 55 #[.int .i64 3] w (AllPost w 3) := all55_yes 3 (by decide) w
set_option maxRecDepth 100000 in
set_option maxHeartbeats 8000000 in
theorem takes25 (w : World) : Calls Try.prog 25 #[] w fun e w' => e = .returned (.bool true) ∧ Below w.heap.size w w' := by
  have hp := Hp.start w
  go_enter Try.func25, Try.ntmps25
  go_wp2_with (first | (go_at_call 55; (with_reducible refine (ex_all _).mono ?_); rintro e w1 ⟨b, rfl, hf, hb⟩; replace hp := hp.adopt hb hf; clear hb hf; obtain ⟨b0, rfl⟩ := hp.id0) | (go_at_call 24; (with_reducible refine (ex_take b0 _ (hp.rowIs at0)).mono ?_); rintro e w1 ⟨g1, cap1, rfl, hpx⟩; replace hp := hp.join hpx; clear hpx; simp only [List.cons_append, List.nil_append] at hp) | (go_at_call 60; (with_reducible refine (ex_give g1 cap1 _ (hp.rowIs at2)).mono ?_); rintro e w1 ⟨g2, cap2, rfl, hpx⟩; replace hp := hp.join hpx; clear hpx; simp only [List.cons_append, List.nil_append] at hp) | (go_at_call 24; (with_reducible refine (ex_full _).mono ?_); rintro e w1 ⟨rfl, hb⟩; replace hp := hp.call hb; clear hb) | (go_at_call 60; (with_reducible refine (ex_block b0 _ (hp.rowIs at2)).mono ?_); rintro e w1 ⟨rfl, hb⟩; replace hp := hp.call hb; clear hb) | go_skip | ((first | ((with_reducible refine pre_alloc _ rfl ?_); refine lZ hp rfl zero44 ?_; clear hp; intro b w1 hp) | ((with_reducible refine pre_box _ _ rfl ?_); refine lB hp rfl (slot_tmp rfl) rfl ?_; clear hp; intro b w1 hp) | ((with_reducible refine pre_load _ _ rfl ?_); first | refine lO hp rfl (slot_tmp rfl) (by with_reducible first | exact cell3 | exact cell4 | exact cell24 | exact cell30) aa14 ?_ | refine lA hp rfl (slot_tmp rfl) agg44 aa14 ?_) | ((with_reducible refine pre_store _ _ _ rfl ?_); (first | refine sO hp rfl (slot_tmp rfl) (by with_reducible first | exact cell3 | exact cell4 | exact cell24 | exact cell30) aa14 ?_ | refine sA hp rfl (slot_tmp rfl) (slot_tmp rfl) agg44 aa14 ?_ | refine sG hp rfl (slot_tmp rfl) (slot_tmp rfl) agg44 aa14 ?_); clear hp; intro w1 hp; simp only [spl, List.set_cons_zero, List.set_cons_succ] at hp) | ((with_reducible refine pre_build _ _ _ rfl ?_); refine lS hp rfl (by intro w; go_simp; rfl) ?_; clear hp; intro b w1 hp; simp only [List.length_cons, List.length_nil, Nat.reduceAdd] at hp)); simp only [put_some, put_none, List.set_cons_succ, List.set_cons_zero]))
  go_ret
  exact ⟨rfl, hp.below⟩
end Go.Proofs.Ytbflmnoaiklnbaa
