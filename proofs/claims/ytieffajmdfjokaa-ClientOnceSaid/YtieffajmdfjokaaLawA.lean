/- The walks of the laws ClientBegins and ClientCalls. -/
import Derived.Test.YtieffajmdfjokaaRows2
import Derived.Test.YtieffajmdfjokaaCall2
import Derived.Lib.Hide
set_option linter.unusedSimpArgs false
set_option linter.unusedVariables false
namespace Go.Proofs.Ytieffajmdfjokaa
open Go.RowKit

theorem errB_t : errB true = 0 := rfl
theorem errB_f : errB false = 170 := rfl

set_option maxRecDepth 100000 in
set_option maxHeartbeats 4000000 in
theorem begins3 (id nodes : Int) (c : Cli) (w : World) : Calls Try.prog 3 #[.int .i64 id, .int .i64 nodes, cliV c] w fun e w' => e = .returned (.bool true) ∧ Below w.heap.size w w' := by
  have hp := Hp.start w
  simp only [cliV, cliA]
  cases hr : rightB c
  all_goals
    go_enter Try.func3, Try.ntmps3
    go_wp2_with (first
      | (go_at_call 8; refine (new8 id nodes _).mono ?_; rintro e w1 ⟨rfl, hb⟩; simp only [cliV, cliA]; replace hp := hp.call hb; clear hb)
      | (go_at_call 9; refine (new9 id nodes _).mono ?_; rintro e w1 ⟨rfl, hb⟩; simp only [cliV, cliA]; replace hp := hp.call hb; clear hb)
      | (go_at_call 10; refine (check10 c _).mono ?_; rintro e w1 ⟨rfl, hb⟩; rw [hr]; simp only [errB_t, errB_f]; replace hp := hp.call hb; clear hb)
      | (go_at_call 12; refine (right12 c _).mono ?_; rintro e w1 ⟨rfl, hb⟩; rw [hr]; replace hp := hp.call hb; clear hb)
      | (go_at_call 11; refine (calls11 _).mono ?_; rintro e w1 ⟨rfl, hb⟩; replace hp := hp.call hb; clear hb)
      | go_skip | (refine wpList_alloc_hp hp _ rfl (by first | exact wanted_none rfl | exact wanted_yes rfl rfl rfl rfl) _ _ (by first | exact zero26 | exact zero39) ?_; clear hp; intro b w1 hp; simp only [put_some, put_none, List.set_cons_succ, List.set_cons_zero]) | (refine wpList_box_hp hp _ _ rfl (by first | exact wanted_none rfl | exact wanted_yes rfl rfl rfl rfl) _ (slot_tmp rfl) _ rfl _ (by simp only [List.length_cons, List.length_nil, Nat.reduceAdd]; rfl) ?_; clear hp; intro b w1 hp; simp only [put_some, put_none, List.set_cons_succ, List.set_cons_zero]) | (refine wpList_loadAgg_hp hp _ _ rfl (by first | exact wanted_none rfl | exact wanted_yes rfl rfl rfl rfl) _ _ (slot_tmp rfl) _ (by first | exact agg24 | exact agg26 | exact agg39 | exact agg37) _ _ _ _ (by first | exact at0 | exact at1 | exact at2 | exact at3 | exact at4 | exact at5 | exact at6 | exact at7 | exact at8 | exact at9 | exact at10 | exact at11 | exact at12 | exact at13) _ (by simp only [List.drop_zero, List.drop_succ_cons, List.take_succ_cons, List.take_zero, List.take_nil]; rfl) (by rfl) ?_; simp only [put_some, put_none, List.set_cons_succ, List.set_cons_zero]) | (refine wpList_loadOne_hp hp _ _ rfl (by first | exact wanted_none rfl | exact wanted_yes rfl rfl rfl rfl) _ _ (slot_tmp rfl) (by first | exact cell3 | exact cell4 | exact cell9 | exact cell22 | exact cell27 | exact cell34 | exact cell35) _ _ _ _ (by first | exact at0 | exact at1 | exact at2 | exact at3 | exact at4 | exact at5 | exact at6 | exact at7 | exact at8 | exact at9 | exact at10 | exact at11 | exact at12 | exact at13) _ (by rfl) ?_; simp only [put_some, put_none, List.set_cons_succ, List.set_cons_zero]) | (refine wpList_storeAll_hp hp _ _ _ rfl (by first | exact wanted_none rfl | exact wanted_yes rfl rfl rfl rfl) _ (slot_tmp rfl) _ (slot_tmp rfl) (by first | exact agg24 | exact agg26 | exact agg39 | exact agg37) _ _ _ _ (by first | exact at0 | exact at1 | exact at2 | exact at3 | exact at4 | exact at5 | exact at6 | exact at7 | exact at8 | exact at9 | exact at10 | exact at11 | exact at12 | exact at13) (by rfl) (by first | rfl | simp [*]) ?_; clear hp; intro w1 hp; simp only [List.set_cons_zero, List.set_cons_succ] at hp; simp only [put_some, put_none, List.set_cons_succ, List.set_cons_zero]) | (refine wpList_storeAgg_hp hp _ _ _ rfl (by first | exact wanted_none rfl | exact wanted_yes rfl rfl rfl rfl) _ _ (slot_tmp rfl) _ (slot_tmp rfl) (by first | exact agg24 | exact agg26 | exact agg39 | exact agg37) _ _ _ _ (by first | exact at0 | exact at1 | exact at2 | exact at3 | exact at4 | exact at5 | exact at6 | exact at7 | exact at8 | exact at9 | exact at10 | exact at11 | exact at12 | exact at13) (by simp only [List.length_cons, List.length_nil]; omega) (by first | rfl | simp [*]) ?_; clear hp; intro w1 hp; simp only [spl, List.set_cons_zero, List.set_cons_succ] at hp; simp only [put_some, put_none, List.set_cons_succ, List.set_cons_zero]) | (refine wpList_storeOne_hp hp _ _ _ rfl (by first | exact wanted_none rfl | exact wanted_yes rfl rfl rfl rfl) _ _ (slot_tmp rfl) _ (by first | exact slot_tmp rfl | exact slot_const) (by first | exact cell3 | exact cell4 | exact cell9 | exact cell22 | exact cell27 | exact cell34 | exact cell35) _ _ _ _ (by first | exact at0 | exact at1 | exact at2 | exact at3 | exact at4 | exact at5 | exact at6 | exact at7 | exact at8 | exact at9 | exact at10 | exact at11 | exact at12 | exact at13) (by simp only [List.length_cons, List.length_nil]; omega) (by first | rfl | assumption) ?_; clear hp; intro w1 hp; simp only [List.set_cons_zero, List.set_cons_succ] at hp; simp only [put_some, put_none, List.set_cons_succ, List.set_cons_zero]))
    go_ret
    exact ⟨rfl, hp.below⟩

theorem same17v (kind src to view normal number base commit offset total : Int) (text : ByteArray) (seq a b c d e f g code value : Int) (ok : Bool) (w : World) :
    Calls Try.prog 17 #[.agg #[.int .i64 kind, .int .i64 src, .int .i64 to, .int .i64 view, .int .i64 normal, .int .i64 number, .int .i64 base, .int .i64 commit, .slice none 0 0, .int .i64 offset, .int .i64 total, .string text, .int .i64 seq, .int .i64 a, .int .i64 b, .int .i64 c, .int .i64 d, .int .i64 e, .int .i64 f, .int .i64 g, .int .i64 code, .int .i64 value, .bool ok],
      .agg #[.int .i64 kind, .int .i64 src, .int .i64 to, .int .i64 view, .int .i64 normal, .int .i64 number, .int .i64 base, .int .i64 commit, .slice none 0 0, .int .i64 offset, .int .i64 total, .string text, .int .i64 seq, .int .i64 a, .int .i64 b, .int .i64 c, .int .i64 d, .int .i64 e, .int .i64 f, .int .i64 g, .int .i64 code, .int .i64 value, .bool ok]] w fun e w' => e = .returned (.bool true) ∧ Below w.heap.size w w' :=
  same17 ⟨kind, src, to, view, normal, number, base, commit, .slice none 0 0, offset, total, text, seq, ⟨a, b, c, d, e, f, g⟩, code, value, ok⟩ w

theorem callC_ents (c : Cli) (o : OpD) : (callC c o).2.1 = { (callC c o).2.1 with ents := .slice none 0 0 } := by
  unfold callC; split
  · split
    · rfl
    · split <;> rfl
  · rfl
theorem retryC_ents (c : Cli) : (retryC c).2.1 = { (retryC c).2.1 with ents := .slice none 0 0 } := by
  unfold retryC; split
  · split <;> rfl
  · rfl

set_option maxRecDepth 100000 in
set_option maxHeartbeats 4000000 in
theorem calls4 (c : Cli) (o : OpD) (w : World) : Calls Try.prog 4 #[cliV c, opV o] w fun e w' => e = .returned (.bool true) ∧ Below w.heap.size w w' := by
  have hp := Hp.start w
  obtain ⟨c', m', e', hc⟩ : ∃ (c' : Cli) (m' : Msg) (e' : Int), callC c o = (c', { m' with ents := .slice none 0 0 }, e') := ⟨_, _, _, by rw [← callC_ents]⟩
  obtain ⟨c2', m2', e2', hc2⟩ : ∃ (c' : Cli) (m' : Msg) (e' : Int), retryC c = (c', { m' with ents := .slice none 0 0 }, e') := ⟨_, _, _, by rw [← retryC_ents]⟩
  have k13 := fun w => call13 c o w
  have k14 := fun w => call14 c o w
  have k15 := fun w => retry15 c w
  have k16 := fun w => retry16 c w
  rw [hc] at k13 k14
  rw [hc2] at k15 k16
  have K13 := Lib.hid k13
  have K14 := Lib.hid k14
  have K15 := Lib.hid k15
  have K16 := Lib.hid k16
  clear k13 k14 k15 k16
  have HC := Lib.hid hc
  have HC2 := Lib.hid hc2
  clear hc hc2
  simp only [cliV, cliA, opV]
  go_enter Try.func4, Try.ntmps4
  go_wp2_with (first
    | (go_at_call 13; refine (K13.out _).mono ?_; rintro e w1 ⟨rfl, hb⟩; simp only [cliV, cliA, msgV]; replace hp := hp.call hb; clear hb)
    | (go_at_call 14; refine (K14.out _).mono ?_; rintro e w1 ⟨rfl, hb⟩; simp only [cliV, cliA, msgV]; replace hp := hp.call hb; clear hb)
    | (go_at_call 15; refine (K15.out _).mono ?_; rintro e w1 ⟨rfl, hb⟩; simp only [cliV, cliA, msgV]; replace hp := hp.call hb; clear hb)
    | (go_at_call 16; refine (K16.out _).mono ?_; rintro e w1 ⟨rfl, hb⟩; simp only [cliV, cliA, msgV]; replace hp := hp.call hb; clear hb)
    | (go_at_call 11; refine (calls11 _).mono ?_; rintro e w1 ⟨rfl, hb⟩; replace hp := hp.call hb; clear hb)
    | (go_at_call 17; refine (same17v _ _ _ _ _ _ _ _ _ _ _ _ _ _ _ _ _ _ _ _ _ _ _).mono ?_; rintro e w1 ⟨rfl, hb⟩; replace hp := hp.call hb; clear hb)
    | go_skip | (refine wpList_alloc_hp hp _ rfl (by first | exact wanted_none rfl | exact wanted_yes rfl rfl rfl rfl) _ _ (by first | exact zero26 | exact zero39) ?_; clear hp; intro b w1 hp; simp only [put_some, put_none, List.set_cons_succ, List.set_cons_zero]) | (refine wpList_box_hp hp _ _ rfl (by first | exact wanted_none rfl | exact wanted_yes rfl rfl rfl rfl) _ (slot_tmp rfl) _ rfl _ (by simp only [List.length_cons, List.length_nil, Nat.reduceAdd]; rfl) ?_; clear hp; intro b w1 hp; simp only [put_some, put_none, List.set_cons_succ, List.set_cons_zero]) | (refine wpList_loadAgg_hp hp _ _ rfl (by first | exact wanted_none rfl | exact wanted_yes rfl rfl rfl rfl) _ _ (slot_tmp rfl) _ (by first | exact agg24 | exact agg26 | exact agg39 | exact agg37) _ _ _ _ (by first | exact at0 | exact at1 | exact at2 | exact at3 | exact at4 | exact at5 | exact at6 | exact at7 | exact at8 | exact at9 | exact at10 | exact at11 | exact at12 | exact at13) _ (by simp only [List.drop_zero, List.drop_succ_cons, List.take_succ_cons, List.take_zero, List.take_nil]; rfl) (by rfl) ?_; simp only [put_some, put_none, List.set_cons_succ, List.set_cons_zero]) | (refine wpList_loadOne_hp hp _ _ rfl (by first | exact wanted_none rfl | exact wanted_yes rfl rfl rfl rfl) _ _ (slot_tmp rfl) (by first | exact cell3 | exact cell4 | exact cell9 | exact cell22 | exact cell27 | exact cell34 | exact cell35) _ _ _ _ (by first | exact at0 | exact at1 | exact at2 | exact at3 | exact at4 | exact at5 | exact at6 | exact at7 | exact at8 | exact at9 | exact at10 | exact at11 | exact at12 | exact at13) _ (by rfl) ?_; simp only [put_some, put_none, List.set_cons_succ, List.set_cons_zero]) | (refine wpList_storeAll_hp hp _ _ _ rfl (by first | exact wanted_none rfl | exact wanted_yes rfl rfl rfl rfl) _ (slot_tmp rfl) _ (slot_tmp rfl) (by first | exact agg24 | exact agg26 | exact agg39 | exact agg37) _ _ _ _ (by first | exact at0 | exact at1 | exact at2 | exact at3 | exact at4 | exact at5 | exact at6 | exact at7 | exact at8 | exact at9 | exact at10 | exact at11 | exact at12 | exact at13) (by rfl) (by first | rfl | simp [*]) ?_; clear hp; intro w1 hp; simp only [List.set_cons_zero, List.set_cons_succ] at hp; simp only [put_some, put_none, List.set_cons_succ, List.set_cons_zero]) | (refine wpList_storeAgg_hp hp _ _ _ rfl (by first | exact wanted_none rfl | exact wanted_yes rfl rfl rfl rfl) _ _ (slot_tmp rfl) _ (slot_tmp rfl) (by first | exact agg24 | exact agg26 | exact agg39 | exact agg37) _ _ _ _ (by first | exact at0 | exact at1 | exact at2 | exact at3 | exact at4 | exact at5 | exact at6 | exact at7 | exact at8 | exact at9 | exact at10 | exact at11 | exact at12 | exact at13) (by simp only [List.length_cons, List.length_nil]; omega) (by first | rfl | simp [*]) ?_; clear hp; intro w1 hp; simp only [spl, List.set_cons_zero, List.set_cons_succ] at hp; simp only [put_some, put_none, List.set_cons_succ, List.set_cons_zero]) | (refine wpList_storeOne_hp hp _ _ _ rfl (by first | exact wanted_none rfl | exact wanted_yes rfl rfl rfl rfl) _ _ (slot_tmp rfl) _ (by first | exact slot_tmp rfl | exact slot_const) (by first | exact cell3 | exact cell4 | exact cell9 | exact cell22 | exact cell27 | exact cell34 | exact cell35) _ _ _ _ (by first | exact at0 | exact at1 | exact at2 | exact at3 | exact at4 | exact at5 | exact at6 | exact at7 | exact at8 | exact at9 | exact at10 | exact at11 | exact at12 | exact at13) (by simp only [List.length_cons, List.length_nil]; omega) (by first | rfl | assumption) ?_; clear hp; intro w1 hp; simp only [List.set_cons_zero, List.set_cons_succ] at hp; simp only [put_some, put_none, List.set_cons_succ, List.set_cons_zero]))
  go_ret
  exact ⟨rfl, hp.below⟩
end Go.Proofs.Ytieffajmdfjokaa
