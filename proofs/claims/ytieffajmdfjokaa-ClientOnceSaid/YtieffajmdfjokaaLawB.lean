/- Hear, by one function for both; the walk of the law ClientHears. -/
import Derived.Test.YtieffajmdfjokaaLawA
import Derived.Test.YtieffajmdfjokaaHearNo
import Derived.Test.YtieffajmdfjokaaHearNo2
import Derived.Test.YtieffajmdfjokaaHear
import Derived.Test.YtieffajmdfjokaaHear2
set_option linter.unusedSimpArgs false
set_option linter.unusedVariables false
namespace Go.Proofs.Ytieffajmdfjokaa
open Go.RowKit

def heardB (c : Cli) (m : Msg) : Bool := c.busy && m.kind == 2 && withinB m.src 1 c.nodes && m.to == wrap64 (-c.id) && m.seq == c.seq && withinB m.view 0 900000000
def hearC (c : Cli) (m : Msg) : Cli × Msg × Bool × Int :=
  if rightB c then
    (if heardB c m then
      (if m.ok then (⟨c.id, c.nodes, c.seq, maxV c.view m.view, m.src, false, OpD.none⟩, Msg.none, true, 0)
       else if primI c.nodes (maxV c.view m.view) = c.target then (⟨c.id, c.nodes, c.seq, maxV c.view m.view, c.target, c.busy, c.op⟩, Msg.none, false, 0)
       else (⟨c.id, c.nodes, c.seq, maxV c.view m.view, primI c.nodes (maxV c.view m.view), c.busy, c.op⟩, askM ⟨c.id, c.nodes, c.seq, maxV c.view m.view, primI c.nodes (maxV c.view m.view), c.busy, c.op⟩, false, 0))
     else (c, Msg.none, false, 0))
  else (Cli.none, Msg.none, false, 170)

theorem hear19 (c : Cli) (m : Msg) (w : World) :
    Calls Try.prog 19 #[cliV c, msgV m] w fun e w' => e = .returned (.tuple #[cliV (hearC c m).1, msgV (hearC c m).2.1, .bool (hearC c m).2.2.1, .int .i64 (hearC c m).2.2.2]) ∧ Below w.heap.size w w' := by
  cases hr : rightB c
  · have hx : hearC c m = (Cli.none, Msg.none, false, 170) := by simp [hearC, hr]
    rw [hx]; exact hear19_no c m hr w
  · obtain ⟨id, nodes, seq, view, target, busy, op⟩ := c
    cases busy
    · have hx : hearC ⟨id, nodes, seq, view, target, false, op⟩ m = (⟨id, nodes, seq, view, target, false, op⟩, Msg.none, false, 0) := by simp [hearC, hr, heardB]
      rw [hx]; exact hear19_idle id nodes seq view target op m hr w
    · by_cases k1 : m.kind = 2
      · have k1' : (m.kind != 2) = false := by simp [k1]
        cases k2 : withinB m.src 1 nodes
        · have hx : hearC ⟨id, nodes, seq, view, target, true, op⟩ m = (⟨id, nodes, seq, view, target, true, op⟩, Msg.none, false, 0) := by simp [hearC, hr, heardB, k2]
          rw [hx]; exact hear19_src id nodes seq view target op m hr k1' k2 w
        · by_cases k3 : m.to = wrap64 (-id)
          · have k3' : (m.to != wrap64 (-id)) = false := by simp [k3]
            by_cases k4 : m.seq = seq
            · have k4' : (m.seq != seq) = false := by simp [k4]
              cases k5 : withinB m.view 0 900000000
              · have hx : hearC ⟨id, nodes, seq, view, target, true, op⟩ m = (⟨id, nodes, seq, view, target, true, op⟩, Msg.none, false, 0) := by simp [hearC, hr, heardB, k5]
                rw [hx]; exact hear19_view id nodes seq view target op m hr k1' k2 k3' k4' k5 w
              · have hh : heardB ⟨id, nodes, seq, view, target, true, op⟩ m = true := by simp [heardB, k1, k2, k3, k4, k5]
                cases hok : m.ok
                · have hm : m = { m with ok := false } := by rw [← hok]
                  by_cases kp : primI nodes (maxV view m.view) = target
                  · have hx : hearC ⟨id, nodes, seq, view, target, true, op⟩ m = (⟨id, nodes, seq, maxV view m.view, target, true, op⟩, Msg.none, false, 0) := by simp [hearC, hr, hh, hok, kp]
                    rw [hx]; have := hear19_same id nodes seq view target op m hr k1' k2 k3' k4' k5 kp w
                    rw [← hm] at this; exact this
                  · have hx : hearC ⟨id, nodes, seq, view, target, true, op⟩ m = (⟨id, nodes, seq, maxV view m.view, primI nodes (maxV view m.view), true, op⟩, askM ⟨id, nodes, seq, maxV view m.view, primI nodes (maxV view m.view), true, op⟩, false, 0) := by simp [hearC, hr, hh, hok, kp]
                    rw [hx]; have := hear19_turn id nodes seq view target op m hr k1' k2 k3' k4' k5 (by simp [kp]) w
                    rw [← hm] at this; exact this
                · have hm : m = { m with ok := true } := by rw [← hok]
                  have hx : hearC ⟨id, nodes, seq, view, target, true, op⟩ m = (⟨id, nodes, seq, maxV view m.view, m.src, false, OpD.none⟩, Msg.none, true, 0) := by simp [hearC, hr, hh, hok]
                  rw [hx]; have := hear19_done id nodes seq view target op m hr k1' k2 k3' k4' k5 w
                  rw [← hm] at this; exact this
            · have hx : hearC ⟨id, nodes, seq, view, target, true, op⟩ m = (⟨id, nodes, seq, view, target, true, op⟩, Msg.none, false, 0) := by simp [hearC, hr, heardB, k4]
              rw [hx]; exact hear19_seq id nodes seq view target op m hr k1' k2 k3' (by simp [k4]) w
          · have hx : hearC ⟨id, nodes, seq, view, target, true, op⟩ m = (⟨id, nodes, seq, view, target, true, op⟩, Msg.none, false, 0) := by simp [hearC, hr, heardB, k3]
            rw [hx]; exact hear19_to id nodes seq view target op m hr k1' k2 (by simp [k3]) w
      · have hx : hearC ⟨id, nodes, seq, view, target, true, op⟩ m = (⟨id, nodes, seq, view, target, true, op⟩, Msg.none, false, 0) := by simp [hearC, hr, heardB, k1]
        rw [hx]; exact hear19_kind id nodes seq view target op m hr (by simp [k1]) w

theorem hear20 (c : Cli) (m : Msg) (w : World) :
    Calls Try.prog 20 #[cliV c, msgV m] w fun e w' => e = .returned (.tuple #[cliV (hearC c m).1, msgV (hearC c m).2.1, .bool (hearC c m).2.2.1, .int .i64 (hearC c m).2.2.2]) ∧ Below w.heap.size w w' := by
  cases hr : rightB c
  · have hx : hearC c m = (Cli.none, Msg.none, false, 170) := by simp [hearC, hr]
    rw [hx]; exact hear20_no c m hr w
  · obtain ⟨id, nodes, seq, view, target, busy, op⟩ := c
    cases busy
    · have hx : hearC ⟨id, nodes, seq, view, target, false, op⟩ m = (⟨id, nodes, seq, view, target, false, op⟩, Msg.none, false, 0) := by simp [hearC, hr, heardB]
      rw [hx]; exact hear20_idle id nodes seq view target op m hr w
    · by_cases k1 : m.kind = 2
      · have k1' : (m.kind != 2) = false := by simp [k1]
        cases k2 : withinB m.src 1 nodes
        · have hx : hearC ⟨id, nodes, seq, view, target, true, op⟩ m = (⟨id, nodes, seq, view, target, true, op⟩, Msg.none, false, 0) := by simp [hearC, hr, heardB, k2]
          rw [hx]; exact hear20_src id nodes seq view target op m hr k1' k2 w
        · by_cases k3 : m.to = wrap64 (-id)
          · have k3' : (m.to != wrap64 (-id)) = false := by simp [k3]
            by_cases k4 : m.seq = seq
            · have k4' : (m.seq != seq) = false := by simp [k4]
              cases k5 : withinB m.view 0 900000000
              · have hx : hearC ⟨id, nodes, seq, view, target, true, op⟩ m = (⟨id, nodes, seq, view, target, true, op⟩, Msg.none, false, 0) := by simp [hearC, hr, heardB, k5]
                rw [hx]; exact hear20_view id nodes seq view target op m hr k1' k2 k3' k4' k5 w
              · have hh : heardB ⟨id, nodes, seq, view, target, true, op⟩ m = true := by simp [heardB, k1, k2, k3, k4, k5]
                cases hok : m.ok
                · have hm : m = { m with ok := false } := by rw [← hok]
                  by_cases kp : primI nodes (maxV view m.view) = target
                  · have hx : hearC ⟨id, nodes, seq, view, target, true, op⟩ m = (⟨id, nodes, seq, maxV view m.view, target, true, op⟩, Msg.none, false, 0) := by simp [hearC, hr, hh, hok, kp]
                    rw [hx]; have := hear20_same id nodes seq view target op m hr k1' k2 k3' k4' k5 kp w
                    rw [← hm] at this; exact this
                  · have hx : hearC ⟨id, nodes, seq, view, target, true, op⟩ m = (⟨id, nodes, seq, maxV view m.view, primI nodes (maxV view m.view), true, op⟩, askM ⟨id, nodes, seq, maxV view m.view, primI nodes (maxV view m.view), true, op⟩, false, 0) := by simp [hearC, hr, hh, hok, kp]
                    rw [hx]; have := hear20_turn id nodes seq view target op m hr k1' k2 k3' k4' k5 (by simp [kp]) w
                    rw [← hm] at this; exact this
                · have hm : m = { m with ok := true } := by rw [← hok]
                  have hx : hearC ⟨id, nodes, seq, view, target, true, op⟩ m = (⟨id, nodes, seq, maxV view m.view, m.src, false, OpD.none⟩, Msg.none, true, 0) := by simp [hearC, hr, hh, hok]
                  rw [hx]; have := hear20_done id nodes seq view target op m hr k1' k2 k3' k4' k5 w
                  rw [← hm] at this; exact this
            · have hx : hearC ⟨id, nodes, seq, view, target, true, op⟩ m = (⟨id, nodes, seq, view, target, true, op⟩, Msg.none, false, 0) := by simp [hearC, hr, heardB, k4]
              rw [hx]; exact hear20_seq id nodes seq view target op m hr k1' k2 k3' (by simp [k4]) w
          · have hx : hearC ⟨id, nodes, seq, view, target, true, op⟩ m = (⟨id, nodes, seq, view, target, true, op⟩, Msg.none, false, 0) := by simp [hearC, hr, heardB, k3]
            rw [hx]; exact hear20_to id nodes seq view target op m hr k1' k2 (by simp [k3]) w
      · have hx : hearC ⟨id, nodes, seq, view, target, true, op⟩ m = (⟨id, nodes, seq, view, target, true, op⟩, Msg.none, false, 0) := by simp [hearC, hr, heardB, k1]
        rw [hx]; exact hear20_kind id nodes seq view target op m hr (by simp [k1]) w

theorem hearC_ents (c : Cli) (m : Msg) : (hearC c m).2.1 = { (hearC c m).2.1 with ents := .slice none 0 0 } := by
  unfold hearC; split
  · split
    · split
      · rfl
      · split <;> rfl
    · rfl
  · rfl

set_option maxRecDepth 100000 in
set_option maxHeartbeats 4000000 in
theorem hears5 (c : Cli) (m : Msg) (a : Option Addr) (n k : Nat) (w : World) : Calls Try.prog 5 #[cliV c, msgV { m with ents := .slice a n k }] w fun e w' => e = .returned (.bool true) ∧ Below w.heap.size w w' := by
  have hp := Hp.start w
  cases hbg : bigB n m.text
  · obtain ⟨c', m', d', e', hc⟩ : ∃ (c' : Cli) (m' : Msg) (d' : Bool) (e' : Int), hearC c { m with ents := .slice a n k } = (c', { m' with ents := .slice none 0 0 }, d', e') := ⟨_, _, _, _, by rw [← hearC_ents]⟩
    have k19 := fun w => hear19 c { m with ents := .slice a n k } w
    have k20 := fun w => hear20 c { m with ents := .slice a n k } w
    rw [hc] at k19 k20
    have K19 := Lib.hid k19
    have K20 := Lib.hid k20
    have HC := Lib.hid hc
    clear k19 k20 hc
    simp only [cliV, cliA, msgV]
    go_enter Try.func5, Try.ntmps5
    go_wp2_with (first
      | (go_at_call 18; refine (big18 m a n k _).mono ?_; rintro e w1 ⟨rfl, hb⟩; rw [hbg]; replace hp := hp.call hb; clear hb)
      | (go_at_call 19; refine (K19.out _).mono ?_; rintro e w1 ⟨rfl, hb⟩; simp only [cliV, cliA, msgV]; replace hp := hp.call hb; clear hb)
      | (go_at_call 20; refine (K20.out _).mono ?_; rintro e w1 ⟨rfl, hb⟩; simp only [cliV, cliA, msgV]; replace hp := hp.call hb; clear hb)
      | (go_at_call 11; refine (calls11 _).mono ?_; rintro e w1 ⟨rfl, hb⟩; replace hp := hp.call hb; clear hb)
      | (go_at_call 17; refine (same17v _ _ _ _ _ _ _ _ _ _ _ _ _ _ _ _ _ _ _ _ _ _ _).mono ?_; rintro e w1 ⟨rfl, hb⟩; replace hp := hp.call hb; clear hb)
      | go_skip | (refine wpList_alloc_hp hp _ rfl (by first | exact wanted_none rfl | exact wanted_yes rfl rfl rfl rfl) _ _ (by first | exact zero26 | exact zero39) ?_; clear hp; intro b w1 hp; simp only [put_some, put_none, List.set_cons_succ, List.set_cons_zero]) | (refine wpList_box_hp hp _ _ rfl (by first | exact wanted_none rfl | exact wanted_yes rfl rfl rfl rfl) _ (slot_tmp rfl) _ rfl _ (by simp only [List.length_cons, List.length_nil, Nat.reduceAdd]; rfl) ?_; clear hp; intro b w1 hp; simp only [put_some, put_none, List.set_cons_succ, List.set_cons_zero]) | (refine wpList_loadAgg_hp hp _ _ rfl (by first | exact wanted_none rfl | exact wanted_yes rfl rfl rfl rfl) _ _ (slot_tmp rfl) _ (by first | exact agg24 | exact agg26 | exact agg39 | exact agg37) _ _ _ _ (by first | exact at0 | exact at1 | exact at2 | exact at3 | exact at4 | exact at5 | exact at6 | exact at7 | exact at8 | exact at9 | exact at10 | exact at11 | exact at12 | exact at13) _ (by simp only [List.drop_zero, List.drop_succ_cons, List.take_succ_cons, List.take_zero, List.take_nil]; rfl) (by rfl) ?_; simp only [put_some, put_none, List.set_cons_succ, List.set_cons_zero]) | (refine wpList_loadOne_hp hp _ _ rfl (by first | exact wanted_none rfl | exact wanted_yes rfl rfl rfl rfl) _ _ (slot_tmp rfl) (by first | exact cell3 | exact cell4 | exact cell9 | exact cell22 | exact cell27 | exact cell34 | exact cell35) _ _ _ _ (by first | exact at0 | exact at1 | exact at2 | exact at3 | exact at4 | exact at5 | exact at6 | exact at7 | exact at8 | exact at9 | exact at10 | exact at11 | exact at12 | exact at13) _ (by rfl) ?_; simp only [put_some, put_none, List.set_cons_succ, List.set_cons_zero]) | (refine wpList_storeAll_hp hp _ _ _ rfl (by first | exact wanted_none rfl | exact wanted_yes rfl rfl rfl rfl) _ (slot_tmp rfl) _ (slot_tmp rfl) (by first | exact agg24 | exact agg26 | exact agg39 | exact agg37) _ _ _ _ (by first | exact at0 | exact at1 | exact at2 | exact at3 | exact at4 | exact at5 | exact at6 | exact at7 | exact at8 | exact at9 | exact at10 | exact at11 | exact at12 | exact at13) (by rfl) (by first | rfl | simp [*]) ?_; clear hp; intro w1 hp; simp only [List.set_cons_zero, List.set_cons_succ] at hp; simp only [put_some, put_none, List.set_cons_succ, List.set_cons_zero]) | (refine wpList_storeAgg_hp hp _ _ _ rfl (by first | exact wanted_none rfl | exact wanted_yes rfl rfl rfl rfl) _ _ (slot_tmp rfl) _ (slot_tmp rfl) (by first | exact agg24 | exact agg26 | exact agg39 | exact agg37) _ _ _ _ (by first | exact at0 | exact at1 | exact at2 | exact at3 | exact at4 | exact at5 | exact at6 | exact at7 | exact at8 | exact at9 | exact at10 | exact at11 | exact at12 | exact at13) (by simp only [List.length_cons, List.length_nil]; omega) (by first | rfl | simp [*]) ?_; clear hp; intro w1 hp; simp only [spl, List.set_cons_zero, List.set_cons_succ] at hp; simp only [put_some, put_none, List.set_cons_succ, List.set_cons_zero]) | (refine wpList_storeOne_hp hp _ _ _ rfl (by first | exact wanted_none rfl | exact wanted_yes rfl rfl rfl rfl) _ _ (slot_tmp rfl) _ (by first | exact slot_tmp rfl | exact slot_const) (by first | exact cell3 | exact cell4 | exact cell9 | exact cell22 | exact cell27 | exact cell34 | exact cell35) _ _ _ _ (by first | exact at0 | exact at1 | exact at2 | exact at3 | exact at4 | exact at5 | exact at6 | exact at7 | exact at8 | exact at9 | exact at10 | exact at11 | exact at12 | exact at13) (by simp only [List.length_cons, List.length_nil]; omega) (by first | rfl | assumption) ?_; clear hp; intro w1 hp; simp only [List.set_cons_zero, List.set_cons_succ] at hp; simp only [put_some, put_none, List.set_cons_succ, List.set_cons_zero]))
    go_ret
    exact ⟨rfl, hp.below⟩
  · simp only [cliV, cliA, msgV]
    go_enter Try.func5, Try.ntmps5
    go_wp2_with (first
      | (go_at_call 18; refine (big18 m a n k _).mono ?_; rintro e w1 ⟨rfl, hb⟩; rw [hbg]; replace hp := hp.call hb; clear hb)
      | go_skip | (refine wpList_alloc_hp hp _ rfl (by first | exact wanted_none rfl | exact wanted_yes rfl rfl rfl rfl) _ _ (by first | exact zero26 | exact zero39) ?_; clear hp; intro b w1 hp; simp only [put_some, put_none, List.set_cons_succ, List.set_cons_zero]) | (refine wpList_box_hp hp _ _ rfl (by first | exact wanted_none rfl | exact wanted_yes rfl rfl rfl rfl) _ (slot_tmp rfl) _ rfl _ (by simp only [List.length_cons, List.length_nil, Nat.reduceAdd]; rfl) ?_; clear hp; intro b w1 hp; simp only [put_some, put_none, List.set_cons_succ, List.set_cons_zero]) | (refine wpList_loadAgg_hp hp _ _ rfl (by first | exact wanted_none rfl | exact wanted_yes rfl rfl rfl rfl) _ _ (slot_tmp rfl) _ (by first | exact agg24 | exact agg26 | exact agg39 | exact agg37) _ _ _ _ (by first | exact at0 | exact at1 | exact at2 | exact at3 | exact at4 | exact at5 | exact at6 | exact at7 | exact at8 | exact at9 | exact at10 | exact at11 | exact at12 | exact at13) _ (by simp only [List.drop_zero, List.drop_succ_cons, List.take_succ_cons, List.take_zero, List.take_nil]; rfl) (by rfl) ?_; simp only [put_some, put_none, List.set_cons_succ, List.set_cons_zero]) | (refine wpList_loadOne_hp hp _ _ rfl (by first | exact wanted_none rfl | exact wanted_yes rfl rfl rfl rfl) _ _ (slot_tmp rfl) (by first | exact cell3 | exact cell4 | exact cell9 | exact cell22 | exact cell27 | exact cell34 | exact cell35) _ _ _ _ (by first | exact at0 | exact at1 | exact at2 | exact at3 | exact at4 | exact at5 | exact at6 | exact at7 | exact at8 | exact at9 | exact at10 | exact at11 | exact at12 | exact at13) _ (by rfl) ?_; simp only [put_some, put_none, List.set_cons_succ, List.set_cons_zero]) | (refine wpList_storeAll_hp hp _ _ _ rfl (by first | exact wanted_none rfl | exact wanted_yes rfl rfl rfl rfl) _ (slot_tmp rfl) _ (slot_tmp rfl) (by first | exact agg24 | exact agg26 | exact agg39 | exact agg37) _ _ _ _ (by first | exact at0 | exact at1 | exact at2 | exact at3 | exact at4 | exact at5 | exact at6 | exact at7 | exact at8 | exact at9 | exact at10 | exact at11 | exact at12 | exact at13) (by rfl) (by first | rfl | simp [*]) ?_; clear hp; intro w1 hp; simp only [List.set_cons_zero, List.set_cons_succ] at hp; simp only [put_some, put_none, List.set_cons_succ, List.set_cons_zero]) | (refine wpList_storeAgg_hp hp _ _ _ rfl (by first | exact wanted_none rfl | exact wanted_yes rfl rfl rfl rfl) _ _ (slot_tmp rfl) _ (slot_tmp rfl) (by first | exact agg24 | exact agg26 | exact agg39 | exact agg37) _ _ _ _ (by first | exact at0 | exact at1 | exact at2 | exact at3 | exact at4 | exact at5 | exact at6 | exact at7 | exact at8 | exact at9 | exact at10 | exact at11 | exact at12 | exact at13) (by simp only [List.length_cons, List.length_nil]; omega) (by first | rfl | simp [*]) ?_; clear hp; intro w1 hp; simp only [spl, List.set_cons_zero, List.set_cons_succ] at hp; simp only [put_some, put_none, List.set_cons_succ, List.set_cons_zero]) | (refine wpList_storeOne_hp hp _ _ _ rfl (by first | exact wanted_none rfl | exact wanted_yes rfl rfl rfl rfl) _ _ (slot_tmp rfl) _ (by first | exact slot_tmp rfl | exact slot_const) (by first | exact cell3 | exact cell4 | exact cell9 | exact cell22 | exact cell27 | exact cell34 | exact cell35) _ _ _ _ (by first | exact at0 | exact at1 | exact at2 | exact at3 | exact at4 | exact at5 | exact at6 | exact at7 | exact at8 | exact at9 | exact at10 | exact at11 | exact at12 | exact at13) (by simp only [List.length_cons, List.length_nil]; omega) (by first | rfl | assumption) ?_; clear hp; intro w1 hp; simp only [List.set_cons_zero, List.set_cons_succ] at hp; simp only [put_some, put_none, List.set_cons_succ, List.set_cons_zero]))
    go_ret
    exact ⟨rfl, hp.below⟩
end Go.Proofs.Ytieffajmdfjokaa
