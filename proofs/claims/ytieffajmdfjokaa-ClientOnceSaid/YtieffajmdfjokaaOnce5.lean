/- The walk of the law ClientOnce, all cases. -/
import Derived.Test.YtieffajmdfjokaaOnce
import Derived.Test.YtieffajmdfjokaaOnce1
import Derived.Test.YtieffajmdfjokaaOnce2
import Derived.Test.YtieffajmdfjokaaOnce3
import Derived.Test.YtieffajmdfjokaaOnce4
set_option linter.unusedSimpArgs false
set_option linter.unusedVariables false
namespace Go.Proofs.Ytieffajmdfjokaa
open Go.RowKit

set_option maxRecDepth 100000 in
set_option maxHeartbeats 4000000 in
theorem once6_early (c : Cli) (o : OpD) (m : Msg) (a : Option Addr) (n k : Nat) (h : bigB n m.text = true ∨ rightB c = false) (w : World) :
    Calls Try.prog 6 #[cliV c, opV o, msgV { m with ents := .slice a n k }] w fun e w' => e = .returned (.bool true) ∧ Below w.heap.size w w' := by
  have hp := Hp.start w
  cases hbg : bigB n m.text
  · have hr : rightB c = false := by
      rcases h with h | h
      · rw [hbg] at h; cases h
      · exact h
    clear h
    simp only [cliV, cliA, msgV, opV]
    go_enter Try.func6, Try.ntmps6
    go_wp2_with (first
      | (go_at_call 18; refine (big18 m a n k _).mono ?_; rintro e w1 ⟨rfl, hb⟩; rw [hbg]; replace hp := hp.call hb; clear hb)
      | (go_at_call 10; refine (check10 c _).mono ?_; rintro e w1 ⟨rfl, hb⟩; rw [hr]; simp only [errB_f]; replace hp := hp.call hb; clear hb)
      | (go_at_call 11; refine (calls11 _).mono ?_; rintro e w1 ⟨rfl, hb⟩; replace hp := hp.call hb; clear hb)
      | go_skip | (refine wpList_alloc_hp hp _ rfl (by first | exact wanted_none rfl | exact wanted_yes rfl rfl rfl rfl) _ _ (by first | exact zero26 | exact zero39) ?_; clear hp; intro b w1 hp; simp only [put_some, put_none, List.set_cons_succ, List.set_cons_zero]) | (refine wpList_box_hp hp _ _ rfl (by first | exact wanted_none rfl | exact wanted_yes rfl rfl rfl rfl) _ (slot_tmp rfl) _ rfl _ (by simp only [List.length_cons, List.length_nil, Nat.reduceAdd]; rfl) ?_; clear hp; intro b w1 hp; simp only [put_some, put_none, List.set_cons_succ, List.set_cons_zero]) | (refine wpList_loadAgg_hp hp _ _ rfl (by first | exact wanted_none rfl | exact wanted_yes rfl rfl rfl rfl) _ _ (slot_tmp rfl) _ (by first | exact agg24 | exact agg26 | exact agg39 | exact agg37) _ _ _ _ (by first | exact at0 | exact at1 | exact at2 | exact at3 | exact at4 | exact at5 | exact at6 | exact at7 | exact at8 | exact at9 | exact at10 | exact at11 | exact at12 | exact at13) _ (by simp only [List.drop_zero, List.drop_succ_cons, List.take_succ_cons, List.take_zero, List.take_nil]; rfl) (by rfl) ?_; simp only [put_some, put_none, List.set_cons_succ, List.set_cons_zero]) | (refine wpList_loadOne_hp hp _ _ rfl (by first | exact wanted_none rfl | exact wanted_yes rfl rfl rfl rfl) _ _ (slot_tmp rfl) (by first | exact cell3 | exact cell4 | exact cell9 | exact cell22 | exact cell27 | exact cell34 | exact cell35) _ _ _ _ (by first | exact at0 | exact at1 | exact at2 | exact at3 | exact at4 | exact at5 | exact at6 | exact at7 | exact at8 | exact at9 | exact at10 | exact at11 | exact at12 | exact at13) _ (by rfl) ?_; simp only [put_some, put_none, List.set_cons_succ, List.set_cons_zero]) | (refine wpList_storeAll_hp hp _ _ _ rfl (by first | exact wanted_none rfl | exact wanted_yes rfl rfl rfl rfl) _ (slot_tmp rfl) _ (slot_tmp rfl) (by first | exact agg24 | exact agg26 | exact agg39 | exact agg37) _ _ _ _ (by first | exact at0 | exact at1 | exact at2 | exact at3 | exact at4 | exact at5 | exact at6 | exact at7 | exact at8 | exact at9 | exact at10 | exact at11 | exact at12 | exact at13) (by rfl) (by first | rfl | simp [*]) ?_; clear hp; intro w1 hp; simp only [List.set_cons_zero, List.set_cons_succ] at hp; simp only [put_some, put_none, List.set_cons_succ, List.set_cons_zero]) | (refine wpList_storeAgg_hp hp _ _ _ rfl (by first | exact wanted_none rfl | exact wanted_yes rfl rfl rfl rfl) _ _ (slot_tmp rfl) _ (slot_tmp rfl) (by first | exact agg24 | exact agg26 | exact agg39 | exact agg37) _ _ _ _ (by first | exact at0 | exact at1 | exact at2 | exact at3 | exact at4 | exact at5 | exact at6 | exact at7 | exact at8 | exact at9 | exact at10 | exact at11 | exact at12 | exact at13) (by simp only [List.length_cons, List.length_nil]; omega) (by first | rfl | simp [*]) ?_; clear hp; intro w1 hp; simp only [spl, List.set_cons_zero, List.set_cons_succ] at hp; simp only [put_some, put_none, List.set_cons_succ, List.set_cons_zero]) | (refine wpList_storeOne_hp hp _ _ _ rfl (by first | exact wanted_none rfl | exact wanted_yes rfl rfl rfl rfl) _ _ (slot_tmp rfl) _ (by first | exact slot_tmp rfl | exact slot_const) (by first | exact cell3 | exact cell4 | exact cell9 | exact cell22 | exact cell27 | exact cell34 | exact cell35) _ _ _ _ (by first | exact at0 | exact at1 | exact at2 | exact at3 | exact at4 | exact at5 | exact at6 | exact at7 | exact at8 | exact at9 | exact at10 | exact at11 | exact at12 | exact at13) (by simp only [List.length_cons, List.length_nil]; omega) (by first | rfl | assumption) ?_; clear hp; intro w1 hp; simp only [List.set_cons_zero, List.set_cons_succ] at hp; simp only [put_some, put_none, List.set_cons_succ, List.set_cons_zero]))
    go_ret
    exact ⟨rfl, hp.below⟩
  · clear h
    simp only [cliV, cliA, msgV, opV]
    go_enter Try.func6, Try.ntmps6
    go_wp2_with (first
      | (go_at_call 18; refine (big18 m a n k _).mono ?_; rintro e w1 ⟨rfl, hb⟩; rw [hbg]; replace hp := hp.call hb; clear hb)
      | (go_at_call 11; refine (calls11 _).mono ?_; rintro e w1 ⟨rfl, hb⟩; replace hp := hp.call hb; clear hb)
      | go_skip | (refine wpList_alloc_hp hp _ rfl (by first | exact wanted_none rfl | exact wanted_yes rfl rfl rfl rfl) _ _ (by first | exact zero26 | exact zero39) ?_; clear hp; intro b w1 hp; simp only [put_some, put_none, List.set_cons_succ, List.set_cons_zero]) | (refine wpList_box_hp hp _ _ rfl (by first | exact wanted_none rfl | exact wanted_yes rfl rfl rfl rfl) _ (slot_tmp rfl) _ rfl _ (by simp only [List.length_cons, List.length_nil, Nat.reduceAdd]; rfl) ?_; clear hp; intro b w1 hp; simp only [put_some, put_none, List.set_cons_succ, List.set_cons_zero]) | (refine wpList_loadAgg_hp hp _ _ rfl (by first | exact wanted_none rfl | exact wanted_yes rfl rfl rfl rfl) _ _ (slot_tmp rfl) _ (by first | exact agg24 | exact agg26 | exact agg39 | exact agg37) _ _ _ _ (by first | exact at0 | exact at1 | exact at2 | exact at3 | exact at4 | exact at5 | exact at6 | exact at7 | exact at8 | exact at9 | exact at10 | exact at11 | exact at12 | exact at13) _ (by simp only [List.drop_zero, List.drop_succ_cons, List.take_succ_cons, List.take_zero, List.take_nil]; rfl) (by rfl) ?_; simp only [put_some, put_none, List.set_cons_succ, List.set_cons_zero]) | (refine wpList_loadOne_hp hp _ _ rfl (by first | exact wanted_none rfl | exact wanted_yes rfl rfl rfl rfl) _ _ (slot_tmp rfl) (by first | exact cell3 | exact cell4 | exact cell9 | exact cell22 | exact cell27 | exact cell34 | exact cell35) _ _ _ _ (by first | exact at0 | exact at1 | exact at2 | exact at3 | exact at4 | exact at5 | exact at6 | exact at7 | exact at8 | exact at9 | exact at10 | exact at11 | exact at12 | exact at13) _ (by rfl) ?_; simp only [put_some, put_none, List.set_cons_succ, List.set_cons_zero]) | (refine wpList_storeAll_hp hp _ _ _ rfl (by first | exact wanted_none rfl | exact wanted_yes rfl rfl rfl rfl) _ (slot_tmp rfl) _ (slot_tmp rfl) (by first | exact agg24 | exact agg26 | exact agg39 | exact agg37) _ _ _ _ (by first | exact at0 | exact at1 | exact at2 | exact at3 | exact at4 | exact at5 | exact at6 | exact at7 | exact at8 | exact at9 | exact at10 | exact at11 | exact at12 | exact at13) (by rfl) (by first | rfl | simp [*]) ?_; clear hp; intro w1 hp; simp only [List.set_cons_zero, List.set_cons_succ] at hp; simp only [put_some, put_none, List.set_cons_succ, List.set_cons_zero]) | (refine wpList_storeAgg_hp hp _ _ _ rfl (by first | exact wanted_none rfl | exact wanted_yes rfl rfl rfl rfl) _ _ (slot_tmp rfl) _ (slot_tmp rfl) (by first | exact agg24 | exact agg26 | exact agg39 | exact agg37) _ _ _ _ (by first | exact at0 | exact at1 | exact at2 | exact at3 | exact at4 | exact at5 | exact at6 | exact at7 | exact at8 | exact at9 | exact at10 | exact at11 | exact at12 | exact at13) (by simp only [List.length_cons, List.length_nil]; omega) (by first | rfl | simp [*]) ?_; clear hp; intro w1 hp; simp only [spl, List.set_cons_zero, List.set_cons_succ] at hp; simp only [put_some, put_none, List.set_cons_succ, List.set_cons_zero]) | (refine wpList_storeOne_hp hp _ _ _ rfl (by first | exact wanted_none rfl | exact wanted_yes rfl rfl rfl rfl) _ _ (slot_tmp rfl) _ (by first | exact slot_tmp rfl | exact slot_const) (by first | exact cell3 | exact cell4 | exact cell9 | exact cell22 | exact cell27 | exact cell34 | exact cell35) _ _ _ _ (by first | exact at0 | exact at1 | exact at2 | exact at3 | exact at4 | exact at5 | exact at6 | exact at7 | exact at8 | exact at9 | exact at10 | exact at11 | exact at12 | exact at13) (by simp only [List.length_cons, List.length_nil]; omega) (by first | rfl | assumption) ?_; clear hp; intro w1 hp; simp only [List.set_cons_zero, List.set_cons_succ] at hp; simp only [put_some, put_none, List.set_cons_succ, List.set_cons_zero]))
    go_ret
    exact ⟨rfl, hp.below⟩

theorem maxV_ge (a b : Int) : ¬ maxV a b < a := by unfold maxV; split <;> omega
theorem maxV_within {a b : Int} (ha : withinB a 0 900000000 = true) (hb : withinB b 0 900000000 = true) : withinB (maxV a b) 0 900000000 = true := by
  unfold maxV; split <;> assumption
theorem prim_within {n v : Int} (hn : nodesB n = true) (hv : withinB v 0 900000000 = true) : withinB (primI n v) 1 n = true := by
  unfold primI; rw [hn, hv]
  have := mod_within (target := v) hn
  simp [withinB]; omega

theorem right_heard {id nodes seq view target v t : Int} {op : OpD} (hr : rightB ⟨id, nodes, seq, view, target, true, op⟩ = true) (hv : withinB v 0 900000000 = true) (ht : withinB t 1 nodes = true) : rightB ⟨id, nodes, seq, maxV view v, t, true, op⟩ = true := by
  simp only [rightB, headB, tailB, Bool.and_eq_true] at hr ⊢
  obtain ⟨⟨⟨⟨⟨h1, h2⟩, h3⟩, h4⟩, h5⟩, h6⟩ := hr
  exact ⟨⟨⟨⟨⟨h1, h2⟩, h3⟩, maxV_within h4 hv⟩, ht⟩, h6⟩
theorem right_ended {id nodes seq view target v t : Int} {op : OpD} (hr : rightB ⟨id, nodes, seq, view, target, true, op⟩ = true) (hv : withinB v 0 900000000 = true) (ht : withinB t 1 nodes = true) : rightB ⟨id, nodes, seq, maxV view v, t, false, OpD.none⟩ = true := by
  simp only [rightB, headB, tailB, Bool.and_eq_true] at hr ⊢
  obtain ⟨⟨⟨⟨⟨h1, h2⟩, h3⟩, h4⟩, h5⟩, h6⟩ := hr
  exact ⟨⟨⟨⟨⟨h1, h2⟩, h3⟩, maxV_within h4 hv⟩, ht⟩, by rfl⟩

theorem hearC_same (c : Cli) (m : Msg) (hr : rightB c = true) (hh : heardB c m = true) (hok : ¬ m.ok = true) (kp : primI c.nodes (maxV c.view m.view) = c.target) : hearC c m = (⟨c.id, c.nodes, c.seq, maxV c.view m.view, c.target, c.busy, c.op⟩, Msg.none, false, 0) := by
  unfold hearC; rw [if_pos hr, if_pos hh, if_neg hok, if_pos kp]
theorem hearC_turn (c : Cli) (m : Msg) (hr : rightB c = true) (hh : heardB c m = true) (hok : ¬ m.ok = true) (kp : ¬ primI c.nodes (maxV c.view m.view) = c.target) : hearC c m = (⟨c.id, c.nodes, c.seq, maxV c.view m.view, primI c.nodes (maxV c.view m.view), c.busy, c.op⟩, askM ⟨c.id, c.nodes, c.seq, maxV c.view m.view, primI c.nodes (maxV c.view m.view), c.busy, c.op⟩, false, 0) := by
  unfold hearC; rw [if_pos hr, if_pos hh, if_neg hok, if_neg kp]
theorem hearC_done (c : Cli) (m : Msg) (hr : rightB c = true) (hh : heardB c m = true) (hok : m.ok = true) : hearC c m = (⟨c.id, c.nodes, c.seq, maxV c.view m.view, m.src, false, OpD.none⟩, Msg.none, true, 0) := by
  unfold hearC; rw [if_pos hr, if_pos hh, if_pos hok]

theorem onces6 (c : Cli) (o : OpD) (m : Msg) (a : Option Addr) (n k : Nat) (w : World) :
    Calls Try.prog 6 #[cliV c, opV o, msgV { m with ents := .slice a n k }] w fun e w' => e = .returned (.bool true) ∧ Below w.heap.size w w' := by
  cases hbg : bigB n m.text
  case true => exact once6_early c o m a n k (.inl hbg) w
  cases hr : rightB c
  case false => exact once6_early c o m a n k (.inr hr) w
  obtain ⟨id, nodes, seq, view, target, busy, op⟩ := c
  cases busy
  · cases hq : (seq == 1000000)
    · exact once6_call id nodes seq view target op o m a n k hbg hr hq (by have := (seq_of hr).2; simp at hq this; omega) w
    · exact once6_end id nodes seq view target op o m a n k hbg hr hq w
  · cases hh : heardB ⟨id, nodes, seq, view, target, true, op⟩ { m with ents := .slice a n k }
    · exact once6_same id nodes seq view target op o m a n k view 0 hbg hr (by simp [hearC, hr, hh]) hr (by omega) w
    · have hk := hh
      simp only [heardB, Bool.and_eq_true] at hk
      obtain ⟨⟨⟨⟨⟨_, _⟩, hs⟩, _⟩, _⟩, hv⟩ := hk
      have hn : nodesB nodes = true := by
        have h := hr
        simp only [rightB, headB, Bool.and_eq_true] at h; exact h.1.1.1.1.1
      have hvw : withinB view 0 900000000 = true := by
        have h := hr
        simp only [rightB, headB, Bool.and_eq_true] at h; exact h.1.1.2
      by_cases hok : m.ok = true
      · have hm : ({ m with ents := .slice a n k } : Msg) = { m with ents := .slice a n k, ok := true } := congrArg (fun b => ({ m with ents := .slice a n k, ok := b } : Msg)) hok
        rw [hm] at hh ⊢
        exact once6_done id nodes seq view target op o m a n k (maxV view m.view) m.src hbg hr (hearC_done _ _ hr hh rfl) (right_ended hr hv hs) (maxV_ge _ _) w
      · by_cases kp : primI nodes (maxV view m.view) = target
        · refine once6_same id nodes seq view target op o m a n k (maxV view m.view) 0 hbg hr (hearC_same _ _ hr hh hok kp) (right_heard hr hv ?_) (maxV_ge _ _) w
          rw [← kp]; exact prim_within hn (maxV_within hvw hv)
        · exact once6_turn id nodes seq view target op o m a n k (maxV view m.view) (primI nodes (maxV view m.view)) hbg hr (hearC_turn _ _ hr hh hok kp) (right_heard hr hv (prim_within hn (maxV_within hvw hv))) (maxV_ge _ _) rfl w
end Go.Proofs.Ytieffajmdfjokaa
