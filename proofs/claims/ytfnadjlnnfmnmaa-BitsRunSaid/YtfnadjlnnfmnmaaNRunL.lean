/- The walk of the law BitsRun. -/
import Derived.Test.YtfnadjlnnfmnmaaNParts
set_option linter.unusedSimpArgs false
set_option linter.unusedVariables false
namespace Go.Proofs.Ytfnadjlnnfmnmaa
open Go.RowKit

/-- The streak that ends at i. -/
structure Streak (f : Nat → Bool) (s m : Nat) (on : Bool) (i g : Nat) : Prop where
  si : s ≤ i
  gi : g ≤ i - s
  gm : g < m
  on_ : ∀ j, i - g ≤ j → j < i → f j = on
theorem Streak.start (f : Nat → Bool) (s m : Nat) (on : Bool) (hm : 0 < m) : Streak f s m on s 0 := ⟨Nat.le_refl _, by omega, hm, fun j _ _ => by omega⟩
theorem Streak.off {f : Nat → Bool} {s m : Nat} {on : Bool} {i g : Nat} (h : Streak f s m on i g) : Streak f s m on (i + 1) 0 := ⟨by have := h.si; omega, by omega, by have := h.gm; omega, fun j _ _ => by omega⟩
theorem Streak.next {f : Nat → Bool} {s m : Nat} {on : Bool} {i g : Nat} (h : Streak f s m on i g) (hf : f i = on) (hno : ∀ b, s ≤ b → b + m = i + 1 → ¬ AllOn f b m on) : Streak f s m on (i + 1) (g + 1) := by
  have h1 := h.si
  have h2 := h.gi
  have h3 := h.gm
  have hon : ∀ j, i - g ≤ j → j < i + 1 → f j = on := fun j hj hji => by
    by_cases hj2 : j = i
    · rw [hj2]; exact hf
    · exact h.on_ j hj (by omega)
  refine ⟨by omega, by omega, ?_, fun j hj hji => hon j (by omega) hji⟩
  by_cases hm : g + 1 < m
  · exact hm
  · exact absurd (fun j hj => hon _ (by omega) (by omega)) (hno (i - g) (by omega) (by omega))

set_option maxRecDepth 100000 in
set_option maxHeartbeats 8000000 in
theorem run8_big (n a m : Int) (A : Option Addr) (k c : Nat) (on : Bool) (h : 600 < k ∨ 5000 < m) (w : World) :
    Calls Try.prog 8 #[.int .i64 n, .slice A k c, .int .i64 a, .int .i64 m, .bool on] w fun e w' => e = .returned (.bool true) ∧ Below w.heap.size w w' := by
  by_cases h1 : 600 < k
  · have d1 : decide ((600 : Int) < (k : Int)) = true := by simp; omega
    go_enter Try.func8, Try.ntmps8
    go_wp2
    go_ret
    exact ⟨rfl, Below.refl _ _⟩
  · have d1 : decide ((600 : Int) < (k : Int)) = false := by simp; omega
    have d2 : decide (5000 < m) = true := by simp; omega
    go_enter Try.func8, Try.ntmps8
    go_wp2
    go_ret
    exact ⟨rfl, Below.refl _ _⟩
set_option maxRecDepth 100000 in
set_option maxHeartbeats 8000000 in
theorem run8_no (n a m : Int) (A : Option Addr) (k c : Nat) (on : Bool) (h1 : k ≤ 600) (h2 : m ≤ 5000) (w : World) (K : Calls Try.prog 23 #[.int .i64 n, .slice A k c] w fun e w' => e = .returned (.tuple #[.pointer none, .int .i64 1]) ∧ Below w.heap.size w w') :
    Calls Try.prog 8 #[.int .i64 n, .slice A k c, .int .i64 a, .int .i64 m, .bool on] w fun e w' => e = .returned (.bool true) ∧ Below w.heap.size w w' := by
  have hp := Hp.start w
  have HK := Lib.hid K
  clear K
  have d1 : decide ((600 : Int) < (k : Int)) = false := by simp; omega
  have d2 : decide (5000 < m) = false := by simp; omega
  go_enter Try.func8, Try.ntmps8
  go_wp2_with (first | (go_at_call 23; refine HK.out.mono ?_; rintro e w1 ⟨rfl, hb⟩; replace hp := hp.call hb; clear hb) | (go_at_call 11; refine (awake11 _).mono ?_; rintro e w1 ⟨rfl, hb⟩; replace hp := hp.call hb; clear hb) | go_skip | (refine wpList_box_hp hp _ _ rfl (by first | exact wanted_none rfl | exact wanted_yes rfl rfl rfl rfl) _ (slot_tmp rfl) _ rfl _ (by simp only [List.length_cons, List.length_nil, Nat.reduceAdd]; rfl) ?_; clear hp; intro b w1 hp; simp only [put_some, put_none, List.set_cons_succ, List.set_cons_zero]) | (refine wpList_loadAgg_hp hp _ _ rfl (by first | exact wanted_none rfl | exact wanted_yes rfl rfl rfl rfl) _ _ (slot_tmp rfl) _ (by first | exact agg57 | exact agg23) _ _ _ _ (by first | exact at0 | exact at1 | exact at2 | exact at3 | exact at4 | exact at5 | exact at6 | exact at7 | exact at8 | exact at9 | exact at10 | exact at11 | exact at12 | exact at13) _ (by simp only [List.drop_zero, List.drop_succ_cons, List.take_succ_cons, List.take_zero, List.take_nil]; rfl) (by rfl) ?_; simp only [put_some, put_none, List.set_cons_succ, List.set_cons_zero]) | (refine wpList_loadOne_hp hp _ _ rfl (by first | exact wanted_none rfl | exact wanted_yes rfl rfl rfl rfl) _ _ (slot_tmp rfl) (by first | exact cell3 | exact cell4 | exact cell25) _ _ _ _ (by first | exact at0 | exact at1 | exact at2 | exact at3 | exact at4 | exact at5 | exact at6 | exact at7 | exact at8 | exact at9 | exact at10 | exact at11 | exact at12 | exact at13) _ (by rfl) ?_; simp only [put_some, put_none, List.set_cons_succ, List.set_cons_zero]) | (refine wpList_storeAll_hp hp _ _ _ rfl (by first | exact wanted_none rfl | exact wanted_yes rfl rfl rfl rfl) _ (slot_tmp rfl) _ (slot_tmp rfl) (by first | exact agg57 | exact agg23) _ _ _ _ (by first | exact at0 | exact at1 | exact at2 | exact at3 | exact at4 | exact at5 | exact at6 | exact at7 | exact at8 | exact at9 | exact at10 | exact at11 | exact at12 | exact at13) (by rfl) (by first | rfl | simp [*]) ?_; clear hp; intro w1 hp; simp only [List.set_cons_zero, List.set_cons_succ] at hp; simp only [put_some, put_none, List.set_cons_succ, List.set_cons_zero]) | (refine wpList_storeAgg_hp hp _ _ _ rfl (by first | exact wanted_none rfl | exact wanted_yes rfl rfl rfl rfl) _ _ (slot_tmp rfl) _ (slot_tmp rfl) (by first | exact agg57 | exact agg23) _ _ _ _ (by first | exact at0 | exact at1 | exact at2 | exact at3 | exact at4 | exact at5 | exact at6 | exact at7 | exact at8 | exact at9 | exact at10 | exact at11 | exact at12 | exact at13) (by simp only [List.length_cons, List.length_nil]; omega) (by first | rfl | simp [*]) ?_; clear hp; intro w1 hp; simp only [spl, List.set_cons_zero, List.set_cons_succ] at hp; simp only [put_some, put_none, List.set_cons_succ, List.set_cons_zero]) | (refine wpList_storeOne_hp hp _ _ _ rfl (by first | exact wanted_none rfl | exact wanted_yes rfl rfl rfl rfl) _ _ (slot_tmp rfl) _ (by first | exact slot_tmp rfl | exact slot_const) (by first | exact cell3 | exact cell4 | exact cell25) _ _ _ _ (by first | exact at0 | exact at1 | exact at2 | exact at3 | exact at4 | exact at5 | exact at6 | exact at7 | exact at8 | exact at9 | exact at10 | exact at11 | exact at12 | exact at13) (by simp only [List.length_cons, List.length_nil]; omega) (by first | rfl | assumption) ?_; clear hp; intro w1 hp; simp only [List.set_cons_zero, List.set_cons_succ] at hp; simp only [put_some, put_none, List.set_cons_succ, List.set_cons_zero]))
  go_ret
  exact ⟨rfl, hp.below⟩

set_option maxRecDepth 100000 in
set_option maxHeartbeats 8000000 in
theorem run8_low (n : Nat) (hn : n ≤ 4096) (a m : Int) (f : Nat → Bool) (A : Option Addr) (k c : Nat) (on : Bool) (h1 : k ≤ 600) (hm : m < 1) (w : World) (K : Calls Try.prog 23 #[.int .i64 n, .slice A k c] w (ReadOk w n f)) :
    Calls Try.prog 8 #[.int .i64 n, .slice A k c, .int .i64 a, .int .i64 m, .bool on] w fun e w' => e = .returned (.bool true) ∧ Below w.heap.size w w' := by
  have hp := Hp.start w
  have HK := Lib.hid K
  clear K
  have HM63 : RowKit.Hid (m ≤ 9223372036854775807) := Lib.hid (by omega)
  have HR : RowKit.Hid (RunI f n a m on (-1)) := Lib.hid (.inl ⟨hm, rfl⟩)
  have d1 : decide ((600 : Int) < (k : Int)) = false := by simp; omega
  have d2 : decide (5000 < m) = false := by simp; omega
  have d3 : decide (1 ≤ m) = false := by simp; omega
  go_enter Try.func8, Try.ntmps8
  go_wp2_with (first | (go_at_call 23; refine HK.out.mono ?_; rintro e w1 ⟨bm, bw, rfl, hne, hf, hg, hb⟩; replace hp := hp.adopt2 hb hf hg hne; clear hb hf hg hne) | (go_at_call 16; refine (run16 bm bw n f hn _ _ _ HM63.out _ (hp.mapAtP at0 at1)).mono ?_; rintro e w' ⟨r', rfl, hr', rfl⟩; obtain rfl := HR.out.eq hr'; clear hr') | (go_at_call 19; refine (len19 bm bw n f _ (hp.mapAtP at0 at1)).mono ?_; rintro e w' ⟨rfl, rfl⟩) | go_skip | (refine wpList_box_hp hp _ _ rfl (by first | exact wanted_none rfl | exact wanted_yes rfl rfl rfl rfl) _ (slot_tmp rfl) _ rfl _ (by simp only [List.length_cons, List.length_nil, Nat.reduceAdd]; rfl) ?_; clear hp; intro b w1 hp; simp only [put_some, put_none, List.set_cons_succ, List.set_cons_zero]) | (refine wpList_loadAgg_hp hp _ _ rfl (by first | exact wanted_none rfl | exact wanted_yes rfl rfl rfl rfl) _ _ (slot_tmp rfl) _ (by first | exact agg57 | exact agg23) _ _ _ _ (by first | exact at0 | exact at1 | exact at2 | exact at3 | exact at4 | exact at5 | exact at6 | exact at7 | exact at8 | exact at9 | exact at10 | exact at11 | exact at12 | exact at13) _ (by simp only [List.drop_zero, List.drop_succ_cons, List.take_succ_cons, List.take_zero, List.take_nil]; rfl) (by rfl) ?_; simp only [put_some, put_none, List.set_cons_succ, List.set_cons_zero]) | (refine wpList_loadOne_hp hp _ _ rfl (by first | exact wanted_none rfl | exact wanted_yes rfl rfl rfl rfl) _ _ (slot_tmp rfl) (by first | exact cell3 | exact cell4 | exact cell25) _ _ _ _ (by first | exact at0 | exact at1 | exact at2 | exact at3 | exact at4 | exact at5 | exact at6 | exact at7 | exact at8 | exact at9 | exact at10 | exact at11 | exact at12 | exact at13) _ (by rfl) ?_; simp only [put_some, put_none, List.set_cons_succ, List.set_cons_zero]) | (refine wpList_storeAll_hp hp _ _ _ rfl (by first | exact wanted_none rfl | exact wanted_yes rfl rfl rfl rfl) _ (slot_tmp rfl) _ (slot_tmp rfl) (by first | exact agg57 | exact agg23) _ _ _ _ (by first | exact at0 | exact at1 | exact at2 | exact at3 | exact at4 | exact at5 | exact at6 | exact at7 | exact at8 | exact at9 | exact at10 | exact at11 | exact at12 | exact at13) (by rfl) (by first | rfl | simp [*]) ?_; clear hp; intro w1 hp; simp only [List.set_cons_zero, List.set_cons_succ] at hp; simp only [put_some, put_none, List.set_cons_succ, List.set_cons_zero]) | (refine wpList_storeAgg_hp hp _ _ _ rfl (by first | exact wanted_none rfl | exact wanted_yes rfl rfl rfl rfl) _ _ (slot_tmp rfl) _ (slot_tmp rfl) (by first | exact agg57 | exact agg23) _ _ _ _ (by first | exact at0 | exact at1 | exact at2 | exact at3 | exact at4 | exact at5 | exact at6 | exact at7 | exact at8 | exact at9 | exact at10 | exact at11 | exact at12 | exact at13) (by simp only [List.length_cons, List.length_nil]; omega) (by first | rfl | simp [*]) ?_; clear hp; intro w1 hp; simp only [spl, List.set_cons_zero, List.set_cons_succ] at hp; simp only [put_some, put_none, List.set_cons_succ, List.set_cons_zero]) | (refine wpList_storeOne_hp hp _ _ _ rfl (by first | exact wanted_none rfl | exact wanted_yes rfl rfl rfl rfl) _ _ (slot_tmp rfl) _ (by first | exact slot_tmp rfl | exact slot_const) (by first | exact cell3 | exact cell4 | exact cell25) _ _ _ _ (by first | exact at0 | exact at1 | exact at2 | exact at3 | exact at4 | exact at5 | exact at6 | exact at7 | exact at8 | exact at9 | exact at10 | exact at11 | exact at12 | exact at13) (by simp only [List.length_cons, List.length_nil]; omega) (by first | rfl | assumption) ?_; clear hp; intro w1 hp; simp only [List.set_cons_zero, List.set_cons_succ] at hp; simp only [put_some, put_none, List.set_cons_succ, List.set_cons_zero]))
  all_goals
    go_loopg [18, 19] 0 (fun k g i wr => ∃ z : Int, i = .int .i64 z ∧ Hp w.heap.size w wr [mBlk bm bw n, wBlk bw n f])
    case atStart => exact ⟨_, rfl, hp⟩
    case round =>
      clear hp
      obtain ⟨z, rfl, hp⟩ := hrel
      by_cases hz : z < (n : Int)
      all_goals
        go_wp2_with (first | (go_at_call 11; refine (awake11 _).mono ?_; rintro e w1 ⟨rfl, hb⟩; replace hp := hp.call hb; clear hb) | go_skip | (refine wpList_box_hp hp _ _ rfl (by first | exact wanted_none rfl | exact wanted_yes rfl rfl rfl rfl) _ (slot_tmp rfl) _ rfl _ (by simp only [List.length_cons, List.length_nil, Nat.reduceAdd]; rfl) ?_; clear hp; intro b w1 hp; simp only [put_some, put_none, List.set_cons_succ, List.set_cons_zero]) | (refine wpList_loadAgg_hp hp _ _ rfl (by first | exact wanted_none rfl | exact wanted_yes rfl rfl rfl rfl) _ _ (slot_tmp rfl) _ (by first | exact agg57 | exact agg23) _ _ _ _ (by first | exact at0 | exact at1 | exact at2 | exact at3 | exact at4 | exact at5 | exact at6 | exact at7 | exact at8 | exact at9 | exact at10 | exact at11 | exact at12 | exact at13) _ (by simp only [List.drop_zero, List.drop_succ_cons, List.take_succ_cons, List.take_zero, List.take_nil]; rfl) (by rfl) ?_; simp only [put_some, put_none, List.set_cons_succ, List.set_cons_zero]) | (refine wpList_loadOne_hp hp _ _ rfl (by first | exact wanted_none rfl | exact wanted_yes rfl rfl rfl rfl) _ _ (slot_tmp rfl) (by first | exact cell3 | exact cell4 | exact cell25) _ _ _ _ (by first | exact at0 | exact at1 | exact at2 | exact at3 | exact at4 | exact at5 | exact at6 | exact at7 | exact at8 | exact at9 | exact at10 | exact at11 | exact at12 | exact at13) _ (by rfl) ?_; simp only [put_some, put_none, List.set_cons_succ, List.set_cons_zero]) | (refine wpList_storeAll_hp hp _ _ _ rfl (by first | exact wanted_none rfl | exact wanted_yes rfl rfl rfl rfl) _ (slot_tmp rfl) _ (slot_tmp rfl) (by first | exact agg57 | exact agg23) _ _ _ _ (by first | exact at0 | exact at1 | exact at2 | exact at3 | exact at4 | exact at5 | exact at6 | exact at7 | exact at8 | exact at9 | exact at10 | exact at11 | exact at12 | exact at13) (by rfl) (by first | rfl | simp [*]) ?_; clear hp; intro w1 hp; simp only [List.set_cons_zero, List.set_cons_succ] at hp; simp only [put_some, put_none, List.set_cons_succ, List.set_cons_zero]) | (refine wpList_storeAgg_hp hp _ _ _ rfl (by first | exact wanted_none rfl | exact wanted_yes rfl rfl rfl rfl) _ _ (slot_tmp rfl) _ (slot_tmp rfl) (by first | exact agg57 | exact agg23) _ _ _ _ (by first | exact at0 | exact at1 | exact at2 | exact at3 | exact at4 | exact at5 | exact at6 | exact at7 | exact at8 | exact at9 | exact at10 | exact at11 | exact at12 | exact at13) (by simp only [List.length_cons, List.length_nil]; omega) (by first | rfl | simp [*]) ?_; clear hp; intro w1 hp; simp only [spl, List.set_cons_zero, List.set_cons_succ] at hp; simp only [put_some, put_none, List.set_cons_succ, List.set_cons_zero]) | (refine wpList_storeOne_hp hp _ _ _ rfl (by first | exact wanted_none rfl | exact wanted_yes rfl rfl rfl rfl) _ _ (slot_tmp rfl) _ (by first | exact slot_tmp rfl | exact slot_const) (by first | exact cell3 | exact cell4 | exact cell25) _ _ _ _ (by first | exact at0 | exact at1 | exact at2 | exact at3 | exact at4 | exact at5 | exact at6 | exact at7 | exact at8 | exact at9 | exact at10 | exact at11 | exact at12 | exact at13) (by simp only [List.length_cons, List.length_nil]; omega) (by first | rfl | assumption) ?_; clear hp; intro w1 hp; simp only [List.set_cons_zero, List.set_cons_succ] at hp; simp only [put_some, put_none, List.set_cons_succ, List.set_cons_zero]))
        go_ret
        exact ⟨rfl, hp.below⟩

end Go.Proofs.Ytfnadjlnnfmnmaa
