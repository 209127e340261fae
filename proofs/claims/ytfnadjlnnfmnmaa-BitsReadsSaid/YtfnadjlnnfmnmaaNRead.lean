/- The walk of Read. -/
import Derived.Test.YtfnadjlnnfmnmaaNRdSpec
set_option linter.unusedSimpArgs false
set_option linter.unusedVariables false
namespace Go.Proofs.Ytfnadjlnnfmnmaa
open Go.RowKit
theorem isMap1 (x : Blk) (bm bw n : Nat) (f : Nat → Bool) (L : List Blk) : IsMap (x :: mBlk bm bw n :: wBlk bw n f :: L) 1 2 bm bw n f := ⟨rfl, rfl⟩

set_option maxRecDepth 100000 in
set_option maxHeartbeats 1000000 in
theorem read23_no (n : Int) (hn : n < 0 ∨ 4096 < n) (a : Option Addr) (m c : Nat) (w : World) :
    Calls Try.prog 23 #[.int .i64 n, .slice a m c] w fun e w' => e = .returned (.tuple #[.pointer none, .int .i64 1]) ∧ Below w.heap.size w w' := by
  have K := Lib.hid (new10_no n hn)
  clear hn
  go_enter Try.func23, Try.ntmps23
  go_wp2_with (go_at_call 10; refine (K.out _).mono ?_; rintro e w' ⟨rfl, rfl⟩)
  go_ret2
  exact ⟨rfl, Below.refl _ _⟩
set_option maxRecDepth 100000 in
set_option maxHeartbeats 4000000 in
theorem read23_len (n : Nat) (hn : n ≤ 4096) (a : Option Addr) (m c : Nat) (hm : m ≠ bN n) (w : World) :
    Calls Try.prog 23 #[.int .i64 n, .slice a m c] w fun e w' => e = .returned (.tuple #[.pointer none, .int .i64 1]) ∧ Below w.heap.size w w' := by
  obtain ⟨i0, hi0, hz0, hz1, hz2⟩ := info_parts info5
  have hp := Hp.start w
  have d1 : ((m : Int) == ((n : Int) + 7) / 8) = false := by unfold bN at hm; simp; omega
  have d2 : wN n ≤ 64 := by unfold wN; omega
  have d3 : ((m : Int) = ((n : Int) + 7) / 8) = False := by unfold bN at hm; simp; omega
  go_enter Try.func23, Try.ntmps23
  go_wp2_with (first | (go_at_call 10; refine (new10_yes n hn _).mono ?_; rintro e w1 ⟨bm, bw, rfl, hne, hf, hg, hb⟩; replace hp := hp.adopt2 hb hf hg hne; clear hb hf hg hne) | (refine wpList_makeSlice_hp hp _ _ _ rfl (by first | exact wanted_none rfl | exact wanted_yes rfl rfl rfl rfl) 5 i0 _ Try.underlying40 hi0 hz0 hz1 rfl _ (slot_tmp rfl) (slot_tmp rfl) (8 * wN n) (by omega) (by rw [hz2]; unfold wN; omega) (by unfold wN; omega) ?_; clear hp; intro ba w1 hp; simp only [put_some, put_none, List.set_cons_succ, List.set_cons_zero]) | go_skip | (refine wpList_box_hp hp _ _ rfl (by first | exact wanted_none rfl | exact wanted_yes rfl rfl rfl rfl) _ (slot_tmp rfl) _ rfl _ (by simp only [List.length_cons, List.length_nil, Nat.reduceAdd]; rfl) ?_; clear hp; intro b w1 hp; simp only [put_some, put_none, List.set_cons_succ, List.set_cons_zero]) | (refine wpList_loadAgg_hp hp _ _ rfl (by first | exact wanted_none rfl | exact wanted_yes rfl rfl rfl rfl) _ _ (slot_tmp rfl) _ (by first | exact agg57 | exact agg23) _ _ _ _ (by first | exact at0 | exact at1 | exact at2 | exact at3 | exact at4 | exact at5 | exact at6 | exact at7 | exact at8 | exact at9 | exact at10 | exact at11 | exact at12 | exact at13) _ (by simp only [List.drop_zero, List.drop_succ_cons, List.take_succ_cons, List.take_zero, List.take_nil]; rfl) (by rfl) ?_; simp only [put_some, put_none, List.set_cons_succ, List.set_cons_zero]) | (refine wpList_loadOne_hp hp _ _ rfl (by first | exact wanted_none rfl | exact wanted_yes rfl rfl rfl rfl) _ _ (slot_tmp rfl) (by first | exact cell3 | exact cell4 | exact cell5 | exact cell25 | exact cell55 | exact cell58) _ _ _ _ (by first | exact at0 | exact at1 | exact at2 | exact at3 | exact at4 | exact at5 | exact at6 | exact at7 | exact at8 | exact at9 | exact at10 | exact at11 | exact at12 | exact at13) _ (by rfl) ?_; simp only [put_some, put_none, List.set_cons_succ, List.set_cons_zero]) | (refine wpList_storeAll_hp hp _ _ _ rfl (by first | exact wanted_none rfl | exact wanted_yes rfl rfl rfl rfl) _ (slot_tmp rfl) _ (slot_tmp rfl) (by first | exact agg57 | exact agg23) _ _ _ _ (by first | exact at0 | exact at1 | exact at2 | exact at3 | exact at4 | exact at5 | exact at6 | exact at7 | exact at8 | exact at9 | exact at10 | exact at11 | exact at12 | exact at13) (by rfl) (by first | rfl | simp [*]) ?_; clear hp; intro w1 hp; simp only [List.set_cons_zero, List.set_cons_succ] at hp; simp only [put_some, put_none, List.set_cons_succ, List.set_cons_zero]) | (refine wpList_storeAgg_hp hp _ _ _ rfl (by first | exact wanted_none rfl | exact wanted_yes rfl rfl rfl rfl) _ _ (slot_tmp rfl) _ (slot_tmp rfl) (by first | exact agg57 | exact agg23) _ _ _ _ (by first | exact at0 | exact at1 | exact at2 | exact at3 | exact at4 | exact at5 | exact at6 | exact at7 | exact at8 | exact at9 | exact at10 | exact at11 | exact at12 | exact at13) (by simp only [List.length_cons, List.length_nil]; omega) (by first | rfl | simp [*]) ?_; clear hp; intro w1 hp; simp only [spl, List.set_cons_zero, List.set_cons_succ] at hp; simp only [put_some, put_none, List.set_cons_succ, List.set_cons_zero]) | (refine wpList_storeOne_hp hp _ _ _ rfl (by first | exact wanted_none rfl | exact wanted_yes rfl rfl rfl rfl) _ _ (slot_tmp rfl) _ (by first | exact slot_tmp rfl | exact slot_const) (by first | exact cell3 | exact cell4 | exact cell5 | exact cell25 | exact cell55 | exact cell58) _ _ _ _ (by first | exact at0 | exact at1 | exact at2 | exact at3 | exact at4 | exact at5 | exact at6 | exact at7 | exact at8 | exact at9 | exact at10 | exact at11 | exact at12 | exact at13) (by simp only [List.length_cons, List.length_nil]; omega) (by first | rfl | assumption) ?_; clear hp; intro w1 hp; simp only [List.set_cons_zero, List.set_cons_succ] at hp; simp only [put_some, put_none, List.set_cons_succ, List.set_cons_zero]))
  go_ret2
  exact ⟨rfl, hp.below⟩

def ReadOk (w : World) (n : Nat) (f : Nat → Bool) (e : Ending) (w' : World) : Prop := ∃ bm bw, e = .returned (.tuple #[.pointer (some ⟨bm, 0, none⟩), .int .i64 0]) ∧ bm ≠ bw ∧ Fresh w w' (mBlk bm bw n) ∧ Fresh w w' (wBlk bw n f) ∧ Below w.heap.size w w'
/-- What Read tells of bytes of the right number. -/
def ReadPost (w : World) (n : Nat) (bs : List Nat) (e : Ending) (w' : World) : Prop :=
  (byL (cutB bs n) (bN n) = bs ∧ ReadOk w n (cutB bs n) e w') ∨ (byL (cutB bs n) (bN n) ≠ bs ∧ e = .returned (.tuple #[.pointer none, .int .i64 1]) ∧ Below w.heap.size w w')
set_option maxRecDepth 100000 in
set_option maxHeartbeats 8000000 in
theorem read23 (n : Nat) (hn : n ≤ 4096) (bs : List Nat) (hbs : ∀ x ∈ bs, x < 256) (hlen : bs.length = bN n) (a : Option Addr) (c : Nat) (w : World) (ha : RowIs w a (bs.flatMap byV)) :
    Calls Try.prog 23 #[.int .i64 n, .slice a (bN n) c] w (ReadPost w n bs) := by
  obtain ⟨i0, hi0, hz0, hz1, hz2⟩ := info_parts info5
  have hp := Hp.start w
  have HA := Lib.hid ha
  have HL : RowKit.Hid ((bs.flatMap byV).length = bN n) := Lib.hid (by rw [flat_len byV 1 byV_len, Nat.mul_one]; exact hlen)
  have HN : RowKit.Hid (bN n ≤ 8 * wN n) := Lib.hid (by unfold bN wN; omega)
  have HB := Lib.hid hbs
  have HLEN := Lib.hid hlen
  clear ha hbs hlen
  have d1 : ((n : Int) + 7) / 8 = ((bN n : Nat) : Int) := by unfold bN; omega
  have d2 : wN n ≤ 64 := by unfold wN; omega
  go_enter Try.func23, Try.ntmps23
  go_wp2_with (first | (go_at_call 10; refine (new10_yes n hn _).mono ?_; rintro e w1 ⟨bm, bw, rfl, hne, hf, hg, hb⟩; replace hp := hp.adopt2 hb hf hg hne; clear hb hf hg hne) | (refine wpList_makeSlice_hp hp _ _ _ rfl (by first | exact wanted_none rfl | exact wanted_yes rfl rfl rfl rfl) 5 i0 _ Try.underlying40 hi0 hz0 hz1 rfl _ (slot_tmp rfl) (slot_tmp rfl) (8 * wN n) (by omega) (by rw [hz2]; unfold wN; omega) (by unfold wN; omega) ?_; clear hp; intro ba w1 hp; simp only [put_some, put_none, List.set_cons_succ, List.set_cons_zero]) | (refine wpList_copy_hp hp _ _ 5 _ _ rfl (by first | exact wanted_none rfl | exact wanted_yes rfl rfl rfl rfl) Try.underlying40 i0 hi0 hz1 _ _ _ (slot_tmp rfl) _ _ _ (slot_tmp rfl) 0 _ _ at0 (by rw [List.length_replicate]) (bs.flatMap byV) HL.out HN.out (HA.out.below hp.below) (by rw [fl_by, List.all_map]; exact List.all_eq_true.2 fun _ _ => rfl) ?_; clear hp; intro v w1 hp; simp only [put_some, put_none, List.set_cons_succ, List.set_cons_zero]) | go_skip | (refine wpList_box_hp hp _ _ rfl (by first | exact wanted_none rfl | exact wanted_yes rfl rfl rfl rfl) _ (slot_tmp rfl) _ rfl _ (by simp only [List.length_cons, List.length_nil, Nat.reduceAdd]; rfl) ?_; clear hp; intro b w1 hp; simp only [put_some, put_none, List.set_cons_succ, List.set_cons_zero]) | (refine wpList_loadAgg_hp hp _ _ rfl (by first | exact wanted_none rfl | exact wanted_yes rfl rfl rfl rfl) _ _ (slot_tmp rfl) _ (by first | exact agg57 | exact agg23) _ _ _ _ (by first | exact at0 | exact at1 | exact at2 | exact at3 | exact at4 | exact at5 | exact at6 | exact at7 | exact at8 | exact at9 | exact at10 | exact at11 | exact at12 | exact at13) _ (by simp only [List.drop_zero, List.drop_succ_cons, List.take_succ_cons, List.take_zero, List.take_nil]; rfl) (by rfl) ?_; simp only [put_some, put_none, List.set_cons_succ, List.set_cons_zero]) | (refine wpList_loadOne_hp hp _ _ rfl (by first | exact wanted_none rfl | exact wanted_yes rfl rfl rfl rfl) _ _ (slot_tmp rfl) (by first | exact cell3 | exact cell4 | exact cell5 | exact cell25 | exact cell55 | exact cell58) _ _ _ _ (by first | exact at0 | exact at1 | exact at2 | exact at3 | exact at4 | exact at5 | exact at6 | exact at7 | exact at8 | exact at9 | exact at10 | exact at11 | exact at12 | exact at13) _ (by rfl) ?_; simp only [put_some, put_none, List.set_cons_succ, List.set_cons_zero]) | (refine wpList_storeAll_hp hp _ _ _ rfl (by first | exact wanted_none rfl | exact wanted_yes rfl rfl rfl rfl) _ (slot_tmp rfl) _ (slot_tmp rfl) (by first | exact agg57 | exact agg23) _ _ _ _ (by first | exact at0 | exact at1 | exact at2 | exact at3 | exact at4 | exact at5 | exact at6 | exact at7 | exact at8 | exact at9 | exact at10 | exact at11 | exact at12 | exact at13) (by rfl) (by first | rfl | simp [*]) ?_; clear hp; intro w1 hp; simp only [List.set_cons_zero, List.set_cons_succ] at hp; simp only [put_some, put_none, List.set_cons_succ, List.set_cons_zero]) | (refine wpList_storeAgg_hp hp _ _ _ rfl (by first | exact wanted_none rfl | exact wanted_yes rfl rfl rfl rfl) _ _ (slot_tmp rfl) _ (slot_tmp rfl) (by first | exact agg57 | exact agg23) _ _ _ _ (by first | exact at0 | exact at1 | exact at2 | exact at3 | exact at4 | exact at5 | exact at6 | exact at7 | exact at8 | exact at9 | exact at10 | exact at11 | exact at12 | exact at13) (by simp only [List.length_cons, List.length_nil]; omega) (by first | rfl | simp [*]) ?_; clear hp; intro w1 hp; simp only [spl, List.set_cons_zero, List.set_cons_succ] at hp; simp only [put_some, put_none, List.set_cons_succ, List.set_cons_zero]) | (refine wpList_storeOne_hp hp _ _ _ rfl (by first | exact wanted_none rfl | exact wanted_yes rfl rfl rfl rfl) _ _ (slot_tmp rfl) _ (by first | exact slot_tmp rfl | exact slot_const) (by first | exact cell3 | exact cell4 | exact cell5 | exact cell25 | exact cell55 | exact cell58) _ _ _ _ (by first | exact at0 | exact at1 | exact at2 | exact at3 | exact at4 | exact at5 | exact at6 | exact at7 | exact at8 | exact at9 | exact at10 | exact at11 | exact at12 | exact at13) (by simp only [List.length_cons, List.length_nil]; omega) (by first | rfl | assumption) ?_; clear hp; intro w1 hp; simp only [List.set_cons_zero, List.set_cons_succ] at hp; simp only [put_some, put_none, List.set_cons_succ, List.set_cons_zero]))
  simp only [List.set_cons_zero] at hp
  rw [← HLEN.out, allV_copy bs (8 * wN n) (by rw [HLEN.out]; exact HN.out)] at hp
  replace hp : Hp w.heap.size w w1 [⟨ba, allV bs (8 * wN n), 5, 8 * wN n⟩, mBlk bm bw n, wBlk bw n (cutB bs 0)] := by rw [cutB_zero]; exact hp
  clear hi0 hz0 hz1 hz2 d1
  go_loopg [38] (8 * wN n) (fun k i wr => ∃ q : Nat, k + q = 8 * wN n ∧ i = .int .i64 q ∧ Hp w.heap.size w wr [⟨ba, allV bs (8 * wN n), 5, 8 * wN n⟩, mBlk bm bw n, wBlk bw n (cutB bs (8 * q))])
  case atStart => exact ⟨0, by omega, rfl, hp⟩
  case round =>
    clear hp
    obtain ⟨q, hkq, rfl, hp⟩ := hrel
    by_cases hlt : q < 8 * wN n
    · have hall := allV_get bs (8 * wN n) q hlt
      have hwd := words_get (cutB bs (8 * q)) (wN n) (q / 8) (by omega)
      have hst := byte_or_store HB.out (wN n) q (by omega)
      have hq := show q / 8 < wN n by omega
      have hx0 := getD_lt HB.out q
      have E2 : RowKit.Hid (wrap64 ((q : Int) / 8) = (q : Int) / 8) := Lib.hid (by unfold wrap64; omega)
      have E4 : RowKit.Hid (wrap64 (8 * ((q : Int) % 8)) = 8 * ((q : Int) % 8)) := Lib.hid (by unfold wrap64; omega)
      have ew : IntKind.u64.wrap ((bs.getD q 0 : Nat) : Int) = ((bs.getD q 0 : Nat) : Int) := by rw [Go.IntKind.wrap_u64]; omega
      rw [List.getD_eq_getElem?_getD] at ew hst hx0
      have HST := Lib.hid hst
      have EW := Lib.hid ew
      clear hst ew
      have e1 : (0 : Int) ≤ (q : Int) := by omega
      have e2 : (q : Int) < 8 * (wN n : Int) := by omega
      have e3 : (q : Int).tmod 8 = (q : Int) % 8 := Int.tmod_eq_emod_of_nonneg e1
      have e4 : (0 : Int) ≤ (q : Int) / 8 := by omega
      have e5 : (q : Int) / 8 < (wN n : Int) := by omega
      have e6 : (0 : Int) ≤ 8 * ((q : Int) % 8) := by omega
      have e7 : 8 * ((q : Int) % 8) ≤ 64 := by omega
      go_wp2_with (refine wpList_loadOne_hp hp _ _ rfl (by first | exact wanted_none rfl | exact wanted_yes rfl rfl rfl rfl) _ _ (slot_tmp rfl) cell5 _ _ _ _ at0 _ hall ?_; simp only [put_some, put_none, List.set_cons_succ, List.set_cons_zero])
      refine wp_region_keeps _ (Keeps.all hp.drew) [16] [(0, true), (1, true), (2, true), (3, true), (4, true), (5, true), (6, true), (7, true), (8, true), (9, true), (10, true), (11, true), (12, true), (13, true), (14, true), (15, true), (16, false)] (by kernel_rfl) (by kernel_rfl) rfl (by kernel_rfl) (fun _ _ d _ _ h => by cases d <;> exact h) ?_
      replace hp := hp.drew
      (refine plan_move rfl _ rfl (by first | exact wanted_none rfl | exact wanted_yes rfl rfl rfl rfl) ?_)
      try simp only [put_some, put_none, eval_tmp, eval_const, List.set_cons_succ, List.set_cons_zero, List.getD_cons_succ, List.getD_cons_zero, wrap_eq, E2.out, E4.out]
      (refine plan_take rfl (by first | exact wanted_none rfl | exact wanted_yes rfl rfl rfl rfl) (fun w _ => (by go_simp; try rfl)) ?_)
      try simp only [put_some, put_none, eval_tmp, eval_const, List.set_cons_succ, List.set_cons_zero, List.getD_cons_succ, List.getD_cons_zero, wrap_eq, E2.out, E4.out]
      (refine plan_take rfl (by first | exact wanted_none rfl | exact wanted_yes rfl rfl rfl rfl) (fun w _ => (by go_simp; try rfl)) ?_)
      try simp only [put_some, put_none, eval_tmp, eval_const, List.set_cons_succ, List.set_cons_zero, List.getD_cons_succ, List.getD_cons_zero, wrap_eq, E2.out, E4.out]
      (first | (refine plan_loadAgg rfl _ _ rfl (by first | exact wanted_none rfl | exact wanted_yes rfl rfl rfl rfl) _ _ (slot_tmp rfl) _ (fun w hS => hS.loadOne cell58 at2 _ _ hwd) ?_) | (refine plan_loadAgg rfl _ _ rfl (by first | exact wanted_none rfl | exact wanted_yes rfl rfl rfl rfl) _ _ (slot_tmp rfl) _ (fun w hS => hS.loadOne cell55 at1 _ _ (by rfl)) ?_) | (refine plan_loadAgg rfl _ _ rfl (by first | exact wanted_none rfl | exact wanted_yes rfl rfl rfl rfl) _ _ (slot_tmp rfl) _ (fun w hS => hS.loadOne (by first | exact cell3 | exact cell55) (by first | exact at0 | exact at1 | exact at2 | exact at3 | exact at4 | exact at5 | exact at6 | exact at7 | exact at8 | exact at9 | exact at10 | exact at11 | exact at12 | exact at13) _ _ (by rfl)) ?_))
      try simp only [put_some, put_none, eval_tmp, eval_const, List.set_cons_succ, List.set_cons_zero, List.getD_cons_succ, List.getD_cons_zero, wrap_eq, E2.out, E4.out]
      (refine plan_move rfl _ rfl (by first | exact wanted_none rfl | exact wanted_yes rfl rfl rfl rfl) ?_)
      try simp only [put_some, put_none, eval_tmp, eval_const, List.set_cons_succ, List.set_cons_zero, List.getD_cons_succ, List.getD_cons_zero, wrap_eq, E2.out, E4.out]
      (refine plan_take rfl (by first | exact wanted_none rfl | exact wanted_yes rfl rfl rfl rfl) (fun w _ => (by go_simp; try rfl)) ?_)
      try simp only [put_some, put_none, eval_tmp, eval_const, List.set_cons_succ, List.set_cons_zero, List.getD_cons_succ, List.getD_cons_zero, wrap_eq, E2.out, E4.out]
      (refine plan_take rfl (by first | exact wanted_none rfl | exact wanted_yes rfl rfl rfl rfl) (fun w _ => (by go_simp; try rfl)) ?_)
      try simp only [put_some, put_none, eval_tmp, eval_const, List.set_cons_succ, List.set_cons_zero, List.getD_cons_succ, List.getD_cons_zero, wrap_eq, E2.out, E4.out]
      (first | (refine plan_loadAgg rfl _ _ rfl (by first | exact wanted_none rfl | exact wanted_yes rfl rfl rfl rfl) _ _ (slot_tmp rfl) _ (fun w hS => hS.loadOne cell58 at2 _ _ hwd) ?_) | (refine plan_loadAgg rfl _ _ rfl (by first | exact wanted_none rfl | exact wanted_yes rfl rfl rfl rfl) _ _ (slot_tmp rfl) _ (fun w hS => hS.loadOne cell55 at1 _ _ (by rfl)) ?_) | (refine plan_loadAgg rfl _ _ rfl (by first | exact wanted_none rfl | exact wanted_yes rfl rfl rfl rfl) _ _ (slot_tmp rfl) _ (fun w hS => hS.loadOne (by first | exact cell3 | exact cell55) (by first | exact at0 | exact at1 | exact at2 | exact at3 | exact at4 | exact at5 | exact at6 | exact at7 | exact at8 | exact at9 | exact at10 | exact at11 | exact at12 | exact at13) _ _ (by rfl)) ?_))
      try simp only [put_some, put_none, eval_tmp, eval_const, List.set_cons_succ, List.set_cons_zero, List.getD_cons_succ, List.getD_cons_zero, wrap_eq, E2.out, E4.out]
      (refine plan_move rfl _ rfl (by first | exact wanted_none rfl | exact wanted_yes rfl rfl rfl rfl) ?_)
      try simp only [put_some, put_none, eval_tmp, eval_const, List.set_cons_succ, List.set_cons_zero, List.getD_cons_succ, List.getD_cons_zero, wrap_eq, E2.out, E4.out]
      (refine plan_take rfl (by first | exact wanted_none rfl | exact wanted_yes rfl rfl rfl rfl) (fun w _ => (by go_simp; try rfl)) ?_)
      try simp only [put_some, put_none, eval_tmp, eval_const, List.set_cons_succ, List.set_cons_zero, List.getD_cons_succ, List.getD_cons_zero, wrap_eq, E2.out, E4.out]
      (refine plan_move rfl _ rfl (by first | exact wanted_none rfl | exact wanted_yes rfl rfl rfl rfl) ?_)
      try simp only [put_some, put_none, eval_tmp, eval_const, List.set_cons_succ, List.set_cons_zero, List.getD_cons_succ, List.getD_cons_zero, wrap_eq, E2.out, E4.out]
      (refine plan_take rfl (by first | exact wanted_none rfl | exact wanted_yes rfl rfl rfl rfl) (fun w _ => (by go_simp; try rfl)) ?_)
      try simp only [put_some, put_none, eval_tmp, eval_const, List.set_cons_succ, List.set_cons_zero, List.getD_cons_succ, List.getD_cons_zero, wrap_eq, E2.out, E4.out]
      (refine plan_take rfl (by first | exact wanted_none rfl | exact wanted_yes rfl rfl rfl rfl) (fun w _ => (by go_simp; try rfl)) ?_)
      try simp only [put_some, put_none, eval_tmp, eval_const, List.set_cons_succ, List.set_cons_zero, List.getD_cons_succ, List.getD_cons_zero, wrap_eq, E2.out, E4.out]
      (refine plan_take rfl (by first | exact wanted_none rfl | exact wanted_yes rfl rfl rfl rfl) (fun w _ => (by go_simp; try rfl)) ?_)
      try simp only [put_some, put_none, eval_tmp, eval_const, List.set_cons_succ, List.set_cons_zero, List.getD_cons_succ, List.getD_cons_zero, wrap_eq, E2.out, E4.out]
      (refine plan_take rfl (by first | exact wanted_none rfl | exact wanted_yes rfl rfl rfl rfl) (fun w _ => (by go_simp; try rfl)) ?_)
      try simp only [put_some, put_none, eval_tmp, eval_const, List.set_cons_succ, List.set_cons_zero, List.getD_cons_succ, List.getD_cons_zero, wrap_eq, E2.out, E4.out]
      (refine plan_take rfl (by first | exact wanted_none rfl | exact wanted_yes rfl rfl rfl rfl) (fun w _ => (by go_simp; try rfl)) ?_)
      try simp only [put_some, put_none, eval_tmp, eval_const, List.set_cons_succ, List.set_cons_zero, List.getD_cons_succ, List.getD_cons_zero, wrap_eq, E2.out, E4.out]
      refine plan_do rfl (fun K hK => ?_)
      go_wp2_with (first | (refine wpList_storeOne_hp hp _ _ _ rfl (by first | exact wanted_none rfl | exact wanted_yes rfl rfl rfl rfl) _ _ (slot_tmp rfl) _ (slot_tmp rfl) cell58 _ _ _ _ at2 (by rw [words_len]; exact hq) rfl ?_; clear hp; intro w1 hp; simp only [put_some, put_none, List.set_cons_succ, List.set_cons_zero]))
      refine hK.out _ _ (.inl rfl) ?_
      clear hK K
      try simp only [put_some, put_none, eval_tmp, eval_const, List.set_cons_succ, List.set_cons_zero, List.getD_cons_succ, List.getD_cons_zero, wrap_eq, E2.out, E4.out]
      refine plan_nil ?_
      simp only [List.set_cons_succ, List.set_cons_zero] at hp
      rw [EW.out, HST.out] at hp
      go_wp2_with fail
      go_roundg (gk - 1)
      case measure => omega
      case rel => exact ⟨q + 1, by omega, by go_num, hp⟩
    · have hqe : q = 8 * wN n := by omega
      rw [hqe, show 8 * (8 * wN n) = 64 * wN n by omega] at hp
      have e2 : decide ((q : Int) < 8 * (wN n : Int)) = false := by simp; omega
      have e1 : (0 : Int) ≤ (n : Int) := by omega
      clear hqe
      have d3 : ((n : Int).tmod 64) = (n : Int) % 64 := Int.tmod_eq_emod_of_nonneg e1
      have HQ : RowKit.Hid (∀ w' f, Hp w.heap.size w w' [⟨ba, allV bs (8 * wN n), 5, 8 * wN n⟩, mBlk bm bw n, wBlk bw n f] → MapAt w' bm bw n f) := Lib.hid (fun w' f h => ⟨h.cell at1 rfl, h.cell at1 rfl, fun k hk => h.cell at2 (words_get f _ k hk)⟩)
      by_cases h64 : n % 64 = 0
      all_goals first
        | (have hw := whole_words n h64
           rw [hw] at hp
           have d4 : (n : Int) % 64 = 0 := by omega
           clear hw h64
           go_wp2_with fail)
        | (have HMS := Lib.hid (mask_store bs n h64)
           have hwd := words_get (cutB bs (64 * wN n)) (wN n) (n / 64) (by unfold wN; omega)
           have hq2 : n / 64 < wN n := by unfold wN; omega
           have d4 : ((n : Int) % 64 == 0) = false := by simp; omega
           have d5 : ¬ (n : Int) % 64 = 0 := by omega
           have E2 : RowKit.Hid (wrap64 ((n : Int) / 64) = (n : Int) / 64) := Lib.hid (by unfold wrap64; omega)
           have e4 : (0 : Int) ≤ (n : Int) / 64 := by omega
           have e5 : (n : Int) / 64 < (wN n : Int) := by omega
           have e6 : (0 : Int) ≤ (n : Int) % 64 := by omega
           have e7 : (n : Int) % 64 ≤ 64 := by omega
           clear h64
           go_wp2_with fail
           refine wp_region_keeps _ (Keeps.all hp.drew) [14] [(0, true), (1, true), (2, true), (3, true), (4, true), (5, true), (6, true), (7, true), (8, true), (9, true), (10, true), (11, true), (12, true), (13, true), (14, false)] (by kernel_rfl) (by kernel_rfl) rfl (by kernel_rfl) (fun _ _ d _ _ h => by cases d <;> exact h) ?_
           replace hp := hp.drew
           (refine plan_move rfl _ rfl (by first | exact wanted_none rfl | exact wanted_yes rfl rfl rfl rfl) ?_)
           try simp only [put_some, put_none, eval_tmp, eval_const, List.set_cons_succ, List.set_cons_zero, List.getD_cons_succ, List.getD_cons_zero, wrap_eq, E2.out]
           (refine plan_take rfl (by first | exact wanted_none rfl | exact wanted_yes rfl rfl rfl rfl) (fun w _ => (by go_simp; try rfl)) ?_)
           try simp only [put_some, put_none, eval_tmp, eval_const, List.set_cons_succ, List.set_cons_zero, List.getD_cons_succ, List.getD_cons_zero, wrap_eq, E2.out]
           (refine plan_take rfl (by first | exact wanted_none rfl | exact wanted_yes rfl rfl rfl rfl) (fun w _ => (by go_simp; try rfl)) ?_)
           try simp only [put_some, put_none, eval_tmp, eval_const, List.set_cons_succ, List.set_cons_zero, List.getD_cons_succ, List.getD_cons_zero, wrap_eq, E2.out]
           (first | (refine plan_loadAgg rfl _ _ rfl (by first | exact wanted_none rfl | exact wanted_yes rfl rfl rfl rfl) _ _ (slot_tmp rfl) _ (fun w hS => hS.loadOne cell58 at2 _ _ hwd) ?_) | (refine plan_loadAgg rfl _ _ rfl (by first | exact wanted_none rfl | exact wanted_yes rfl rfl rfl rfl) _ _ (slot_tmp rfl) _ (fun w hS => hS.loadOne cell55 at1 _ _ (by rfl)) ?_) | (refine plan_loadAgg rfl _ _ rfl (by first | exact wanted_none rfl | exact wanted_yes rfl rfl rfl rfl) _ _ (slot_tmp rfl) _ (fun w hS => hS.loadOne (by first | exact cell3 | exact cell55) (by first | exact at0 | exact at1 | exact at2 | exact at3 | exact at4 | exact at5 | exact at6 | exact at7 | exact at8 | exact at9 | exact at10 | exact at11 | exact at12 | exact at13) _ _ (by rfl)) ?_))
           try simp only [put_some, put_none, eval_tmp, eval_const, List.set_cons_succ, List.set_cons_zero, List.getD_cons_succ, List.getD_cons_zero, wrap_eq, E2.out]
           (refine plan_move rfl _ rfl (by first | exact wanted_none rfl | exact wanted_yes rfl rfl rfl rfl) ?_)
           try simp only [put_some, put_none, eval_tmp, eval_const, List.set_cons_succ, List.set_cons_zero, List.getD_cons_succ, List.getD_cons_zero, wrap_eq, E2.out]
           (refine plan_take rfl (by first | exact wanted_none rfl | exact wanted_yes rfl rfl rfl rfl) (fun w _ => (by go_simp; try rfl)) ?_)
           try simp only [put_some, put_none, eval_tmp, eval_const, List.set_cons_succ, List.set_cons_zero, List.getD_cons_succ, List.getD_cons_zero, wrap_eq, E2.out]
           (refine plan_take rfl (by first | exact wanted_none rfl | exact wanted_yes rfl rfl rfl rfl) (fun w _ => (by go_simp; try rfl)) ?_)
           try simp only [put_some, put_none, eval_tmp, eval_const, List.set_cons_succ, List.set_cons_zero, List.getD_cons_succ, List.getD_cons_zero, wrap_eq, E2.out]
           (first | (refine plan_loadAgg rfl _ _ rfl (by first | exact wanted_none rfl | exact wanted_yes rfl rfl rfl rfl) _ _ (slot_tmp rfl) _ (fun w hS => hS.loadOne cell58 at2 _ _ hwd) ?_) | (refine plan_loadAgg rfl _ _ rfl (by first | exact wanted_none rfl | exact wanted_yes rfl rfl rfl rfl) _ _ (slot_tmp rfl) _ (fun w hS => hS.loadOne cell55 at1 _ _ (by rfl)) ?_) | (refine plan_loadAgg rfl _ _ rfl (by first | exact wanted_none rfl | exact wanted_yes rfl rfl rfl rfl) _ _ (slot_tmp rfl) _ (fun w hS => hS.loadOne (by first | exact cell3 | exact cell55) (by first | exact at0 | exact at1 | exact at2 | exact at3 | exact at4 | exact at5 | exact at6 | exact at7 | exact at8 | exact at9 | exact at10 | exact at11 | exact at12 | exact at13) _ _ (by rfl)) ?_))
           try simp only [put_some, put_none, eval_tmp, eval_const, List.set_cons_succ, List.set_cons_zero, List.getD_cons_succ, List.getD_cons_zero, wrap_eq, E2.out]
           (refine plan_move rfl _ rfl (by first | exact wanted_none rfl | exact wanted_yes rfl rfl rfl rfl) ?_)
           try simp only [put_some, put_none, eval_tmp, eval_const, List.set_cons_succ, List.set_cons_zero, List.getD_cons_succ, List.getD_cons_zero, wrap_eq, E2.out]
           (refine plan_take rfl (by first | exact wanted_none rfl | exact wanted_yes rfl rfl rfl rfl) (fun w _ => (by go_simp; try rfl)) ?_)
           try simp only [put_some, put_none, eval_tmp, eval_const, List.set_cons_succ, List.set_cons_zero, List.getD_cons_succ, List.getD_cons_zero, wrap_eq, E2.out]
           (refine plan_take rfl (by first | exact wanted_none rfl | exact wanted_yes rfl rfl rfl rfl) (fun w _ => (by go_simp; try rfl)) ?_)
           try simp only [put_some, put_none, eval_tmp, eval_const, List.set_cons_succ, List.set_cons_zero, List.getD_cons_succ, List.getD_cons_zero, wrap_eq, E2.out]
           (refine plan_take rfl (by first | exact wanted_none rfl | exact wanted_yes rfl rfl rfl rfl) (fun w _ => (by go_simp; try rfl)) ?_)
           try simp only [put_some, put_none, eval_tmp, eval_const, List.set_cons_succ, List.set_cons_zero, List.getD_cons_succ, List.getD_cons_zero, wrap_eq, E2.out]
           (refine plan_take rfl (by first | exact wanted_none rfl | exact wanted_yes rfl rfl rfl rfl) (fun w _ => (by go_simp; try rfl)) ?_)
           try simp only [put_some, put_none, eval_tmp, eval_const, List.set_cons_succ, List.set_cons_zero, List.getD_cons_succ, List.getD_cons_zero, wrap_eq, E2.out]
           (refine plan_take rfl (by first | exact wanted_none rfl | exact wanted_yes rfl rfl rfl rfl) (fun w _ => (by go_simp; try rfl)) ?_)
           try simp only [put_some, put_none, eval_tmp, eval_const, List.set_cons_succ, List.set_cons_zero, List.getD_cons_succ, List.getD_cons_zero, wrap_eq, E2.out]
           refine plan_do rfl (fun K hK => ?_)
           go_wp2_with (first | (refine wpList_storeOne_hp hp _ _ _ rfl (by first | exact wanted_none rfl | exact wanted_yes rfl rfl rfl rfl) _ _ (slot_tmp rfl) _ (slot_tmp rfl) cell58 _ _ _ _ at2 (by rw [words_len]; exact hq2) rfl ?_; clear hp; intro w1 hp; simp only [put_some, put_none, List.set_cons_succ, List.set_cons_zero]))
           refine hK.out _ _ (.inl rfl) ?_
           clear hK K
           try simp only [put_some, put_none, eval_tmp, eval_const, List.set_cons_succ, List.set_cons_zero, List.getD_cons_succ, List.getD_cons_zero, wrap_eq, E2.out]
           refine plan_nil ?_
           simp only [List.set_cons_succ, List.set_cons_zero] at hp
           rw [HMS.out] at hp
           clear HMS hwd hq2 d4 d5 E2 e4 e5 e6 e7
           go_wp2_with fail)
      all_goals
        have hbn : bN n ≤ 5000 := by unfold bN; omega
        rcases Bool.eq_false_or_eq_true (decide (byL (cutB bs n) (bN n) = bs)) with hD | hD
      all_goals
        have HD := Lib.hid hD
        clear hD
        go_wp2_with (first | (go_at_call 18; refine (bytes18 bm bw n (cutB bs n) hn _ (HQ.out _ _ hp)).mono ?_; rintro e w1 ⟨b, rfl, hf, hb⟩; replace hp := hp.adopt hb hf; clear hf hb) | (go_at_call 31; refine (equal31 (byL (cutB bs n) (bN n)) bs (bN n) (byL_len _ _) HLEN.out hbn _ _ _ _ _ (by rw [byL_cells]; exact hp.rowIs at0) (HA.out.below hp.below)).mono ?_; rintro e w1 ⟨rfl, hb⟩; rw [HD.out]; replace hp := hp.call hb; clear hb))
        go_ret2
      all_goals first
        | exact .inr ⟨of_decide_eq_false HD.out, rfl, hp.below⟩
        | exact .inl ⟨of_decide_eq_true HD.out, bm, bw, rfl, (by intro h; have := hp.nodup; simp [h] at this), hp.fresh at2, hp.fresh at3, hp.below⟩
end Go.Proofs.Ytfnadjlnnfmnmaa
