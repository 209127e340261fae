/- The walk of the document's Read. -/
import Derived.Test.YtfnadjlnnfmnmaaNConv
set_option linter.unusedSimpArgs false
set_option linter.unusedVariables false
namespace Go.Proofs.Ytfnadjlnnfmnmaa
open Go.RowKit Go.WideShapes
theorem info4 : (Try.prog.info? 4).map (fun i => (i.zero, i.size, i.bytes)) = some (some (.bool false), 1, 1) := by kernel_rfl

/-- The truths read so far. -/
def rl (bs : List Nat) (q : Nat) : List Bool := (List.range q).map (rawB bs)
theorem rl_len (bs : List Nat) (q : Nat) : (rl bs q).length = q := by simp [rl]
theorem rl_succ (bs : List Nat) (q : Nat) : (rl bs (q + 1)).flatMap boV = (rl bs q).flatMap boV ++ [Value.bool (rawB bs q)] := by
  unfold rl
  rw [List.range_succ, List.map_append, List.flatMap_append]
  rfl
theorem lf_rl (bs : List Nat) (n : Nat) : lf (rl bs n) = cutB bs n := by
  funext i
  unfold lf rl cutB
  by_cases h : i < n
  · simp [List.getD, h]
  · simp [List.getD, h]
def OutB (B : Nat) (w0 : World) (bs : List Nat) (q : Nat) (v : Value) (w : World) : Prop :=
  (RowKit.Hid (q = 0) ∧ v = .slice none 0 0 ∧ Hp B w0 w []) ∨ ∃ g cap, 0 < q ∧ v = .slice (some ⟨g, 0, none⟩) q cap ∧ q ≤ cap ∧ cap ≤ maxLen ∧ Hp B w0 w [⟨g, (rl bs q).flatMap boV, 4, cap * 1⟩]
/-- The blocks of a row that may be nil: none or one. -/
def RowL (a : Option Addr) (xs : List Value) (L2 : List Blk) : Prop :=
  (L2 = [] ∨ ∃ p, L2 = [p]) ∧ ∀ (B : Nat) (w0 w : World) (L : List Blk), Hp B w0 w L → (∀ p ∈ L2, p ∈ L) → RowIs w a xs
theorem OutB.open_ {B : Nat} {w0 w : World} {bs : List Nat} {n : Nat} {v : Value} (h : OutB B w0 bs n v w) : ∃ a c L2, v = .slice a n c ∧ RowL a ((rl bs n).flatMap boV) L2 ∧ Hp B w0 w L2 := by
  rcases h with ⟨h0, hv, hp⟩ | ⟨g, cap, h0, hv, hnc, hcm, hp⟩
  · have h00 := h0.out
    exact ⟨none, 0, [], by rw [h00]; exact hv, ⟨.inl rfl, fun _ _ _ _ _ _ => by rw [h00]; exact RowIs.nil _ _⟩, hp⟩
  · refine ⟨some ⟨g, 0, none⟩, cap, _, hv, ⟨.inr ⟨_, rfl⟩, fun B' w0' w' L h hm => ?_⟩, hp⟩
    obtain ⟨k, hk, hkl⟩ := List.getElem_of_mem (hm _ (List.mem_singleton.2 rfl))
    exact h.rowIs (i := k) (by rw [List.getElem?_eq_getElem hk, hkl])
theorem RowL.now {a : Option Addr} {xs : List Value} {L2 : List Blk} (h : RowL a xs L2) {B : Nat} {w0 w : World} (hp : Hp B w0 w L2) : RowIs w a xs := h.2 B w0 w L2 hp (fun _ h => h)
theorem Hp.perm {B : Nat} {w0 w : World} {L L' : List Blk} (hp : Hp B w0 w L) (h : L.Perm L') : Hp B w0 w L' :=
  ⟨hp.below, hp.size, (h.map _).nodup_iff.1 hp.nodup, fun p hpL => hp.own p (h.mem_iff.2 hpL)⟩
/-- Blocks of a callee's, laid behind the others. -/
theorem Hp.adoptL {B : Nat} {w0 w w' : World} {L L2 : List Blk} (hp : Hp B w0 w L) (hb : Below w.heap.size w w') (h2 : L2 = [] ∨ ∃ p, L2 = [p]) (hf : ∀ p ∈ L2, Fresh w w' p) : Hp B w0 w' (L ++ L2) := by
  rcases h2 with rfl | ⟨p, rfl⟩
  · rw [List.append_nil]; exact hp.call hb
  · exact (hp.adopt hb (hf p (by simp))).perm (by simpa using (List.perm_append_comm (l₁ := [p]) (l₂ := L)))
/-- What the document's Read makes of bytes that are a map. -/
def RRead (w : World) (n : Nat) (bs : List Nat) (e : Ending) (w' : World) : Prop :=
  (byL (cutB bs n) (bN n) = bs ∧ ∃ a c L2, e = .returned (.tuple #[.slice a n c, .int .i64 0]) ∧ RowL a ((rl bs n).flatMap boV) L2 ∧ (∀ p ∈ L2, Fresh w w' p) ∧ Below w.heap.size w w') ∨
  (byL (cutB bs n) (bN n) ≠ bs ∧ e = .returned (.tuple #[.slice none 0 0, .int .i64 1]) ∧ Below w.heap.size w w')
set_option maxRecDepth 100000 in
set_option maxHeartbeats 1000000 in
theorem byL_lt (f : Nat → Bool) (K : Nat) : ∀ x ∈ byL f K, x < 256 := by
  intro x hx
  obtain ⟨k, _, rfl⟩ := List.mem_map.1 hx
  exact byteOf_lt f k
theorem rb_n (bs : List Nat) (n : Nat) (hn : n ≤ 4096) (a : Option Addr) (c : Nat) (w : World) (ha : RowIs w a ((rl bs n).flatMap boV)) :
    Calls Try.prog 22 #[.slice a n c] w fun e w' => ∃ a' c', e = .returned (.slice a' (bN n) c') ∧ RowIs w' a' ((byL (cutB bs n) (bN n)).flatMap byV) ∧ Below w.heap.size w w' := by
  have h := rbytes22 (rl bs n) (by rw [rl_len]; exact hn) a c w ha
  rw [rl_len] at h
  refine h.mono fun e w' h => ?_
  rw [RBytes, rl_len, lf_rl] at h
  rcases h with ⟨h0, he, hb⟩ | ⟨g, cap, he, hf, hb⟩
  · have hn0 : n = 0 := by have := congrArg List.length h0; rw [rl_len] at this; exact this
    subst hn0
    exact ⟨none, 0, he, RowIs.nil _ _, hb⟩
  · refine ⟨some ⟨g, 0, none⟩, cap, he, ?_, hb⟩
    rw [byL_cells]
    obtain ⟨_, cc, hg, hsz, htk⟩ := hf
    intro j v hj
    refine ⟨g, 0, rfl, ?_⟩
    have := take_getElem? htk hj
    simp [World.cell?, hg] at this ⊢
    exact this
theorem rread25_no (n : Int) (a : Option Addr) (m c : Nat) (h : n < 0 ∨ 4096 < n ∨ (m : Int) ≠ (n + 7) / 8) (w : World) :
    Calls Try.prog 25 #[.int .i64 n, .slice a m c] w fun e w' => e = .returned (.tuple #[.slice none 0 0, .int .i64 1]) ∧ Below w.heap.size w w' := by
  by_cases h1 : 0 ≤ n ∧ n ≤ 4096
  · have K := Lib.hid (may14 n)
    have h2 : ¬ (m : Int) = (n + 7) / 8 := by omega
    have h3 : decide (0 ≤ n ∧ n ≤ 4096) = true := by simp [h1]
    rw [h3] at K
    obtain ⟨h4, h5⟩ := h1
    go_enter Try.func25, Try.ntmps25
    go_wp2_with (go_at_call 14; refine (K.out _).mono ?_; rintro e w' ⟨rfl, rfl⟩)
    go_ret2
    exact ⟨rfl, Below.refl _ _⟩
  · have K := Lib.hid (may14 n)
    have h3 : decide (0 ≤ n ∧ n ≤ 4096) = false := by simp only [decide_eq_false_iff_not]; exact h1
    rw [h3] at K
    clear h h1 h3
    go_enter Try.func25, Try.ntmps25
    go_wp2_with (go_at_call 14; refine (K.out _).mono ?_; rintro e w' ⟨rfl, rfl⟩)
    go_ret2
    exact ⟨rfl, Below.refl _ _⟩
set_option maxRecDepth 100000 in
set_option maxHeartbeats 8000000 in
theorem rread25 (n : Nat) (hn : n ≤ 4096) (bs : List Nat) (hbs : ∀ x ∈ bs, x < 256) (hlen : bs.length = bN n) (a : Option Addr) (c : Nat) (w : World) (ha : RowIs w a (bs.flatMap byV)) :
    Calls Try.prog 25 #[.int .i64 n, .slice a (bN n) c] w (RRead w n bs) := by
  obtain ⟨i0, hi0, hz0, hz1, hz2⟩ := info_parts info4
  have hp := Hp.start w
  have HA := Lib.hid ha
  have HB := Lib.hid hbs
  have HLEN := Lib.hid hlen
  clear ha hbs hlen
  have K14 := Lib.hid (may14 n)
  rw [show decide (0 ≤ (n : Int) ∧ (n : Int) ≤ 4096) = true by simp; omega] at K14
  have d1 : ((n : Int) + 7) / 8 = ((bN n : Nat) : Int) := by unfold bN; omega
  go_enter Try.func25, Try.ntmps25
  go_wp2_with (first | (go_at_call 14; refine (K14.out _).mono ?_; rintro e w' ⟨rfl, rfl⟩) | go_skip | (refine wpList_box_hp hp _ _ rfl (by first | exact wanted_none rfl | exact wanted_yes rfl rfl rfl rfl) _ (slot_tmp rfl) _ rfl _ (by simp only [List.length_cons, List.length_nil, Nat.reduceAdd]; rfl) ?_; clear hp; intro b w1 hp; simp only [put_some, put_none, List.set_cons_succ, List.set_cons_zero]) | (refine wpList_loadAgg_hp hp _ _ rfl (by first | exact wanted_none rfl | exact wanted_yes rfl rfl rfl rfl) _ _ (slot_tmp rfl) _ (by first | exact agg57 | exact agg23) _ _ _ _ (by first | exact at0 | exact at1 | exact at2 | exact at3 | exact at4 | exact at5 | exact at6 | exact at7 | exact at8 | exact at9 | exact at10 | exact at11 | exact at12 | exact at13) _ (by simp only [List.drop_zero, List.drop_succ_cons, List.take_succ_cons, List.take_zero, List.take_nil]; rfl) (by rfl) ?_; simp only [put_some, put_none, List.set_cons_succ, List.set_cons_zero]) | (refine wpList_loadOne_hp hp _ _ rfl (by first | exact wanted_none rfl | exact wanted_yes rfl rfl rfl rfl) _ _ (slot_tmp rfl) (by first | exact cell3 | exact cell4 | exact cell5 | exact cell25) _ _ _ _ (by first | exact at0 | exact at1 | exact at2 | exact at3 | exact at4 | exact at5 | exact at6 | exact at7 | exact at8 | exact at9 | exact at10 | exact at11 | exact at12 | exact at13) _ (by rfl) ?_; simp only [put_some, put_none, List.set_cons_succ, List.set_cons_zero]) | (refine wpList_storeAll_hp hp _ _ _ rfl (by first | exact wanted_none rfl | exact wanted_yes rfl rfl rfl rfl) _ (slot_tmp rfl) _ (slot_tmp rfl) (by first | exact agg57 | exact agg23) _ _ _ _ (by first | exact at0 | exact at1 | exact at2 | exact at3 | exact at4 | exact at5 | exact at6 | exact at7 | exact at8 | exact at9 | exact at10 | exact at11 | exact at12 | exact at13) (by rfl) (by first | rfl | simp [*]) ?_; clear hp; intro w1 hp; simp only [List.set_cons_zero, List.set_cons_succ] at hp; simp only [put_some, put_none, List.set_cons_succ, List.set_cons_zero]) | (refine wpList_storeAgg_hp hp _ _ _ rfl (by first | exact wanted_none rfl | exact wanted_yes rfl rfl rfl rfl) _ _ (slot_tmp rfl) _ (slot_tmp rfl) (by first | exact agg57 | exact agg23) _ _ _ _ (by first | exact at0 | exact at1 | exact at2 | exact at3 | exact at4 | exact at5 | exact at6 | exact at7 | exact at8 | exact at9 | exact at10 | exact at11 | exact at12 | exact at13) (by simp only [List.length_cons, List.length_nil]; omega) (by first | rfl | simp [*]) ?_; clear hp; intro w1 hp; simp only [spl, List.set_cons_zero, List.set_cons_succ] at hp; simp only [put_some, put_none, List.set_cons_succ, List.set_cons_zero]) | (refine wpList_storeOne_hp hp _ _ _ rfl (by first | exact wanted_none rfl | exact wanted_yes rfl rfl rfl rfl) _ _ (slot_tmp rfl) _ (by first | exact slot_tmp rfl | exact slot_const) (by first | exact cell3 | exact cell4 | exact cell5 | exact cell25) _ _ _ _ (by first | exact at0 | exact at1 | exact at2 | exact at3 | exact at4 | exact at5 | exact at6 | exact at7 | exact at8 | exact at9 | exact at10 | exact at11 | exact at12 | exact at13) (by simp only [List.length_cons, List.length_nil]; omega) (by first | rfl | assumption) ?_; clear hp; intro w1 hp; simp only [List.set_cons_zero, List.set_cons_succ] at hp; simp only [put_some, put_none, List.set_cons_succ, List.set_cons_zero]))
  clear d1
  go_loopg [6, 7] n (fun k v i wr => ∃ q : Nat, k + q = n ∧ i = .int .i64 q ∧ OutB w.heap.size w bs q v wr)
  case atStart => exact ⟨0, by omega, rfl, .inl ⟨Lib.hid rfl, rfl, hp⟩⟩
  case round =>
    clear hp
    obtain ⟨q, hkq, rfl, hout⟩ := hrel
    by_cases hlt : q < n
    · have hbl : q / 8 < bs.length := by have := HLEN.out; unfold bN at this; omega
      obtain ⟨bq, off, rfl, hx⟩ := HA.out.elems 1 byV_len (by omega) (by omega)
      have hj := List.getElem?_eq_getElem hbl
      have hraw : rawB bs q = decide (bs[q / 8] / 2 ^ (q % 8) % 2 = 1) := by
        unfold rawB
        rw [List.getD_eq_getElem?_getD, hj, Option.getD_some, Nat.testBit_eq_decide_div_mod_eq]
      have hxl := HB.out _ (List.getElem_mem hbl)
      replace hx := hx (q / 8) _ hj
      generalize bs[q / 8] = x at hx hraw hxl
      simp only [byV, Nat.mul_one] at hx
      have HX := Lib.hid hx
      have HRAW := Lib.hid hraw
      have HS := Lib.hid (rl_succ bs q)
      have HLN : RowKit.Hid (((rl bs q).flatMap boV).length = q * 1) := Lib.hid (by rw [flat_len boV 1 boV_len, rl_len])
      clear hx hj hraw hbl
      have e1 : (0 : Int) ≤ (q : Int) := by omega
      have e2 : (q : Int) < (n : Int) := by omega
      have e3 : (q : Int) / 8 < ((bN n : Nat) : Int) := by unfold bN; omega
      have e4 : (0 : Int) ≤ (q : Int) / 8 := by omega
      have hsm1 : q + 1 ≤ maxLen := by unfold maxLen; omega
      have hsm2 : (q + 1) * 1 ≤ 140737488355328 := by omega
      have hsm3 : q < 4096 := by omega
      rcases hout with ⟨h0, rfl, hp⟩ | ⟨g, cap, h0, rfl, hnc, hcm, hp⟩
      · have HZ : RowKit.Hid ((rl bs q).flatMap boV = []) := Lib.hid (by rw [h0.out]; rfl)
        go_wp2_with (first | go_skip | (refine wpList_box_hp hp _ _ rfl (by first | exact wanted_none rfl | exact wanted_yes rfl rfl rfl rfl) _ (slot_tmp rfl) _ rfl _ (by simp only [List.length_cons, List.length_nil, Nat.reduceAdd]; rfl) ?_; clear hp; intro b w1 hp; simp only [put_some, put_none, List.set_cons_succ, List.set_cons_zero]) | (refine wpList_loadAgg_hp hp _ _ rfl (by first | exact wanted_none rfl | exact wanted_yes rfl rfl rfl rfl) _ _ (slot_tmp rfl) _ (by first | exact agg57 | exact agg23) _ _ _ _ (by first | exact at0 | exact at1 | exact at2 | exact at3 | exact at4 | exact at5 | exact at6 | exact at7 | exact at8 | exact at9 | exact at10 | exact at11 | exact at12 | exact at13) _ (by simp only [List.drop_zero, List.drop_succ_cons, List.take_succ_cons, List.take_zero, List.take_nil]; rfl) (by rfl) ?_; simp only [put_some, put_none, List.set_cons_succ, List.set_cons_zero]) | (refine wpList_loadOne_hp hp _ _ rfl (by first | exact wanted_none rfl | exact wanted_yes rfl rfl rfl rfl) _ _ (slot_tmp rfl) (by first | exact cell3 | exact cell4 | exact cell5 | exact cell25) _ _ _ _ (by first | exact at0 | exact at1 | exact at2 | exact at3 | exact at4 | exact at5 | exact at6 | exact at7 | exact at8 | exact at9 | exact at10 | exact at11 | exact at12 | exact at13) _ (by rfl) ?_; simp only [put_some, put_none, List.set_cons_succ, List.set_cons_zero]) | (refine wpList_storeAll_hp hp _ _ _ rfl (by first | exact wanted_none rfl | exact wanted_yes rfl rfl rfl rfl) _ (slot_tmp rfl) _ (slot_tmp rfl) (by first | exact agg57 | exact agg23) _ _ _ _ (by first | exact at0 | exact at1 | exact at2 | exact at3 | exact at4 | exact at5 | exact at6 | exact at7 | exact at8 | exact at9 | exact at10 | exact at11 | exact at12 | exact at13) (by rfl) (by first | rfl | simp [*]) ?_; clear hp; intro w1 hp; simp only [List.set_cons_zero, List.set_cons_succ] at hp; simp only [put_some, put_none, List.set_cons_succ, List.set_cons_zero]) | (refine wpList_storeAgg_hp hp _ _ _ rfl (by first | exact wanted_none rfl | exact wanted_yes rfl rfl rfl rfl) _ _ (slot_tmp rfl) _ (slot_tmp rfl) (by first | exact agg57 | exact agg23) _ _ _ _ (by first | exact at0 | exact at1 | exact at2 | exact at3 | exact at4 | exact at5 | exact at6 | exact at7 | exact at8 | exact at9 | exact at10 | exact at11 | exact at12 | exact at13) (by simp only [List.length_cons, List.length_nil]; omega) (by first | rfl | simp [*]) ?_; clear hp; intro w1 hp; simp only [spl, List.set_cons_zero, List.set_cons_succ] at hp; simp only [put_some, put_none, List.set_cons_succ, List.set_cons_zero]) | (refine wpList_storeOne_hp hp _ _ _ rfl (by first | exact wanted_none rfl | exact wanted_yes rfl rfl rfl rfl) _ _ (slot_tmp rfl) _ (by first | exact slot_tmp rfl | exact slot_const) (by first | exact cell3 | exact cell4 | exact cell5 | exact cell25) _ _ _ _ (by first | exact at0 | exact at1 | exact at2 | exact at3 | exact at4 | exact at5 | exact at6 | exact at7 | exact at8 | exact at9 | exact at10 | exact at11 | exact at12 | exact at13) (by simp only [List.length_cons, List.length_nil]; omega) (by first | rfl | assumption) ?_; clear hp; intro w1 hp; simp only [List.set_cons_zero, List.set_cons_succ] at hp; simp only [put_some, put_none, List.set_cons_succ, List.set_cons_zero]) | (refine wpList_buildSlice_hp hp _ _ _ rfl (by first | exact wanted_none rfl | exact wanted_yes rfl rfl rfl rfl) _ _ (by intro w; go_simp; rfl) ?_; clear hp; intro b w1 hp; simp only [List.length_cons, List.length_nil, Nat.reduceAdd] at hp; simp only [put_some, put_none, List.set_cons_succ, List.set_cons_zero]) | (refine wpList_loadRow_hp hp _ _ rfl (by first | exact wanted_none rfl | exact wanted_yes rfl rfl rfl rfl) _ _ (slot_tmp rfl) _ (by first | exact agg57 | exact agg23) _ HX.out (by rfl) ?_; simp only [put_some, put_none, List.set_cons_succ, List.set_cons_zero]) | (refine wpList_loadRowOne_hp hp _ _ rfl (by first | exact wanted_none rfl | exact wanted_yes rfl rfl rfl rfl) _ _ (slot_tmp rfl) (by first | exact cell3 | exact cell4 | exact cell5 | exact cell25) _ (HX.out 0 _ rfl) ?_; simp only [put_some, put_none, List.set_cons_succ, List.set_cons_zero]))
        go_loopg [8, 9] (q % 8) (fun k v i wr => ∃ j : Nat, k + j = q % 8 ∧ i = .int .i64 j ∧ v = .int .i64 (x / 2 ^ j : Nat) ∧ Hp w.heap.size w wr [])
        case atStart => exact ⟨0, by omega, rfl, by simp, hp⟩
        case round =>
          clear hp
          obtain ⟨j, hkj, rfl, rfl, hp⟩ := hrel
          by_cases hjq : j < q % 8
          · have f1 : (j : Int) < (q : Int) % 8 := by omega
            have f2 : x / 2 ^ j ≤ 255 := Nat.le_trans (Nat.div_le_self _ _) (by omega)
            have F3 : RowKit.Hid (x / 2 ^ (j + 1) = x / 2 ^ j / 2) := Lib.hid (by rw [Nat.pow_succ, Nat.div_div_eq_div_mul])
            generalize x / 2 ^ j = y at f2 F3
            go_wp2_with fail
            go_roundg (gk - 1)
            case measure => omega
            case rel => exact ⟨j + 1, by omega, by go_num, by first | (rw [F3.out]; done) | (rw [F3.out]; go_num), hp⟩
          · have f1 : decide ((j : Int) < (q : Int) % 8) = false := by simp; omega
            have hjj : j = q % 8 := by omega
            have hr := HRAW.out
            rw [← hjj] at hr
            have f2 : x / 2 ^ j ≤ 255 := Nat.le_trans (Nat.div_le_self _ _) (by omega)
            clear hjj
            generalize x / 2 ^ j = y at hr f2
            have hr2 : ((y : Int) % 2 == 1) = rawB bs q := by rw [hr, Bool.eq_iff_iff]; simp; omega
            clear hr
            go_wp2_with (first | (refine wpList_appendNew_hp hp _ _ _ rfl (by first | exact wanted_none rfl | exact wanted_yes rfl rfl rfl rfl) 4 i0 _ 1 1 Try.underlying35 hi0 hz0 hz1 hz2 rfl (by decide) (slot_tmp rfl) _ _ (slot_tmp rfl) (by rfl) (by decide) (by rfl) (by decide) (by decide) ?_; clear hp; intro g cap w1 hnc hcm hp; simp only [put_some, put_none, List.set_cons_succ, List.set_cons_zero]) | go_skip | (refine wpList_box_hp hp _ _ rfl (by first | exact wanted_none rfl | exact wanted_yes rfl rfl rfl rfl) _ (slot_tmp rfl) _ rfl _ (by simp only [List.length_cons, List.length_nil, Nat.reduceAdd]; rfl) ?_; clear hp; intro b w1 hp; simp only [put_some, put_none, List.set_cons_succ, List.set_cons_zero]) | (refine wpList_loadAgg_hp hp _ _ rfl (by first | exact wanted_none rfl | exact wanted_yes rfl rfl rfl rfl) _ _ (slot_tmp rfl) _ (by first | exact agg57 | exact agg23) _ _ _ _ (by first | exact at0 | exact at1 | exact at2 | exact at3 | exact at4 | exact at5 | exact at6 | exact at7 | exact at8 | exact at9 | exact at10 | exact at11 | exact at12 | exact at13) _ (by simp only [List.drop_zero, List.drop_succ_cons, List.take_succ_cons, List.take_zero, List.take_nil]; rfl) (by rfl) ?_; simp only [put_some, put_none, List.set_cons_succ, List.set_cons_zero]) | (refine wpList_loadOne_hp hp _ _ rfl (by first | exact wanted_none rfl | exact wanted_yes rfl rfl rfl rfl) _ _ (slot_tmp rfl) (by first | exact cell3 | exact cell4 | exact cell5 | exact cell25) _ _ _ _ (by first | exact at0 | exact at1 | exact at2 | exact at3 | exact at4 | exact at5 | exact at6 | exact at7 | exact at8 | exact at9 | exact at10 | exact at11 | exact at12 | exact at13) _ (by rfl) ?_; simp only [put_some, put_none, List.set_cons_succ, List.set_cons_zero]) | (refine wpList_storeAll_hp hp _ _ _ rfl (by first | exact wanted_none rfl | exact wanted_yes rfl rfl rfl rfl) _ (slot_tmp rfl) _ (slot_tmp rfl) (by first | exact agg57 | exact agg23) _ _ _ _ (by first | exact at0 | exact at1 | exact at2 | exact at3 | exact at4 | exact at5 | exact at6 | exact at7 | exact at8 | exact at9 | exact at10 | exact at11 | exact at12 | exact at13) (by rfl) (by first | rfl | simp [*]) ?_; clear hp; intro w1 hp; simp only [List.set_cons_zero, List.set_cons_succ] at hp; simp only [put_some, put_none, List.set_cons_succ, List.set_cons_zero]) | (refine wpList_storeAgg_hp hp _ _ _ rfl (by first | exact wanted_none rfl | exact wanted_yes rfl rfl rfl rfl) _ _ (slot_tmp rfl) _ (slot_tmp rfl) (by first | exact agg57 | exact agg23) _ _ _ _ (by first | exact at0 | exact at1 | exact at2 | exact at3 | exact at4 | exact at5 | exact at6 | exact at7 | exact at8 | exact at9 | exact at10 | exact at11 | exact at12 | exact at13) (by simp only [List.length_cons, List.length_nil]; omega) (by first | rfl | simp [*]) ?_; clear hp; intro w1 hp; simp only [spl, List.set_cons_zero, List.set_cons_succ] at hp; simp only [put_some, put_none, List.set_cons_succ, List.set_cons_zero]) | (refine wpList_storeOne_hp hp _ _ _ rfl (by first | exact wanted_none rfl | exact wanted_yes rfl rfl rfl rfl) _ _ (slot_tmp rfl) _ (by first | exact slot_tmp rfl | exact slot_const) (by first | exact cell3 | exact cell4 | exact cell5 | exact cell25) _ _ _ _ (by first | exact at0 | exact at1 | exact at2 | exact at3 | exact at4 | exact at5 | exact at6 | exact at7 | exact at8 | exact at9 | exact at10 | exact at11 | exact at12 | exact at13) (by simp only [List.length_cons, List.length_nil]; omega) (by first | rfl | assumption) ?_; clear hp; intro w1 hp; simp only [List.set_cons_zero, List.set_cons_succ] at hp; simp only [put_some, put_none, List.set_cons_succ, List.set_cons_zero]) | (refine wpList_buildSlice_hp hp _ _ _ rfl (by first | exact wanted_none rfl | exact wanted_yes rfl rfl rfl rfl) _ _ (by intro w; go_simp; rfl) ?_; clear hp; intro b w1 hp; simp only [List.length_cons, List.length_nil, Nat.reduceAdd] at hp; simp only [put_some, put_none, List.set_cons_succ, List.set_cons_zero]) | (refine wpList_loadRow_hp hp _ _ rfl (by first | exact wanted_none rfl | exact wanted_yes rfl rfl rfl rfl) _ _ (slot_tmp rfl) _ (by first | exact agg57 | exact agg23) _ HX.out (by rfl) ?_; simp only [put_some, put_none, List.set_cons_succ, List.set_cons_zero]) | (refine wpList_loadRowOne_hp hp _ _ rfl (by first | exact wanted_none rfl | exact wanted_yes rfl rfl rfl rfl) _ _ (slot_tmp rfl) (by first | exact cell3 | exact cell4 | exact cell5 | exact cell25) _ (HX.out 0 _ rfl) ?_; simp only [put_some, put_none, List.set_cons_succ, List.set_cons_zero]))
            go_roundg (n - (q + 1))
            case measure => omega
            case rel => exact ⟨q + 1, by omega, by go_num, .inr ⟨g, cap, by omega, by rw [show q + 1 = 1 by have := h0.out; omega], by have := h0.out; omega, hcm, by rw [HS.out, HZ.out]; exact hp⟩⟩
      · skip
        go_wp2_with (first | go_skip | (refine wpList_box_hp hp _ _ rfl (by first | exact wanted_none rfl | exact wanted_yes rfl rfl rfl rfl) _ (slot_tmp rfl) _ rfl _ (by simp only [List.length_cons, List.length_nil, Nat.reduceAdd]; rfl) ?_; clear hp; intro b w1 hp; simp only [put_some, put_none, List.set_cons_succ, List.set_cons_zero]) | (refine wpList_loadAgg_hp hp _ _ rfl (by first | exact wanted_none rfl | exact wanted_yes rfl rfl rfl rfl) _ _ (slot_tmp rfl) _ (by first | exact agg57 | exact agg23) _ _ _ _ (by first | exact at0 | exact at1 | exact at2 | exact at3 | exact at4 | exact at5 | exact at6 | exact at7 | exact at8 | exact at9 | exact at10 | exact at11 | exact at12 | exact at13) _ (by simp only [List.drop_zero, List.drop_succ_cons, List.take_succ_cons, List.take_zero, List.take_nil]; rfl) (by rfl) ?_; simp only [put_some, put_none, List.set_cons_succ, List.set_cons_zero]) | (refine wpList_loadOne_hp hp _ _ rfl (by first | exact wanted_none rfl | exact wanted_yes rfl rfl rfl rfl) _ _ (slot_tmp rfl) (by first | exact cell3 | exact cell4 | exact cell5 | exact cell25) _ _ _ _ (by first | exact at0 | exact at1 | exact at2 | exact at3 | exact at4 | exact at5 | exact at6 | exact at7 | exact at8 | exact at9 | exact at10 | exact at11 | exact at12 | exact at13) _ (by rfl) ?_; simp only [put_some, put_none, List.set_cons_succ, List.set_cons_zero]) | (refine wpList_storeAll_hp hp _ _ _ rfl (by first | exact wanted_none rfl | exact wanted_yes rfl rfl rfl rfl) _ (slot_tmp rfl) _ (slot_tmp rfl) (by first | exact agg57 | exact agg23) _ _ _ _ (by first | exact at0 | exact at1 | exact at2 | exact at3 | exact at4 | exact at5 | exact at6 | exact at7 | exact at8 | exact at9 | exact at10 | exact at11 | exact at12 | exact at13) (by rfl) (by first | rfl | simp [*]) ?_; clear hp; intro w1 hp; simp only [List.set_cons_zero, List.set_cons_succ] at hp; simp only [put_some, put_none, List.set_cons_succ, List.set_cons_zero]) | (refine wpList_storeAgg_hp hp _ _ _ rfl (by first | exact wanted_none rfl | exact wanted_yes rfl rfl rfl rfl) _ _ (slot_tmp rfl) _ (slot_tmp rfl) (by first | exact agg57 | exact agg23) _ _ _ _ (by first | exact at0 | exact at1 | exact at2 | exact at3 | exact at4 | exact at5 | exact at6 | exact at7 | exact at8 | exact at9 | exact at10 | exact at11 | exact at12 | exact at13) (by simp only [List.length_cons, List.length_nil]; omega) (by first | rfl | simp [*]) ?_; clear hp; intro w1 hp; simp only [spl, List.set_cons_zero, List.set_cons_succ] at hp; simp only [put_some, put_none, List.set_cons_succ, List.set_cons_zero]) | (refine wpList_storeOne_hp hp _ _ _ rfl (by first | exact wanted_none rfl | exact wanted_yes rfl rfl rfl rfl) _ _ (slot_tmp rfl) _ (by first | exact slot_tmp rfl | exact slot_const) (by first | exact cell3 | exact cell4 | exact cell5 | exact cell25) _ _ _ _ (by first | exact at0 | exact at1 | exact at2 | exact at3 | exact at4 | exact at5 | exact at6 | exact at7 | exact at8 | exact at9 | exact at10 | exact at11 | exact at12 | exact at13) (by simp only [List.length_cons, List.length_nil]; omega) (by first | rfl | assumption) ?_; clear hp; intro w1 hp; simp only [List.set_cons_zero, List.set_cons_succ] at hp; simp only [put_some, put_none, List.set_cons_succ, List.set_cons_zero]) | (refine wpList_buildSlice_hp hp _ _ _ rfl (by first | exact wanted_none rfl | exact wanted_yes rfl rfl rfl rfl) _ _ (by intro w; go_simp; rfl) ?_; clear hp; intro b w1 hp; simp only [List.length_cons, List.length_nil, Nat.reduceAdd] at hp; simp only [put_some, put_none, List.set_cons_succ, List.set_cons_zero]) | (refine wpList_loadRow_hp hp _ _ rfl (by first | exact wanted_none rfl | exact wanted_yes rfl rfl rfl rfl) _ _ (slot_tmp rfl) _ (by first | exact agg57 | exact agg23) _ HX.out (by rfl) ?_; simp only [put_some, put_none, List.set_cons_succ, List.set_cons_zero]) | (refine wpList_loadRowOne_hp hp _ _ rfl (by first | exact wanted_none rfl | exact wanted_yes rfl rfl rfl rfl) _ _ (slot_tmp rfl) (by first | exact cell3 | exact cell4 | exact cell5 | exact cell25) _ (HX.out 0 _ rfl) ?_; simp only [put_some, put_none, List.set_cons_succ, List.set_cons_zero]))
        go_loopg [8, 9] (q % 8) (fun k v i wr => ∃ j : Nat, k + j = q % 8 ∧ i = .int .i64 j ∧ v = .int .i64 (x / 2 ^ j : Nat) ∧ Hp w.heap.size w wr [⟨g, (rl bs q).flatMap boV, 4, cap * 1⟩])
        case atStart => exact ⟨0, by omega, rfl, by simp, hp⟩
        case round =>
          clear hp
          obtain ⟨j, hkj, rfl, rfl, hp⟩ := hrel
          by_cases hjq : j < q % 8
          · have f1 : (j : Int) < (q : Int) % 8 := by omega
            have f2 : x / 2 ^ j ≤ 255 := Nat.le_trans (Nat.div_le_self _ _) (by omega)
            have F3 : RowKit.Hid (x / 2 ^ (j + 1) = x / 2 ^ j / 2) := Lib.hid (by rw [Nat.pow_succ, Nat.div_div_eq_div_mul])
            generalize x / 2 ^ j = y at f2 F3
            go_wp2_with fail
            go_roundg (gk - 1)
            case measure => omega
            case rel => exact ⟨j + 1, by omega, by go_num, by first | (rw [F3.out]; done) | (rw [F3.out]; go_num), hp⟩
          · have f1 : decide ((j : Int) < (q : Int) % 8) = false := by simp; omega
            have hjj : j = q % 8 := by omega
            have hr := HRAW.out
            rw [← hjj] at hr
            have f2 : x / 2 ^ j ≤ 255 := Nat.le_trans (Nat.div_le_self _ _) (by omega)
            clear hjj
            generalize x / 2 ^ j = y at hr f2
            have hr2 : ((y : Int) % 2 == 1) = rawB bs q := by rw [hr, Bool.eq_iff_iff]; simp; omega
            clear hr
            go_wp2_with (first | (refine wpList_appendOn_hp hp _ _ _ rfl (by first | exact wanted_none rfl | exact wanted_yes rfl rfl rfl rfl) i0 _ 1 Try.underlying35 hi0 hz0 hz1 hz2 rfl (by decide) (slot_tmp rfl) hnc hcm HLN.out _ _ (slot_tmp rfl) (by rfl) (by decide) (by rfl) hsm1 hsm2 ?_; clear hp hnc hcm; intro g cap w1 hnc hcm hp; simp only [put_some, put_none, List.set_cons_succ, List.set_cons_zero]) | go_skip | (refine wpList_box_hp hp _ _ rfl (by first | exact wanted_none rfl | exact wanted_yes rfl rfl rfl rfl) _ (slot_tmp rfl) _ rfl _ (by simp only [List.length_cons, List.length_nil, Nat.reduceAdd]; rfl) ?_; clear hp; intro b w1 hp; simp only [put_some, put_none, List.set_cons_succ, List.set_cons_zero]) | (refine wpList_loadAgg_hp hp _ _ rfl (by first | exact wanted_none rfl | exact wanted_yes rfl rfl rfl rfl) _ _ (slot_tmp rfl) _ (by first | exact agg57 | exact agg23) _ _ _ _ (by first | exact at0 | exact at1 | exact at2 | exact at3 | exact at4 | exact at5 | exact at6 | exact at7 | exact at8 | exact at9 | exact at10 | exact at11 | exact at12 | exact at13) _ (by simp only [List.drop_zero, List.drop_succ_cons, List.take_succ_cons, List.take_zero, List.take_nil]; rfl) (by rfl) ?_; simp only [put_some, put_none, List.set_cons_succ, List.set_cons_zero]) | (refine wpList_loadOne_hp hp _ _ rfl (by first | exact wanted_none rfl | exact wanted_yes rfl rfl rfl rfl) _ _ (slot_tmp rfl) (by first | exact cell3 | exact cell4 | exact cell5 | exact cell25) _ _ _ _ (by first | exact at0 | exact at1 | exact at2 | exact at3 | exact at4 | exact at5 | exact at6 | exact at7 | exact at8 | exact at9 | exact at10 | exact at11 | exact at12 | exact at13) _ (by rfl) ?_; simp only [put_some, put_none, List.set_cons_succ, List.set_cons_zero]) | (refine wpList_storeAll_hp hp _ _ _ rfl (by first | exact wanted_none rfl | exact wanted_yes rfl rfl rfl rfl) _ (slot_tmp rfl) _ (slot_tmp rfl) (by first | exact agg57 | exact agg23) _ _ _ _ (by first | exact at0 | exact at1 | exact at2 | exact at3 | exact at4 | exact at5 | exact at6 | exact at7 | exact at8 | exact at9 | exact at10 | exact at11 | exact at12 | exact at13) (by rfl) (by first | rfl | simp [*]) ?_; clear hp; intro w1 hp; simp only [List.set_cons_zero, List.set_cons_succ] at hp; simp only [put_some, put_none, List.set_cons_succ, List.set_cons_zero]) | (refine wpList_storeAgg_hp hp _ _ _ rfl (by first | exact wanted_none rfl | exact wanted_yes rfl rfl rfl rfl) _ _ (slot_tmp rfl) _ (slot_tmp rfl) (by first | exact agg57 | exact agg23) _ _ _ _ (by first | exact at0 | exact at1 | exact at2 | exact at3 | exact at4 | exact at5 | exact at6 | exact at7 | exact at8 | exact at9 | exact at10 | exact at11 | exact at12 | exact at13) (by simp only [List.length_cons, List.length_nil]; omega) (by first | rfl | simp [*]) ?_; clear hp; intro w1 hp; simp only [spl, List.set_cons_zero, List.set_cons_succ] at hp; simp only [put_some, put_none, List.set_cons_succ, List.set_cons_zero]) | (refine wpList_storeOne_hp hp _ _ _ rfl (by first | exact wanted_none rfl | exact wanted_yes rfl rfl rfl rfl) _ _ (slot_tmp rfl) _ (by first | exact slot_tmp rfl | exact slot_const) (by first | exact cell3 | exact cell4 | exact cell5 | exact cell25) _ _ _ _ (by first | exact at0 | exact at1 | exact at2 | exact at3 | exact at4 | exact at5 | exact at6 | exact at7 | exact at8 | exact at9 | exact at10 | exact at11 | exact at12 | exact at13) (by simp only [List.length_cons, List.length_nil]; omega) (by first | rfl | assumption) ?_; clear hp; intro w1 hp; simp only [List.set_cons_zero, List.set_cons_succ] at hp; simp only [put_some, put_none, List.set_cons_succ, List.set_cons_zero]) | (refine wpList_buildSlice_hp hp _ _ _ rfl (by first | exact wanted_none rfl | exact wanted_yes rfl rfl rfl rfl) _ _ (by intro w; go_simp; rfl) ?_; clear hp; intro b w1 hp; simp only [List.length_cons, List.length_nil, Nat.reduceAdd] at hp; simp only [put_some, put_none, List.set_cons_succ, List.set_cons_zero]) | (refine wpList_loadRow_hp hp _ _ rfl (by first | exact wanted_none rfl | exact wanted_yes rfl rfl rfl rfl) _ _ (slot_tmp rfl) _ (by first | exact agg57 | exact agg23) _ HX.out (by rfl) ?_; simp only [put_some, put_none, List.set_cons_succ, List.set_cons_zero]) | (refine wpList_loadRowOne_hp hp _ _ rfl (by first | exact wanted_none rfl | exact wanted_yes rfl rfl rfl rfl) _ _ (slot_tmp rfl) (by first | exact cell3 | exact cell4 | exact cell5 | exact cell25) _ (HX.out 0 _ rfl) ?_; simp only [put_some, put_none, List.set_cons_succ, List.set_cons_zero]))
            go_roundg (n - (q + 1))
            case measure => omega
            case rel => exact ⟨q + 1, by omega, by go_num, .inr ⟨g, cap, by omega, rfl, by omega, hcm, by rw [HS.out]; exact hp⟩⟩
    · have e2 : decide ((q : Int) < (n : Int)) = false := by simp; omega
      have hq : n = q := by omega
      subst hq
      obtain ⟨a2, c2, L2, rfl, hrowl, hp⟩ := hout.open_
      have hrow := hrowl.now hp
      have HRL := Lib.hid hrowl
      clear hrowl
      have HROW := Lib.hid hrow
      clear hrow hout
      have HCV : RowKit.Hid (∀ w', Keeps w.heap.size w L2 w' → (convert 40 9 (.slice a (bN n) c)).run Try.prog w' = .ok (.string (strOfNums (nI bs))) w') :=
        Lib.hid (fun w' hS => conv_row Try.underlying40 Try.underlying5 Try.underlying9 c (by rw [nI_len]; exact HLEN.out) (by rw [nI_cells]; exact hS.row HA.out))
      have HC2 : RowKit.Hid ((nI (byL (cutB bs n) (bN n))).length = bN n) := Lib.hid (by rw [nI_len, byL_len])
      go_wp2_with fail
      refine wp_region_keeps _ (Keeps.all hp.drew) [] [(0, true), (3, true), (4, true), (1, false), (2, false), (5, true)] (by kernel_rfl) (by kernel_rfl) rfl (by kernel_rfl) (fun _ _ d _ _ h => by cases d <;> exact h) ?_
      replace hp := hp.drew
      (refine plan_move rfl _ rfl (by first | exact wanted_none rfl | exact wanted_yes rfl rfl rfl rfl) ?_)
      try simp only [put_some, put_none, eval_tmp, eval_const, List.set_cons_succ, List.set_cons_zero, List.getD_cons_succ, List.getD_cons_zero, wrap_eq]
      (refine plan_move rfl _ rfl (by first | exact wanted_none rfl | exact wanted_yes rfl rfl rfl rfl) ?_)
      try simp only [put_some, put_none, eval_tmp, eval_const, List.set_cons_succ, List.set_cons_zero, List.getD_cons_succ, List.getD_cons_zero, wrap_eq]
      (refine plan_conv rfl _ _ _ rfl (by first | exact wanted_none rfl | exact wanted_yes rfl rfl rfl rfl) _ (slot_tmp rfl) _ (fun w hS => HCV.out w hS) ?_)
      try simp only [put_some, put_none, eval_tmp, eval_const, List.set_cons_succ, List.set_cons_zero, List.getD_cons_succ, List.getD_cons_zero, wrap_eq]
      refine plan_do rfl (fun K hK => ?_)
      go_wp2_with (first | (go_at_call 22; refine (rb_n bs n hn a2 c2 _ (HROW.out.below (Below.refl _ _).drew)).mono ?_; rintro e w1 ⟨a3, c3, rfl, hr3, hb⟩; have HR3 := Lib.hid hr3; have HB9 := Lib.hid hb; replace hp := hp.call hb; clear hb hr3) | (refine wpList_conv_row _ _ 5 _ rfl (by first | exact wanted_none rfl | exact wanted_yes rfl rfl rfl rfl) Try.underlying40 Try.underlying5 Try.underlying9 _ _ _ (slot_tmp rfl) (nI (byL (cutB bs n) (bN n))) HC2.out (by rw [nI_cells]; exact HR3.out) ?_; simp only [put_some, put_none, List.set_cons_succ, List.set_cons_zero]))
      refine hK.out _ _ (.inr (Keeps.all hp)) ?_
      clear hK K
      try simp only [put_some, put_none, eval_tmp, eval_const, List.set_cons_succ, List.set_cons_zero, List.getD_cons_succ, List.getD_cons_zero, wrap_eq]
      refine plan_do rfl (fun K hK => ?_)
      go_wp2_with (first | (go_at_call 22; refine (rb_n bs n hn a2 c2 _ (HROW.out.below (Below.refl _ _).drew)).mono ?_; rintro e w1 ⟨a3, c3, rfl, hr3, hb⟩; have HR3 := Lib.hid hr3; have HB9 := Lib.hid hb; replace hp := hp.call hb; clear hb hr3) | (refine wpList_conv_row _ _ 5 _ rfl (by first | exact wanted_none rfl | exact wanted_yes rfl rfl rfl rfl) Try.underlying40 Try.underlying5 Try.underlying9 _ _ _ (slot_tmp rfl) (nI (byL (cutB bs n) (bN n))) HC2.out (by rw [nI_cells]; exact HR3.out) ?_; simp only [put_some, put_none, List.set_cons_succ, List.set_cons_zero]))
      refine hK.out _ _ (.inr (Keeps.all hp)) ?_
      clear hK K
      try simp only [put_some, put_none, eval_tmp, eval_const, List.set_cons_succ, List.set_cons_zero, List.getD_cons_succ, List.getD_cons_zero, wrap_eq]
      (refine plan_take rfl (by first | exact wanted_none rfl | exact wanted_yes rfl rfl rfl rfl) (fun w _ => (by go_simp; try rfl)) ?_)
      try simp only [put_some, put_none, eval_tmp, eval_const, List.set_cons_succ, List.set_cons_zero, List.getD_cons_succ, List.getD_cons_zero, wrap_eq]
      refine plan_nil ?_
      go_wp2_with fail
      · have hne : byL (cutB bs n) (bN n) ≠ bs := by
          have h : (!(strOfNums (nI (byL (cutB bs n) (bN n)))).toList == (strOfNums (nI bs)).toList) = true := by assumption
          intro he
          rw [he] at h
          simp at h
        go_ret2
        exact .inr ⟨hne, rfl, hp.below⟩
      · have heq : byL (cutB bs n) (bN n) = bs := by
          have h : (!(strOfNums (nI (byL (cutB bs n) (bN n)))).toList == (strOfNums (nI bs)).toList) = false := by assumption
          have h2 : (strOfNums (nI (byL (cutB bs n) (bN n)))).toList = (strOfNums (nI bs)).toList := by simpa using h
          rw [ByteArray.toList_eq, ByteArray.toList_eq] at h2
          exact str_inj (byL_lt _ _) HB.out (bytes_inj h2)
        have HE := Lib.hid heq
        clear heq
        go_ret2
        exact .inl ⟨HE.out, a2, c2, L2, rfl, HRL.out, fun p hpL => hp.own p hpL, hp.below⟩
end Go.Proofs.Ytfnadjlnnfmnmaa
