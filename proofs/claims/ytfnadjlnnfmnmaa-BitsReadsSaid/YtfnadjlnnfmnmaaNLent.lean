/- The walks of Lent and Kept. -/
import Derived.Test.YtfnadjlnnfmnmaaNConv
set_option linter.unusedSimpArgs false
set_option linter.unusedVariables false
namespace Go.Proofs.Ytfnadjlnnfmnmaa
open Go.RowKit Go.WideShapes

section
variable {P : Program} {ops : Array Oper} {rest : List Oper} {o : Oper} {a : Act} {w : World} {Q : Exit → Act → World → Prop} {w0 : World} {L : List Blk}
theorem wpList_appendRow0_hp {B : Nat} (hp : Hp B w0 w L) (s x : Operand) (t : TypeId)
    (ho : o.op = .call { callee := .builtin .append, args := #[s, x], argTypes := #[t, t] }) (hw : Region.wanted o (yielded ops a.tmps) = true)
    (e : TypeId) (i : TypeInfo) (z : Value) (c bytes : Nat) (ht : P.underlying t = some (.slice e)) (hi : P.info? e = some i) (hz : i.zero = some z)
    (hsize : i.size = c) (hby : i.bytes = bytes) (hzs : z.cells.size = c) (hc0 : 0 < c) (hs : a.eval s = .slice none 0 0) (ad : Option Addr) (m cc : Nat) (hx : a.eval x = .slice ad m cc) (xs : List Value) (hl : xs.length = m * c) (hr : RowIs w ad xs)
    (h1 : xs.all (·.oneCell') = true) (h63 : m ≤ maxLen) (hbytes : m * bytes ≤ 140737488355328) (hm : m = 0)
    (h : wpList P ops Q rest (a.put o.dst (.slice none 0 0)) w) : wpList P ops Q (o :: rest) a w :=
  wpList_appendRow_hp hp s x t ho hw e i z c bytes ht hi hz hsize hby hzs hc0 hs ad m cc hx xs hl hr h1 h63 hbytes (fun _ => h) (fun g cap w' h0 => by omega)
theorem wpList_appendRow1_hp {B : Nat} (hp : Hp B w0 w L) (s x : Operand) (t : TypeId)
    (ho : o.op = .call { callee := .builtin .append, args := #[s, x], argTypes := #[t, t] }) (hw : Region.wanted o (yielded ops a.tmps) = true)
    (e : TypeId) (i : TypeInfo) (z : Value) (c bytes : Nat) (ht : P.underlying t = some (.slice e)) (hi : P.info? e = some i) (hz : i.zero = some z)
    (hsize : i.size = c) (hby : i.bytes = bytes) (hzs : z.cells.size = c) (hc0 : 0 < c) (hs : a.eval s = .slice none 0 0) (ad : Option Addr) (m cc : Nat) (hx : a.eval x = .slice ad m cc) (xs : List Value) (hl : xs.length = m * c) (hr : RowIs w ad xs)
    (h1 : xs.all (·.oneCell') = true) (h63 : m ≤ maxLen) (hbytes : m * bytes ≤ 140737488355328) (hm : 0 < m)
    (h : ∀ g cap w', m ≤ cap → cap ≤ maxLen → Hp B w0 w' (⟨g, xs, e, cap * c⟩ :: L) → wpList P ops Q rest (a.put o.dst (.slice (some ⟨g, 0, none⟩) m cap)) w') : wpList P ops Q (o :: rest) a w :=
  wpList_appendRow_hp hp s x t ho hw e i z c bytes ht hi hz hsize hby hzs hc0 hs ad m cc hx xs hl hr h1 h63 hbytes (fun h0 => by omega) (fun g cap w' _ h2 h3 h4 => h g cap w' h2 h3 h4)
end

/-- What is lent: the bytes, and six more behind them. -/
def lentC (bs : List Nat) (q : Nat) : List Value := bs.flatMap byV ++ List.replicate q (Value.int .u8 157)
theorem lentC_len (bs : List Nat) (q : Nat) : (lentC bs q).length = bs.length + q := by simp [lentC, flat_len byV 1 byV_len]
theorem lentC_succ (bs : List Nat) (q : Nat) : lentC bs q ++ [Value.int .u8 157] = lentC bs (q + 1) := by
  unfold lentC
  rw [List.append_assoc, List.replicate_succ']
def LentAt (B : Nat) (w0 : World) (bs : List Nat) (n q : Nat) (v : Value) (w : World) : Prop :=
  (RowKit.Hid (n + q = 0) ∧ v = .slice none 0 0 ∧ Hp B w0 w []) ∨ ∃ g cap, 0 < n + q ∧ v = .slice (some ⟨g, 0, none⟩) (n + q) cap ∧ n + q ≤ cap ∧ cap ≤ maxLen ∧ Hp B w0 w [⟨g, lentC bs q, 5, cap * 1⟩]
def LentPost (w : World) (bs : List Nat) (n : Nat) (e : Ending) (w' : World) : Prop := ∃ g cap, e = .returned (.slice (some ⟨g, 0, none⟩) n cap) ∧ n + 6 ≤ cap ∧ cap ≤ maxLen ∧ Fresh w w' ⟨g, lentC bs 6, 5, cap * 1⟩ ∧ Below w.heap.size w w'
set_option maxRecDepth 100000 in
set_option maxHeartbeats 8000000 in
theorem lent24 (bs : List Nat) (n : Nat) (hn : n ≤ 5000) (hlen : bs.length = n) (a : Option Addr) (c : Nat) (w : World) (ha : RowIs w a (bs.flatMap byV)) :
    Calls Try.prog 24 #[.slice a n c] w (LentPost w bs n) := by
  obtain ⟨i0, hi0, hz0, hz1, hz2⟩ := info_parts info5
  have hp := Hp.start w
  have HA := Lib.hid ha
  have HLEN := Lib.hid hlen
  have HL1 : RowKit.Hid ((bs.flatMap byV).length = n * 1) := Lib.hid (by rw [flat_len byV 1 byV_len, hlen])
  have HO : RowKit.Hid ((bs.flatMap byV).all (·.oneCell') = true) := Lib.hid (by rw [fl_by, List.all_map]; exact List.all_eq_true.2 fun _ _ => rfl)
  clear ha hlen
  have hs1 : n ≤ maxLen := by unfold maxLen; omega
  have hs2 : n * 1 ≤ 140737488355328 := by omega
  have hst : (n = 0) ∨ 0 < n := Nat.eq_zero_or_pos n
  rcases hst with hn0 | hn0
  all_goals
    have HN0 := Lib.hid hn0
    clear hn0
    go_enter Try.func24, Try.ntmps24
    go_wp2_with (first | (refine wpList_appendRow0_hp hp _ _ _ rfl (by first | exact wanted_none rfl | exact wanted_yes rfl rfl rfl rfl) 5 i0 _ 1 1 Try.underlying40 hi0 hz0 hz1 hz2 rfl (by decide) (slot_tmp rfl) _ _ _ (slot_tmp rfl) (bs.flatMap byV) HL1.out HA.out HO.out hs1 hs2 HN0.out ?_; simp only [put_some, put_none, List.set_cons_succ, List.set_cons_zero]) | (refine wpList_appendRow1_hp hp _ _ _ rfl (by first | exact wanted_none rfl | exact wanted_yes rfl rfl rfl rfl) 5 i0 _ 1 1 Try.underlying40 hi0 hz0 hz1 hz2 rfl (by decide) (slot_tmp rfl) _ _ _ (slot_tmp rfl) (bs.flatMap byV) HL1.out HA.out HO.out hs1 hs2 HN0.out ?_; clear hp; intro g cap w1 hnc hcm hp; simp only [put_some, put_none, List.set_cons_succ, List.set_cons_zero]))
    go_loopg [3, 4] 6 (fun k v i wr => ∃ q : Nat, k + q = 6 ∧ i = .int .i64 q ∧ LentAt w.heap.size w bs n q v wr)
    case atStart => first
      | exact ⟨0, by omega, rfl, .inl ⟨Lib.hid (by have := HN0.out; omega), rfl, hp⟩⟩
      | exact ⟨0, by omega, rfl, .inr ⟨g, cap, by have := HN0.out; omega, rfl, by omega, hcm, by unfold lentC; rw [List.replicate_zero, List.append_nil]; exact hp⟩⟩
    case round =>
      try clear hp
      obtain ⟨q, hkq, rfl, hout⟩ := hrel
      have HLN : RowKit.Hid ((lentC bs q).length = (n + q) * 1) := Lib.hid (by rw [lentC_len, HLEN.out, Nat.mul_one])
      have HS := Lib.hid (lentC_succ bs q)
      by_cases hlt : q < 6
      · have e2 : (q : Int) < 6 := by omega
        have hsm1 : n + q + 1 ≤ maxLen := by unfold maxLen; omega
        have hsm2 : (n + q + 1) * 1 ≤ 140737488355328 := by omega
        rcases hout with ⟨h0, rfl, hp⟩ | ⟨g, cap, h0, rfl, hnc, hcm, hp⟩
        · have HZ : RowKit.Hid (lentC bs q = []) := Lib.hid (List.eq_nil_of_length_eq_zero (by rw [lentC_len, HLEN.out]; exact h0.out))
          go_wp2_with (first | (refine wpList_appendNew_hp hp _ _ _ rfl (by first | exact wanted_none rfl | exact wanted_yes rfl rfl rfl rfl) 5 i0 _ 1 1 Try.underlying40 hi0 hz0 hz1 hz2 rfl (by decide) (slot_tmp rfl) _ _ (slot_tmp rfl) (by rfl) (by decide) (by rfl) (by decide) (by decide) ?_; clear hp; intro g cap w1 hnc hcm hp; simp only [put_some, put_none, List.set_cons_succ, List.set_cons_zero]) | go_skip | (refine wpList_box_hp hp _ _ rfl (by first | exact wanted_none rfl | exact wanted_yes rfl rfl rfl rfl) _ (slot_tmp rfl) _ rfl _ (by simp only [List.length_cons, List.length_nil, Nat.reduceAdd]; rfl) ?_; clear hp; intro b w1 hp; simp only [put_some, put_none, List.set_cons_succ, List.set_cons_zero]) | (refine wpList_loadAgg_hp hp _ _ rfl (by first | exact wanted_none rfl | exact wanted_yes rfl rfl rfl rfl) _ _ (slot_tmp rfl) _ (by first | exact agg57 | exact agg23) _ _ _ _ (by first | exact at0 | exact at1 | exact at2 | exact at3 | exact at4 | exact at5 | exact at6 | exact at7 | exact at8 | exact at9 | exact at10 | exact at11 | exact at12 | exact at13) _ (by simp only [List.drop_zero, List.drop_succ_cons, List.take_succ_cons, List.take_zero, List.take_nil]; rfl) (by rfl) ?_; simp only [put_some, put_none, List.set_cons_succ, List.set_cons_zero]) | (refine wpList_loadOne_hp hp _ _ rfl (by first | exact wanted_none rfl | exact wanted_yes rfl rfl rfl rfl) _ _ (slot_tmp rfl) (by first | exact cell3 | exact cell4 | exact cell5 | exact cell25) _ _ _ _ (by first | exact at0 | exact at1 | exact at2 | exact at3 | exact at4 | exact at5 | exact at6 | exact at7 | exact at8 | exact at9 | exact at10 | exact at11 | exact at12 | exact at13) _ (by rfl) ?_; simp only [put_some, put_none, List.set_cons_succ, List.set_cons_zero]) | (refine wpList_storeAll_hp hp _ _ _ rfl (by first | exact wanted_none rfl | exact wanted_yes rfl rfl rfl rfl) _ (slot_tmp rfl) _ (slot_tmp rfl) (by first | exact agg57 | exact agg23) _ _ _ _ (by first | exact at0 | exact at1 | exact at2 | exact at3 | exact at4 | exact at5 | exact at6 | exact at7 | exact at8 | exact at9 | exact at10 | exact at11 | exact at12 | exact at13) (by rfl) (by first | rfl | simp [*]) ?_; clear hp; intro w1 hp; simp only [List.set_cons_zero, List.set_cons_succ] at hp; simp only [put_some, put_none, List.set_cons_succ, List.set_cons_zero]) | (refine wpList_storeAgg_hp hp _ _ _ rfl (by first | exact wanted_none rfl | exact wanted_yes rfl rfl rfl rfl) _ _ (slot_tmp rfl) _ (slot_tmp rfl) (by first | exact agg57 | exact agg23) _ _ _ _ (by first | exact at0 | exact at1 | exact at2 | exact at3 | exact at4 | exact at5 | exact at6 | exact at7 | exact at8 | exact at9 | exact at10 | exact at11 | exact at12 | exact at13) (by simp only [List.length_cons, List.length_nil]; omega) (by first | rfl | simp [*]) ?_; clear hp; intro w1 hp; simp only [spl, List.set_cons_zero, List.set_cons_succ] at hp; simp only [put_some, put_none, List.set_cons_succ, List.set_cons_zero]) | (refine wpList_storeOne_hp hp _ _ _ rfl (by first | exact wanted_none rfl | exact wanted_yes rfl rfl rfl rfl) _ _ (slot_tmp rfl) _ (by first | exact slot_tmp rfl | exact slot_const) (by first | exact cell3 | exact cell4 | exact cell5 | exact cell25) _ _ _ _ (by first | exact at0 | exact at1 | exact at2 | exact at3 | exact at4 | exact at5 | exact at6 | exact at7 | exact at8 | exact at9 | exact at10 | exact at11 | exact at12 | exact at13) (by simp only [List.length_cons, List.length_nil]; omega) (by first | rfl | assumption) ?_; clear hp; intro w1 hp; simp only [List.set_cons_zero, List.set_cons_succ] at hp; simp only [put_some, put_none, List.set_cons_succ, List.set_cons_zero]) | (refine wpList_buildSlice_hp hp _ _ _ rfl (by first | exact wanted_none rfl | exact wanted_yes rfl rfl rfl rfl) _ _ (by intro w; go_simp; rfl) ?_; clear hp; intro b w1 hp; simp only [List.length_cons, List.length_nil, Nat.reduceAdd] at hp; simp only [put_some, put_none, List.set_cons_succ, List.set_cons_zero]))
          go_roundg (gk - 1)
          case measure => omega
          case rel => exact ⟨q + 1, by omega, by go_num, .inr ⟨g, cap, by omega, by rw [show n + (q + 1) = 1 by have := h0.out; omega], by have := h0.out; omega, hcm, by rw [← HS.out, HZ.out]; exact hp⟩⟩
        · go_wp2_with (first | (refine wpList_appendOn_hp hp _ _ _ rfl (by first | exact wanted_none rfl | exact wanted_yes rfl rfl rfl rfl) i0 _ 1 Try.underlying40 hi0 hz0 hz1 hz2 rfl (by decide) (slot_tmp rfl) hnc hcm HLN.out _ _ (slot_tmp rfl) (by rfl) (by decide) (by rfl) hsm1 hsm2 ?_; clear hp hnc hcm; intro g cap w1 hnc hcm hp; simp only [put_some, put_none, List.set_cons_succ, List.set_cons_zero]) | go_skip | (refine wpList_box_hp hp _ _ rfl (by first | exact wanted_none rfl | exact wanted_yes rfl rfl rfl rfl) _ (slot_tmp rfl) _ rfl _ (by simp only [List.length_cons, List.length_nil, Nat.reduceAdd]; rfl) ?_; clear hp; intro b w1 hp; simp only [put_some, put_none, List.set_cons_succ, List.set_cons_zero]) | (refine wpList_loadAgg_hp hp _ _ rfl (by first | exact wanted_none rfl | exact wanted_yes rfl rfl rfl rfl) _ _ (slot_tmp rfl) _ (by first | exact agg57 | exact agg23) _ _ _ _ (by first | exact at0 | exact at1 | exact at2 | exact at3 | exact at4 | exact at5 | exact at6 | exact at7 | exact at8 | exact at9 | exact at10 | exact at11 | exact at12 | exact at13) _ (by simp only [List.drop_zero, List.drop_succ_cons, List.take_succ_cons, List.take_zero, List.take_nil]; rfl) (by rfl) ?_; simp only [put_some, put_none, List.set_cons_succ, List.set_cons_zero]) | (refine wpList_loadOne_hp hp _ _ rfl (by first | exact wanted_none rfl | exact wanted_yes rfl rfl rfl rfl) _ _ (slot_tmp rfl) (by first | exact cell3 | exact cell4 | exact cell5 | exact cell25) _ _ _ _ (by first | exact at0 | exact at1 | exact at2 | exact at3 | exact at4 | exact at5 | exact at6 | exact at7 | exact at8 | exact at9 | exact at10 | exact at11 | exact at12 | exact at13) _ (by rfl) ?_; simp only [put_some, put_none, List.set_cons_succ, List.set_cons_zero]) | (refine wpList_storeAll_hp hp _ _ _ rfl (by first | exact wanted_none rfl | exact wanted_yes rfl rfl rfl rfl) _ (slot_tmp rfl) _ (slot_tmp rfl) (by first | exact agg57 | exact agg23) _ _ _ _ (by first | exact at0 | exact at1 | exact at2 | exact at3 | exact at4 | exact at5 | exact at6 | exact at7 | exact at8 | exact at9 | exact at10 | exact at11 | exact at12 | exact at13) (by rfl) (by first | rfl | simp [*]) ?_; clear hp; intro w1 hp; simp only [List.set_cons_zero, List.set_cons_succ] at hp; simp only [put_some, put_none, List.set_cons_succ, List.set_cons_zero]) | (refine wpList_storeAgg_hp hp _ _ _ rfl (by first | exact wanted_none rfl | exact wanted_yes rfl rfl rfl rfl) _ _ (slot_tmp rfl) _ (slot_tmp rfl) (by first | exact agg57 | exact agg23) _ _ _ _ (by first | exact at0 | exact at1 | exact at2 | exact at3 | exact at4 | exact at5 | exact at6 | exact at7 | exact at8 | exact at9 | exact at10 | exact at11 | exact at12 | exact at13) (by simp only [List.length_cons, List.length_nil]; omega) (by first | rfl | simp [*]) ?_; clear hp; intro w1 hp; simp only [spl, List.set_cons_zero, List.set_cons_succ] at hp; simp only [put_some, put_none, List.set_cons_succ, List.set_cons_zero]) | (refine wpList_storeOne_hp hp _ _ _ rfl (by first | exact wanted_none rfl | exact wanted_yes rfl rfl rfl rfl) _ _ (slot_tmp rfl) _ (by first | exact slot_tmp rfl | exact slot_const) (by first | exact cell3 | exact cell4 | exact cell5 | exact cell25) _ _ _ _ (by first | exact at0 | exact at1 | exact at2 | exact at3 | exact at4 | exact at5 | exact at6 | exact at7 | exact at8 | exact at9 | exact at10 | exact at11 | exact at12 | exact at13) (by simp only [List.length_cons, List.length_nil]; omega) (by first | rfl | assumption) ?_; clear hp; intro w1 hp; simp only [List.set_cons_zero, List.set_cons_succ] at hp; simp only [put_some, put_none, List.set_cons_succ, List.set_cons_zero]) | (refine wpList_buildSlice_hp hp _ _ _ rfl (by first | exact wanted_none rfl | exact wanted_yes rfl rfl rfl rfl) _ _ (by intro w; go_simp; rfl) ?_; clear hp; intro b w1 hp; simp only [List.length_cons, List.length_nil, Nat.reduceAdd] at hp; simp only [put_some, put_none, List.set_cons_succ, List.set_cons_zero]))
          go_roundg (gk - 1)
          case measure => omega
          case rel => exact ⟨q + 1, by omega, by go_num, .inr ⟨g, cap, by omega, rfl, by omega, hcm, by rw [← HS.out]; exact hp⟩⟩
      · have e2 : decide ((q : Int) < 6) = false := by simp; omega
        have hq : q = 6 := by omega
        rcases hout with ⟨h0, rfl, hp⟩ | ⟨g, cap, h0, rfl, hnc, hcm, hp⟩
        · exact absurd h0.out (by omega)
        · have e3 : (n : Int) ≤ (cap : Int) := by omega
          have hc6 : n + 6 ≤ cap := by omega
          rw [hq] at hp
          clear hq
          go_wp2_with (first | go_skip | (refine wpList_box_hp hp _ _ rfl (by first | exact wanted_none rfl | exact wanted_yes rfl rfl rfl rfl) _ (slot_tmp rfl) _ rfl _ (by simp only [List.length_cons, List.length_nil, Nat.reduceAdd]; rfl) ?_; clear hp; intro b w1 hp; simp only [put_some, put_none, List.set_cons_succ, List.set_cons_zero]) | (refine wpList_loadAgg_hp hp _ _ rfl (by first | exact wanted_none rfl | exact wanted_yes rfl rfl rfl rfl) _ _ (slot_tmp rfl) _ (by first | exact agg57 | exact agg23) _ _ _ _ (by first | exact at0 | exact at1 | exact at2 | exact at3 | exact at4 | exact at5 | exact at6 | exact at7 | exact at8 | exact at9 | exact at10 | exact at11 | exact at12 | exact at13) _ (by simp only [List.drop_zero, List.drop_succ_cons, List.take_succ_cons, List.take_zero, List.take_nil]; rfl) (by rfl) ?_; simp only [put_some, put_none, List.set_cons_succ, List.set_cons_zero]) | (refine wpList_loadOne_hp hp _ _ rfl (by first | exact wanted_none rfl | exact wanted_yes rfl rfl rfl rfl) _ _ (slot_tmp rfl) (by first | exact cell3 | exact cell4 | exact cell5 | exact cell25) _ _ _ _ (by first | exact at0 | exact at1 | exact at2 | exact at3 | exact at4 | exact at5 | exact at6 | exact at7 | exact at8 | exact at9 | exact at10 | exact at11 | exact at12 | exact at13) _ (by rfl) ?_; simp only [put_some, put_none, List.set_cons_succ, List.set_cons_zero]) | (refine wpList_storeAll_hp hp _ _ _ rfl (by first | exact wanted_none rfl | exact wanted_yes rfl rfl rfl rfl) _ (slot_tmp rfl) _ (slot_tmp rfl) (by first | exact agg57 | exact agg23) _ _ _ _ (by first | exact at0 | exact at1 | exact at2 | exact at3 | exact at4 | exact at5 | exact at6 | exact at7 | exact at8 | exact at9 | exact at10 | exact at11 | exact at12 | exact at13) (by rfl) (by first | rfl | simp [*]) ?_; clear hp; intro w1 hp; simp only [List.set_cons_zero, List.set_cons_succ] at hp; simp only [put_some, put_none, List.set_cons_succ, List.set_cons_zero]) | (refine wpList_storeAgg_hp hp _ _ _ rfl (by first | exact wanted_none rfl | exact wanted_yes rfl rfl rfl rfl) _ _ (slot_tmp rfl) _ (slot_tmp rfl) (by first | exact agg57 | exact agg23) _ _ _ _ (by first | exact at0 | exact at1 | exact at2 | exact at3 | exact at4 | exact at5 | exact at6 | exact at7 | exact at8 | exact at9 | exact at10 | exact at11 | exact at12 | exact at13) (by simp only [List.length_cons, List.length_nil]; omega) (by first | rfl | simp [*]) ?_; clear hp; intro w1 hp; simp only [spl, List.set_cons_zero, List.set_cons_succ] at hp; simp only [put_some, put_none, List.set_cons_succ, List.set_cons_zero]) | (refine wpList_storeOne_hp hp _ _ _ rfl (by first | exact wanted_none rfl | exact wanted_yes rfl rfl rfl rfl) _ _ (slot_tmp rfl) _ (by first | exact slot_tmp rfl | exact slot_const) (by first | exact cell3 | exact cell4 | exact cell5 | exact cell25) _ _ _ _ (by first | exact at0 | exact at1 | exact at2 | exact at3 | exact at4 | exact at5 | exact at6 | exact at7 | exact at8 | exact at9 | exact at10 | exact at11 | exact at12 | exact at13) (by simp only [List.length_cons, List.length_nil]; omega) (by first | rfl | assumption) ?_; clear hp; intro w1 hp; simp only [List.set_cons_zero, List.set_cons_succ] at hp; simp only [put_some, put_none, List.set_cons_succ, List.set_cons_zero]) | (refine wpList_buildSlice_hp hp _ _ _ rfl (by first | exact wanted_none rfl | exact wanted_yes rfl rfl rfl rfl) _ _ (by intro w; go_simp; rfl) ?_; clear hp; intro b w1 hp; simp only [List.length_cons, List.length_nil, Nat.reduceAdd] at hp; simp only [put_some, put_none, List.set_cons_succ, List.set_cons_zero]))
          go_ret
          exact ⟨g, cap, rfl, hc6, hcm, hp.fresh at0, hp.below⟩

theorem RowIs.front {w : World} {a : Option Addr} {xs ys : List Value} (h : RowIs w a (xs ++ ys)) : RowIs w a xs := fun j v hj => h j v (by
  have : j < xs.length := (List.getElem?_eq_some_iff.1 hj).1
  rw [List.getElem?_append_left this]; exact hj)
set_option maxRecDepth 100000 in
set_option maxHeartbeats 4000000 in
theorem kept26 (bs : List Nat) (n : Nat) (hn : n ≤ 5000) (hlen : bs.length = n) (g cap : Nat) (hcap : n + 6 ≤ cap) (hcm : cap ≤ maxLen) (a : Option Addr) (c : Nat) (w : World) (hx : RowIs w (some ⟨g, 0, none⟩) (lentC bs 6)) (ha : RowIs w a (bs.flatMap byV)) :
    Calls Try.prog 26 #[.slice (some ⟨g, 0, none⟩) n cap, .slice a n c] w fun e w' => e = .returned (.bool true) ∧ w = w' := by
  have HA := Lib.hid ha
  have HX := Lib.hid hx
  have HL : RowKit.Hid ((nI bs).length = n) := Lib.hid (by rw [nI_len]; exact hlen)
  have HLEN := Lib.hid hlen
  clear ha hx hlen
  unfold maxLen at hcm
  have e1 : (n : Int) + 6 ≤ (cap : Int) := by omega
  go_enter Try.func26, Try.ntmps26
  go_wp2_with (refine wpList_conv_row _ _ 5 _ rfl (by first | exact wanted_none rfl | exact wanted_yes rfl rfl rfl rfl) Try.underlying40 Try.underlying5 Try.underlying9 _ _ _ (slot_tmp rfl) (nI bs) HL.out (by first | (rw [nI_cells]; exact HX.out.front) | (rw [nI_cells]; exact HA.out)) ?_; simp only [put_some, put_none, List.set_cons_succ, List.set_cons_zero])
  go_loop [6] (fun i => ∃ q : Nat, q ≤ 6 ∧ i = .int .i64 (n + q : Nat)) (fun i => n + 6 - (intOf i).toNat)
  case atStart => exact ⟨0, by omega, rfl⟩
  case round =>
    obtain ⟨q, hq, rfl⟩ := hrel
    by_cases hlt : q < 6
    · have hcell : w.cell? ⟨g, n + q, none⟩ = some (.int .u8 157) := by
        obtain ⟨b', off', he, hc⟩ := HX.out (n + q) (.int .u8 157) (by
          unfold lentC
          rw [List.getElem?_append_right (by rw [flat_len byV 1 byV_len, HLEN.out]; omega), flat_len byV 1 byV_len, HLEN.out]
          rw [List.getElem?_replicate, if_pos (by omega)])
        injection he with he
        injection he with h1 h2
        subst h1; subst h2
        rw [Nat.zero_add] at hc; exact hc
      have hx1 : n + q < n + 6 := by omega
      have hx2 : n + (q + 1) = n + q + 1 := by omega
      have HX2 := Lib.hid hx2
      clear hx2
      generalize n + q = x at *
      have e2 : (x : Int) < (n : Int) + 6 := by omega
      have e3 : (0 : Int) ≤ (x : Int) := by omega
      go_wp2
      go_round
      case rel => exact ⟨q + 1, by omega, by rw [HX2.out]; go_num⟩
      case measure => simp [intOf]; omega
    · have hq6 : q = 6 := by omega
      have e2 : decide (((n + q : Nat) : Int) < (n : Int) + 6) = false := by simp; omega
      clear hq6
      go_wp2
      go_ret
      exact ⟨rfl, rfl⟩
end Go.Proofs.Ytfnadjlnnfmnmaa
