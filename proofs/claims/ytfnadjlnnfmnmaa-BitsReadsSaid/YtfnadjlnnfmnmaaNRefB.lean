/- The walk of the document's Bytes. -/
import Derived.Test.YtfnadjlnnfmnmaaNRefS
set_option linter.unusedSimpArgs false
set_option linter.unusedVariables false
namespace Go.Proofs.Ytfnadjlnnfmnmaa
open Go.RowKit
/-- What has been laid so far. -/
def OutAt (B : Nat) (w0 : World) (f : Nat → Bool) (q : Nat) (v : Value) (w : World) : Prop :=
  (q = 0 ∧ v = .slice none 0 0 ∧ Hp B w0 w []) ∨ ∃ g cap, 0 < q ∧ v = .slice (some ⟨g, 0, none⟩) ((q + 7) / 8) cap ∧ (q + 7) / 8 ≤ cap ∧ cap ≤ maxLen ∧ Hp B w0 w [⟨g, bytesOf (cutL f q) ((q + 7) / 8), 5, cap * 1⟩]
def RBytes (w : World) (l : List Bool) (e : Ending) (w' : World) : Prop :=
  (l = [] ∧ e = .returned (.slice none 0 0) ∧ Below w.heap.size w w') ∨ ∃ g cap, e = .returned (.slice (some ⟨g, 0, none⟩) (bN l.length) cap) ∧ Fresh w w' ⟨g, bytesOf (lf l) (bN l.length), 5, cap * 1⟩ ∧ Below w.heap.size w w'
set_option maxRecDepth 100000 in
set_option maxHeartbeats 8000000 in
theorem rbytes22 (l : List Bool) (hl : l.length ≤ 4096) (a : Option Addr) (c : Nat) (w : World) (ha : RowIs w a (l.flatMap boV)) :
    Calls Try.prog 22 #[.slice a l.length c] w (RBytes w l) := by
  obtain ⟨i0, hi0, hz0, hz1, hz2⟩ := info_parts info5
  have hp := Hp.start w
  have HA := Lib.hid ha
  clear ha
  go_enter Try.func22, Try.ntmps22
  go_wp2_with (first | go_skip | (refine wpList_box_hp hp _ _ rfl (by first | exact wanted_none rfl | exact wanted_yes rfl rfl rfl rfl) _ (slot_tmp rfl) _ rfl _ (by simp only [List.length_cons, List.length_nil, Nat.reduceAdd]; rfl) ?_; clear hp; intro b w1 hp; simp only [put_some, put_none, List.set_cons_succ, List.set_cons_zero]) | (refine wpList_loadAgg_hp hp _ _ rfl (by first | exact wanted_none rfl | exact wanted_yes rfl rfl rfl rfl) _ _ (slot_tmp rfl) _ (by first | exact agg57 | exact agg23) _ _ _ _ (by first | exact at0 | exact at1 | exact at2 | exact at3 | exact at4 | exact at5 | exact at6 | exact at7 | exact at8 | exact at9 | exact at10 | exact at11 | exact at12 | exact at13) _ (by simp only [List.drop_zero, List.drop_succ_cons, List.take_succ_cons, List.take_zero, List.take_nil]; rfl) (by rfl) ?_; simp only [put_some, put_none, List.set_cons_succ, List.set_cons_zero]) | (refine wpList_loadOne_hp hp _ _ rfl (by first | exact wanted_none rfl | exact wanted_yes rfl rfl rfl rfl) _ _ (slot_tmp rfl) (by first | exact cell3 | exact cell4 | exact cell5 | exact cell25) _ _ _ _ (by first | exact at0 | exact at1 | exact at2 | exact at3 | exact at4 | exact at5 | exact at6 | exact at7 | exact at8 | exact at9 | exact at10 | exact at11 | exact at12 | exact at13) _ (by rfl) ?_; simp only [put_some, put_none, List.set_cons_succ, List.set_cons_zero]) | (refine wpList_storeAll_hp hp _ _ _ rfl (by first | exact wanted_none rfl | exact wanted_yes rfl rfl rfl rfl) _ (slot_tmp rfl) _ (slot_tmp rfl) (by first | exact agg57 | exact agg23) _ _ _ _ (by first | exact at0 | exact at1 | exact at2 | exact at3 | exact at4 | exact at5 | exact at6 | exact at7 | exact at8 | exact at9 | exact at10 | exact at11 | exact at12 | exact at13) (by rfl) (by first | rfl | simp [*]) ?_; clear hp; intro w1 hp; simp only [List.set_cons_zero, List.set_cons_succ] at hp; simp only [put_some, put_none, List.set_cons_succ, List.set_cons_zero]) | (refine wpList_storeAgg_hp hp _ _ _ rfl (by first | exact wanted_none rfl | exact wanted_yes rfl rfl rfl rfl) _ _ (slot_tmp rfl) _ (slot_tmp rfl) (by first | exact agg57 | exact agg23) _ _ _ _ (by first | exact at0 | exact at1 | exact at2 | exact at3 | exact at4 | exact at5 | exact at6 | exact at7 | exact at8 | exact at9 | exact at10 | exact at11 | exact at12 | exact at13) (by simp only [List.length_cons, List.length_nil]; omega) (by first | rfl | simp [*]) ?_; clear hp; intro w1 hp; simp only [spl, List.set_cons_zero, List.set_cons_succ] at hp; simp only [put_some, put_none, List.set_cons_succ, List.set_cons_zero]) | (refine wpList_storeOne_hp hp _ _ _ rfl (by first | exact wanted_none rfl | exact wanted_yes rfl rfl rfl rfl) _ _ (slot_tmp rfl) _ (by first | exact slot_tmp rfl | exact slot_const) (by first | exact cell3 | exact cell4 | exact cell5 | exact cell25) _ _ _ _ (by first | exact at0 | exact at1 | exact at2 | exact at3 | exact at4 | exact at5 | exact at6 | exact at7 | exact at8 | exact at9 | exact at10 | exact at11 | exact at12 | exact at13) (by simp only [List.length_cons, List.length_nil]; omega) (by first | rfl | assumption) ?_; clear hp; intro w1 hp; simp only [List.set_cons_zero, List.set_cons_succ] at hp; simp only [put_some, put_none, List.set_cons_succ, List.set_cons_zero]) | (refine wpList_buildSlice_hp hp _ _ _ rfl (by first | exact wanted_none rfl | exact wanted_yes rfl rfl rfl rfl) _ _ (by intro w; go_simp; rfl) ?_; clear hp; intro b w1 hp; simp only [List.length_cons, List.length_nil, Nat.reduceAdd] at hp; simp only [put_some, put_none, List.set_cons_succ, List.set_cons_zero]))
  go_loopg [3, 4] l.length (fun k v i wr => ∃ q : Nat, k + q = l.length ∧ i = .int .i64 q ∧ OutAt w.heap.size w (lf l) q v wr)
  case atStart => exact ⟨0, by omega, rfl, .inl ⟨rfl, rfl, hp⟩⟩
  case round =>
    clear hp
    obtain ⟨q, hkq, rfl, hout⟩ := hrel
    by_cases hlt : q < l.length
    · obtain ⟨bq, off, rfl, hx⟩ := HA.out.elems 1 boV_len (by omega) (by omega)
      have hj := List.getElem?_eq_getElem hlt
      have hlq : lf l q = l[q] := by simp [lf, List.getD, hj]
      replace hx := hx q _ hj
      generalize l[q] = u at hx hlq
      simp only [boV, Nat.mul_one] at hx
      have HX := Lib.hid hx
      have HU := Lib.hid hlq
      clear hx hj hlq
      have e1 : (0 : Int) ≤ (q : Int) := by omega
      have e2 : (q : Int) < (l.length : Int) := by omega
      have hq4 : q < 4096 := by omega
      rcases hout with ⟨h0, rfl, hp⟩ | ⟨g, cap, h0, rfl, hnc, hcm, hp⟩
      · have d8 : (q : Int) % 8 = 0 := by omega
        have BN := Lib.hid (bytes_new (lf l) q (by omega))
        have BZ : RowKit.Hid (bytesOf (cutL (lf l) q) ((q + 7) / 8) = []) := Lib.hid (by rw [show (q + 7) / 8 = 0 by omega]; rfl)
        have H0 := Lib.hid h0
        have e0 : decide (0 < l.length) = true := by simp; omega
        clear h0
        skip
        cases u
        · have HC := Lib.hid (cutL_off (lf l) q HU.out)
          go_wp2_with (first | (refine wpList_appendNew_hp hp _ _ _ rfl (by first | exact wanted_none rfl | exact wanted_yes rfl rfl rfl rfl) 5 i0 _ 1 1 Try.underlying40 hi0 hz0 hz1 hz2 rfl (by decide) (slot_tmp rfl) _ _ (slot_tmp rfl) (by rfl) (by decide) (by rfl) (by decide) (by decide) ?_; clear hp; intro g cap w1 hnc hcm hp; simp only [put_some, put_none, List.set_cons_succ, List.set_cons_zero]) | go_skip | (refine wpList_box_hp hp _ _ rfl (by first | exact wanted_none rfl | exact wanted_yes rfl rfl rfl rfl) _ (slot_tmp rfl) _ rfl _ (by simp only [List.length_cons, List.length_nil, Nat.reduceAdd]; rfl) ?_; clear hp; intro b w1 hp; simp only [put_some, put_none, List.set_cons_succ, List.set_cons_zero]) | (refine wpList_loadAgg_hp hp _ _ rfl (by first | exact wanted_none rfl | exact wanted_yes rfl rfl rfl rfl) _ _ (slot_tmp rfl) _ (by first | exact agg57 | exact agg23) _ _ _ _ (by first | exact at0 | exact at1 | exact at2 | exact at3 | exact at4 | exact at5 | exact at6 | exact at7 | exact at8 | exact at9 | exact at10 | exact at11 | exact at12 | exact at13) _ (by simp only [List.drop_zero, List.drop_succ_cons, List.take_succ_cons, List.take_zero, List.take_nil]; rfl) (by rfl) ?_; simp only [put_some, put_none, List.set_cons_succ, List.set_cons_zero]) | (refine wpList_loadOne_hp hp _ _ rfl (by first | exact wanted_none rfl | exact wanted_yes rfl rfl rfl rfl) _ _ (slot_tmp rfl) (by first | exact cell3 | exact cell4 | exact cell5 | exact cell25) _ _ _ _ (by first | exact at0 | exact at1 | exact at2 | exact at3 | exact at4 | exact at5 | exact at6 | exact at7 | exact at8 | exact at9 | exact at10 | exact at11 | exact at12 | exact at13) _ (by rfl) ?_; simp only [put_some, put_none, List.set_cons_succ, List.set_cons_zero]) | (refine wpList_storeAll_hp hp _ _ _ rfl (by first | exact wanted_none rfl | exact wanted_yes rfl rfl rfl rfl) _ (slot_tmp rfl) _ (slot_tmp rfl) (by first | exact agg57 | exact agg23) _ _ _ _ (by first | exact at0 | exact at1 | exact at2 | exact at3 | exact at4 | exact at5 | exact at6 | exact at7 | exact at8 | exact at9 | exact at10 | exact at11 | exact at12 | exact at13) (by rfl) (by first | rfl | simp [*]) ?_; clear hp; intro w1 hp; simp only [List.set_cons_zero, List.set_cons_succ] at hp; simp only [put_some, put_none, List.set_cons_succ, List.set_cons_zero]) | (refine wpList_storeAgg_hp hp _ _ _ rfl (by first | exact wanted_none rfl | exact wanted_yes rfl rfl rfl rfl) _ _ (slot_tmp rfl) _ (slot_tmp rfl) (by first | exact agg57 | exact agg23) _ _ _ _ (by first | exact at0 | exact at1 | exact at2 | exact at3 | exact at4 | exact at5 | exact at6 | exact at7 | exact at8 | exact at9 | exact at10 | exact at11 | exact at12 | exact at13) (by simp only [List.length_cons, List.length_nil]; omega) (by first | rfl | simp [*]) ?_; clear hp; intro w1 hp; simp only [spl, List.set_cons_zero, List.set_cons_succ] at hp; simp only [put_some, put_none, List.set_cons_succ, List.set_cons_zero]) | (refine wpList_storeOne_hp hp _ _ _ rfl (by first | exact wanted_none rfl | exact wanted_yes rfl rfl rfl rfl) _ _ (slot_tmp rfl) _ (by first | exact slot_tmp rfl | exact slot_const) (by first | exact cell3 | exact cell4 | exact cell5 | exact cell25) _ _ _ _ (by first | exact at0 | exact at1 | exact at2 | exact at3 | exact at4 | exact at5 | exact at6 | exact at7 | exact at8 | exact at9 | exact at10 | exact at11 | exact at12 | exact at13) (by simp only [List.length_cons, List.length_nil]; omega) (by first | rfl | assumption) ?_; clear hp; intro w1 hp; simp only [List.set_cons_zero, List.set_cons_succ] at hp; simp only [put_some, put_none, List.set_cons_succ, List.set_cons_zero]) | (refine wpList_buildSlice_hp hp _ _ _ rfl (by first | exact wanted_none rfl | exact wanted_yes rfl rfl rfl rfl) _ _ (by intro w; go_simp; rfl) ?_; clear hp; intro b w1 hp; simp only [List.length_cons, List.length_nil, Nat.reduceAdd] at hp; simp only [put_some, put_none, List.set_cons_succ, List.set_cons_zero]) | (refine wpList_loadRow_hp hp _ _ rfl (by first | exact wanted_none rfl | exact wanted_yes rfl rfl rfl rfl) _ _ (slot_tmp rfl) _ (by first | exact agg57 | exact agg23) _ HX.out (by rfl) ?_; simp only [put_some, put_none, List.set_cons_succ, List.set_cons_zero]) | (refine wpList_loadRowOne_hp hp _ _ rfl (by first | exact wanted_none rfl | exact wanted_yes rfl rfl rfl rfl) _ _ (slot_tmp rfl) (by first | exact cell3 | exact cell4 | exact cell5 | exact cell25) _ (HX.out 0 _ rfl) ?_; simp only [put_some, put_none, List.set_cons_succ, List.set_cons_zero]))
          have hp2 := hp
          rw [show [Value.int .u8 0] = bytesOf (cutL (lf l) q) (q / 8 + 1) by rw [← BN.out, BZ.out]; rfl] at hp2
          rw [← HC.out] at hp2
          clear hp
          go_roundg (gk - 1)
          case measure => omega
          case rel => exact ⟨q + 1, by omega, by go_num, .inr ⟨g, cap, by omega, by rw [show (q + 1 + 7) / 8 = 1 by have := H0.out; omega], by first | omega | (have := H0.out; omega), hcm, by rw [show (q + 1 + 7) / 8 = q / 8 + 1 by omega]; exact hp2⟩⟩
        · go_wp2_with (first | (refine wpList_appendNew_hp hp _ _ _ rfl (by first | exact wanted_none rfl | exact wanted_yes rfl rfl rfl rfl) 5 i0 _ 1 1 Try.underlying40 hi0 hz0 hz1 hz2 rfl (by decide) (slot_tmp rfl) _ _ (slot_tmp rfl) (by rfl) (by decide) (by rfl) (by decide) (by decide) ?_; clear hp; intro g cap w1 hnc hcm hp; simp only [put_some, put_none, List.set_cons_succ, List.set_cons_zero]) | go_skip | (refine wpList_box_hp hp _ _ rfl (by first | exact wanted_none rfl | exact wanted_yes rfl rfl rfl rfl) _ (slot_tmp rfl) _ rfl _ (by simp only [List.length_cons, List.length_nil, Nat.reduceAdd]; rfl) ?_; clear hp; intro b w1 hp; simp only [put_some, put_none, List.set_cons_succ, List.set_cons_zero]) | (refine wpList_loadAgg_hp hp _ _ rfl (by first | exact wanted_none rfl | exact wanted_yes rfl rfl rfl rfl) _ _ (slot_tmp rfl) _ (by first | exact agg57 | exact agg23) _ _ _ _ (by first | exact at0 | exact at1 | exact at2 | exact at3 | exact at4 | exact at5 | exact at6 | exact at7 | exact at8 | exact at9 | exact at10 | exact at11 | exact at12 | exact at13) _ (by simp only [List.drop_zero, List.drop_succ_cons, List.take_succ_cons, List.take_zero, List.take_nil]; rfl) (by rfl) ?_; simp only [put_some, put_none, List.set_cons_succ, List.set_cons_zero]) | (refine wpList_loadOne_hp hp _ _ rfl (by first | exact wanted_none rfl | exact wanted_yes rfl rfl rfl rfl) _ _ (slot_tmp rfl) (by first | exact cell3 | exact cell4 | exact cell5 | exact cell25) _ _ _ _ (by first | exact at0 | exact at1 | exact at2 | exact at3 | exact at4 | exact at5 | exact at6 | exact at7 | exact at8 | exact at9 | exact at10 | exact at11 | exact at12 | exact at13) _ (by rfl) ?_; simp only [put_some, put_none, List.set_cons_succ, List.set_cons_zero]) | (refine wpList_storeAll_hp hp _ _ _ rfl (by first | exact wanted_none rfl | exact wanted_yes rfl rfl rfl rfl) _ (slot_tmp rfl) _ (slot_tmp rfl) (by first | exact agg57 | exact agg23) _ _ _ _ (by first | exact at0 | exact at1 | exact at2 | exact at3 | exact at4 | exact at5 | exact at6 | exact at7 | exact at8 | exact at9 | exact at10 | exact at11 | exact at12 | exact at13) (by rfl) (by first | rfl | simp [*]) ?_; clear hp; intro w1 hp; simp only [List.set_cons_zero, List.set_cons_succ] at hp; simp only [put_some, put_none, List.set_cons_succ, List.set_cons_zero]) | (refine wpList_storeAgg_hp hp _ _ _ rfl (by first | exact wanted_none rfl | exact wanted_yes rfl rfl rfl rfl) _ _ (slot_tmp rfl) _ (slot_tmp rfl) (by first | exact agg57 | exact agg23) _ _ _ _ (by first | exact at0 | exact at1 | exact at2 | exact at3 | exact at4 | exact at5 | exact at6 | exact at7 | exact at8 | exact at9 | exact at10 | exact at11 | exact at12 | exact at13) (by simp only [List.length_cons, List.length_nil]; omega) (by first | rfl | simp [*]) ?_; clear hp; intro w1 hp; simp only [spl, List.set_cons_zero, List.set_cons_succ] at hp; simp only [put_some, put_none, List.set_cons_succ, List.set_cons_zero]) | (refine wpList_storeOne_hp hp _ _ _ rfl (by first | exact wanted_none rfl | exact wanted_yes rfl rfl rfl rfl) _ _ (slot_tmp rfl) _ (by first | exact slot_tmp rfl | exact slot_const) (by first | exact cell3 | exact cell4 | exact cell5 | exact cell25) _ _ _ _ (by first | exact at0 | exact at1 | exact at2 | exact at3 | exact at4 | exact at5 | exact at6 | exact at7 | exact at8 | exact at9 | exact at10 | exact at11 | exact at12 | exact at13) (by simp only [List.length_cons, List.length_nil]; omega) (by first | rfl | assumption) ?_; clear hp; intro w1 hp; simp only [List.set_cons_zero, List.set_cons_succ] at hp; simp only [put_some, put_none, List.set_cons_succ, List.set_cons_zero]) | (refine wpList_buildSlice_hp hp _ _ _ rfl (by first | exact wanted_none rfl | exact wanted_yes rfl rfl rfl rfl) _ _ (by intro w; go_simp; rfl) ?_; clear hp; intro b w1 hp; simp only [List.length_cons, List.length_nil, Nat.reduceAdd] at hp; simp only [put_some, put_none, List.set_cons_succ, List.set_cons_zero]) | (refine wpList_loadRow_hp hp _ _ rfl (by first | exact wanted_none rfl | exact wanted_yes rfl rfl rfl rfl) _ _ (slot_tmp rfl) _ (by first | exact agg57 | exact agg23) _ HX.out (by rfl) ?_; simp only [put_some, put_none, List.set_cons_succ, List.set_cons_zero]) | (refine wpList_loadRowOne_hp hp _ _ rfl (by first | exact wanted_none rfl | exact wanted_yes rfl rfl rfl rfl) _ _ (slot_tmp rfl) (by first | exact cell3 | exact cell4 | exact cell5 | exact cell25) _ (HX.out 0 _ rfl) ?_; simp only [put_some, put_none, List.set_cons_succ, List.set_cons_zero]))
          have hp2 := hp
          rw [show [Value.int .u8 0] = bytesOf (cutL (lf l) q) (q / 8 + 1) by rw [← BN.out, BZ.out]; rfl] at hp2
          clear hp
          go_loopg [5, 6] (q % 8) (fun k v i wr => ∃ j : Nat, k + j = q % 8 ∧ i = .int .i64 j ∧ v = .int .i64 (2 ^ j : Nat) ∧ Hp w.heap.size w wr [⟨g, bytesOf (cutL (lf l) q) (q / 8 + 1), 5, cap * 1⟩])
          case atStart => exact ⟨0, by omega, rfl, rfl, hp2⟩
          case round =>
            clear hp2
            obtain ⟨j, hkj, rfl, rfl, hp⟩ := hrel
            by_cases hjq : j < q % 8
            · exfalso; omega
            · have f1 : decide ((j : Int) < (q : Int) % 8) = false := by simp; omega
              have hjj : j = q % 8 := by omega
              have hst := bytes_set (lf l) q HU.out
              have hba := byte_add (lf l) q HU.out
              have hbl := byteOf_lt (cutL (lf l) (q + 1)) (q / 8)
              have hbg := bytesOf_get (cutL (lf l) q) (q / 8 + 1) (q / 8) (by omega)
              rw [← hjj] at hst hba
              have e5 : ((2 ^ j : Nat) : Int) = (2 : Int) ^ j := by simp
              rw [← e5] at hst
              clear hjj e5
              generalize (2 : Nat) ^ j = x at hst hba
              generalize byteOf (cutL (lf l) q) (q / 8) = y at hst hba hbg
              have HST := Lib.hid hst
              clear hst
              have g1 : y + x < 256 := by omega
              have e4 : (q : Int) / 8 < ((1 : Nat) : Int) := by first | omega | (have := H0.out; omega)
              have e4b : (0 : Int) ≤ (q : Int) / 8 := by omega
              have e6 : IntKind.u8.wrap (x : Int) = (x : Int) := by rw [Go.IntKind.wrap_u8]; omega
              have e7 : IntKind.u8.wrap ((y : Int) + (x : Int)) = (y : Int) + (x : Int) := by rw [Go.IntKind.wrap_u8]; omega
              have e8 : (x : Int) % 256 = (x : Int) := by omega
              have e9 : ((y : Int) + (x : Int)) % 256 = (y : Int) + (x : Int) := by omega
              have E6 := Lib.hid e6
              go_wp2_with (first | (refine wpList_loadOne_hp hp _ _ rfl (by first | exact wanted_none rfl | exact wanted_yes rfl rfl rfl rfl) _ _ (slot_tmp rfl) cell5 _ _ _ _ at0 _ hbg ?_; simp only [put_some, put_none, List.set_cons_succ, List.set_cons_zero]) | (refine wpList_storeOne_hp hp _ _ _ rfl (by first | exact wanted_none rfl | exact wanted_yes rfl rfl rfl rfl) _ _ (slot_tmp rfl) _ (slot_tmp rfl) cell5 _ _ _ _ at0 (by rw [bytesOf_len]; omega) rfl ?_; clear hp; intro w1 hp; simp only [List.set_cons_zero] at hp; simp only [put_some, put_none, List.set_cons_succ, List.set_cons_zero]))
              rw [HST.out] at hp
              go_wp2_with fail
              go_roundg (l.length - (q + 1))
              case measure => omega
              case rel => exact ⟨q + 1, by omega, by go_num, .inr ⟨g, cap, by omega, by rw [show (q + 1 + 7) / 8 = 1 by have := H0.out; omega], by first | omega | (have := H0.out; omega), hcm, by rw [show (q + 1 + 7) / 8 = q / 8 + 1 by omega]; exact hp⟩⟩
      · by_cases h8 : q % 8 = 0
        · have d8 : (q : Int) % 8 = 0 := by omega
          have BN := Lib.hid (bytes_new (lf l) q h8)
          have hsm1 : (q + 7) / 8 + 1 ≤ maxLen := by unfold maxLen; omega
          have hsm2 : ((q + 7) / 8 + 1) * 1 ≤ 140737488355328 := by omega
          skip
          cases u
          · have HC := Lib.hid (cutL_off (lf l) q HU.out)
            go_wp2_with (first | (refine wpList_appendOn_hp hp _ _ _ rfl (by first | exact wanted_none rfl | exact wanted_yes rfl rfl rfl rfl) i0 _ 1 Try.underlying40 hi0 hz0 hz1 hz2 rfl (by decide) (slot_tmp rfl) hnc hcm (by rw [bytesOf_len, Nat.mul_one]) _ _ (slot_tmp rfl) (by rfl) (by decide) (by rfl) hsm1 hsm2 ?_; clear hp hnc hcm; intro g cap w1 hnc hcm hp; simp only [put_some, put_none, List.set_cons_succ, List.set_cons_zero]) | go_skip | (refine wpList_box_hp hp _ _ rfl (by first | exact wanted_none rfl | exact wanted_yes rfl rfl rfl rfl) _ (slot_tmp rfl) _ rfl _ (by simp only [List.length_cons, List.length_nil, Nat.reduceAdd]; rfl) ?_; clear hp; intro b w1 hp; simp only [put_some, put_none, List.set_cons_succ, List.set_cons_zero]) | (refine wpList_loadAgg_hp hp _ _ rfl (by first | exact wanted_none rfl | exact wanted_yes rfl rfl rfl rfl) _ _ (slot_tmp rfl) _ (by first | exact agg57 | exact agg23) _ _ _ _ (by first | exact at0 | exact at1 | exact at2 | exact at3 | exact at4 | exact at5 | exact at6 | exact at7 | exact at8 | exact at9 | exact at10 | exact at11 | exact at12 | exact at13) _ (by simp only [List.drop_zero, List.drop_succ_cons, List.take_succ_cons, List.take_zero, List.take_nil]; rfl) (by rfl) ?_; simp only [put_some, put_none, List.set_cons_succ, List.set_cons_zero]) | (refine wpList_loadOne_hp hp _ _ rfl (by first | exact wanted_none rfl | exact wanted_yes rfl rfl rfl rfl) _ _ (slot_tmp rfl) (by first | exact cell3 | exact cell4 | exact cell5 | exact cell25) _ _ _ _ (by first | exact at0 | exact at1 | exact at2 | exact at3 | exact at4 | exact at5 | exact at6 | exact at7 | exact at8 | exact at9 | exact at10 | exact at11 | exact at12 | exact at13) _ (by rfl) ?_; simp only [put_some, put_none, List.set_cons_succ, List.set_cons_zero]) | (refine wpList_storeAll_hp hp _ _ _ rfl (by first | exact wanted_none rfl | exact wanted_yes rfl rfl rfl rfl) _ (slot_tmp rfl) _ (slot_tmp rfl) (by first | exact agg57 | exact agg23) _ _ _ _ (by first | exact at0 | exact at1 | exact at2 | exact at3 | exact at4 | exact at5 | exact at6 | exact at7 | exact at8 | exact at9 | exact at10 | exact at11 | exact at12 | exact at13) (by rfl) (by first | rfl | simp [*]) ?_; clear hp; intro w1 hp; simp only [List.set_cons_zero, List.set_cons_succ] at hp; simp only [put_some, put_none, List.set_cons_succ, List.set_cons_zero]) | (refine wpList_storeAgg_hp hp _ _ _ rfl (by first | exact wanted_none rfl | exact wanted_yes rfl rfl rfl rfl) _ _ (slot_tmp rfl) _ (slot_tmp rfl) (by first | exact agg57 | exact agg23) _ _ _ _ (by first | exact at0 | exact at1 | exact at2 | exact at3 | exact at4 | exact at5 | exact at6 | exact at7 | exact at8 | exact at9 | exact at10 | exact at11 | exact at12 | exact at13) (by simp only [List.length_cons, List.length_nil]; omega) (by first | rfl | simp [*]) ?_; clear hp; intro w1 hp; simp only [spl, List.set_cons_zero, List.set_cons_succ] at hp; simp only [put_some, put_none, List.set_cons_succ, List.set_cons_zero]) | (refine wpList_storeOne_hp hp _ _ _ rfl (by first | exact wanted_none rfl | exact wanted_yes rfl rfl rfl rfl) _ _ (slot_tmp rfl) _ (by first | exact slot_tmp rfl | exact slot_const) (by first | exact cell3 | exact cell4 | exact cell5 | exact cell25) _ _ _ _ (by first | exact at0 | exact at1 | exact at2 | exact at3 | exact at4 | exact at5 | exact at6 | exact at7 | exact at8 | exact at9 | exact at10 | exact at11 | exact at12 | exact at13) (by simp only [List.length_cons, List.length_nil]; omega) (by first | rfl | assumption) ?_; clear hp; intro w1 hp; simp only [List.set_cons_zero, List.set_cons_succ] at hp; simp only [put_some, put_none, List.set_cons_succ, List.set_cons_zero]) | (refine wpList_buildSlice_hp hp _ _ _ rfl (by first | exact wanted_none rfl | exact wanted_yes rfl rfl rfl rfl) _ _ (by intro w; go_simp; rfl) ?_; clear hp; intro b w1 hp; simp only [List.length_cons, List.length_nil, Nat.reduceAdd] at hp; simp only [put_some, put_none, List.set_cons_succ, List.set_cons_zero]) | (refine wpList_loadRow_hp hp _ _ rfl (by first | exact wanted_none rfl | exact wanted_yes rfl rfl rfl rfl) _ _ (slot_tmp rfl) _ (by first | exact agg57 | exact agg23) _ HX.out (by rfl) ?_; simp only [put_some, put_none, List.set_cons_succ, List.set_cons_zero]) | (refine wpList_loadRowOne_hp hp _ _ rfl (by first | exact wanted_none rfl | exact wanted_yes rfl rfl rfl rfl) _ _ (slot_tmp rfl) (by first | exact cell3 | exact cell4 | exact cell5 | exact cell25) _ (HX.out 0 _ rfl) ?_; simp only [put_some, put_none, List.set_cons_succ, List.set_cons_zero]))
            have hp2 := hp
            rw [BN.out] at hp2
            rw [← HC.out] at hp2
            clear hp
            go_roundg (gk - 1)
            case measure => omega
            case rel => exact ⟨q + 1, by omega, by go_num, .inr ⟨g, cap, by omega, by rw [show (q + 1 + 7) / 8 = ((q + 7) / 8 + 1) by omega], by first | omega | (have := H0.out; omega), hcm, by rw [show (q + 1 + 7) / 8 = q / 8 + 1 by omega]; exact hp2⟩⟩
          · go_wp2_with (first | (refine wpList_appendOn_hp hp _ _ _ rfl (by first | exact wanted_none rfl | exact wanted_yes rfl rfl rfl rfl) i0 _ 1 Try.underlying40 hi0 hz0 hz1 hz2 rfl (by decide) (slot_tmp rfl) hnc hcm (by rw [bytesOf_len, Nat.mul_one]) _ _ (slot_tmp rfl) (by rfl) (by decide) (by rfl) hsm1 hsm2 ?_; clear hp hnc hcm; intro g cap w1 hnc hcm hp; simp only [put_some, put_none, List.set_cons_succ, List.set_cons_zero]) | go_skip | (refine wpList_box_hp hp _ _ rfl (by first | exact wanted_none rfl | exact wanted_yes rfl rfl rfl rfl) _ (slot_tmp rfl) _ rfl _ (by simp only [List.length_cons, List.length_nil, Nat.reduceAdd]; rfl) ?_; clear hp; intro b w1 hp; simp only [put_some, put_none, List.set_cons_succ, List.set_cons_zero]) | (refine wpList_loadAgg_hp hp _ _ rfl (by first | exact wanted_none rfl | exact wanted_yes rfl rfl rfl rfl) _ _ (slot_tmp rfl) _ (by first | exact agg57 | exact agg23) _ _ _ _ (by first | exact at0 | exact at1 | exact at2 | exact at3 | exact at4 | exact at5 | exact at6 | exact at7 | exact at8 | exact at9 | exact at10 | exact at11 | exact at12 | exact at13) _ (by simp only [List.drop_zero, List.drop_succ_cons, List.take_succ_cons, List.take_zero, List.take_nil]; rfl) (by rfl) ?_; simp only [put_some, put_none, List.set_cons_succ, List.set_cons_zero]) | (refine wpList_loadOne_hp hp _ _ rfl (by first | exact wanted_none rfl | exact wanted_yes rfl rfl rfl rfl) _ _ (slot_tmp rfl) (by first | exact cell3 | exact cell4 | exact cell5 | exact cell25) _ _ _ _ (by first | exact at0 | exact at1 | exact at2 | exact at3 | exact at4 | exact at5 | exact at6 | exact at7 | exact at8 | exact at9 | exact at10 | exact at11 | exact at12 | exact at13) _ (by rfl) ?_; simp only [put_some, put_none, List.set_cons_succ, List.set_cons_zero]) | (refine wpList_storeAll_hp hp _ _ _ rfl (by first | exact wanted_none rfl | exact wanted_yes rfl rfl rfl rfl) _ (slot_tmp rfl) _ (slot_tmp rfl) (by first | exact agg57 | exact agg23) _ _ _ _ (by first | exact at0 | exact at1 | exact at2 | exact at3 | exact at4 | exact at5 | exact at6 | exact at7 | exact at8 | exact at9 | exact at10 | exact at11 | exact at12 | exact at13) (by rfl) (by first | rfl | simp [*]) ?_; clear hp; intro w1 hp; simp only [List.set_cons_zero, List.set_cons_succ] at hp; simp only [put_some, put_none, List.set_cons_succ, List.set_cons_zero]) | (refine wpList_storeAgg_hp hp _ _ _ rfl (by first | exact wanted_none rfl | exact wanted_yes rfl rfl rfl rfl) _ _ (slot_tmp rfl) _ (slot_tmp rfl) (by first | exact agg57 | exact agg23) _ _ _ _ (by first | exact at0 | exact at1 | exact at2 | exact at3 | exact at4 | exact at5 | exact at6 | exact at7 | exact at8 | exact at9 | exact at10 | exact at11 | exact at12 | exact at13) (by simp only [List.length_cons, List.length_nil]; omega) (by first | rfl | simp [*]) ?_; clear hp; intro w1 hp; simp only [spl, List.set_cons_zero, List.set_cons_succ] at hp; simp only [put_some, put_none, List.set_cons_succ, List.set_cons_zero]) | (refine wpList_storeOne_hp hp _ _ _ rfl (by first | exact wanted_none rfl | exact wanted_yes rfl rfl rfl rfl) _ _ (slot_tmp rfl) _ (by first | exact slot_tmp rfl | exact slot_const) (by first | exact cell3 | exact cell4 | exact cell5 | exact cell25) _ _ _ _ (by first | exact at0 | exact at1 | exact at2 | exact at3 | exact at4 | exact at5 | exact at6 | exact at7 | exact at8 | exact at9 | exact at10 | exact at11 | exact at12 | exact at13) (by simp only [List.length_cons, List.length_nil]; omega) (by first | rfl | assumption) ?_; clear hp; intro w1 hp; simp only [List.set_cons_zero, List.set_cons_succ] at hp; simp only [put_some, put_none, List.set_cons_succ, List.set_cons_zero]) | (refine wpList_buildSlice_hp hp _ _ _ rfl (by first | exact wanted_none rfl | exact wanted_yes rfl rfl rfl rfl) _ _ (by intro w; go_simp; rfl) ?_; clear hp; intro b w1 hp; simp only [List.length_cons, List.length_nil, Nat.reduceAdd] at hp; simp only [put_some, put_none, List.set_cons_succ, List.set_cons_zero]) | (refine wpList_loadRow_hp hp _ _ rfl (by first | exact wanted_none rfl | exact wanted_yes rfl rfl rfl rfl) _ _ (slot_tmp rfl) _ (by first | exact agg57 | exact agg23) _ HX.out (by rfl) ?_; simp only [put_some, put_none, List.set_cons_succ, List.set_cons_zero]) | (refine wpList_loadRowOne_hp hp _ _ rfl (by first | exact wanted_none rfl | exact wanted_yes rfl rfl rfl rfl) _ _ (slot_tmp rfl) (by first | exact cell3 | exact cell4 | exact cell5 | exact cell25) _ (HX.out 0 _ rfl) ?_; simp only [put_some, put_none, List.set_cons_succ, List.set_cons_zero]))
            have hp2 := hp
            rw [BN.out] at hp2
            clear hp
            go_loopg [5, 6] (q % 8) (fun k v i wr => ∃ j : Nat, k + j = q % 8 ∧ i = .int .i64 j ∧ v = .int .i64 (2 ^ j : Nat) ∧ Hp w.heap.size w wr [⟨g, bytesOf (cutL (lf l) q) (q / 8 + 1), 5, cap * 1⟩])
            case atStart => exact ⟨0, by omega, rfl, rfl, hp2⟩
            case round =>
              clear hp2
              obtain ⟨j, hkj, rfl, rfl, hp⟩ := hrel
              by_cases hjq : j < q % 8
              · exfalso; omega
              · have f1 : decide ((j : Int) < (q : Int) % 8) = false := by simp; omega
                have hjj : j = q % 8 := by omega
                have hst := bytes_set (lf l) q HU.out
                have hba := byte_add (lf l) q HU.out
                have hbl := byteOf_lt (cutL (lf l) (q + 1)) (q / 8)
                have hbg := bytesOf_get (cutL (lf l) q) (q / 8 + 1) (q / 8) (by omega)
                rw [← hjj] at hst hba
                have e5 : ((2 ^ j : Nat) : Int) = (2 : Int) ^ j := by simp
                rw [← e5] at hst
                clear hjj e5
                generalize (2 : Nat) ^ j = x at hst hba
                generalize byteOf (cutL (lf l) q) (q / 8) = y at hst hba hbg
                have HST := Lib.hid hst
                clear hst
                have g1 : y + x < 256 := by omega
                have e4 : (q : Int) / 8 < ((((q + 7) / 8 + 1) : Nat) : Int) := by first | omega | (have := H0.out; omega)
                have e4b : (0 : Int) ≤ (q : Int) / 8 := by omega
                have e6 : IntKind.u8.wrap (x : Int) = (x : Int) := by rw [Go.IntKind.wrap_u8]; omega
                have e7 : IntKind.u8.wrap ((y : Int) + (x : Int)) = (y : Int) + (x : Int) := by rw [Go.IntKind.wrap_u8]; omega
                have e8 : (x : Int) % 256 = (x : Int) := by omega
                have e9 : ((y : Int) + (x : Int)) % 256 = (y : Int) + (x : Int) := by omega
                have E6 := Lib.hid e6
                go_wp2_with (first | (refine wpList_loadOne_hp hp _ _ rfl (by first | exact wanted_none rfl | exact wanted_yes rfl rfl rfl rfl) _ _ (slot_tmp rfl) cell5 _ _ _ _ at0 _ hbg ?_; simp only [put_some, put_none, List.set_cons_succ, List.set_cons_zero]) | (refine wpList_storeOne_hp hp _ _ _ rfl (by first | exact wanted_none rfl | exact wanted_yes rfl rfl rfl rfl) _ _ (slot_tmp rfl) _ (slot_tmp rfl) cell5 _ _ _ _ at0 (by rw [bytesOf_len]; omega) rfl ?_; clear hp; intro w1 hp; simp only [List.set_cons_zero] at hp; simp only [put_some, put_none, List.set_cons_succ, List.set_cons_zero]))
                rw [HST.out] at hp
                go_wp2_with fail
                go_roundg (l.length - (q + 1))
                case measure => omega
                case rel => exact ⟨q + 1, by omega, by go_num, .inr ⟨g, cap, by omega, by rw [show (q + 1 + 7) / 8 = ((q + 7) / 8 + 1) by omega], by first | omega | (have := H0.out; omega), hcm, by rw [show (q + 1 + 7) / 8 = q / 8 + 1 by omega]; exact hp⟩⟩
        · have d8 : ¬ (q : Int) % 8 = 0 := by omega
          have d9 : ((q : Int) % 8 == 0) = false := by simp; omega
          skip
          cases u
          · have HC := Lib.hid (cutL_off (lf l) q HU.out)
            go_wp2_with (first | go_skip | (refine wpList_box_hp hp _ _ rfl (by first | exact wanted_none rfl | exact wanted_yes rfl rfl rfl rfl) _ (slot_tmp rfl) _ rfl _ (by simp only [List.length_cons, List.length_nil, Nat.reduceAdd]; rfl) ?_; clear hp; intro b w1 hp; simp only [put_some, put_none, List.set_cons_succ, List.set_cons_zero]) | (refine wpList_loadAgg_hp hp _ _ rfl (by first | exact wanted_none rfl | exact wanted_yes rfl rfl rfl rfl) _ _ (slot_tmp rfl) _ (by first | exact agg57 | exact agg23) _ _ _ _ (by first | exact at0 | exact at1 | exact at2 | exact at3 | exact at4 | exact at5 | exact at6 | exact at7 | exact at8 | exact at9 | exact at10 | exact at11 | exact at12 | exact at13) _ (by simp only [List.drop_zero, List.drop_succ_cons, List.take_succ_cons, List.take_zero, List.take_nil]; rfl) (by rfl) ?_; simp only [put_some, put_none, List.set_cons_succ, List.set_cons_zero]) | (refine wpList_loadOne_hp hp _ _ rfl (by first | exact wanted_none rfl | exact wanted_yes rfl rfl rfl rfl) _ _ (slot_tmp rfl) (by first | exact cell3 | exact cell4 | exact cell5 | exact cell25) _ _ _ _ (by first | exact at0 | exact at1 | exact at2 | exact at3 | exact at4 | exact at5 | exact at6 | exact at7 | exact at8 | exact at9 | exact at10 | exact at11 | exact at12 | exact at13) _ (by rfl) ?_; simp only [put_some, put_none, List.set_cons_succ, List.set_cons_zero]) | (refine wpList_storeAll_hp hp _ _ _ rfl (by first | exact wanted_none rfl | exact wanted_yes rfl rfl rfl rfl) _ (slot_tmp rfl) _ (slot_tmp rfl) (by first | exact agg57 | exact agg23) _ _ _ _ (by first | exact at0 | exact at1 | exact at2 | exact at3 | exact at4 | exact at5 | exact at6 | exact at7 | exact at8 | exact at9 | exact at10 | exact at11 | exact at12 | exact at13) (by rfl) (by first | rfl | simp [*]) ?_; clear hp; intro w1 hp; simp only [List.set_cons_zero, List.set_cons_succ] at hp; simp only [put_some, put_none, List.set_cons_succ, List.set_cons_zero]) | (refine wpList_storeAgg_hp hp _ _ _ rfl (by first | exact wanted_none rfl | exact wanted_yes rfl rfl rfl rfl) _ _ (slot_tmp rfl) _ (slot_tmp rfl) (by first | exact agg57 | exact agg23) _ _ _ _ (by first | exact at0 | exact at1 | exact at2 | exact at3 | exact at4 | exact at5 | exact at6 | exact at7 | exact at8 | exact at9 | exact at10 | exact at11 | exact at12 | exact at13) (by simp only [List.length_cons, List.length_nil]; omega) (by first | rfl | simp [*]) ?_; clear hp; intro w1 hp; simp only [spl, List.set_cons_zero, List.set_cons_succ] at hp; simp only [put_some, put_none, List.set_cons_succ, List.set_cons_zero]) | (refine wpList_storeOne_hp hp _ _ _ rfl (by first | exact wanted_none rfl | exact wanted_yes rfl rfl rfl rfl) _ _ (slot_tmp rfl) _ (by first | exact slot_tmp rfl | exact slot_const) (by first | exact cell3 | exact cell4 | exact cell5 | exact cell25) _ _ _ _ (by first | exact at0 | exact at1 | exact at2 | exact at3 | exact at4 | exact at5 | exact at6 | exact at7 | exact at8 | exact at9 | exact at10 | exact at11 | exact at12 | exact at13) (by simp only [List.length_cons, List.length_nil]; omega) (by first | rfl | assumption) ?_; clear hp; intro w1 hp; simp only [List.set_cons_zero, List.set_cons_succ] at hp; simp only [put_some, put_none, List.set_cons_succ, List.set_cons_zero]) | (refine wpList_buildSlice_hp hp _ _ _ rfl (by first | exact wanted_none rfl | exact wanted_yes rfl rfl rfl rfl) _ _ (by intro w; go_simp; rfl) ?_; clear hp; intro b w1 hp; simp only [List.length_cons, List.length_nil, Nat.reduceAdd] at hp; simp only [put_some, put_none, List.set_cons_succ, List.set_cons_zero]) | (refine wpList_loadRow_hp hp _ _ rfl (by first | exact wanted_none rfl | exact wanted_yes rfl rfl rfl rfl) _ _ (slot_tmp rfl) _ (by first | exact agg57 | exact agg23) _ HX.out (by rfl) ?_; simp only [put_some, put_none, List.set_cons_succ, List.set_cons_zero]) | (refine wpList_loadRowOne_hp hp _ _ rfl (by first | exact wanted_none rfl | exact wanted_yes rfl rfl rfl rfl) _ _ (slot_tmp rfl) (by first | exact cell3 | exact cell4 | exact cell5 | exact cell25) _ (HX.out 0 _ rfl) ?_; simp only [put_some, put_none, List.set_cons_succ, List.set_cons_zero]))
            have hp2 := hp
            rw [show (q + 7) / 8 = q / 8 + 1 by omega] at hp2
            rw [← HC.out] at hp2
            clear hp
            go_roundg (gk - 1)
            case measure => omega
            case rel => exact ⟨q + 1, by omega, by go_num, .inr ⟨g, cap, by omega, by rw [show (q + 1 + 7) / 8 = ((q + 7) / 8) by omega], by first | omega | (have := H0.out; omega), hcm, by rw [show (q + 1 + 7) / 8 = q / 8 + 1 by omega]; exact hp2⟩⟩
          · go_wp2_with (first | go_skip | (refine wpList_box_hp hp _ _ rfl (by first | exact wanted_none rfl | exact wanted_yes rfl rfl rfl rfl) _ (slot_tmp rfl) _ rfl _ (by simp only [List.length_cons, List.length_nil, Nat.reduceAdd]; rfl) ?_; clear hp; intro b w1 hp; simp only [put_some, put_none, List.set_cons_succ, List.set_cons_zero]) | (refine wpList_loadAgg_hp hp _ _ rfl (by first | exact wanted_none rfl | exact wanted_yes rfl rfl rfl rfl) _ _ (slot_tmp rfl) _ (by first | exact agg57 | exact agg23) _ _ _ _ (by first | exact at0 | exact at1 | exact at2 | exact at3 | exact at4 | exact at5 | exact at6 | exact at7 | exact at8 | exact at9 | exact at10 | exact at11 | exact at12 | exact at13) _ (by simp only [List.drop_zero, List.drop_succ_cons, List.take_succ_cons, List.take_zero, List.take_nil]; rfl) (by rfl) ?_; simp only [put_some, put_none, List.set_cons_succ, List.set_cons_zero]) | (refine wpList_loadOne_hp hp _ _ rfl (by first | exact wanted_none rfl | exact wanted_yes rfl rfl rfl rfl) _ _ (slot_tmp rfl) (by first | exact cell3 | exact cell4 | exact cell5 | exact cell25) _ _ _ _ (by first | exact at0 | exact at1 | exact at2 | exact at3 | exact at4 | exact at5 | exact at6 | exact at7 | exact at8 | exact at9 | exact at10 | exact at11 | exact at12 | exact at13) _ (by rfl) ?_; simp only [put_some, put_none, List.set_cons_succ, List.set_cons_zero]) | (refine wpList_storeAll_hp hp _ _ _ rfl (by first | exact wanted_none rfl | exact wanted_yes rfl rfl rfl rfl) _ (slot_tmp rfl) _ (slot_tmp rfl) (by first | exact agg57 | exact agg23) _ _ _ _ (by first | exact at0 | exact at1 | exact at2 | exact at3 | exact at4 | exact at5 | exact at6 | exact at7 | exact at8 | exact at9 | exact at10 | exact at11 | exact at12 | exact at13) (by rfl) (by first | rfl | simp [*]) ?_; clear hp; intro w1 hp; simp only [List.set_cons_zero, List.set_cons_succ] at hp; simp only [put_some, put_none, List.set_cons_succ, List.set_cons_zero]) | (refine wpList_storeAgg_hp hp _ _ _ rfl (by first | exact wanted_none rfl | exact wanted_yes rfl rfl rfl rfl) _ _ (slot_tmp rfl) _ (slot_tmp rfl) (by first | exact agg57 | exact agg23) _ _ _ _ (by first | exact at0 | exact at1 | exact at2 | exact at3 | exact at4 | exact at5 | exact at6 | exact at7 | exact at8 | exact at9 | exact at10 | exact at11 | exact at12 | exact at13) (by simp only [List.length_cons, List.length_nil]; omega) (by first | rfl | simp [*]) ?_; clear hp; intro w1 hp; simp only [spl, List.set_cons_zero, List.set_cons_succ] at hp; simp only [put_some, put_none, List.set_cons_succ, List.set_cons_zero]) | (refine wpList_storeOne_hp hp _ _ _ rfl (by first | exact wanted_none rfl | exact wanted_yes rfl rfl rfl rfl) _ _ (slot_tmp rfl) _ (by first | exact slot_tmp rfl | exact slot_const) (by first | exact cell3 | exact cell4 | exact cell5 | exact cell25) _ _ _ _ (by first | exact at0 | exact at1 | exact at2 | exact at3 | exact at4 | exact at5 | exact at6 | exact at7 | exact at8 | exact at9 | exact at10 | exact at11 | exact at12 | exact at13) (by simp only [List.length_cons, List.length_nil]; omega) (by first | rfl | assumption) ?_; clear hp; intro w1 hp; simp only [List.set_cons_zero, List.set_cons_succ] at hp; simp only [put_some, put_none, List.set_cons_succ, List.set_cons_zero]) | (refine wpList_buildSlice_hp hp _ _ _ rfl (by first | exact wanted_none rfl | exact wanted_yes rfl rfl rfl rfl) _ _ (by intro w; go_simp; rfl) ?_; clear hp; intro b w1 hp; simp only [List.length_cons, List.length_nil, Nat.reduceAdd] at hp; simp only [put_some, put_none, List.set_cons_succ, List.set_cons_zero]) | (refine wpList_loadRow_hp hp _ _ rfl (by first | exact wanted_none rfl | exact wanted_yes rfl rfl rfl rfl) _ _ (slot_tmp rfl) _ (by first | exact agg57 | exact agg23) _ HX.out (by rfl) ?_; simp only [put_some, put_none, List.set_cons_succ, List.set_cons_zero]) | (refine wpList_loadRowOne_hp hp _ _ rfl (by first | exact wanted_none rfl | exact wanted_yes rfl rfl rfl rfl) _ _ (slot_tmp rfl) (by first | exact cell3 | exact cell4 | exact cell5 | exact cell25) _ (HX.out 0 _ rfl) ?_; simp only [put_some, put_none, List.set_cons_succ, List.set_cons_zero]))
            have hp2 := hp
            rw [show (q + 7) / 8 = q / 8 + 1 by omega] at hp2
            clear hp
            go_loopg [5, 6] (q % 8) (fun k v i wr => ∃ j : Nat, k + j = q % 8 ∧ i = .int .i64 j ∧ v = .int .i64 (2 ^ j : Nat) ∧ Hp w.heap.size w wr [⟨g, bytesOf (cutL (lf l) q) (q / 8 + 1), 5, cap * 1⟩])
            case atStart => exact ⟨0, by omega, rfl, rfl, hp2⟩
            case round =>
              clear hp2
              obtain ⟨j, hkj, rfl, rfl, hp⟩ := hrel
              by_cases hjq : j < q % 8
              · have f1 : (j : Int) < (q : Int) % 8 := by omega
                have f2 : (2 : Nat) ^ j ≤ 128 := Nat.le_trans (Nat.pow_le_pow_right (by decide) (show j ≤ 7 by omega)) (by decide)
                have F3 : RowKit.Hid ((2 : Nat) ^ (j + 1) = 2 * 2 ^ j) := Lib.hid (by rw [Nat.pow_succ]; omega)
                generalize (2 : Nat) ^ j = x at f2 F3
                go_wp2_with fail
                go_roundg (gk - 1)
                case measure => omega
                case rel => exact ⟨j + 1, by omega, by go_num, by first | (rw [F3.out]; done) | (rw [F3.out]; go_num), hp⟩
              · have f1 : decide ((j : Int) < (q : Int) % 8) = false := by simp; omega
                have hjj : j = q % 8 := by omega
                have hst := bytes_set (lf l) q HU.out
                have hba := byte_add (lf l) q HU.out
                have hbl := byteOf_lt (cutL (lf l) (q + 1)) (q / 8)
                have hbg := bytesOf_get (cutL (lf l) q) (q / 8 + 1) (q / 8) (by omega)
                rw [← hjj] at hst hba
                have e5 : ((2 ^ j : Nat) : Int) = (2 : Int) ^ j := by simp
                rw [← e5] at hst
                clear hjj e5
                generalize (2 : Nat) ^ j = x at hst hba
                generalize byteOf (cutL (lf l) q) (q / 8) = y at hst hba hbg
                have HST := Lib.hid hst
                clear hst
                have g1 : y + x < 256 := by omega
                have e4 : (q : Int) / 8 < ((((q + 7) / 8) : Nat) : Int) := by first | omega | (have := H0.out; omega)
                have e4b : (0 : Int) ≤ (q : Int) / 8 := by omega
                have e6 : IntKind.u8.wrap (x : Int) = (x : Int) := by rw [Go.IntKind.wrap_u8]; omega
                have e7 : IntKind.u8.wrap ((y : Int) + (x : Int)) = (y : Int) + (x : Int) := by rw [Go.IntKind.wrap_u8]; omega
                have e8 : (x : Int) % 256 = (x : Int) := by omega
                have e9 : ((y : Int) + (x : Int)) % 256 = (y : Int) + (x : Int) := by omega
                have E6 := Lib.hid e6
                go_wp2_with (first | (refine wpList_loadOne_hp hp _ _ rfl (by first | exact wanted_none rfl | exact wanted_yes rfl rfl rfl rfl) _ _ (slot_tmp rfl) cell5 _ _ _ _ at0 _ hbg ?_; simp only [put_some, put_none, List.set_cons_succ, List.set_cons_zero]) | (refine wpList_storeOne_hp hp _ _ _ rfl (by first | exact wanted_none rfl | exact wanted_yes rfl rfl rfl rfl) _ _ (slot_tmp rfl) _ (slot_tmp rfl) cell5 _ _ _ _ at0 (by rw [bytesOf_len]; omega) rfl ?_; clear hp; intro w1 hp; simp only [List.set_cons_zero] at hp; simp only [put_some, put_none, List.set_cons_succ, List.set_cons_zero]))
                rw [HST.out] at hp
                go_wp2_with fail
                go_roundg (l.length - (q + 1))
                case measure => omega
                case rel => exact ⟨q + 1, by omega, by go_num, .inr ⟨g, cap, by omega, by rw [show (q + 1 + 7) / 8 = ((q + 7) / 8) by omega], by first | omega | (have := H0.out; omega), hcm, by rw [show (q + 1 + 7) / 8 = q / 8 + 1 by omega]; exact hp⟩⟩
    · have e2 : decide ((q : Int) < (l.length : Int)) = false := by simp; omega
      have hq : q = l.length := by omega
      subst hq
      rcases hout with ⟨h0, rfl, hp⟩ | ⟨g, cap, h0, rfl, hnc, hcm, hp⟩
      · have H0 := Lib.hid h0
        clear h0
        go_wp2_with fail
        go_ret
        exact .inl ⟨List.eq_nil_of_length_eq_zero H0.out, rfl, hp.below⟩
      · rw [cutL_all] at hp
        go_wp2_with fail
        go_ret
        exact .inr ⟨g, cap, rfl, hp.fresh at0, hp.below⟩
end Go.Proofs.Ytfnadjlnnfmnmaa
