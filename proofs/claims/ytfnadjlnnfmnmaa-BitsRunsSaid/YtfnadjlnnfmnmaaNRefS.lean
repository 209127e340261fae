/- The document's Bytes and Count: plain law and walks. -/
import Derived.Test.YtfnadjlnnfmnmaaNRdSpec
import Derived.Test.YtfnadjlnnfmnmaaAp
import Derived.Deep.LoopGhost
set_option linter.unusedSimpArgs false
set_option linter.unusedVariables false
namespace Go.Proofs.Ytfnadjlnnfmnmaa
open Go.RowKit

def boV (b : Bool) : List Value := [.bool b]
theorem boV_len (b : Bool) : (boV b).length = 1 := rfl
/-- A list of truths as bits. -/
def lf (l : List Bool) : Nat → Bool := fun i => l.getD i false
theorem lf_out (l : List Bool) : ∀ i, l.length ≤ i → lf l i = false := fun i hi => by simp [lf, List.getD, List.getElem?_eq_none hi]
def cutL (f : Nat → Bool) (q : Nat) : Nat → Bool := fun i => decide (i < q) && f i
theorem cutL_all (l : List Bool) : cutL (lf l) l.length = lf l := by
  funext i
  unfold cutL
  by_cases h : i < l.length
  · simp [h]
  · rw [lf_out l i (by omega)]; simp
theorem cutL_off (f : Nat → Bool) (q : Nat) (h : f q = false) : cutL f (q + 1) = cutL f q := by
  funext i
  unfold cutL
  by_cases hi : i < q
  · have : i < q + 1 := by omega
    simp [hi, this]
  · by_cases hq : i = q
    · subst hq; simp [h]
    · have : ¬ i < q + 1 := by omega
      simp [hi, this]
theorem byte_lt (f : Nat → Bool) (q : Nat) : byteOf (cutL f q) (q / 8) < 2 ^ (q % 8) := by
  apply Nat.lt_pow_two_of_testBit
  intro i hi
  rw [testBit_byteOf]
  unfold cutL
  have : decide (8 * (q / 8) + i < q) = false := by simp; omega
  rw [this]; simp
theorem byte_add (f : Nat → Bool) (q : Nat) (h : f q = true) : byteOf (cutL f q) (q / 8) + 2 ^ (q % 8) = byteOf (cutL f (q + 1)) (q / 8) := by
  have hlt := byte_lt f q
  have h1 := Nat.two_pow_add_eq_or_of_lt hlt 1
  rw [Nat.mul_one] at h1
  rw [Nat.add_comm, h1]
  have h8 : q % 8 < 8 := Nat.mod_lt _ (by decide)
  refine byteOf_ext (Nat.or_lt_two_pow (Nat.pow_lt_pow_right (by decide) h8) (byteOf_lt _ _)) fun j hj => ?_
  rw [Nat.testBit_or, Nat.testBit_two_pow, testBit_byteOf]
  unfold cutL
  by_cases hjq : q % 8 = j
  · have e : 8 * (q / 8) + j = q := by omega
    rw [e]; simp [hjq, h]
  · have e : decide (8 * (q / 8) + j < q) = decide (8 * (q / 8) + j < q + 1) := by
      by_cases h2 : 8 * (q / 8) + j < q
      · have : 8 * (q / 8) + j < q + 1 := by omega
        simp [h2, this]
      · have : ¬ 8 * (q / 8) + j < q + 1 := by omega
        simp [h2, this]
    rw [← e]
    simp [hjq, hj]
theorem bytesOf_len (f : Nat → Bool) (K : Nat) : (bytesOf f K).length = K := by simp [bytesOf]
theorem bytesOf_get (f : Nat → Bool) (K k : Nat) (h : k < K) : (bytesOf f K)[k]? = some (.int .u8 (byteOf f k : Nat)) := by simp [bytesOf, h]
theorem bytes_new (f : Nat → Bool) (q : Nat) (h : q % 8 = 0) : bytesOf (cutL f q) ((q + 7) / 8) ++ [Value.int .u8 0] = bytesOf (cutL f q) (q / 8 + 1) := by
  have e : (q + 7) / 8 = q / 8 := by omega
  have hz : byteOf (cutL f q) (q / 8) = 0 := by have := byte_lt f q; rw [h] at this; simpa using this
  rw [e]
  unfold bytesOf
  rw [List.range_succ, List.map_append]
  simp [hz]
theorem bytes_old (f : Nat → Bool) (q : Nat) (h : q % 8 ≠ 0) : (q + 7) / 8 = q / 8 + 1 := by omega
theorem byte_other (f : Nat → Bool) (q k : Nat) (h : k ≠ q / 8) : byteOf (cutL f (q + 1)) k = byteOf (cutL f q) k := by
  apply Eq.symm
  apply byteOf_ext (byteOf_lt _ _)
  intro j hj
  rw [testBit_byteOf]
  unfold cutL
  have e : decide (8 * k + j < q) = decide (8 * k + j < q + 1) := by
    by_cases h2 : 8 * k + j < q
    · have : 8 * k + j < q + 1 := by omega
      simp [h2, this]
    · have : ¬ 8 * k + j < q + 1 := by omega
      simp [h2, this]
  simp [hj, e]
theorem bytes_set (f : Nat → Bool) (q : Nat) (h : f q = true) : (bytesOf (cutL f q) (q / 8 + 1)).set (q / 8) (.int .u8 ((byteOf (cutL f q) (q / 8) : Nat) + 2 ^ (q % 8) : Int)) = bytesOf (cutL f (q + 1)) (q / 8 + 1) := by
  have e1 : ((byteOf (cutL f q) (q / 8) : Nat) + 2 ^ (q % 8) : Int) = ((byteOf (cutL f (q + 1)) (q / 8) : Nat) : Int) := by
    rw [← byte_add f q h, Int.natCast_add, Int.natCast_pow]; rfl
  rw [e1]
  apply List.ext_getElem?
  intro k
  rw [List.getElem?_set, bytesOf_len]
  by_cases hk : q / 8 = k
  · rw [if_pos hk, if_pos (by omega), ← hk, bytesOf_get _ _ _ (by omega)]
  · rw [if_neg hk]
    by_cases hkW : k < q / 8 + 1
    · rw [bytesOf_get _ _ _ hkW, bytesOf_get _ _ _ hkW, byte_other f q k (fun e => hk e.symm)]
    · rw [List.getElem?_eq_none (by rw [bytesOf_len]; omega), List.getElem?_eq_none (by rw [bytesOf_len]; omega)]
set_option maxRecDepth 100000 in
set_option maxHeartbeats 4000000 in
theorem rcount21 (l : List Bool) (hl : l.length ≤ 4096) (a : Option Addr) (c : Nat) (w : World) (ha : RowIs w a (l.flatMap boV)) :
    Calls Try.prog 21 #[.slice a l.length c] w fun e w' => e = .returned (.int .i64 (cb (lf l) l.length : Nat)) ∧ Below w.heap.size w w' := by
  have hp := Hp.start w
  have HA := Lib.hid ha
  clear ha
  go_enter Try.func21, Try.ntmps21
  go_wp2_with (first | go_skip | (refine pre_box _ _ rfl ?_; refine wpList_box_hp hp _ _ rfl (by first | exact wanted_none rfl | exact wanted_yes rfl rfl rfl rfl) _ (slot_tmp rfl) _ rfl _ (by simp only [List.length_cons, List.length_nil, Nat.reduceAdd]; rfl) ?_; clear hp; intro b w1 hp; simp only [put_some, put_none, List.set_cons_succ, List.set_cons_zero]) | (refine pre_load 57 _ rfl ?_; (refine wpList_loadAgg_hp hp _ _ rfl (by first | exact wanted_none rfl | exact wanted_yes rfl rfl rfl rfl) _ _ (slot_tmp rfl) _ agg57 _ _ _ _ (by first | exact at0 | exact at1 | exact at2 | exact at3 | exact at4 | exact at5 | exact at6 | exact at7 | exact at8 | exact at9 | exact at10 | exact at11 | exact at12 | exact at13) _ (by simp only [List.drop_zero, List.drop_succ_cons, List.take_succ_cons, List.take_zero, List.take_nil]; rfl) (by rfl) ?_; simp only [put_some, put_none, List.set_cons_succ, List.set_cons_zero])) | (refine pre_load 23 _ rfl ?_; (refine wpList_loadAgg_hp hp _ _ rfl (by first | exact wanted_none rfl | exact wanted_yes rfl rfl rfl rfl) _ _ (slot_tmp rfl) _ agg23 _ _ _ _ (by first | exact at0 | exact at1 | exact at2 | exact at3 | exact at4 | exact at5 | exact at6 | exact at7 | exact at8 | exact at9 | exact at10 | exact at11 | exact at12 | exact at13) _ (by simp only [List.drop_zero, List.drop_succ_cons, List.take_succ_cons, List.take_zero, List.take_nil]; rfl) (by rfl) ?_; simp only [put_some, put_none, List.set_cons_succ, List.set_cons_zero])) | (refine pre_load 3 _ rfl ?_; (refine wpList_loadOne_hp hp _ _ rfl (by first | exact wanted_none rfl | exact wanted_yes rfl rfl rfl rfl) _ _ (slot_tmp rfl) cell3 _ _ _ _ (by first | exact at0 | exact at1 | exact at2 | exact at3 | exact at4 | exact at5 | exact at6 | exact at7 | exact at8 | exact at9 | exact at10 | exact at11 | exact at12 | exact at13) _ (by rfl) ?_; simp only [put_some, put_none, List.set_cons_succ, List.set_cons_zero])) | (refine pre_load 4 _ rfl ?_; (refine wpList_loadOne_hp hp _ _ rfl (by first | exact wanted_none rfl | exact wanted_yes rfl rfl rfl rfl) _ _ (slot_tmp rfl) cell4 _ _ _ _ (by first | exact at0 | exact at1 | exact at2 | exact at3 | exact at4 | exact at5 | exact at6 | exact at7 | exact at8 | exact at9 | exact at10 | exact at11 | exact at12 | exact at13) _ (by rfl) ?_; simp only [put_some, put_none, List.set_cons_succ, List.set_cons_zero])) | (refine pre_load 5 _ rfl ?_; (refine wpList_loadOne_hp hp _ _ rfl (by first | exact wanted_none rfl | exact wanted_yes rfl rfl rfl rfl) _ _ (slot_tmp rfl) cell5 _ _ _ _ (by first | exact at0 | exact at1 | exact at2 | exact at3 | exact at4 | exact at5 | exact at6 | exact at7 | exact at8 | exact at9 | exact at10 | exact at11 | exact at12 | exact at13) _ (by rfl) ?_; simp only [put_some, put_none, List.set_cons_succ, List.set_cons_zero])) | (refine pre_load 25 _ rfl ?_; (refine wpList_loadOne_hp hp _ _ rfl (by first | exact wanted_none rfl | exact wanted_yes rfl rfl rfl rfl) _ _ (slot_tmp rfl) cell25 _ _ _ _ (by first | exact at0 | exact at1 | exact at2 | exact at3 | exact at4 | exact at5 | exact at6 | exact at7 | exact at8 | exact at9 | exact at10 | exact at11 | exact at12 | exact at13) _ (by rfl) ?_; simp only [put_some, put_none, List.set_cons_succ, List.set_cons_zero])) | (refine pre_store 57 _ _ rfl ?_; first | (refine wpList_storeAll_hp hp _ _ _ rfl (by first | exact wanted_none rfl | exact wanted_yes rfl rfl rfl rfl) _ (slot_tmp rfl) _ (slot_tmp rfl) agg57 _ _ _ _ (by first | exact at0 | exact at1 | exact at2 | exact at3 | exact at4 | exact at5 | exact at6 | exact at7 | exact at8 | exact at9 | exact at10 | exact at11 | exact at12 | exact at13) (by rfl) (by first | rfl | simp [*]) ?_; clear hp; intro w1 hp; simp only [List.set_cons_zero, List.set_cons_succ] at hp; simp only [put_some, put_none, List.set_cons_succ, List.set_cons_zero]) | (refine wpList_storeAgg_hp hp _ _ _ rfl (by first | exact wanted_none rfl | exact wanted_yes rfl rfl rfl rfl) _ _ (slot_tmp rfl) _ (slot_tmp rfl) agg57 _ _ _ _ (by first | exact at0 | exact at1 | exact at2 | exact at3 | exact at4 | exact at5 | exact at6 | exact at7 | exact at8 | exact at9 | exact at10 | exact at11 | exact at12 | exact at13) (by simp only [List.length_cons, List.length_nil]; omega) (by first | rfl | simp [*]) ?_; clear hp; intro w1 hp; simp only [spl, List.set_cons_zero, List.set_cons_succ] at hp; simp only [put_some, put_none, List.set_cons_succ, List.set_cons_zero])) | (refine pre_store 23 _ _ rfl ?_; first | (refine wpList_storeAll_hp hp _ _ _ rfl (by first | exact wanted_none rfl | exact wanted_yes rfl rfl rfl rfl) _ (slot_tmp rfl) _ (slot_tmp rfl) agg23 _ _ _ _ (by first | exact at0 | exact at1 | exact at2 | exact at3 | exact at4 | exact at5 | exact at6 | exact at7 | exact at8 | exact at9 | exact at10 | exact at11 | exact at12 | exact at13) (by rfl) (by first | rfl | simp [*]) ?_; clear hp; intro w1 hp; simp only [List.set_cons_zero, List.set_cons_succ] at hp; simp only [put_some, put_none, List.set_cons_succ, List.set_cons_zero]) | (refine wpList_storeAgg_hp hp _ _ _ rfl (by first | exact wanted_none rfl | exact wanted_yes rfl rfl rfl rfl) _ _ (slot_tmp rfl) _ (slot_tmp rfl) agg23 _ _ _ _ (by first | exact at0 | exact at1 | exact at2 | exact at3 | exact at4 | exact at5 | exact at6 | exact at7 | exact at8 | exact at9 | exact at10 | exact at11 | exact at12 | exact at13) (by simp only [List.length_cons, List.length_nil]; omega) (by first | rfl | simp [*]) ?_; clear hp; intro w1 hp; simp only [spl, List.set_cons_zero, List.set_cons_succ] at hp; simp only [put_some, put_none, List.set_cons_succ, List.set_cons_zero])) | (refine pre_store 3 _ _ rfl ?_; refine wpList_storeOne_hp hp _ _ _ rfl (by first | exact wanted_none rfl | exact wanted_yes rfl rfl rfl rfl) _ _ (slot_tmp rfl) _ (by first | exact slot_tmp rfl | exact slot_const) cell3 _ _ _ _ (by first | exact at0 | exact at1 | exact at2 | exact at3 | exact at4 | exact at5 | exact at6 | exact at7 | exact at8 | exact at9 | exact at10 | exact at11 | exact at12 | exact at13) (by simp only [List.length_cons, List.length_nil]; omega) (by first | rfl | assumption) ?_; clear hp; intro w1 hp; simp only [List.set_cons_zero, List.set_cons_succ] at hp; simp only [put_some, put_none, List.set_cons_succ, List.set_cons_zero]) | (refine pre_store 4 _ _ rfl ?_; refine wpList_storeOne_hp hp _ _ _ rfl (by first | exact wanted_none rfl | exact wanted_yes rfl rfl rfl rfl) _ _ (slot_tmp rfl) _ (by first | exact slot_tmp rfl | exact slot_const) cell4 _ _ _ _ (by first | exact at0 | exact at1 | exact at2 | exact at3 | exact at4 | exact at5 | exact at6 | exact at7 | exact at8 | exact at9 | exact at10 | exact at11 | exact at12 | exact at13) (by simp only [List.length_cons, List.length_nil]; omega) (by first | rfl | assumption) ?_; clear hp; intro w1 hp; simp only [List.set_cons_zero, List.set_cons_succ] at hp; simp only [put_some, put_none, List.set_cons_succ, List.set_cons_zero]) | (refine pre_store 5 _ _ rfl ?_; refine wpList_storeOne_hp hp _ _ _ rfl (by first | exact wanted_none rfl | exact wanted_yes rfl rfl rfl rfl) _ _ (slot_tmp rfl) _ (by first | exact slot_tmp rfl | exact slot_const) cell5 _ _ _ _ (by first | exact at0 | exact at1 | exact at2 | exact at3 | exact at4 | exact at5 | exact at6 | exact at7 | exact at8 | exact at9 | exact at10 | exact at11 | exact at12 | exact at13) (by simp only [List.length_cons, List.length_nil]; omega) (by first | rfl | assumption) ?_; clear hp; intro w1 hp; simp only [List.set_cons_zero, List.set_cons_succ] at hp; simp only [put_some, put_none, List.set_cons_succ, List.set_cons_zero]) | (refine pre_store 25 _ _ rfl ?_; refine wpList_storeOne_hp hp _ _ _ rfl (by first | exact wanted_none rfl | exact wanted_yes rfl rfl rfl rfl) _ _ (slot_tmp rfl) _ (by first | exact slot_tmp rfl | exact slot_const) cell25 _ _ _ _ (by first | exact at0 | exact at1 | exact at2 | exact at3 | exact at4 | exact at5 | exact at6 | exact at7 | exact at8 | exact at9 | exact at10 | exact at11 | exact at12 | exact at13) (by simp only [List.length_cons, List.length_nil]; omega) (by first | rfl | assumption) ?_; clear hp; intro w1 hp; simp only [List.set_cons_zero, List.set_cons_succ] at hp; simp only [put_some, put_none, List.set_cons_succ, List.set_cons_zero]))
  go_loopg [3, 4] l.length (fun k n i wr => ∃ q : Nat, k + q = l.length ∧ i = .int .i64 q ∧ n = .int .i64 (cb (lf l) q : Nat) ∧ Hp w.heap.size w wr [])
  case atStart => exact ⟨0, by omega, rfl, rfl, hp⟩
  case round =>
    clear hp
    obtain ⟨q, hkq, rfl, rfl, hp⟩ := hrel
    have hc := cb_le (lf l) q
    have HC := Lib.hid (show cb (lf l) (q + 1) = cb (lf l) q + (lf l q).toNat from rfl)
    by_cases hlt : q < l.length
    · obtain ⟨bq, off, rfl, hx⟩ := HA.out.elems 1 boV_len (by omega) (by omega)
      have hj := List.getElem?_eq_getElem hlt
      have hlq : lf l q = l[q] := by simp [lf, List.getD, hj]
      rw [hlq] at HC
      replace hx := hx q _ hj
      generalize l[q] = u at hx HC
      simp only [boV, Nat.mul_one] at hx
      have HX := Lib.hid hx
      clear hx hj hlq
      have e1 : (0 : Int) ≤ (q : Int) := by omega
      have e2 : (q : Int) < (l.length : Int) := by omega
      cases u
      all_goals
        go_wp2_with (first | go_skip | (refine pre_box _ _ rfl ?_; refine wpList_box_hp hp _ _ rfl (by first | exact wanted_none rfl | exact wanted_yes rfl rfl rfl rfl) _ (slot_tmp rfl) _ rfl _ (by simp only [List.length_cons, List.length_nil, Nat.reduceAdd]; rfl) ?_; clear hp; intro b w1 hp; simp only [put_some, put_none, List.set_cons_succ, List.set_cons_zero]) | (refine pre_load 57 _ rfl ?_; first | (refine wpList_loadAgg_hp hp _ _ rfl (by first | exact wanted_none rfl | exact wanted_yes rfl rfl rfl rfl) _ _ (slot_tmp rfl) _ agg57 _ _ _ _ (by first | exact at0 | exact at1 | exact at2 | exact at3 | exact at4 | exact at5 | exact at6 | exact at7 | exact at8 | exact at9 | exact at10 | exact at11 | exact at12 | exact at13) _ (by simp only [List.drop_zero, List.drop_succ_cons, List.take_succ_cons, List.take_zero, List.take_nil]; rfl) (by rfl) ?_; simp only [put_some, put_none, List.set_cons_succ, List.set_cons_zero]) | (refine wpList_loadRow_hp hp _ _ rfl (by first | exact wanted_none rfl | exact wanted_yes rfl rfl rfl rfl) _ _ (slot_tmp rfl) _ agg57 _ HX.out (by rfl) ?_; simp only [put_some, put_none, List.set_cons_succ, List.set_cons_zero])) | (refine pre_load 23 _ rfl ?_; first | (refine wpList_loadAgg_hp hp _ _ rfl (by first | exact wanted_none rfl | exact wanted_yes rfl rfl rfl rfl) _ _ (slot_tmp rfl) _ agg23 _ _ _ _ (by first | exact at0 | exact at1 | exact at2 | exact at3 | exact at4 | exact at5 | exact at6 | exact at7 | exact at8 | exact at9 | exact at10 | exact at11 | exact at12 | exact at13) _ (by simp only [List.drop_zero, List.drop_succ_cons, List.take_succ_cons, List.take_zero, List.take_nil]; rfl) (by rfl) ?_; simp only [put_some, put_none, List.set_cons_succ, List.set_cons_zero]) | (refine wpList_loadRow_hp hp _ _ rfl (by first | exact wanted_none rfl | exact wanted_yes rfl rfl rfl rfl) _ _ (slot_tmp rfl) _ agg23 _ HX.out (by rfl) ?_; simp only [put_some, put_none, List.set_cons_succ, List.set_cons_zero])) | (refine pre_load 3 _ rfl ?_; first | (refine wpList_loadOne_hp hp _ _ rfl (by first | exact wanted_none rfl | exact wanted_yes rfl rfl rfl rfl) _ _ (slot_tmp rfl) cell3 _ _ _ _ (by first | exact at0 | exact at1 | exact at2 | exact at3 | exact at4 | exact at5 | exact at6 | exact at7 | exact at8 | exact at9 | exact at10 | exact at11 | exact at12 | exact at13) _ (by rfl) ?_; simp only [put_some, put_none, List.set_cons_succ, List.set_cons_zero]) | (refine wpList_loadRowOne_hp hp _ _ rfl (by first | exact wanted_none rfl | exact wanted_yes rfl rfl rfl rfl) _ _ (slot_tmp rfl) cell3 _ (HX.out 0 _ rfl) ?_; simp only [put_some, put_none, List.set_cons_succ, List.set_cons_zero])) | (refine pre_load 4 _ rfl ?_; first | (refine wpList_loadOne_hp hp _ _ rfl (by first | exact wanted_none rfl | exact wanted_yes rfl rfl rfl rfl) _ _ (slot_tmp rfl) cell4 _ _ _ _ (by first | exact at0 | exact at1 | exact at2 | exact at3 | exact at4 | exact at5 | exact at6 | exact at7 | exact at8 | exact at9 | exact at10 | exact at11 | exact at12 | exact at13) _ (by rfl) ?_; simp only [put_some, put_none, List.set_cons_succ, List.set_cons_zero]) | (refine wpList_loadRowOne_hp hp _ _ rfl (by first | exact wanted_none rfl | exact wanted_yes rfl rfl rfl rfl) _ _ (slot_tmp rfl) cell4 _ (HX.out 0 _ rfl) ?_; simp only [put_some, put_none, List.set_cons_succ, List.set_cons_zero])) | (refine pre_load 5 _ rfl ?_; first | (refine wpList_loadOne_hp hp _ _ rfl (by first | exact wanted_none rfl | exact wanted_yes rfl rfl rfl rfl) _ _ (slot_tmp rfl) cell5 _ _ _ _ (by first | exact at0 | exact at1 | exact at2 | exact at3 | exact at4 | exact at5 | exact at6 | exact at7 | exact at8 | exact at9 | exact at10 | exact at11 | exact at12 | exact at13) _ (by rfl) ?_; simp only [put_some, put_none, List.set_cons_succ, List.set_cons_zero]) | (refine wpList_loadRowOne_hp hp _ _ rfl (by first | exact wanted_none rfl | exact wanted_yes rfl rfl rfl rfl) _ _ (slot_tmp rfl) cell5 _ (HX.out 0 _ rfl) ?_; simp only [put_some, put_none, List.set_cons_succ, List.set_cons_zero])) | (refine pre_load 25 _ rfl ?_; first | (refine wpList_loadOne_hp hp _ _ rfl (by first | exact wanted_none rfl | exact wanted_yes rfl rfl rfl rfl) _ _ (slot_tmp rfl) cell25 _ _ _ _ (by first | exact at0 | exact at1 | exact at2 | exact at3 | exact at4 | exact at5 | exact at6 | exact at7 | exact at8 | exact at9 | exact at10 | exact at11 | exact at12 | exact at13) _ (by rfl) ?_; simp only [put_some, put_none, List.set_cons_succ, List.set_cons_zero]) | (refine wpList_loadRowOne_hp hp _ _ rfl (by first | exact wanted_none rfl | exact wanted_yes rfl rfl rfl rfl) _ _ (slot_tmp rfl) cell25 _ (HX.out 0 _ rfl) ?_; simp only [put_some, put_none, List.set_cons_succ, List.set_cons_zero])) | (refine pre_store 57 _ _ rfl ?_; first | (refine wpList_storeAll_hp hp _ _ _ rfl (by first | exact wanted_none rfl | exact wanted_yes rfl rfl rfl rfl) _ (slot_tmp rfl) _ (slot_tmp rfl) agg57 _ _ _ _ (by first | exact at0 | exact at1 | exact at2 | exact at3 | exact at4 | exact at5 | exact at6 | exact at7 | exact at8 | exact at9 | exact at10 | exact at11 | exact at12 | exact at13) (by rfl) (by first | rfl | simp [*]) ?_; clear hp; intro w1 hp; simp only [List.set_cons_zero, List.set_cons_succ] at hp; simp only [put_some, put_none, List.set_cons_succ, List.set_cons_zero]) | (refine wpList_storeAgg_hp hp _ _ _ rfl (by first | exact wanted_none rfl | exact wanted_yes rfl rfl rfl rfl) _ _ (slot_tmp rfl) _ (slot_tmp rfl) agg57 _ _ _ _ (by first | exact at0 | exact at1 | exact at2 | exact at3 | exact at4 | exact at5 | exact at6 | exact at7 | exact at8 | exact at9 | exact at10 | exact at11 | exact at12 | exact at13) (by simp only [List.length_cons, List.length_nil]; omega) (by first | rfl | simp [*]) ?_; clear hp; intro w1 hp; simp only [spl, List.set_cons_zero, List.set_cons_succ] at hp; simp only [put_some, put_none, List.set_cons_succ, List.set_cons_zero])) | (refine pre_store 23 _ _ rfl ?_; first | (refine wpList_storeAll_hp hp _ _ _ rfl (by first | exact wanted_none rfl | exact wanted_yes rfl rfl rfl rfl) _ (slot_tmp rfl) _ (slot_tmp rfl) agg23 _ _ _ _ (by first | exact at0 | exact at1 | exact at2 | exact at3 | exact at4 | exact at5 | exact at6 | exact at7 | exact at8 | exact at9 | exact at10 | exact at11 | exact at12 | exact at13) (by rfl) (by first | rfl | simp [*]) ?_; clear hp; intro w1 hp; simp only [List.set_cons_zero, List.set_cons_succ] at hp; simp only [put_some, put_none, List.set_cons_succ, List.set_cons_zero]) | (refine wpList_storeAgg_hp hp _ _ _ rfl (by first | exact wanted_none rfl | exact wanted_yes rfl rfl rfl rfl) _ _ (slot_tmp rfl) _ (slot_tmp rfl) agg23 _ _ _ _ (by first | exact at0 | exact at1 | exact at2 | exact at3 | exact at4 | exact at5 | exact at6 | exact at7 | exact at8 | exact at9 | exact at10 | exact at11 | exact at12 | exact at13) (by simp only [List.length_cons, List.length_nil]; omega) (by first | rfl | simp [*]) ?_; clear hp; intro w1 hp; simp only [spl, List.set_cons_zero, List.set_cons_succ] at hp; simp only [put_some, put_none, List.set_cons_succ, List.set_cons_zero])) | (refine pre_store 3 _ _ rfl ?_; refine wpList_storeOne_hp hp _ _ _ rfl (by first | exact wanted_none rfl | exact wanted_yes rfl rfl rfl rfl) _ _ (slot_tmp rfl) _ (by first | exact slot_tmp rfl | exact slot_const) cell3 _ _ _ _ (by first | exact at0 | exact at1 | exact at2 | exact at3 | exact at4 | exact at5 | exact at6 | exact at7 | exact at8 | exact at9 | exact at10 | exact at11 | exact at12 | exact at13) (by simp only [List.length_cons, List.length_nil]; omega) (by first | rfl | assumption) ?_; clear hp; intro w1 hp; simp only [List.set_cons_zero, List.set_cons_succ] at hp; simp only [put_some, put_none, List.set_cons_succ, List.set_cons_zero]) | (refine pre_store 4 _ _ rfl ?_; refine wpList_storeOne_hp hp _ _ _ rfl (by first | exact wanted_none rfl | exact wanted_yes rfl rfl rfl rfl) _ _ (slot_tmp rfl) _ (by first | exact slot_tmp rfl | exact slot_const) cell4 _ _ _ _ (by first | exact at0 | exact at1 | exact at2 | exact at3 | exact at4 | exact at5 | exact at6 | exact at7 | exact at8 | exact at9 | exact at10 | exact at11 | exact at12 | exact at13) (by simp only [List.length_cons, List.length_nil]; omega) (by first | rfl | assumption) ?_; clear hp; intro w1 hp; simp only [List.set_cons_zero, List.set_cons_succ] at hp; simp only [put_some, put_none, List.set_cons_succ, List.set_cons_zero]) | (refine pre_store 5 _ _ rfl ?_; refine wpList_storeOne_hp hp _ _ _ rfl (by first | exact wanted_none rfl | exact wanted_yes rfl rfl rfl rfl) _ _ (slot_tmp rfl) _ (by first | exact slot_tmp rfl | exact slot_const) cell5 _ _ _ _ (by first | exact at0 | exact at1 | exact at2 | exact at3 | exact at4 | exact at5 | exact at6 | exact at7 | exact at8 | exact at9 | exact at10 | exact at11 | exact at12 | exact at13) (by simp only [List.length_cons, List.length_nil]; omega) (by first | rfl | assumption) ?_; clear hp; intro w1 hp; simp only [List.set_cons_zero, List.set_cons_succ] at hp; simp only [put_some, put_none, List.set_cons_succ, List.set_cons_zero]) | (refine pre_store 25 _ _ rfl ?_; refine wpList_storeOne_hp hp _ _ _ rfl (by first | exact wanted_none rfl | exact wanted_yes rfl rfl rfl rfl) _ _ (slot_tmp rfl) _ (by first | exact slot_tmp rfl | exact slot_const) cell25 _ _ _ _ (by first | exact at0 | exact at1 | exact at2 | exact at3 | exact at4 | exact at5 | exact at6 | exact at7 | exact at8 | exact at9 | exact at10 | exact at11 | exact at12 | exact at13) (by simp only [List.length_cons, List.length_nil]; omega) (by first | rfl | assumption) ?_; clear hp; intro w1 hp; simp only [List.set_cons_zero, List.set_cons_succ] at hp; simp only [put_some, put_none, List.set_cons_succ, List.set_cons_zero]))
        go_roundg (gk - 1)
        case measure => omega
        case rel => exact ⟨q + 1, by omega, by go_num, by rw [HC.out]; simp, hp⟩
    · have e2 : decide ((q : Int) < (l.length : Int)) = false := by simp; omega
      have hq : l.length = q := by omega
      have HQ := Lib.hid hq
      clear hq
      go_wp2_with fail
      go_ret
      exact ⟨ret_int (by rw [HQ.out]), hp.below⟩
end Go.Proofs.Ytfnadjlnnfmnmaa
