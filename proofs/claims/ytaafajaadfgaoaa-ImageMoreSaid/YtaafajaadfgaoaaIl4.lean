/- Parts of the proof. -/
import Derived.Test.YtaafajaadfgaoaaIl3
import Derived.Test.YtaafajaadfgaoaaIl0
import Derived.Shelf.SlSortCmp.WholeK
import Derived.Shelf.SlLaysF0
import Derived.Test.YtaafajaadfgaoaaRows
import Derived.Test.YtaafajaadfgaoaaIl1
import Derived.Shelf.SlSortCmp.NoneTotal
import Derived.Shelf.Abstract
import Derived.Test.YtaafajaadfgaoaaIl2
open List renaming set_cons_zero → zSet, set_cons_succ → sSet
/- The walks that lay numbers, ints and texts as bytes (written by mkow.py). -/
set_option linter.unusedSimpArgs false
set_option linter.unusedVariables false
namespace Go.Proofs.Ytaafajaadfgaoaa
open Go.RowKit
theorem ceOW0 {ty : TypeId} (h : cellB Try.prog ty = true := by with_reducible first | exact cell3 | exact cell4 | exact cell31 | exact cell5) : cellB Try.prog ty = true := h
theorem info5 : (Try.prog.info? 5).map (fun i => (i.zero, i.size, i.bytes)) = some (some (.int .u8 0), 1, 1) := by kernel_rfl
theorem agg48 : aggB Try.prog 48 1 = true := by kernel_rfl
def byteS (s u k : Nat) : Nat := u / 2 ^ (8 * (s - 1 - k)) % 256
def beS (s u : Nat) : List Nat := (List.range s).map (byteS s u)
theorem beS_len (s u : Nat) : (beS s u).length = s := by simp [beS]
theorem beS_take (s u j : Nat) (h : j < s) : (beS s u).take (j + 1) = (beS s u).take j ++ [byteS s u j] := by
  rw [List.take_add_one]
  congr 1
  simp [beS, List.getElem?_map, List.getElem?_range h]
theorem beS_bytes (s u : Nat) : Bytes (beS s u) := by
  intro x hx
  obtain ⟨k, _, rfl⟩ := List.mem_map.1 hx
  exact Nat.mod_lt _ (by decide)
theorem Bytes.app {l k : List Nat} (h : Bytes l) (h' : Bytes k) : Bytes (l ++ k) := fun x hx => (List.mem_append.1 hx).elim (h x) (h' x)
theorem Bytes.nil : Bytes [] := fun x hx => by cases hx
def RowO (w : World) (xs : List Nat) (e : Ending) (w' : World) : Prop := ∃ v R, e = .returned v ∧ OwnRow 5 1 v xs.length (xs.flatMap byV) R ∧ Hp w.heap.size w w' R
set_option maxRecDepth 100000 in
set_option maxHeartbeats 4000000 in
theorem puts39_4 (xs : List Nat) (hl : xs.length ≤ 1000000) (u : Nat) (hu : u < 18446744073709551616) (a : Option Addr) (c : Nat) (w : World) (ha : RowIs w a (xs.flatMap byV)) :
    Calls Try.prog 39 #[.slice a xs.length c, .int .u64 (u : Int), .int .i64 4] w (RowO w (xs ++ beS 4 u)) := by
  obtain ⟨i0, hi0, hz0, hz1, hz2⟩ := info_parts info5
  have hp := Hp.start w
  have HA := Lib.hid ha
  clear ha
  go_enter Try.func39, Try.ntmps39
  go_wp2_with (first | ((with_reducible refine pre_make 31 _ _ rfl ?_); refine wpList_make0_hp hp _ _ _ rfl wy 5 i0 _ Try.underlying31 hi0 hz0 hz1 rfl _ (by first | exact slot_const | exact sTm rfl) (by first | exact sTm rfl | exact slot_const) (xs.length + 4) (by omega) (by rw [hz2]; omega) (by unfold maxLen; omega) ?_; clear hp; intro v R w1 hR hp; have HR := Lib.hid hR; clear hR; replace hp : Hp _ _ _ ([] ++ (R ++ [])) := (by simpa using hp); simp only [put_some, put_none, sSet, zSet]) | ((with_reducible refine pre_append _ _ 31 rfl ?_); refine wpList_appendGrowRow (K := []) hp _ _ _ rfl wy i0 _ 1 Try.underlying31 hi0 hz0 hz1 hz2 rfl (by decide) (sTm rfl) HR.out a xs.length c (sTm rfl) _ (by rw [flat_len byV 1 byV_len]) (HA.out.below hp.below) (by_one xs) (by unfold maxLen; omega) (by omega) ?_; clear hp; intro v' R' w1 hR' hp; have HR' := Lib.hid hR'; clear hR'; simp only [put_some, put_none, sSet, zSet]) | go_skip | ((first | ((with_reducible refine pre_box _ _ rfl ?_); refine lB hp rfl (sTm rfl) rfl ?_; clear hp; intro b w1 hp) | ((with_reducible refine pre_load _ _ rfl ?_); first | refine lO hp rfl (sTm rfl) ceOW0 aa14 ?_ | refine lA hp rfl (sTm rfl) agg48 aa14 ?_) | ((with_reducible refine pre_store _ _ _ rfl ?_); (first | refine sO hp rfl (sTm rfl) ceOW0 aa14 ?_ | refine sA hp rfl (sTm rfl) (sTm rfl) agg48 aa14 ?_ | refine sG hp rfl (sTm rfl) (sTm rfl) agg48 aa14 ?_); clear hp; intro w1 hp; simp only [spl, zSet, sSet] at hp) | ((with_reducible refine pre_build _ _ _ rfl ?_); refine lS hp rfl (by intro w; go_simp; rfl) ?_; clear hp; intro b w1 hp; simp only [List.length_cons, List.length_nil, Nat.reduceAdd] at hp)); simp only [put_some, put_none, sSet, zSet]))
  go_loopg [7, 8] 4 (fun k v i wr => ∃ (j : Nat) (R : List Blk), k + j = 4 ∧ i = .int .i64 (4 - 1 - (j : Int)) ∧ RowKit.Hid (OwnRow 5 1 v (xs.length + j) ((xs ++ (beS 4 u).take j).flatMap byV) R) ∧ Hp w.heap.size w wr ([] ++ (R ++ [])))
  case atStart => exact ⟨0, R', by omega, rfl, Lib.hid (by have := HR'.out; simpa using this), hp⟩
  case round =>
    clear hp HR HR'
    obtain ⟨j, R, hkj, rfl, HR, hp⟩ := hrel
    by_cases hlt : j < 4
    · obtain ⟨m, hm⟩ : ∃ m : Nat, 4 - 1 - (j : Int) = m := ⟨4 - 1 - j, by omega⟩
      have hm7 : m ≤ 7 := by omega
      have HM := Lib.hid hm
      rw [hm]
      have HB : RowKit.Hid ((byteS 4 u j : Nat) = u / 2 ^ (8 * m) % 256) := Lib.hid (by unfold byteS; rw [show 4 - 1 - j = m by omega])
      clear hm
      have e1 : (0 : Int) ≤ (m : Int) := by omega
      have e2 : wrap64 (8 * (m : Int)) = 8 * (m : Int) := by unfold wrap64; omega
      have e3 : (8 * (m : Int)).toNat = 8 * m := by omega
      go_wp2_with (first | ((with_reducible refine pre_append _ _ 31 rfl ?_); refine wpList_appendGrow (K := []) hp _ _ _ rfl wy i0 _ 1 Try.underlying31 hi0 hz0 hz1 hz2 rfl (by decide) (sTm rfl) HR.out 1 1 (sTm rfl) (by rfl) (by decide) (by rfl) (by unfold maxLen; omega) (by omega) ?_; clear hp HR; intro v' R' w1 hR' hp; have HR' := Lib.hid hR'; clear hR'; simp only [put_some, put_none, sSet, zSet]) | go_skip | ((first | ((with_reducible refine pre_box _ _ rfl ?_); refine lB hp rfl (sTm rfl) rfl ?_; clear hp; intro b w1 hp) | ((with_reducible refine pre_load _ _ rfl ?_); first | refine lO hp rfl (sTm rfl) ceOW0 aa14 ?_ | refine lA hp rfl (sTm rfl) agg48 aa14 ?_) | ((with_reducible refine pre_store _ _ _ rfl ?_); (first | refine sO hp rfl (sTm rfl) ceOW0 aa14 ?_ | refine sA hp rfl (sTm rfl) (sTm rfl) agg48 aa14 ?_ | refine sG hp rfl (sTm rfl) (sTm rfl) agg48 aa14 ?_); clear hp; intro w1 hp; simp only [spl, zSet, sSet] at hp) | ((with_reducible refine pre_build _ _ _ rfl ?_); refine lS hp rfl (by intro w; go_simp; rfl) ?_; clear hp; intro b w1 hp; simp only [List.length_cons, List.length_nil, Nat.reduceAdd] at hp)); simp only [put_some, put_none, sSet, zSet]))
      go_roundg (gk - 1)
      case measure => omega
      case rel => exact ⟨j + 1, R', by omega, congrArg (Value.int .i64) (by have := HM.out; omega), Lib.hid (by have h := HR'.out; rw [beS_take 4 u j hlt, ← List.append_assoc, List.flatMap_append]; simp only [List.flatMap_cons, List.flatMap_nil, List.append_nil, byV]; rw [HB.out]; push_cast; exact h), hp⟩
    · have hj : j = 4 := by omega
      subst hj
      have e1 : decide ((0 : Int) ≤ 4 - 1 - ((4 : Nat) : Int)) = false := by decide
      go_wp2_with (first | go_skip | ((first | ((with_reducible refine pre_box _ _ rfl ?_); refine lB hp rfl (sTm rfl) rfl ?_; clear hp; intro b w1 hp) | ((with_reducible refine pre_load _ _ rfl ?_); first | refine lO hp rfl (sTm rfl) ceOW0 aa14 ?_ | refine lA hp rfl (sTm rfl) agg48 aa14 ?_) | ((with_reducible refine pre_store _ _ _ rfl ?_); (first | refine sO hp rfl (sTm rfl) ceOW0 aa14 ?_ | refine sA hp rfl (sTm rfl) (sTm rfl) agg48 aa14 ?_ | refine sG hp rfl (sTm rfl) (sTm rfl) agg48 aa14 ?_); clear hp; intro w1 hp; simp only [spl, zSet, sSet] at hp) | ((with_reducible refine pre_build _ _ _ rfl ?_); refine lS hp rfl (by intro w; go_simp; rfl) ?_; clear hp; intro b w1 hp; simp only [List.length_cons, List.length_nil, Nat.reduceAdd] at hp)); simp only [put_some, put_none, sSet, zSet]))
      go_ret
      refine ⟨_, R, rfl, ?_, by simpa using hp⟩
      have h := HR.out
      rw [List.take_of_length_le (by rw [beS_len]; omega)] at h
      rw [List.length_append, beS_len]
      exact h
set_option maxRecDepth 100000 in
set_option maxHeartbeats 4000000 in
theorem puts39_8 (xs : List Nat) (hl : xs.length ≤ 1000000) (u : Nat) (hu : u < 18446744073709551616) (a : Option Addr) (c : Nat) (w : World) (ha : RowIs w a (xs.flatMap byV)) :
    Calls Try.prog 39 #[.slice a xs.length c, .int .u64 (u : Int), .int .i64 8] w (RowO w (xs ++ beS 8 u)) := by
  obtain ⟨i0, hi0, hz0, hz1, hz2⟩ := info_parts info5
  have hp := Hp.start w
  have HA := Lib.hid ha
  clear ha
  go_enter Try.func39, Try.ntmps39
  go_wp2_with (first | ((with_reducible refine pre_make 31 _ _ rfl ?_); refine wpList_make0_hp hp _ _ _ rfl wy 5 i0 _ Try.underlying31 hi0 hz0 hz1 rfl _ (by first | exact slot_const | exact sTm rfl) (by first | exact sTm rfl | exact slot_const) (xs.length + 8) (by omega) (by rw [hz2]; omega) (by unfold maxLen; omega) ?_; clear hp; intro v R w1 hR hp; have HR := Lib.hid hR; clear hR; replace hp : Hp _ _ _ ([] ++ (R ++ [])) := (by simpa using hp); simp only [put_some, put_none, sSet, zSet]) | ((with_reducible refine pre_append _ _ 31 rfl ?_); refine wpList_appendGrowRow (K := []) hp _ _ _ rfl wy i0 _ 1 Try.underlying31 hi0 hz0 hz1 hz2 rfl (by decide) (sTm rfl) HR.out a xs.length c (sTm rfl) _ (by rw [flat_len byV 1 byV_len]) (HA.out.below hp.below) (by_one xs) (by unfold maxLen; omega) (by omega) ?_; clear hp; intro v' R' w1 hR' hp; have HR' := Lib.hid hR'; clear hR'; simp only [put_some, put_none, sSet, zSet]) | go_skip | ((first | ((with_reducible refine pre_box _ _ rfl ?_); refine lB hp rfl (sTm rfl) rfl ?_; clear hp; intro b w1 hp) | ((with_reducible refine pre_load _ _ rfl ?_); first | refine lO hp rfl (sTm rfl) ceOW0 aa14 ?_ | refine lA hp rfl (sTm rfl) agg48 aa14 ?_) | ((with_reducible refine pre_store _ _ _ rfl ?_); (first | refine sO hp rfl (sTm rfl) ceOW0 aa14 ?_ | refine sA hp rfl (sTm rfl) (sTm rfl) agg48 aa14 ?_ | refine sG hp rfl (sTm rfl) (sTm rfl) agg48 aa14 ?_); clear hp; intro w1 hp; simp only [spl, zSet, sSet] at hp) | ((with_reducible refine pre_build _ _ _ rfl ?_); refine lS hp rfl (by intro w; go_simp; rfl) ?_; clear hp; intro b w1 hp; simp only [List.length_cons, List.length_nil, Nat.reduceAdd] at hp)); simp only [put_some, put_none, sSet, zSet]))
  go_loopg [7, 8] 8 (fun k v i wr => ∃ (j : Nat) (R : List Blk), k + j = 8 ∧ i = .int .i64 (8 - 1 - (j : Int)) ∧ RowKit.Hid (OwnRow 5 1 v (xs.length + j) ((xs ++ (beS 8 u).take j).flatMap byV) R) ∧ Hp w.heap.size w wr ([] ++ (R ++ [])))
  case atStart => exact ⟨0, R', by omega, rfl, Lib.hid (by have := HR'.out; simpa using this), hp⟩
  case round =>
    clear hp HR HR'
    obtain ⟨j, R, hkj, rfl, HR, hp⟩ := hrel
    by_cases hlt : j < 8
    · obtain ⟨m, hm⟩ : ∃ m : Nat, 8 - 1 - (j : Int) = m := ⟨8 - 1 - j, by omega⟩
      have hm7 : m ≤ 7 := by omega
      have HM := Lib.hid hm
      rw [hm]
      have HB : RowKit.Hid ((byteS 8 u j : Nat) = u / 2 ^ (8 * m) % 256) := Lib.hid (by unfold byteS; rw [show 8 - 1 - j = m by omega])
      clear hm
      have e1 : (0 : Int) ≤ (m : Int) := by omega
      have e2 : wrap64 (8 * (m : Int)) = 8 * (m : Int) := by unfold wrap64; omega
      have e3 : (8 * (m : Int)).toNat = 8 * m := by omega
      go_wp2_with (first | ((with_reducible refine pre_append _ _ 31 rfl ?_); refine wpList_appendGrow (K := []) hp _ _ _ rfl wy i0 _ 1 Try.underlying31 hi0 hz0 hz1 hz2 rfl (by decide) (sTm rfl) HR.out 1 1 (sTm rfl) (by rfl) (by decide) (by rfl) (by unfold maxLen; omega) (by omega) ?_; clear hp HR; intro v' R' w1 hR' hp; have HR' := Lib.hid hR'; clear hR'; simp only [put_some, put_none, sSet, zSet]) | go_skip | ((first | ((with_reducible refine pre_box _ _ rfl ?_); refine lB hp rfl (sTm rfl) rfl ?_; clear hp; intro b w1 hp) | ((with_reducible refine pre_load _ _ rfl ?_); first | refine lO hp rfl (sTm rfl) ceOW0 aa14 ?_ | refine lA hp rfl (sTm rfl) agg48 aa14 ?_) | ((with_reducible refine pre_store _ _ _ rfl ?_); (first | refine sO hp rfl (sTm rfl) ceOW0 aa14 ?_ | refine sA hp rfl (sTm rfl) (sTm rfl) agg48 aa14 ?_ | refine sG hp rfl (sTm rfl) (sTm rfl) agg48 aa14 ?_); clear hp; intro w1 hp; simp only [spl, zSet, sSet] at hp) | ((with_reducible refine pre_build _ _ _ rfl ?_); refine lS hp rfl (by intro w; go_simp; rfl) ?_; clear hp; intro b w1 hp; simp only [List.length_cons, List.length_nil, Nat.reduceAdd] at hp)); simp only [put_some, put_none, sSet, zSet]))
      go_roundg (gk - 1)
      case measure => omega
      case rel => exact ⟨j + 1, R', by omega, congrArg (Value.int .i64) (by have := HM.out; omega), Lib.hid (by have h := HR'.out; rw [beS_take 8 u j hlt, ← List.append_assoc, List.flatMap_append]; simp only [List.flatMap_cons, List.flatMap_nil, List.append_nil, byV]; rw [HB.out]; push_cast; exact h), hp⟩
    · have hj : j = 8 := by omega
      subst hj
      have e1 : decide ((0 : Int) ≤ 8 - 1 - ((8 : Nat) : Int)) = false := by decide
      go_wp2_with (first | go_skip | ((first | ((with_reducible refine pre_box _ _ rfl ?_); refine lB hp rfl (sTm rfl) rfl ?_; clear hp; intro b w1 hp) | ((with_reducible refine pre_load _ _ rfl ?_); first | refine lO hp rfl (sTm rfl) ceOW0 aa14 ?_ | refine lA hp rfl (sTm rfl) agg48 aa14 ?_) | ((with_reducible refine pre_store _ _ _ rfl ?_); (first | refine sO hp rfl (sTm rfl) ceOW0 aa14 ?_ | refine sA hp rfl (sTm rfl) (sTm rfl) agg48 aa14 ?_ | refine sG hp rfl (sTm rfl) (sTm rfl) agg48 aa14 ?_); clear hp; intro w1 hp; simp only [spl, zSet, sSet] at hp) | ((with_reducible refine pre_build _ _ _ rfl ?_); refine lS hp rfl (by intro w; go_simp; rfl) ?_; clear hp; intro b w1 hp; simp only [List.length_cons, List.length_nil, Nat.reduceAdd] at hp)); simp only [put_some, put_none, sSet, zSet]))
      go_ret
      refine ⟨_, R, rfl, ?_, by simpa using hp⟩
      have h := HR.out
      rw [List.take_of_length_le (by rw [beS_len]; omega)] at h
      rw [List.length_append, beS_len]
      exact h
set_option maxRecDepth 100000 in
set_option maxHeartbeats 4000000 in
theorem putn40 (xs : List Nat) (hl : xs.length ≤ 1000000) (n : Nat) (hn : n ≤ 2147483647) (a : Option Addr) (c : Nat) (w : World) (ha : RowIs w a (xs.flatMap byV)) :
    Calls Try.prog 40 #[.slice a xs.length c, .int .i64 n] w fun e w' => ∃ v R, e = .returned (.tuple #[v, .int .i64 0]) ∧ OwnRow 5 1 v (xs ++ beS 4 n).length ((xs ++ beS 4 n).flatMap byV) R ∧ Hp w.heap.size w w' R := by
  have hp := Hp.start w
  have HA := Lib.hid ha
  have hu : n < 18446744073709551616 := by omega
  have e1 : decide ((n : Int) < 0) = false := decide_eq_false (by omega)
  have e2 : decide ((2147483647 : Int) < (n : Int)) = false := by simp; omega
  have e3 : IntKind.u64.wrap (n : Int) = (n : Int) := by rw [wrapU]; unfold uN; omega
  clear ha
  go_enter Try.func40, Try.ntmps40
  go_wp2_with (first | (go_at_call 39; (with_reducible refine (puts39_4 xs hl _ hu a c _ (HA.out.below hp.below)).mono ?_); rintro e w1 ⟨v2, R2, rfl, hr2, hp2⟩; replace hp := hp.join hp2; have HR2 := Lib.hid hr2; clear hr2 hp2; simp only [List.nil_append] at hp) | go_skip | ((first | ((with_reducible refine pre_box _ _ rfl ?_); refine lB hp rfl (sTm rfl) rfl ?_; clear hp; intro b w1 hp) | ((with_reducible refine pre_load _ _ rfl ?_); first | refine lO hp rfl (sTm rfl) ceOW0 aa14 ?_ | refine lA hp rfl (sTm rfl) agg48 aa14 ?_) | ((with_reducible refine pre_store _ _ _ rfl ?_); (first | refine sO hp rfl (sTm rfl) ceOW0 aa14 ?_ | refine sA hp rfl (sTm rfl) (sTm rfl) agg48 aa14 ?_ | refine sG hp rfl (sTm rfl) (sTm rfl) agg48 aa14 ?_); clear hp; intro w1 hp; simp only [spl, zSet, sSet] at hp) | ((with_reducible refine pre_build _ _ _ rfl ?_); refine lS hp rfl (by intro w; go_simp; rfl) ?_; clear hp; intro b w1 hp; simp only [List.length_cons, List.length_nil, Nat.reduceAdd] at hp)); simp only [put_some, put_none, sSet, zSet]))
  go_ret2
  exact ⟨v2, R2, rfl, HR2.out, hp⟩
set_option maxRecDepth 100000 in
set_option maxHeartbeats 4000000 in
theorem putis41 (xs : List Nat) (hl : xs.length ≤ 1000000) (n : Int) (a : Option Addr) (c : Nat) (w : World) (ha : RowIs w a (xs.flatMap byV)) :
    Calls Try.prog 41 #[.slice a xs.length c, .int .i64 n] w (RowO w (xs ++ beS 8 (uN n))) := by
  have hp := Hp.start w
  have HA := Lib.hid ha
  have e1 := wrapU n
  clear ha
  go_enter Try.func41, Try.ntmps41
  go_wp2_with (first | (go_at_call 39; (with_reducible refine (puts39_8 xs hl _ (uN_lt n) a c _ (HA.out.below hp.below)).mono ?_); rintro e w1 ⟨v2, R2, rfl, hr2, hp2⟩; replace hp := hp.join hp2; have HR2 := Lib.hid hr2; clear hr2 hp2; simp only [List.nil_append] at hp) | go_skip | ((first | ((with_reducible refine pre_box _ _ rfl ?_); refine lB hp rfl (sTm rfl) rfl ?_; clear hp; intro b w1 hp) | ((with_reducible refine pre_load _ _ rfl ?_); first | refine lO hp rfl (sTm rfl) ceOW0 aa14 ?_ | refine lA hp rfl (sTm rfl) agg48 aa14 ?_) | ((with_reducible refine pre_store _ _ _ rfl ?_); (first | refine sO hp rfl (sTm rfl) ceOW0 aa14 ?_ | refine sA hp rfl (sTm rfl) (sTm rfl) agg48 aa14 ?_ | refine sG hp rfl (sTm rfl) (sTm rfl) agg48 aa14 ?_); clear hp; intro w1 hp; simp only [spl, zSet, sSet] at hp) | ((with_reducible refine pre_build _ _ _ rfl ?_); refine lS hp rfl (by intro w; go_simp; rfl) ?_; clear hp; intro b w1 hp; simp only [List.length_cons, List.length_nil, Nat.reduceAdd] at hp)); simp only [put_some, put_none, sSet, zSet]))
  go_ret
  exact ⟨v2, R2, rfl, HR2.out, hp⟩
def strB (s : ByteArray) : List Nat := s.data.toList.map UInt8.toNat
theorem strB_len (s : ByteArray) : (strB s).length = s.size := by unfold strB; rw [List.length_map, Array.length_toList]; rfl
theorem strB_cells (s : ByteArray) : byteCells s = (strB s).flatMap byV := by rw [fl_by]; unfold byteCells strB; rw [List.map_map]; rfl
theorem strB_bytes (s : ByteArray) : Bytes (strB s) := by
  intro x hx
  obtain ⟨u, _, rfl⟩ := List.mem_map.1 hx
  exact u.toNat_lt
theorem strB_of {t : List Nat} (h : Bytes t) : strB (strOfNums (nI t)) = t := by
  unfold strB strOfNums nI
  simp only [List.map_map, Function.comp_def]
  conv => rhs; rw [← List.map_id t]
  apply List.map_congr_left
  intro x hx
  have := h x hx
  simp [UInt8.toNat_ofNat]; omega
set_option maxRecDepth 100000 in
set_option maxHeartbeats 4000000 in
theorem putt17 (xs : List Nat) (hl : xs.length ≤ 1000000) (s : ByteArray) (hs : s.size ≤ 65536) (a : Option Addr) (c : Nat) (w : World) (ha : RowIs w a (xs.flatMap byV)) :
    Calls Try.prog 17 #[.slice a xs.length c, .string s] w fun e w' => ∃ v R, e = .returned (.tuple #[v, .int .i64 0]) ∧ SubRow 5 1 v (xs ++ beS 4 s.size ++ strB s).length ((xs ++ beS 4 s.size ++ strB s).flatMap byV) R ∧ Hp w.heap.size w w' R := by
  obtain ⟨i0, hi0, hz0, hz1, hz2⟩ := info_parts info5
  have hp := Hp.start w
  have HA := Lib.hid ha
  have hu : s.size < 18446744073709551616 := by omega
  have e1 : decide ((65536 : Int) < (s.size : Int)) = false := by simp; omega
  have e3 : IntKind.u64.wrap (s.size : Int) = (s.size : Int) := by rw [wrapU]; unfold uN; omega
  have HM1 : RowKit.Hid ((xs ++ beS 4 s.size).length + s.size ≤ maxLen) := Lib.hid (by rw [List.length_append, beS_len]; unfold maxLen; omega)
  have HM2 : RowKit.Hid (((xs ++ beS 4 s.size).length + s.size) * 1 ≤ 140737488355328) := Lib.hid (by rw [List.length_append, beS_len]; omega)
  have HX : RowKit.Hid ((xs ++ beS 4 s.size ++ strB s).length = (xs ++ beS 4 s.size).length + s.size ∧ (xs ++ beS 4 s.size ++ strB s).flatMap byV = (xs ++ beS 4 s.size).flatMap byV ++ byteCells s) := Lib.hid ⟨by rw [List.length_append, strB_len], by rw [List.flatMap_append, strB_cells]⟩
  clear ha
  go_enter Try.func17, Try.ntmps17
  go_wp2_with (first | (go_at_call 39; (with_reducible refine (puts39_4 xs hl _ hu a c _ (HA.out.below hp.below)).mono ?_); rintro e w1 ⟨v2, R2, rfl, hr2, hp2⟩; replace hp := hp.join hp2; have HR2 := Lib.hid hr2; clear hr2 hp2; replace hp : Hp _ _ _ ([] ++ (R2 ++ [])) := (by simpa using hp)) | ((with_reducible refine pre_append2 _ _ 31 9 rfl ?_); refine wpList_appendSub (K := []) hp _ _ _ _ rfl wy 5 i0 _ 1 1 Try.underlying31 hi0 hz0 hz1 hz2 rfl _ _ _ (sTm rfl) (SubRow.of_own HR2.out) _ (sTm rfl) s.size (byteCells s) (Src.ofString _ Try.underlying9 s) HM1.out HM2.out ?_; clear hp; intro v3 R3 w1 hr3 hp; have HR3 := Lib.hid hr3; clear hr3; simp only [put_some, put_none, sSet, zSet]) | go_skip | ((first | ((with_reducible refine pre_box _ _ rfl ?_); refine lB hp rfl (sTm rfl) rfl ?_; clear hp; intro b w1 hp) | ((with_reducible refine pre_load _ _ rfl ?_); first | refine lO hp rfl (sTm rfl) ceOW0 aa14 ?_ | refine lA hp rfl (sTm rfl) agg48 aa14 ?_) | ((with_reducible refine pre_store _ _ _ rfl ?_); (first | refine sO hp rfl (sTm rfl) ceOW0 aa14 ?_ | refine sA hp rfl (sTm rfl) (sTm rfl) agg48 aa14 ?_ | refine sG hp rfl (sTm rfl) (sTm rfl) agg48 aa14 ?_); clear hp; intro w1 hp; simp only [spl, zSet, sSet] at hp) | ((with_reducible refine pre_build _ _ _ rfl ?_); refine lS hp rfl (by intro w; go_simp; rfl) ?_; clear hp; intro b w1 hp; simp only [List.length_cons, List.length_nil, Nat.reduceAdd] at hp)); simp only [put_some, put_none, sSet, zSet]))
  go_ret2
  refine ⟨v3, R3, rfl, ?_, by simpa using hp⟩
  rw [HX.out.1, HX.out.2]; exact HR3.out
theorem flat_nat {α : Type} (f : α → List Nat) (c : Nat) (hf : ∀ x, (f x).length = c) (l : List α) : (l.flatMap f).length = l.length * c := by
  induction l with
  | nil => simp
  | cons x l ih => simp [ih, hf, Nat.add_mul, Nat.add_comm]
def OutSt (B : Nat) (w0 : World) (bo : Nat) (xs : List Nat) (L : List Blk) (w : World) : Prop := ∃ a c R, SubRow 5 1 (.slice a xs.length c) xs.length (xs.flatMap byV) R ∧ Hp B w0 w (⟨bo, [.slice a xs.length c], 48, 1⟩ :: (L ++ R))
theorem SubRow.keptS {e : TypeId} {c n : Nat} {a : Option Addr} {k : Nat} {xs : List Value} {R : List Blk} (h : SubRow e c (.slice a n k) n xs R) : Kept R fun w => RowIs w a xs := by
  obtain ⟨a', k', hv, _, hk⟩ := h.kept
  injection hv with h1 h2 h3
  subst h1
  exact hk
theorem OutSt.of {B : Nat} {w0 w : World} {bo n : Nat} {xs : List Nat} {v : Value} {L R : List Blk} (hn : xs.length = n) (h : SubRow 5 1 v n (xs.flatMap byV) R) (hp : Hp B w0 w (⟨bo, [v], 48, 1⟩ :: (L ++ R))) : OutSt B w0 bo xs L w := by
  obtain ⟨a, k, rfl, hk, hkr⟩ := h.kept
  subst hn
  exact ⟨a, k, R, h, hp⟩
def bn4 (l : List Nat) : List Nat := l.flatMap fun n => beS 4 n
def bi8 (l : List Int) : List Nat := l.flatMap fun n => beS 8 (uN n)
theorem bn4_len (l : List Nat) : (bn4 l).length = l.length * 4 := flat_nat _ 4 (fun x => beS_len 4 x) l
theorem bi8_len (l : List Int) : (bi8 l).length = l.length * 8 := flat_nat _ 8 (fun x => beS_len 8 (uN x)) l
theorem bn4_take {l : List Nat} {j : Nat} {x : Nat} (h : l[j]? = some x) : bn4 (l.take (j + 1)) = bn4 (l.take j) ++ beS 4 x := by
  unfold bn4
  rw [List.take_add_one, h]; simp [List.flatMap_append]
theorem bi8_take {l : List Int} {j : Nat} {x : Int} (h : l[j]? = some x) : bi8 (l.take (j + 1)) = bi8 (l.take j) ++ beS 8 (uN x) := by
  unfold bi8
  rw [List.take_add_one, h]; simp [List.flatMap_append]
def natV (n : Nat) : List Value := [.int .i64 (n : Int)]
theorem natV_len (x : Nat) : (natV x).length = 1 := rfl
set_option maxRecDepth 100000 in
set_option maxHeartbeats 4000000 in
theorem outg19 (l : List Int) (hl : l.length ≤ 1000) (xs : List Nat) (hx : xs.length ≤ 900000) {B : Nat} {w0 w : World} {L : List Blk} (bo : Nat) (al : Option Addr) (cl : Nat) (hs : OutSt B w0 bo xs L w) (hk : Stay B w0 L fun w => RowIs w al (l.flatMap iV)) :
    Calls Try.prog 19 #[.pointer (some ⟨bo, 0, none⟩), .slice al l.length cl] w fun e w' => e = .returned (.tuple #[]) ∧ OutSt B w0 bo (xs ++ bi8 l) L w' := by
  have HL := Lib.hid hk
  obtain ⟨a0, c0, R0, hk0, hp⟩ := hs
  have HK0 := Lib.hid hk0
  clear hk hk0
  go_enter Try.func19, Try.ntmps19
  go_wp2_with (first | go_skip | ((first | ((with_reducible refine pre_box _ _ rfl ?_); refine lB hp rfl (sTm rfl) rfl ?_; clear hp; intro b w1 hp) | ((with_reducible refine pre_load _ _ rfl ?_); first | refine lO hp rfl (sTm rfl) ceOW0 aa14 ?_ | refine lA hp rfl (sTm rfl) agg48 aa14 ?_) | ((with_reducible refine pre_store _ _ _ rfl ?_); (first | refine sO hp rfl (sTm rfl) ceOW0 aa14 ?_ | refine sA hp rfl (sTm rfl) (sTm rfl) agg48 aa14 ?_ | refine sG hp rfl (sTm rfl) (sTm rfl) agg48 aa14 ?_); clear hp; intro w1 hp; simp only [spl, zSet, sSet] at hp) | ((with_reducible refine pre_build _ _ _ rfl ?_); refine lS hp rfl (by intro w; go_simp; rfl) ?_; clear hp; intro b w1 hp; simp only [List.length_cons, List.length_nil, Nat.reduceAdd] at hp)); simp only [put_some, put_none, sSet, zSet]))
  go_loopg [8] l.length (fun k i wr => ∃ (j : Nat) (zs : List Nat) (a1 : Option Addr) (c1 : Nat) (R : List Blk), k + j = l.length ∧ i = .int .i64 j ∧ RowKit.Hid (zs = xs ++ bi8 (l.take j)) ∧ RowKit.Hid (SubRow 5 1 (.slice a1 zs.length c1) zs.length (zs.flatMap byV) R) ∧ Hp B w0 wr (⟨bo, [.slice a1 zs.length c1], 48, 1⟩ :: (L ++ R)))
  case atStart => exact ⟨0, xs, a0, c0, R0, by omega, rfl, Lib.hid (by rw [List.take_zero]; exact (List.append_nil xs).symm), HK0, hp⟩
  case round =>
    clear hp HK0
    obtain ⟨j, ys, a1, c1, R, hkj, rfl, HZ, HSR, hp⟩ := hrel
    have HK := Lib.hid HSR.out.keptS
    by_cases hlt : j < l.length
    · have hj := List.getElem?_eq_getElem hlt
      generalize l[j] = x at hj
      obtain ⟨bq, off, rfl, hE⟩ := HL.out.elem 1 iV_len (by decide) hj hp (by intro p hp2; simp [hp2])
      have HE := Lib.hid hE
      have HT := Lib.hid (bi8_take hj)
      have HSM : RowKit.Hid (ys.length ≤ 1000000) := Lib.hid (by rw [HZ.out, List.length_append, bi8_len, List.length_take]; omega)
      clear hE hj
      simp only [Nat.mul_one] at HE
      have e1 : (0 : Int) ≤ (j : Int) := by omega
      have e2 : (j : Int) < (l.length : Int) := by omega
      go_wp2_with (first | (go_at_call 41; (with_reducible refine (putis41 ys HSM.out x  a1 c1 _ (HK.out.at hp (by intro p hp2; simp [hp2]))).mono ?_); rintro e w1 ⟨v2, R2, rfl, hr2, hp2⟩; obtain ⟨a3, c3, rfl, hc3, hk3⟩ := hr2.keptC; replace hp := hp.join hp2; have HR2 := Lib.hid hr2; clear hr2 hp2 hk3 hc3; simp only [List.cons_append, List.append_assoc] at hp) | ((with_reducible refine pre_load 3 _ rfl ?_); refine wpList_loadRowOne_hp (Hp.start _) _ _ rfl wy _ _ (sTm rfl) cell3 _ (HE.out.at hp (by intro p hp2; simp [hp2]) 0 _ rfl) ?_; simp only [put_some, put_none, sSet, zSet]) | go_skip | ((first | ((with_reducible refine pre_box _ _ rfl ?_); refine lB hp rfl (sTm rfl) rfl ?_; clear hp; intro b w1 hp) | ((with_reducible refine pre_load _ _ rfl ?_); first | refine lO hp rfl (sTm rfl) ceOW0 aa14 ?_ | refine lA hp rfl (sTm rfl) agg48 aa14 ?_) | ((with_reducible refine pre_store _ _ _ rfl ?_); (first | refine sO hp rfl (sTm rfl) ceOW0 aa14 ?_ | refine sA hp rfl (sTm rfl) (sTm rfl) agg48 aa14 ?_ | refine sG hp rfl (sTm rfl) (sTm rfl) agg48 aa14 ?_); clear hp; intro w1 hp; simp only [spl, zSet, sSet] at hp) | ((with_reducible refine pre_build _ _ _ rfl ?_); refine lS hp rfl (by intro w; go_simp; rfl) ?_; clear hp; intro b w1 hp; simp only [List.length_cons, List.length_nil, Nat.reduceAdd] at hp)); simp only [put_some, put_none, sSet, zSet]))
      go_roundg (gk - 1)
      case measure => omega
      case rel =>
        exact ⟨j + 1, ys ++ beS 8 (uN x), a3, c3, R2, by omega, by go_num, Lib.hid (by rw [HT.out, HZ.out, List.append_assoc]), Lib.hid (SubRow.of_own HR2.out), by rw [List.length_append]; exact hp.kp⟩
    · have e2 : decide ((j : Int) < (l.length : Int)) = false := by simp; omega
      have hj : j = l.length := by omega
      have HJ := Lib.hid hj
      clear hj
      go_wp2_with fail
      refine bodyPost_end (results_none Try.results19 _ _ _) rfl ⟨rfl, ?_⟩
      have h := HZ.out
      rw [HJ.out, List.take_length] at h
      subst h
      exact ⟨a1, c1, R, HSR.out, hp⟩
set_option maxRecDepth 100000 in
set_option maxHeartbeats 4000000 in
theorem outg18 (l : List Nat) (hl : l.length ≤ 1000) (hb : ∀ x ∈ l, x ≤ 2147483647) (xs : List Nat) (hx : xs.length ≤ 900000) {B : Nat} {w0 w : World} {L : List Blk} (bo : Nat) (al : Option Addr) (cl : Nat) (hs : OutSt B w0 bo xs L w) (hk : Stay B w0 L fun w => RowIs w al (l.flatMap natV)) :
    Calls Try.prog 18 #[.pointer (some ⟨bo, 0, none⟩), .slice al l.length cl] w fun e w' => e = .returned (.tuple #[]) ∧ OutSt B w0 bo (xs ++ bn4 l) L w' := by
  have HL := Lib.hid hk
  obtain ⟨a0, c0, R0, hk0, hp⟩ := hs
  have HK0 := Lib.hid hk0
  clear hk hk0
  go_enter Try.func18, Try.ntmps18
  go_wp2_with (first | go_skip | ((first | ((with_reducible refine pre_box _ _ rfl ?_); refine lB hp rfl (sTm rfl) rfl ?_; clear hp; intro b w1 hp) | ((with_reducible refine pre_load _ _ rfl ?_); first | refine lO hp rfl (sTm rfl) ceOW0 aa14 ?_ | refine lA hp rfl (sTm rfl) agg48 aa14 ?_) | ((with_reducible refine pre_store _ _ _ rfl ?_); (first | refine sO hp rfl (sTm rfl) ceOW0 aa14 ?_ | refine sA hp rfl (sTm rfl) (sTm rfl) agg48 aa14 ?_ | refine sG hp rfl (sTm rfl) (sTm rfl) agg48 aa14 ?_); clear hp; intro w1 hp; simp only [spl, zSet, sSet] at hp) | ((with_reducible refine pre_build _ _ _ rfl ?_); refine lS hp rfl (by intro w; go_simp; rfl) ?_; clear hp; intro b w1 hp; simp only [List.length_cons, List.length_nil, Nat.reduceAdd] at hp)); simp only [put_some, put_none, sSet, zSet]))
  go_loopg [8] l.length (fun k i wr => ∃ (j : Nat) (zs : List Nat) (a1 : Option Addr) (c1 : Nat) (R : List Blk), k + j = l.length ∧ i = .int .i64 j ∧ RowKit.Hid (zs = xs ++ bn4 (l.take j)) ∧ RowKit.Hid (SubRow 5 1 (.slice a1 zs.length c1) zs.length (zs.flatMap byV) R) ∧ Hp B w0 wr (⟨bo, [.slice a1 zs.length c1], 48, 1⟩ :: (L ++ R)))
  case atStart => exact ⟨0, xs, a0, c0, R0, by omega, rfl, Lib.hid (by rw [List.take_zero]; exact (List.append_nil xs).symm), HK0, hp⟩
  case round =>
    clear hp HK0
    obtain ⟨j, ys, a1, c1, R, hkj, rfl, HZ, HSR, hp⟩ := hrel
    have HK := Lib.hid HSR.out.keptS
    by_cases hlt : j < l.length
    · have hj := List.getElem?_eq_getElem hlt
      have hbx := hb _ (List.getElem_mem hlt)
      generalize l[j] = x at hj hbx
      obtain ⟨bq, off, rfl, hE⟩ := HL.out.elem 1 natV_len (by decide) hj hp (by intro p hp2; simp [hp2])
      have HE := Lib.hid hE
      have HT := Lib.hid (bn4_take hj)
      have HSM : RowKit.Hid (ys.length ≤ 1000000) := Lib.hid (by rw [HZ.out, List.length_append, bn4_len, List.length_take]; omega)
      clear hE hj
      simp only [Nat.mul_one] at HE
      have e1 : (0 : Int) ≤ (j : Int) := by omega
      have e2 : (j : Int) < (l.length : Int) := by omega
      go_wp2_with (first | (go_at_call 40; (with_reducible refine (putn40 ys HSM.out x hbx a1 c1 _ (HK.out.at hp (by intro p hp2; simp [hp2]))).mono ?_); rintro e w1 ⟨v2, R2, rfl, hr2, hp2⟩; obtain ⟨a3, c3, rfl, hc3, hk3⟩ := hr2.keptC; replace hp := hp.join hp2; have HR2 := Lib.hid hr2; clear hr2 hp2 hk3 hc3; simp only [List.cons_append, List.append_assoc] at hp) | ((with_reducible refine pre_load 3 _ rfl ?_); refine wpList_loadRowOne_hp (Hp.start _) _ _ rfl wy _ _ (sTm rfl) cell3 _ (HE.out.at hp (by intro p hp2; simp [hp2]) 0 _ rfl) ?_; simp only [put_some, put_none, sSet, zSet]) | go_skip | ((first | ((with_reducible refine pre_box _ _ rfl ?_); refine lB hp rfl (sTm rfl) rfl ?_; clear hp; intro b w1 hp) | ((with_reducible refine pre_load _ _ rfl ?_); first | refine lO hp rfl (sTm rfl) ceOW0 aa14 ?_ | refine lA hp rfl (sTm rfl) agg48 aa14 ?_) | ((with_reducible refine pre_store _ _ _ rfl ?_); (first | refine sO hp rfl (sTm rfl) ceOW0 aa14 ?_ | refine sA hp rfl (sTm rfl) (sTm rfl) agg48 aa14 ?_ | refine sG hp rfl (sTm rfl) (sTm rfl) agg48 aa14 ?_); clear hp; intro w1 hp; simp only [spl, zSet, sSet] at hp) | ((with_reducible refine pre_build _ _ _ rfl ?_); refine lS hp rfl (by intro w; go_simp; rfl) ?_; clear hp; intro b w1 hp; simp only [List.length_cons, List.length_nil, Nat.reduceAdd] at hp)); simp only [put_some, put_none, sSet, zSet]))
      go_roundg (gk - 1)
      case measure => omega
      case rel =>
        exact ⟨j + 1, ys ++ beS 4 x, a3, c3, R2, by omega, by go_num, Lib.hid (by rw [HT.out, HZ.out, List.append_assoc]), Lib.hid (SubRow.of_own HR2.out), by rw [List.length_append]; exact hp.kp⟩
    · have e2 : decide ((j : Int) < (l.length : Int)) = false := by simp; omega
      have hj : j = l.length := by omega
      have HJ := Lib.hid hj
      clear hj
      go_wp2_with fail
      refine bodyPost_end (results_none Try.results18 _ _ _) rfl ⟨rfl, ?_⟩
      have h := HZ.out
      rw [HJ.out, List.take_length] at h
      subst h
      exact ⟨a1, c1, R, HSR.out, hp⟩
end Go.Proofs.Ytaafajaadfgaoaa
/- Texts merged: base:Srt lay_Ytaafajaadfgaoaa:KLay buddy:BSort buddy:TS buddy:TQ buddy:THS buddy:TH buddy:TI buddy:TKS buddy:TJ buddy:TK. -/
namespace Go.Proofs.Ytaafajaadfgaoaa
open Go.RowKit Go.Lib Go.Shelf Go.Sort
theorem Hp.setCells {B : Nat} {w0 : World} {b : Nat} {t : TypeId} {n : Nat} {L : List Blk} (vs : List Value) : ∀ (w : World) (off : Nat) (l : List Value), Hp B w0 w (⟨b, l, t, n⟩ :: L) →
    Hp B w0 (w.setCells b off vs) (⟨b, spl l off vs, t, n⟩ :: L) := by
  induction vs with
  | nil => intro w off l h; exact h
  | cons v vs ih =>
    intro w off l h
    rw [World.setCells]
    have h1 := h.setCell (i := 0) rfl off v
    exact ih _ _ _ h1
theorem setMany_all (F G : Array Value) (h : F.size = G.size) : setMany F 0 G.toList = G := by
  refine ext_get! (by simp [h]) fun t ht => ?_
  have ht' : t < G.size := by simpa [h] using ht
  rw [get_setMany _ _ _ t (by omega), if_pos (by simp [ht'])]
  simp [ht']
theorem flat_list {α : Type} [Inhabited α] (enc : α → List Value) (k : Nat) (hk : ∀ x, (enc x).length = k) (d : Array α) : (flatK enc k d).toList = d.toList.flatMap enc := by
  have hlen : (d.toList.flatMap enc).length = d.size * k := by rw [flat_len enc k hk]; simp
  apply List.ext_getElem?
  intro j
  rcases Nat.lt_or_ge j (d.size * k) with hj | hj
  · have k0 : 0 < k := by rcases Nat.eq_zero_or_pos k with h | h; · subst h; simp at hj
                          · exact h
    have h1 : j / k < d.size := by rw [Nat.div_lt_iff_lt_mul k0]; exact hj
    have h2 : j % k < k := Nat.mod_lt _ k0
    have e1 : d.toList[j / k]? = some d[j / k]! := by rw [getElem!_pos d _ h1]; simp [h1]
    have e2 : (enc d[j / k]!)[j % k]? = some (enc d[j / k]!)[j % k]! := by
      have h3 : j % k < (enc d[j / k]!).length := by rw [hk]; exact h2
      rw [getElem!_pos (enc d[j / k]!) (j % k) h3]; exact List.getElem?_eq_getElem _
    have := flat_get enc k hk d.toList (j / k) (j % k) _ _ e1 e2
    rw [Nat.mul_comm, Nat.div_add_mod] at this
    rw [this, ← get_flatK enc k d j hj, getElem!_pos _ j (by simpa using hj)]
    simp [hj]
  · rw [List.getElem?_eq_none (by simpa using hj), List.getElem?_eq_none (by omega)]
theorem Hp.holdsK {α : Type} [Inhabited α] {enc : α → List Value} {k : Nat} (hk : ∀ x, (enc x).length = k) {d : Array α} {B : Nat} {w0 w : World} {b : Nat} {t : TypeId} {n : Nat} {L : List Blk} (hp : Hp B w0 w (⟨b, d.toList.flatMap enc, t, n⟩ :: L)) :
    HoldsK enc k w b 0 d := by
  intro j hj
  have hl : (d.toList.flatMap enc)[j]? = some (id (flatK enc k d)[j]!) := by
    rw [← flat_list enc k hk d, getElem!_pos _ j hj]; simp [id]
  rw [Nat.zero_add]
  exact ⟨hp.cell (i := 0) rfl hl, hp.free (i := 0) rfl _⟩
theorem Hp.sorted {α : Type} [Inhabited α] {enc : α → List Value} {k : Nat} (hk : ∀ x, (enc x).length = k) {d d' : Array α} {B : Nat} {w0 w : World} {b : Nat} {t : TypeId} {n m : Nat} {os : Array Obj} {L : List Blk} (hp : Hp B w0 w (⟨b, d.toList.flatMap enc, t, n⟩ :: L)) (hs : d'.size = d.size) :
    Hp B w0 (sortWorldK enc k w b 0 m d' os) (⟨b, d'.toList.flatMap enc, t, n⟩ :: L) := by
  have h1 : Hp B w0 (Sort.ahead w m) (⟨b, d.toList.flatMap enc, t, n⟩ :: L) := hp.drewN m
  have h2 := Hp.holdsK hk h1
  have e : putRowK enc k (Sort.ahead w m) b 0 d' = (Sort.ahead w m).setCells b 0 (d'.toList.flatMap enc) := by
    have h3 := setCells_putRow (Sort.ahead w m) b 0 (flatK enc k d').toList 0 (flatK enc k d) (by simp [hs])
    rw [putRow_self id _ b 0 _ h2, setMany_all _ _ (by simp [hs]), flat_list enc k hk d'] at h3
    exact h3.symm
  have h4 := Hp.setCells (d'.toList.flatMap enc) _ 0 _ h1
  rw [spl_all _ _ (by rw [flat_len enc k hk, flat_len enc k hk]; simp [hs]), ← e] at h4
  unfold sortWorldK
  refine h4.call ⟨rfl, rfl, rfl, by simp, fun k hk => ?_⟩
  show (_ ++ os)[k]? = _
  rw [Array.getElem?_append_left hk]
theorem perm_whole {α : Type} [Inhabited α] {d d' : Array α} (h : PermIn 0 d.size d d') : d'.size = d.size ∧ d'.toList.Perm d.toList := by
  obtain ⟨h1, _, h2⟩ := h
  refine ⟨h1, ?_⟩
  have e1 : d'.extract 0 d.size = d' := by rw [← h1]; simp
  rw [e1] at h2
  simpa using h2
theorem sorted_whole {α : Type} [Inhabited α] {lt : α → α → Bool} {d : Array α} {n : Nat} (hn : d.size = n) (h : SortedIn lt 0 n d) : d.toList.Pairwise fun x y => lt y x = false := by
  rw [List.pairwise_iff_getElem]
  intro i j hi hj hij
  have := h i j (Nat.zero_le _) hij (by simpa [hn] using hj)
  have hi' : i < d.size := by simpa using hi
  have hj' : j < d.size := by simpa using hj
  rw [getElem!_pos d i hi', getElem!_pos d j hj'] at this
  simpa using this
end Go.Proofs.Ytaafajaadfgaoaa
namespace Go.Proofs.Ytaafajaadfgaoaa
open Go.Shelf Go.Proofs
def sortBlLays_ren : Go.Shelf.Ren := ⟨fun | 6 => 47 | 15 => 79 | 14 => 78 | 28 => 100 | 29 => 101 | 20 => 92 | 21 => 93 | 22 => 94 | 23 => 95 | 24 => 96 | 25 => 97 | 26 => 98 | 27 => 99 | 46 => 107 | 47 => 108 | 48 => 109 | 49 => 110 | 50 => 111 | 57 => 113 | n => n, fun | 22 => 24 | 24 => 58 | 25 => 93 | 3 => 3 | 39 => 119 | 0 => 0 | 53 => 138 | 55 => 85 | 4 => 4 | 46 => 132 | 45 => 131 | 50 => 120 | 5 => 5 | 9 => 9 | 66 => 144 | 70 => 148 | 76 => 150 | 77 => 151 | n => n, fun | n => n⟩
theorem sortBlLays : Go.Proofs.SlLaysF0.n6 Try.prog sortBlLays_ren := {
  mixed := by kernel_rfl
  f6 := ⟨Try.f47.name, by decide, Try.func47.trans (congrArg some (by kernel_rfl))⟩
  f14 := ⟨Try.f78.name, by decide, Try.func78.trans (congrArg some (by kernel_rfl))⟩
  f15 := Try.func79.trans (congrArg some (by kernel_rfl))
  f20 := ⟨Try.f92.name, by decide, Try.func92.trans (congrArg some (by kernel_rfl))⟩
  f21 := ⟨Try.f93.name, by decide, Try.func93.trans (congrArg some (by kernel_rfl))⟩
  f22 := ⟨Try.f94.name, by decide, Try.func94.trans (congrArg some (by kernel_rfl))⟩
  f23 := ⟨Try.f95.name, by decide, Try.func95.trans (congrArg some (by kernel_rfl))⟩
  f24 := ⟨Try.f96.name, by decide, Try.func96.trans (congrArg some (by kernel_rfl))⟩
  f25 := ⟨Try.f97.name, by decide, Try.func97.trans (congrArg some (by kernel_rfl))⟩
  f26 := ⟨Try.f98.name, by decide, Try.func98.trans (congrArg some (by kernel_rfl))⟩
  f27 := ⟨Try.f99.name, by decide, Try.func99.trans (congrArg some (by kernel_rfl))⟩
  f28 := Try.func100.trans (congrArg some (by kernel_rfl))
  f29 := Try.func101.trans (congrArg some (by kernel_rfl))
  f46 := ⟨Try.f107.name, by decide, Try.func107.trans (congrArg some (by kernel_rfl))⟩
  f47 := Try.func108.trans (congrArg some (by kernel_rfl))
  f48 := Try.func109.trans (congrArg some (by kernel_rfl))
  f49 := ⟨Try.f110.name, by decide, Try.func110.trans (congrArg some (by kernel_rfl))⟩
  f50 := ⟨Try.f111.name, by decide, Try.func111.trans (congrArg some (by kernel_rfl))⟩
  f57 := ⟨Try.f113.name, by decide, Try.func113.trans (congrArg some (by kernel_rfl))⟩
  t0 := Try.underlying0
  a0 := Try.isAgg0
  z0 := Try.sizeOf0
  v0 := Try.zeroValue0
  t3 := Try.underlying3
  a3 := Try.isAgg3
  z3 := Try.sizeOf3
  v3 := Try.zeroValue3
  t4 := Try.underlying4
  a4 := Try.isAgg4
  z4 := Try.sizeOf4
  v4 := Try.zeroValue4
  t5 := Try.underlying5
  a5 := Try.isAgg5
  z5 := Try.sizeOf5
  v5 := Try.zeroValue5
  t9 := Try.underlying9
  a9 := Try.isAgg9
  z9 := Try.sizeOf9
  v9 := Try.zeroValue9
  t22 := Try.underlying24
  a22 := Try.isAgg24
  z22 := Try.sizeOf24
  v22 := Try.zeroValue24
  t25 := Try.underlying93
  a25 := Try.isAgg93
  z25 := Try.sizeOf93
  v25 := Try.zeroValue93
  t39 := Try.underlying119
  a39 := Try.isAgg119
  z39 := Try.sizeOf119
  v39 := Try.zeroValue119
  t45 := Try.underlying131
  a45 := Try.isAgg131
  z45 := Try.sizeOf131
  v45 := Try.zeroValue131
  t46 := Try.underlying132
  a46 := Try.isAgg132
  z46 := Try.sizeOf132
  v46 := Try.zeroValue132
  t50 := Try.underlying120
  a50 := Try.isAgg120
  z50 := Try.sizeOf120
  v50 := Try.zeroValue120
  t53 := Try.underlying138
  a53 := Try.isAgg138
  z53 := Try.sizeOf138
  v53 := Try.zeroValue138
  t55 := Try.underlying85
  a55 := Try.isAgg85
  z55 := Try.sizeOf85
  v55 := Try.zeroValue85
  t66 := Try.underlying144
  a66 := Try.isAgg144
  z66 := Try.sizeOf144
  v66 := Try.zeroValue144
  t70 := Try.underlying148
  a70 := Try.isAgg148
  z70 := Try.sizeOf148
  v70 := Try.zeroValue148
  t76 := Try.underlying150
  a76 := Try.isAgg150
  z76 := Try.sizeOf150
  v76 := Try.zeroValue150
  t77 := Try.underlying151
  a77 := Try.isAgg151
  z77 := Try.sizeOf151
  v77 := Try.zeroValue151 }
end Go.Proofs.Ytaafajaadfgaoaa
namespace Go.Proofs.Ytaafajaadfgaoaa
open Go.RowKit Go.Lib Go.Shelf Go.Sort
instance : Inhabited Bl := ⟨⟨0, 0⟩⟩
def byAt (x y : Bl) : Int := cmpI x.p y.p
theorem ltAt (x y : Bl) : ltOf byAt x y = decide (x.p < y.p) := by unfold ltOf byAt; simp only [cmpI_lt]
theorem swoAt : SWO (ltOf byAt) where
  irrefl x := by rw [ltAt]; simp
  trans x y z h1 h2 := by rw [ltAt] at *; simp at *; omega
  ntrans x y z h1 h2 := by rw [ltAt] at *; simp at *; omega
theorem bl_one (x : Bl) (v : Value) (hv : v ∈ blV x) : v.oneCell' = true := by simp [blV] at hv; rcases hv with rfl | rfl <;> rfl
def Compares (g : Nat) : Prop := ∀ (x y : Bl) (W : World), Calls Try.prog g #[.agg #[.int .i64 x.p, .int .i64 x.o], .agg #[.int .i64 y.p, .int .i64 y.o]] W fun e w' => e = .returned (.int .i64 (cmpI x.p y.p)) ∧ ∃ q os', w' = Sort.grow (W.drewN q) os'
def Sorts (w : World) (B : Nat) (w0 : World) (L : List Blk) (blk t n : Nat) (d : List Bl) (e : Ending) (w' : World) : Prop :=
  e = .returned (.tuple #[]) ∧ ∃ s : List Bl, s.Perm d ∧ s.Pairwise (fun x y => x.p ≤ y.p) ∧ Hp B w0 w' (⟨blk, s.flatMap blV, t, n⟩ :: L)
theorem sort47 (g : Nat) (eg : ∀ args w, (callFunc g args).run Try.prog w = .ok (.enter g args) w) (hg : Compares g) (d : List Bl) (cap : Nat) {B : Nat} {w0 w : World} {blk t n : Nat} {L : List Blk} (hp : Hp B w0 w (⟨blk, d.flatMap blV, t, n⟩ :: L)) (hsz : d.length ≤ 5000) :
    Calls Try.prog 47 #[.slice (some ⟨blk, 0, none⟩) d.length cap, .func (.func g) #[] #[]] w (Sorts w B w0 L blk t n d) := by
  have hH : HoldsK blV 2 w blk 0 d.toArray := Hp.holdsK (enc := blV) blV_len (d := d.toArray) hp
  have hcm : CmpLays Try.prog g #[] blV 2 byAt blk 0 d.toArray.size w := fun m os dk _ x y => hg x y _
  have hcon := AnyQ.slices_SortFunc sortBlLays 2 Try.isAgg58 Try.sizeOf58 blV blV_len bl_one byAt swoAt g #[] blk 0 cap d.toArray w eg hcm hH (hp.lt (p := ⟨blk, d.flatMap blV, t, n⟩) (by simp)).2 (by simp; omega)
  change Calls Try.prog 47 _ _ _ at hcon
  rw [List.size_toArray] at hcon
  refine hcon.mono ?_
  rintro e w' ⟨rfl, d', m, os, h1, h2, rfl⟩
  have h3 := perm_whole (d := d.toArray) (d' := d') (by rw [List.size_toArray]; exact h1)
  refine ⟨rfl, d'.toList, by simpa using h3.2, ?_, Hp.sorted (enc := blV) blV_len (d := d.toArray) hp h3.1⟩
  have h4 := sorted_whole (by simpa using h3.1) h2
  refine h4.imp (fun {a b} h => ?_)
  rw [ltAt] at h
  simp at h
  exact h
theorem sort47_none (p : Option Addr) (cap : Nat) (fv : Value) (w : World) : Calls Try.prog 47 #[.slice p 0 cap, fv] w fun e w' => e = .returned (.tuple #[]) ∧ w' = w := by
  have hcon := AnyF.slices_SortFunc_none sortBlLays p cap fv w
  change Calls Try.prog 47 _ _ _ at hcon
  exact hcon
def OwnSorted (B : Nat) (w0 : World) (v : Value) (n : Nat) (d : List Bl) (M : List Blk) (e : Ending) (w' : World) : Prop :=
  e = .returned (.tuple #[]) ∧ ∃ (s : List Bl) (R : List Blk), s.Perm d ∧ s.Pairwise (fun x y => x.p ≤ y.p) ∧ OwnRow 58 2 v n (s.flatMap blV) R ∧ Hp B w0 w' (R ++ M)
theorem sorto47 (g : Nat) (eg : ∀ args w, (callFunc g args).run Try.prog w = .ok (.enter g args) w) (hg : Compares g) (d : List Bl) {v : Value} {R M : List Blk} (hr : OwnRow 58 2 v d.length (d.flatMap blV) R) {B : Nat} {w0 w : World} (hp : Hp B w0 w (R ++ M)) (hsz : d.length ≤ 5000) :
    Calls Try.prog 47 #[v, .func (.func g) #[] #[]] w (OwnSorted B w0 v d.length d M) := by
  obtain ⟨hl, ⟨h0, hv, hx, hR⟩ | ⟨b, cap, hv, h1, h2, hR⟩⟩ := hr
  · subst hv; subst hR
    have hd : d = [] := List.eq_nil_of_length_eq_zero h0
    subst hd
    refine (sort47_none none 0 _ w).mono ?_
    rintro e w' ⟨rfl, rfl⟩
    exact ⟨rfl, [], [], List.Perm.refl _, List.Pairwise.nil, OwnRow.nil _ _, hp⟩
  · subst hv; subst hR
    refine (sort47 g eg hg d cap hp hsz).mono ?_
    rintro e w' ⟨rfl, s, h3, h4, hp'⟩
    exact ⟨rfl, s, _, h3, h4, ⟨by rw [flat_len blV 2 blV_len, h3.length_eq], .inr ⟨b, cap, rfl, h1, h2, rfl⟩⟩, hp'⟩
end Go.Proofs.Ytaafajaadfgaoaa
namespace Go.Proofs.Ytaafajaadfgaoaa
open Go.RowKit
end Go.Proofs.Ytaafajaadfgaoaa
namespace Go.Proofs.Ytaafajaadfgaoaa
open Go.RowKit
theorem Hp.less {B : Nat} {w0 w : World} {b n : Nat} {l1 l2 : List Value} {t : TypeId} {L : List Blk} (h : Hp B w0 w (⟨b, l1 ++ l2, t, n⟩ :: L)) : Hp B w0 w (⟨b, l1, t, n⟩ :: L) := by
  refine ⟨h.below, h.size, by simpa using h.nodup, fun p hp => ?_⟩
  rcases List.mem_cons.1 hp with rfl | hp
  · obtain ⟨h1, c, h2, h3, h4⟩ := h.own _ (List.mem_cons_self ..)
    refine ⟨h1, c, h2, h3, ?_⟩
    simp only at h4 ⊢
    have := congrArg (List.take l1.length) h4
    rw [List.take_take, List.length_append, Nat.min_eq_left (by omega), List.take_append_of_le_length (Nat.le_refl _), List.take_length] at this
    exact this
  · exact h.own p (List.mem_cons_of_mem _ hp)
theorem OwnRow.cons {e : TypeId} {c n : Nat} {v : Value} {xs : List Value} {R : List Blk} (h : OwnRow e c v (n + 1) xs R) : ∃ g cap, v = .slice (some ⟨g, 0, none⟩) (n + 1) cap ∧ n + 1 ≤ cap ∧ cap ≤ maxLen ∧ R = [⟨g, xs, e, cap * c⟩] := by
  obtain ⟨_, ⟨h0, _⟩ | h⟩ := h
  · omega
  · exact h
end Go.Proofs.Ytaafajaadfgaoaa
namespace Go.Proofs.Ytaafajaadfgaoaa
def LtB (a b : Bl) : Prop := a.o < b.o ∨ (a.o = b.o ∧ a.p < b.p)
theorem LtB.ntrans {a b c : Bl} (h1 : ¬ LtB b a) (h2 : ¬ LtB c b) : ¬ LtB c a := by unfold LtB at *; omega
def gB (l : List Bl) (k : Nat) : Bl := l.getD k ⟨0, 0⟩
def HeapF (l : List Bl) (n i0 : Nat) : Prop := ∀ k c, i0 ≤ k → (c = 2 * k + 1 ∨ c = 2 * k + 2) → c < n → ¬ LtB (gB l c) (gB l k)
def HeapD (l : List Bl) (n i0 j : Nat) : Prop :=
  (∀ k c, i0 ≤ k → k ≠ j → (c = 2 * k + 1 ∨ c = 2 * k + 2) → c < n → ¬ LtB (gB l c) (gB l k)) ∧
  (∀ p c, i0 ≤ p → (j = 2 * p + 1 ∨ j = 2 * p + 2) → (c = 2 * j + 1 ∨ c = 2 * j + 2) → c < n → ¬ LtB (gB l c) (gB l p))
theorem HeapD.start {l : List Bl} {n i0 : Nat} (h : HeapF l n (i0 + 1)) : HeapD l n i0 i0 :=
  ⟨fun k c hk hne hc hn => h k c (by omega) hc hn, fun p c hp hj _ _ => by omega⟩
structure Downs (l l' : List Bl) (n i0 j : Nat) : Prop where
  perm : l'.Perm l
  same : ∀ q, n ≤ q → gB l' q = gB l q
  heap : HeapF l n (i0 + 1) → HeapD l' n i0 j
theorem Downs.start (l : List Bl) (n i0 : Nat) : Downs l l n i0 i0 := ⟨List.Perm.refl _, fun _ _ => rfl, HeapD.start⟩
end Go.Proofs.Ytaafajaadfgaoaa
namespace Go.Proofs.Ytaafajaadfgaoaa
open Go.RowKit Go.Shelf
end Go.Proofs.Ytaafajaadfgaoaa
namespace Go.Proofs.Ytaafajaadfgaoaa
open Go.RowKit Go.Shelf
end Go.Proofs.Ytaafajaadfgaoaa
namespace Go.Proofs.Ytaafajaadfgaoaa
def hv (p o : Int) : Nat → List Bl
  | 0 => []
  | n + 1 => hv p o n ++ [⟨p + pw (o - n - 1), o - n - 1⟩]
theorem hv_len (p o : Int) : ∀ n, (hv p o n).length = n
  | 0 => rfl
  | n + 1 => by rw [hv, List.length_append, hv_len p o n]; rfl
structure LeastT (want : Int) (fs : List Bl) (b : Bl) : Prop where
  mem : b ∈ fs
  great : want ≤ b.o
  least : ∀ y ∈ fs, want ≤ y.o → ¬ LtB y b
structure TakenP (want : Int) (fs : List Bl) (b : Bl) (s : List Bl) : Prop where
  perm : (b :: s).Perm (fs ++ hv b.p b.o (b.o - want).toNat)
  sort : s.Pairwise fun x y => x.p ≤ y.p
def greats (want : Int) (l : List Bl) : List Bl := l.filter fun b => decide (want ≤ b.o)
def smalls (want : Int) (l : List Bl) : List Bl := l.filter fun b => !decide (want ≤ b.o)
theorem gs_perm (want : Int) (l : List Bl) : (greats want l ++ smalls want l).Perm l := List.filter_append_perm _ l
def Splits (want : Int) (fs : List Bl) (b : Bl) (i : Nat) (l : List Bl) : Prop := (b :: l).Perm (greats want fs ++ hv b.p b.o i)
theorem Splits.start {want : Int} {fs l l' : List Bl} (hp : l.Perm (greats want fs)) (h : (l' ++ [gB l 0]).Perm l) : Splits want fs (gB l 0) 0 l' := by
  unfold Splits
  rw [hv, List.append_nil]
  exact (List.perm_append_comm (l₁ := [gB l 0])).trans (h.trans hp)
theorem Splits.step {want : Int} {fs l l' : List Bl} {b : Bl} {i : Nat} (h : Splits want fs b i l) (hp : l'.Perm (l ++ [⟨b.p + pw (b.o - i - 1), b.o - i - 1⟩])) : Splits want fs b (i + 1) l' := by
  unfold Splits at *
  rw [hv, ← List.append_assoc]
  exact (hp.cons b).trans (h.append_right [_])
theorem Splits.len {want : Int} {fs l : List Bl} {b : Bl} {i : Nat} (h : Splits want fs b i l) : l.length + 1 = (greats want fs).length + i := by
  have := h.length_eq
  rw [List.length_append, hv_len, List.length_cons] at this
  exact this
theorem Splits.done {want : Int} {fs l s : List Bl} {b : Bl} (h : Splits want fs b (b.o - want).toNat l) (hs : s.Perm (l ++ smalls want fs)) (hso : s.Pairwise fun x y => x.p ≤ y.p) : TakenP want fs b s := by
  refine ⟨?_, hso⟩
  refine (hs.cons b).trans ?_
  rw [← List.cons_append]
  refine (h.append_right _).trans ?_
  rw [List.append_assoc]
  refine (List.perm_append_comm.append_left _).trans ?_
  rw [← List.append_assoc]
  exact (gs_perm want fs).append_right _
end Go.Proofs.Ytaafajaadfgaoaa
namespace Go.Proofs.Ytaafajaadfgaoaa
open Go.RowKit Go.Lib Go.Shelf Go.Sort
theorem Keeps.three {B : Nat} {w0 w : World} {L : List Blk} (h : Hp B w0 w L) {i j k : Nat} {p q r : Blk} (hi : L[i]? = some p) (hj : L[j]? = some q) (hk : L[k]? = some r) : Keeps B w0 [p, q, r] w := ⟨L, h, fun s hs => by
  rcases List.mem_cons.1 hs with rfl | hs
  · exact Hp.mem hi
  · rcases List.mem_cons.1 hs with rfl | hs
    · exact Hp.mem hj
    · rw [List.mem_singleton.1 hs]; exact Hp.mem hk⟩
end Go.Proofs.Ytaafajaadfgaoaa
namespace Go.Proofs.Ytaafajaadfgaoaa
open Go.RowKit
end Go.Proofs.Ytaafajaadfgaoaa
/- Texts merged: buddy:GM buddy:GS buddy:GI buddy:GD. -/
namespace Go.Proofs.Ytaafajaadfgaoaa
open Go.RowKit
def BoxIs (w : World) (b : Nat) (q r : Int) : Prop := ∀ (j : Nat) v, [Value.int .i64 q, .int .i64 r][j]? = some v → w.cell? ⟨b, 0 + j, none⟩ = some v
theorem BoxIs.below {w w' : World} {b : Nat} {q r : Int} (h : BoxIs w b q r) (hb : b < w.heap.size) (hw : Below w.heap.size w w') : BoxIs w' b q r := fun j v hj => (hw.cell (p := ⟨b, 0 + j, none⟩) hb).trans (h j v hj)
def IndexP (l : List Bl) (v : Bl) (r : Int) : Prop := (r = -1 ∧ v ∉ l) ∨ ∃ j : Nat, r = j ∧ l[j]? = some v
end Go.Proofs.Ytaafajaadfgaoaa
namespace Go.Proofs.Ytaafajaadfgaoaa
def Disj (l : List Bl) : Prop := l.Pairwise fun x y => x.p + pw x.o ≤ y.p
theorem Good.disj {od : Int} {l : List Bl} (h : Good od l) : Disj l := by
  unfold Disj
  rw [List.pairwise_iff_getElem]
  intro i j hi hj hij
  exact ((h j _ (List.getElem?_eq_getElem hj)).2 i _ hij (List.getElem?_eq_getElem hi)).1
theorem Disj.sorted {l : List Bl} (h : Disj l) : SortedB l := by
  intro i j x y hij hx hy
  unfold Disj at h
  rw [List.pairwise_iff_getElem] at h
  obtain ⟨hi, rfl⟩ := List.getElem?_eq_some_iff.1 hx
  obtain ⟨hj, rfl⟩ := List.getElem?_eq_some_iff.1 hy
  have := h i j hi hj hij
  have := pw_pos l[i].o
  omega
theorem Disj.apart {l : List Bl} (h : Disj l) {x y : Bl} (hx : x ∈ l) (hy : y ∈ l) (hne : x ≠ y) : ¬ MeetP x y := by
  obtain ⟨i, hi, rfl⟩ := List.getElem_of_mem hx
  obtain ⟨j, hj, rfl⟩ := List.getElem_of_mem hy
  unfold Disj at h
  rw [List.pairwise_iff_getElem] at h
  rintro ⟨m1, m2⟩
  rcases Nat.lt_trichotomy i j with hij | hij | hij
  · have := h i j hi hj hij; omega
  · subst hij; exact hne rfl
  · have := h j i hj hi hij; omega
theorem Disj.sub {l k : List Bl} (h : Disj l) (hs : k.Sublist l) : Disj k := List.Pairwise.sublist hs h
def without (l : List Bl) (v : Bl) : List Bl := l.filter fun x => decide (x ≠ v)
theorem without_sub (l : List Bl) (v : Bl) : (without l v).Sublist l := List.filter_sublist
theorem SortedB.nodup {l : List Bl} (h : SortedB l) : l.Nodup := by
  unfold List.Nodup
  rw [List.pairwise_iff_getElem]
  intro i j hi hj hij he
  have := h i j _ _ hij (List.getElem?_eq_getElem hi) (List.getElem?_eq_getElem hj)
  rw [he] at this; omega
theorem erase_without {l : List Bl} {v : Bl} {j : Nat} (hn : l.Nodup) (hj : l[j]? = some v) : l.eraseIdx j = without l v := by
  induction l generalizing j with
  | nil => simp at hj
  | cons x l ih =>
    obtain ⟨h1, h2⟩ := List.nodup_cons.1 hn
    cases j with
    | zero =>
      simp at hj; subst hj
      rw [List.eraseIdx_cons_zero]
      unfold without
      rw [List.filter_cons_of_neg (by simp)]
      exact (List.filter_eq_self.2 (fun a ha => by simp; intro h; subst h; exact h1 ha)).symm
    | succ j =>
      rw [List.getElem?_cons_succ] at hj
      rw [List.eraseIdx_cons_succ, ih h2 hj]
      unfold without
      rw [List.filter_cons_of_pos (by simp; intro h; subst h; exact h1 (List.mem_of_getElem? hj))]
def withL : List Bl → Bl → List Bl
  | [], b => [b]
  | x :: r, b => if b.p < x.p then b :: x :: r else x :: withL r b
theorem withL_perm (l : List Bl) (b : Bl) : (withL l b).Perm (b :: l) := by
  induction l with
  | nil => exact List.Perm.refl _
  | cons x r ih =>
    unfold withL
    split
    · exact List.Perm.refl _
    · exact (ih.cons x).trans (List.Perm.swap _ _ _)
theorem withL_at {l : List Bl} {b : Bl} {k : Nat} (hk : AtB l b.p k) (hne : ∀ y ∈ l, y.p ≠ b.p) : l.take k ++ b :: l.drop k = withL l b := by
  induction l generalizing k with
  | nil =>
    have : k = 0 := by have := hk.1; simpa using this
    subst this; rfl
  | cons x r ih =>
    unfold withL
    cases k with
    | zero =>
      have h1 := hk.2.2 0 x rfl (Nat.le_refl _)
      have h2 := hne x (by simp)
      rw [if_pos (by omega)]; rfl
    | succ k =>
      have h1 := hk.2.1 0 x rfl (by omega)
      rw [if_neg (by omega), List.take_succ_cons, List.drop_succ_cons, List.cons_append, ih (k := k) ⟨by have := hk.1; simpa using this, fun j y hj hjk => hk.2.1 (j + 1) y (by simpa using hj) (by omega), fun j y hj hjk => hk.2.2 (j + 1) y (by simpa using hj) (by omega)⟩ (fun y hy => hne y (by simp [hy]))]
def mergeB (b : Bl) : Bl := ⟨min b.p (twinP b).p, b.o + 1⟩
def giveF (od : Int) : Nat → List Bl → Bl → List Bl × Bl
  | 0, l, b => (l, b)
  | n + 1, l, b => if b.o < od ∧ twinP b ∈ l then giveF od n (without l (twinP b)) (mergeB b) else (l, b)
theorem pw_dvd {o od : Int} (h0 : 0 ≤ o) (h1 : o ≤ od) (h8 : od ≤ 8) : pw od % pw o = 0 := by
  rcases pw_cases h0 (by omega) with rfl | rfl | rfl | rfl | rfl | rfl | rfl | rfl | rfl <;>
  rcases pw_cases (o := od) (by omega) h8 with rfl | rfl | rfl | rfl | rfl | rfl | rfl | rfl | rfl <;> first | decide | omega
theorem twin_cases {od : Int} {b : Bl} (h : MayP od b) (h8 : od ≤ 8) (ho : b.o < od) : (twinP b = ⟨b.p + pw b.o, b.o⟩ ∧ b.p % (2 * pw b.o) = 0 ∧ b.p + 2 * pw b.o ≤ pw od) ∨ (twinP b = ⟨b.p - pw b.o, b.o⟩ ∧ 0 ≤ b.p - pw b.o ∧ (b.p - pw b.o) % (2 * pw b.o) = 0) := by
  obtain ⟨h1, h2, h3, h4, h5⟩ := h
  have hd := pw_dvd (o := b.o + 1) (by omega) (by omega) h8
  rw [pw_succ h1] at hd
  generalize pw od = E at h4 hd ⊢
  obtain ⟨p, o⟩ := b
  simp only at *
  unfold twinP
  simp only
  by_cases hc : p % (2 * pw o) = 0
  · left
    rw [if_pos hc]
    refine ⟨rfl, hc, ?_⟩
    rcases pw_cases h1 (by omega) with rfl | rfl | rfl | rfl | rfl | rfl | rfl | rfl | rfl
    all_goals
      simp only [pw, Int.reduceToNat, Int.reducePow, Int.reduceMul] at h4 h5 hd hc ⊢
      omega
  · right
    rw [if_neg hc]
    refine ⟨rfl, ?_, ?_⟩
    all_goals
      rcases pw_cases h1 (by omega) with rfl | rfl | rfl | rfl | rfl | rfl | rfl | rfl | rfl
      all_goals
        simp only [pw, Int.reduceToNat, Int.reducePow, Int.reduceMul] at h4 h5 hd hc ⊢
        omega
theorem merge_may {od : Int} {b : Bl} (h : MayP od b) (h8 : od ≤ 8) (ho : b.o < od) : MayP od (mergeB b) := by
  have hp := pw_pos b.o
  have hs := pw_succ h.1
  unfold mergeB MayP
  simp only
  rw [hs]
  rcases twin_cases h h8 ho with ⟨ht, h1, h2⟩ | ⟨ht, h1, h2⟩
  · rw [ht]; simp only
    rw [show min b.p (b.p + pw b.o) = b.p by omega]
    exact ⟨by have := h.1; omega, by omega, h.2.2.1, by omega, h1⟩
  · rw [ht]; simp only
    rw [show min b.p (b.p - pw b.o) = b.p - pw b.o by omega]
    have := h.end_le
    exact ⟨by have := h.1; omega, by omega, h1, by omega, h2⟩
theorem merge_meets {od : Int} {b x : Bl} (h : MayP od b) (h8 : od ≤ 8) (ho : b.o < od) (hm : MeetP x (mergeB b)) : MeetP x b ∨ MeetP x (twinP b) := by
  have hp := pw_pos b.o
  have hs := pw_succ h.1
  have hx := pw_pos x.o
  obtain ⟨m1, m2⟩ := hm
  unfold mergeB at m1 m2
  simp only at m1 m2
  rw [hs] at m1
  unfold MeetP
  rcases twin_cases h h8 ho with ⟨ht, h1, h2⟩ | ⟨ht, h1, h2⟩
  · rw [ht] at m1 m2 ⊢; simp only at m1 m2 ⊢; omega
  · rw [ht] at m1 m2 ⊢; simp only at m1 m2 ⊢; omega
structure GiveAt (od : Int) (l : List Bl) (b : Bl) : Prop where
  disj : Disj l
  may : MayP od b
  free : ∀ x ∈ l, ¬ MeetP x b
theorem GiveAt.step {od : Int} {l : List Bl} {b : Bl} (h : GiveAt od l b) (h8 : od ≤ 8) (ho : b.o < od) (hm : twinP b ∈ l) : GiveAt od (without l (twinP b)) (mergeB b) := by
  refine ⟨h.disj.sub (without_sub _ _), merge_may h.may h8 ho, fun x hx hmm => ?_⟩
  obtain ⟨h1, h2⟩ := List.mem_filter.1 hx
  rcases merge_meets h.may h8 ho hmm with h3 | h3
  · exact h.free x h1 h3
  · exact h.disj.apart h1 hm (by simpa using h2) h3
theorem GiveAt.ne {od : Int} {l : List Bl} {b : Bl} (h : GiveAt od l b) : ∀ y ∈ l, y.p ≠ b.p := fun y hy he => h.free y hy ⟨by have := pw_pos b.o; omega, by have := pw_pos y.o; omega⟩
theorem giveF_no {od : Int} {n : Nat} {l : List Bl} {b : Bl} (h : ¬ (b.o < od ∧ twinP b ∈ l)) : giveF od n l b = (l, b) := by
  cases n with
  | zero => rfl
  | succ n => rw [giveF, if_neg h]
def givenL (od : Int) (fs : List Bl) (b : Bl) : List Bl := withL (giveF od (od - b.o).toNat fs b).1 (giveF od (od - b.o).toNat fs b).2
end Go.Proofs.Ytaafajaadfgaoaa
namespace Go.Proofs.Ytaafajaadfgaoaa
open Go.RowKit
theorem size58 : (Try.prog.info? 58).map (·.size) = some 2 := by kernel_rfl
end Go.Proofs.Ytaafajaadfgaoaa
namespace Go.Proofs.Ytaafajaadfgaoaa
open Go.RowKit Go.Lib
theorem RowIs.part {B : Nat} {w0 w : World} {g t n j : Nat} {xs : List Value} {M : List Blk} (hp : Hp B w0 w (⟨g, xs, t, n⟩ :: M)) : RowIs w (some ⟨g, j, none⟩) (xs.drop j) := fun q v hq => ⟨g, j, rfl, hp.cell at0 (by rw [List.getElem?_drop] at hq; exact hq)⟩
end Go.Proofs.Ytaafajaadfgaoaa
/- The walk of buddy.Give. -/
namespace Go.Proofs.Ytaafajaadfgaoaa
open Go.RowKit
theorem RowIs.box {w : World} {b : Nat} {q r : Int} (h : RowIs w (some ⟨b, 0, none⟩) [.int .i64 q, .int .i64 r]) : BoxIs w b q r := fun j v hj => by
  obtain ⟨b', off', he, hc⟩ := h j v hj
  injection he with he; injection he with e1 e2; subst e1; subst e2; exact hc
theorem IndexP.no {l : List Bl} {v : Bl} {r : Int} (h : IndexP l v r) (hn : v ∉ l) : r = -1 := by
  rcases h with ⟨h, _⟩ | ⟨j, _, hj⟩
  · exact h
  · exact absurd (List.mem_of_getElem? hj) hn
def GiveRel (od : Int) (fs : List Bl) (b0 : Bl) (k : Nat) (l : List Bl) (b : Bl) : Prop := GiveAt od l b ∧ giveF od (od - b0.o).toNat fs b0 = giveF od k l b ∧ l.length ≤ 600 ∧ k = (od - b.o).toNat
theorem GiveRel.done {od : Int} {fs : List Bl} {b0 b : Bl} {k : Nat} {l : List Bl} (h : GiveRel od fs b0 k l b) (hn : ¬ (b.o < od ∧ twinP b ∈ l)) {i : Nat} (hi : AtB l b.p i) : l.take i ++ b :: l.drop i = givenL od fs b0 := by
  rw [withL_at hi h.1.ne]
  unfold givenL
  rw [h.2.1, giveF_no hn]
def RowAt (w : World) (M : List Blk) (a : Option Addr) (xs : List Value) : Prop := ∀ (w1 : World) (L : List Blk), Hp w.heap.size w w1 L → (∀ p ∈ M, p ∈ L) → RowIs w1 a xs
theorem RowAt.at {w w1 : World} {M L : List Blk} {a : Option Addr} {xs : List Value} (h : RowAt w M a xs) (hp : Hp w.heap.size w w1 L) (hm : ∀ p ∈ M, p ∈ L) : RowIs w1 a xs := h w1 L hp hm
end Go.Proofs.Ytaafajaadfgaoaa
