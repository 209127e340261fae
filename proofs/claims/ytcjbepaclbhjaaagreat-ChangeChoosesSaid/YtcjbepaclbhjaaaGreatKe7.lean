/- Parts of the proof. -/
import Derived.Test.YtcjbepaclbhjaaaGreatKe1
import Derived.Test.YtcjbepaclbhjaaaGreatKe5
import Derived.Test.YtcjbepaclbhjaaaGreatKe6
import Derived.Test.YtcjbepaclbhjaaaGreatKe0
open List renaming set_cons_zero → zSet, set_cons_succ → sSet
/- The walks that lay numbers, ints and texts as bytes (written by mkow.py). -/
set_option linter.unusedSimpArgs false
set_option linter.unusedVariables false
namespace Go.Proofs.YtcjbepaclbhjaaaGreat
open Go.RowKit
theorem info5 : (Tryz.prog.info? 5).map (fun i => (i.zero, i.size, i.bytes)) = some (some (.int .u8 0), 1, 1) := by kernel_rfl
def byteS (s u k : Nat) : Nat := u / 2 ^ (8 * (s - 1 - k)) % 256
def beS (s u : Nat) : List Nat := (List.range s).map (byteS s u)
theorem beS_len (s u : Nat) : (beS s u).length = s := by simp [beS]
theorem beS_take (s u j : Nat) (h : j < s) : (beS s u).take (j + 1) = (beS s u).take j ++ [byteS s u j] := by
  rw [List.take_add_one]
  congr 1
  simp [beS, List.getElem?_map, List.getElem?_range h]
theorem beS_bytes (s u : Nat) : Bytes (beS s u) := by
  intro x hx
  obtain ⟨k, _, rfl⟩ := List.mem_map.1 hx
  exact Nat.mod_lt _ (by decide)
theorem Bytes.app {l k : List Nat} (h : Bytes l) (h' : Bytes k) : Bytes (l ++ k) := fun x hx => (List.mem_append.1 hx).elim (h x) (h' x)
theorem Bytes.nil : Bytes [] := fun x hx => by cases hx
def RowO (w : World) (xs : List Nat) (e : Ending) (w' : World) : Prop := ∃ v R, e = .returned v ∧ OwnRow 5 1 v xs.length (xs.flatMap byV) R ∧ Hp w.heap.size w w' R
set_option maxRecDepth 100000 in
set_option maxHeartbeats 4000000 in
theorem puts151_4 (xs : List Nat) (hl : xs.length ≤ 1000000) (u : Nat) (hu : u < 18446744073709551616) (a : Option Addr) (c : Nat) (w : World) (ha : RowIs w a (xs.flatMap byV)) :
    Calls Tryz.prog 151 #[.slice a xs.length c, .int .u64 (u : Int), .int .i64 4] w (RowO w (xs ++ beS 4 u)) := by
  obtain ⟨i0, hi0, hz0, hz1, hz2⟩ := info_parts info5
  have hp := Hp.start w
  have HA := Lib.hid ha
  clear ha
  go_enter Tryz.func151, Tryz.ntmps151
  go_wp2_with (first | ((with_reducible refine pre_make 89 _ _ rfl ?_); refine wpList_make0_hp hp _ _ _ rfl wy 5 i0 _ Tryz.underlying89 hi0 hz0 hz1 rfl _ (by first | exact slot_const | exact sTm rfl) (by first | exact sTm rfl | exact slot_const) (xs.length + 4) (by omega) (by rw [hz2]; omega) (by unfold maxLen; omega) ?_; clear hp; intro v R w1 hR hp; have HR := Lib.hid hR; clear hR; replace hp : Hp _ _ _ ([] ++ (R ++ [])) := (by simpa using hp); simp only [put_some, put_none, sSet, zSet]) | ((with_reducible refine pre_append _ _ 89 rfl ?_); refine wpList_appendGrowRow (K := []) hp _ _ _ rfl wy i0 _ 1 Tryz.underlying89 hi0 hz0 hz1 hz2 rfl (by decide) (sTm rfl) HR.out a xs.length c (sTm rfl) _ (by rw [flat_len byV 1 byV_len]) (HA.out.below hp.below) (by_one xs) (by unfold maxLen; omega) (by omega) ?_; clear hp; intro v' R' w1 hR' hp; have HR' := Lib.hid hR'; clear hR'; simp only [put_some, put_none, sSet, zSet]) | go_skip | (first | (refine hA3 ?_; clear hp; intro b w1 hp) | refine hL2 ?_ | (refine hS1 ?_; clear hp; intro w1 hp)))
  go_loopg [7, 8] 4 (fun k v i wr => ∃ (j : Nat) (R : List Blk), k + j = 4 ∧ i = .int .i64 (4 - 1 - (j : Int)) ∧ RowKit.Hid (OwnRow 5 1 v (xs.length + j) ((xs ++ (beS 4 u).take j).flatMap byV) R) ∧ Hp w.heap.size w wr ([] ++ (R ++ [])))
  case atStart => exact ⟨0, R', by omega, rfl, Lib.hid (by have := HR'.out; simpa using this), hp⟩
  case round =>
    clear hp HR HR'
    obtain ⟨j, R, hkj, rfl, HR, hp⟩ := hrel
    by_cases hlt : j < 4
    · obtain ⟨m, hm⟩ : ∃ m : Nat, 4 - 1 - (j : Int) = m := ⟨4 - 1 - j, by omega⟩
      have hm7 : m ≤ 7 := by omega
      have HM := Lib.hid hm
      rw [hm]
      have HB : RowKit.Hid ((byteS 4 u j : Nat) = u / 2 ^ (8 * m) % 256) := Lib.hid (by unfold byteS; rw [show 4 - 1 - j = m by omega])
      clear hm
      have e1 : (0 : Int) ≤ (m : Int) := by omega
      have e2 : wrap64 (8 * (m : Int)) = 8 * (m : Int) := by unfold wrap64; omega
      have e3 : (8 * (m : Int)).toNat = 8 * m := by omega
      go_wp2_with (first | ((with_reducible refine pre_append _ _ 89 rfl ?_); refine wpList_appendGrow (K := []) hp _ _ _ rfl wy i0 _ 1 Tryz.underlying89 hi0 hz0 hz1 hz2 rfl (by decide) (sTm rfl) HR.out 1 1 (sTm rfl) (by rfl) (by decide) (by rfl) (by unfold maxLen; omega) (by omega) ?_; clear hp HR; intro v' R' w1 hR' hp; have HR' := Lib.hid hR'; clear hR'; simp only [put_some, put_none, sSet, zSet]) | go_skip | (first | (refine hA3 ?_; clear hp; intro b w1 hp) | refine hL2 ?_ | (refine hS1 ?_; clear hp; intro w1 hp)))
      go_roundg (gk - 1)
      case measure => omega
      case rel => exact ⟨j + 1, R', by omega, congrArg (Value.int .i64) (by have := HM.out; omega), Lib.hid (by have h := HR'.out; rw [beS_take 4 u j hlt, ← List.append_assoc, List.flatMap_append]; simp only [List.flatMap_cons, List.flatMap_nil, List.append_nil, byV]; rw [HB.out]; push_cast; exact h), hp⟩
    · have hj : j = 4 := by omega
      subst hj
      have e1 : decide ((0 : Int) ≤ 4 - 1 - ((4 : Nat) : Int)) = false := by decide
      go_wp2_with (first | go_skip | (first | (refine hA3 ?_; clear hp; intro b w1 hp) | refine hL2 ?_ | (refine hS1 ?_; clear hp; intro w1 hp)))
      go_ret
      refine ⟨_, R, rfl, ?_, by simpa using hp⟩
      have h := HR.out
      rw [List.take_of_length_le (by rw [beS_len]; omega)] at h
      rw [List.length_append, beS_len]
      exact h
set_option maxRecDepth 100000 in
set_option maxHeartbeats 4000000 in
theorem puts151_8 (xs : List Nat) (hl : xs.length ≤ 1000000) (u : Nat) (hu : u < 18446744073709551616) (a : Option Addr) (c : Nat) (w : World) (ha : RowIs w a (xs.flatMap byV)) :
    Calls Tryz.prog 151 #[.slice a xs.length c, .int .u64 (u : Int), .int .i64 8] w (RowO w (xs ++ beS 8 u)) := by
  obtain ⟨i0, hi0, hz0, hz1, hz2⟩ := info_parts info5
  have hp := Hp.start w
  have HA := Lib.hid ha
  clear ha
  go_enter Tryz.func151, Tryz.ntmps151
  go_wp2_with (first | ((with_reducible refine pre_make 89 _ _ rfl ?_); refine wpList_make0_hp hp _ _ _ rfl wy 5 i0 _ Tryz.underlying89 hi0 hz0 hz1 rfl _ (by first | exact slot_const | exact sTm rfl) (by first | exact sTm rfl | exact slot_const) (xs.length + 8) (by omega) (by rw [hz2]; omega) (by unfold maxLen; omega) ?_; clear hp; intro v R w1 hR hp; have HR := Lib.hid hR; clear hR; replace hp : Hp _ _ _ ([] ++ (R ++ [])) := (by simpa using hp); simp only [put_some, put_none, sSet, zSet]) | ((with_reducible refine pre_append _ _ 89 rfl ?_); refine wpList_appendGrowRow (K := []) hp _ _ _ rfl wy i0 _ 1 Tryz.underlying89 hi0 hz0 hz1 hz2 rfl (by decide) (sTm rfl) HR.out a xs.length c (sTm rfl) _ (by rw [flat_len byV 1 byV_len]) (HA.out.below hp.below) (by_one xs) (by unfold maxLen; omega) (by omega) ?_; clear hp; intro v' R' w1 hR' hp; have HR' := Lib.hid hR'; clear hR'; simp only [put_some, put_none, sSet, zSet]) | go_skip | (first | (refine hA3 ?_; clear hp; intro b w1 hp) | refine hL2 ?_ | (refine hS1 ?_; clear hp; intro w1 hp)))
  go_loopg [7, 8] 8 (fun k v i wr => ∃ (j : Nat) (R : List Blk), k + j = 8 ∧ i = .int .i64 (8 - 1 - (j : Int)) ∧ RowKit.Hid (OwnRow 5 1 v (xs.length + j) ((xs ++ (beS 8 u).take j).flatMap byV) R) ∧ Hp w.heap.size w wr ([] ++ (R ++ [])))
  case atStart => exact ⟨0, R', by omega, rfl, Lib.hid (by have := HR'.out; simpa using this), hp⟩
  case round =>
    clear hp HR HR'
    obtain ⟨j, R, hkj, rfl, HR, hp⟩ := hrel
    by_cases hlt : j < 8
    · obtain ⟨m, hm⟩ : ∃ m : Nat, 8 - 1 - (j : Int) = m := ⟨8 - 1 - j, by omega⟩
      have hm7 : m ≤ 7 := by omega
      have HM := Lib.hid hm
      rw [hm]
      have HB : RowKit.Hid ((byteS 8 u j : Nat) = u / 2 ^ (8 * m) % 256) := Lib.hid (by unfold byteS; rw [show 8 - 1 - j = m by omega])
      clear hm
      have e1 : (0 : Int) ≤ (m : Int) := by omega
      have e2 : wrap64 (8 * (m : Int)) = 8 * (m : Int) := by unfold wrap64; omega
      have e3 : (8 * (m : Int)).toNat = 8 * m := by omega
      go_wp2_with (first | ((with_reducible refine pre_append _ _ 89 rfl ?_); refine wpList_appendGrow (K := []) hp _ _ _ rfl wy i0 _ 1 Tryz.underlying89 hi0 hz0 hz1 hz2 rfl (by decide) (sTm rfl) HR.out 1 1 (sTm rfl) (by rfl) (by decide) (by rfl) (by unfold maxLen; omega) (by omega) ?_; clear hp HR; intro v' R' w1 hR' hp; have HR' := Lib.hid hR'; clear hR'; simp only [put_some, put_none, sSet, zSet]) | go_skip | (first | (refine hA3 ?_; clear hp; intro b w1 hp) | refine hL2 ?_ | (refine hS1 ?_; clear hp; intro w1 hp)))
      go_roundg (gk - 1)
      case measure => omega
      case rel => exact ⟨j + 1, R', by omega, congrArg (Value.int .i64) (by have := HM.out; omega), Lib.hid (by have h := HR'.out; rw [beS_take 8 u j hlt, ← List.append_assoc, List.flatMap_append]; simp only [List.flatMap_cons, List.flatMap_nil, List.append_nil, byV]; rw [HB.out]; push_cast; exact h), hp⟩
    · have hj : j = 8 := by omega
      subst hj
      have e1 : decide ((0 : Int) ≤ 8 - 1 - ((8 : Nat) : Int)) = false := by decide
      go_wp2_with (first | go_skip | (first | (refine hA3 ?_; clear hp; intro b w1 hp) | refine hL2 ?_ | (refine hS1 ?_; clear hp; intro w1 hp)))
      go_ret
      refine ⟨_, R, rfl, ?_, by simpa using hp⟩
      have h := HR.out
      rw [List.take_of_length_le (by rw [beS_len]; omega)] at h
      rw [List.length_append, beS_len]
      exact h
set_option maxRecDepth 100000 in
set_option maxHeartbeats 4000000 in
theorem putn152 (xs : List Nat) (hl : xs.length ≤ 1000000) (n : Nat) (hn : n ≤ 2147483647) (a : Option Addr) (c : Nat) (w : World) (ha : RowIs w a (xs.flatMap byV)) :
    Calls Tryz.prog 152 #[.slice a xs.length c, .int .i64 n] w fun e w' => ∃ v R, e = .returned (.tuple #[v, .int .i64 0]) ∧ OwnRow 5 1 v (xs ++ beS 4 n).length ((xs ++ beS 4 n).flatMap byV) R ∧ Hp w.heap.size w w' R := by
  have hp := Hp.start w
  have HA := Lib.hid ha
  have hu : n < 18446744073709551616 := by omega
  have e1 : decide ((n : Int) < 0) = false := decide_eq_false (by omega)
  have e2 : decide ((2147483647 : Int) < (n : Int)) = false := by simp; omega
  have e3 : IntKind.u64.wrap (n : Int) = (n : Int) := by rw [wrapU]; unfold uN; omega
  clear ha
  go_enter Tryz.func152, Tryz.ntmps152
  go_wp2_with (first | (go_at_call 151; (with_reducible refine (puts151_4 xs hl _ hu a c _ (HA.out.below hp.below)).mono ?_); rintro e w1 ⟨v2, R2, rfl, hr2, hp2⟩; replace hp := hp.join hp2; have HR2 := Lib.hid hr2; clear hr2 hp2; simp only [List.nil_append] at hp) | go_skip | (first | (refine hA3 ?_; clear hp; intro b w1 hp) | refine hL2 ?_ | (refine hS1 ?_; clear hp; intro w1 hp)))
  go_ret2
  exact ⟨v2, R2, rfl, HR2.out, hp⟩
set_option maxRecDepth 100000 in
set_option maxHeartbeats 4000000 in
theorem putis153 (xs : List Nat) (hl : xs.length ≤ 1000000) (n : Int) (a : Option Addr) (c : Nat) (w : World) (ha : RowIs w a (xs.flatMap byV)) :
    Calls Tryz.prog 153 #[.slice a xs.length c, .int .i64 n] w (RowO w (xs ++ beS 8 (uN n))) := by
  have hp := Hp.start w
  have HA := Lib.hid ha
  have e1 := wrapU n
  clear ha
  go_enter Tryz.func153, Tryz.ntmps153
  go_wp2_with (first | (go_at_call 151; (with_reducible refine (puts151_8 xs hl _ (uN_lt n) a c _ (HA.out.below hp.below)).mono ?_); rintro e w1 ⟨v2, R2, rfl, hr2, hp2⟩; replace hp := hp.join hp2; have HR2 := Lib.hid hr2; clear hr2 hp2; simp only [List.nil_append] at hp) | go_skip | (first | (refine hA3 ?_; clear hp; intro b w1 hp) | refine hL2 ?_ | (refine hS1 ?_; clear hp; intro w1 hp)))
  go_ret
  exact ⟨v2, R2, rfl, HR2.out, hp⟩
def strB (s : ByteArray) : List Nat := s.data.toList.map UInt8.toNat
theorem strB_len (s : ByteArray) : (strB s).length = s.size := by unfold strB; rw [List.length_map, Array.length_toList]; rfl
theorem strB_cells (s : ByteArray) : byteCells s = (strB s).flatMap byV := by rw [fl_by]; unfold byteCells strB; rw [List.map_map]; rfl
theorem strB_bytes (s : ByteArray) : Bytes (strB s) := by
  intro x hx
  obtain ⟨u, _, rfl⟩ := List.mem_map.1 hx
  exact u.toNat_lt
theorem strB_of {t : List Nat} (h : Bytes t) : strB (strOfNums (nI t)) = t := by
  unfold strB strOfNums nI
  simp only [List.map_map, Function.comp_def]
  conv => rhs; rw [← List.map_id t]
  apply List.map_congr_left
  intro x hx
  have := h x hx
  simp [UInt8.toNat_ofNat]; omega
set_option maxRecDepth 100000 in
set_option maxHeartbeats 4000000 in
theorem putt121 (xs : List Nat) (hl : xs.length ≤ 1000000) (s : ByteArray) (hs : s.size ≤ 65536) (a : Option Addr) (c : Nat) (w : World) (ha : RowIs w a (xs.flatMap byV)) :
    Calls Tryz.prog 121 #[.slice a xs.length c, .string s] w fun e w' => ∃ v R, e = .returned (.tuple #[v, .int .i64 0]) ∧ SubRow 5 1 v (xs ++ beS 4 s.size ++ strB s).length ((xs ++ beS 4 s.size ++ strB s).flatMap byV) R ∧ Hp w.heap.size w w' R := by
  obtain ⟨i0, hi0, hz0, hz1, hz2⟩ := info_parts info5
  have hp := Hp.start w
  have HA := Lib.hid ha
  have hu : s.size < 18446744073709551616 := by omega
  have e1 : decide ((65536 : Int) < (s.size : Int)) = false := by simp; omega
  have e3 : IntKind.u64.wrap (s.size : Int) = (s.size : Int) := by rw [wrapU]; unfold uN; omega
  have HM1 : RowKit.Hid ((xs ++ beS 4 s.size).length + s.size ≤ maxLen) := Lib.hid (by rw [List.length_append, beS_len]; unfold maxLen; omega)
  have HM2 : RowKit.Hid (((xs ++ beS 4 s.size).length + s.size) * 1 ≤ 140737488355328) := Lib.hid (by rw [List.length_append, beS_len]; omega)
  have HX : RowKit.Hid ((xs ++ beS 4 s.size ++ strB s).length = (xs ++ beS 4 s.size).length + s.size ∧ (xs ++ beS 4 s.size ++ strB s).flatMap byV = (xs ++ beS 4 s.size).flatMap byV ++ byteCells s) := Lib.hid ⟨by rw [List.length_append, strB_len], by rw [List.flatMap_append, strB_cells]⟩
  clear ha
  go_enter Tryz.func121, Tryz.ntmps121
  go_wp2_with (first | (go_at_call 151; (with_reducible refine (puts151_4 xs hl _ hu a c _ (HA.out.below hp.below)).mono ?_); rintro e w1 ⟨v2, R2, rfl, hr2, hp2⟩; replace hp := hp.join hp2; have HR2 := Lib.hid hr2; clear hr2 hp2; replace hp : Hp _ _ _ ([] ++ (R2 ++ [])) := (by simpa using hp)) | ((with_reducible refine pre_append2 _ _ 89 9 rfl ?_); refine wpList_appendSub (K := []) hp _ _ _ _ rfl wy 5 i0 _ 1 1 Tryz.underlying89 hi0 hz0 hz1 hz2 rfl _ _ _ (sTm rfl) (SubRow.of_own HR2.out) _ (sTm rfl) s.size (byteCells s) (Src.ofString _ Tryz.underlying9 s) HM1.out HM2.out ?_; clear hp; intro v3 R3 w1 hr3 hp; have HR3 := Lib.hid hr3; clear hr3; simp only [put_some, put_none, sSet, zSet]) | go_skip | (first | (refine hA3 ?_; clear hp; intro b w1 hp) | refine hL2 ?_ | (refine hS1 ?_; clear hp; intro w1 hp)))
  go_ret2
  refine ⟨v3, R3, rfl, ?_, by simpa using hp⟩
  rw [HX.out.1, HX.out.2]; exact HR3.out
theorem flat_nat {α : Type} (f : α → List Nat) (c : Nat) (hf : ∀ x, (f x).length = c) (l : List α) : (l.flatMap f).length = l.length * c := by
  induction l with
  | nil => simp
  | cons x l ih => simp [ih, hf, Nat.add_mul, Nat.add_comm]
def OutSt (B : Nat) (w0 : World) (bo : Nat) (xs : List Nat) (L : List Blk) (w : World) : Prop := ∃ a c R, SubRow 5 1 (.slice a xs.length c) xs.length (xs.flatMap byV) R ∧ Hp B w0 w (⟨bo, [.slice a xs.length c], 162, 1⟩ :: (L ++ R))
theorem SubRow.keptS {e : TypeId} {c n : Nat} {a : Option Addr} {k : Nat} {xs : List Value} {R : List Blk} (h : SubRow e c (.slice a n k) n xs R) : Kept R fun w => RowIs w a xs := by
  obtain ⟨a', k', hv, _, hk⟩ := h.kept
  injection hv with h1 h2 h3
  subst h1
  exact hk
theorem OutSt.of {B : Nat} {w0 w : World} {bo n : Nat} {xs : List Nat} {v : Value} {L R : List Blk} (hn : xs.length = n) (h : SubRow 5 1 v n (xs.flatMap byV) R) (hp : Hp B w0 w (⟨bo, [v], 162, 1⟩ :: (L ++ R))) : OutSt B w0 bo xs L w := by
  obtain ⟨a, k, rfl, hk, hkr⟩ := h.kept
  subst hn
  exact ⟨a, k, R, h, hp⟩
def bn4 (l : List Nat) : List Nat := l.flatMap fun n => beS 4 n
def bi8 (l : List Int) : List Nat := l.flatMap fun n => beS 8 (uN n)
theorem bn4_len (l : List Nat) : (bn4 l).length = l.length * 4 := flat_nat _ 4 (fun x => beS_len 4 x) l
theorem bi8_len (l : List Int) : (bi8 l).length = l.length * 8 := flat_nat _ 8 (fun x => beS_len 8 (uN x)) l
theorem bn4_take {l : List Nat} {j : Nat} {x : Nat} (h : l[j]? = some x) : bn4 (l.take (j + 1)) = bn4 (l.take j) ++ beS 4 x := by
  unfold bn4
  rw [List.take_add_one, h]; simp [List.flatMap_append]
theorem bi8_take {l : List Int} {j : Nat} {x : Int} (h : l[j]? = some x) : bi8 (l.take (j + 1)) = bi8 (l.take j) ++ beS 8 (uN x) := by
  unfold bi8
  rw [List.take_add_one, h]; simp [List.flatMap_append]
def natV (n : Nat) : List Value := [.int .i64 (n : Int)]
theorem natV_len (x : Nat) : (natV x).length = 1 := rfl
set_option maxRecDepth 100000 in
set_option maxHeartbeats 4000000 in
theorem outg123 (l : List Int) (hl : l.length ≤ 1000) (xs : List Nat) (hx : xs.length ≤ 900000) {B : Nat} {w0 w : World} {L : List Blk} (bo : Nat) (al : Option Addr) (cl : Nat) (hs : OutSt B w0 bo xs L w) (hk : Stay B w0 L fun w => RowIs w al (l.flatMap iV)) :
    Calls Tryz.prog 123 #[.pointer (some ⟨bo, 0, none⟩), .slice al l.length cl] w fun e w' => e = .returned (.tuple #[]) ∧ OutSt B w0 bo (xs ++ bi8 l) L w' := by
  have HL := Lib.hid hk
  obtain ⟨a0, c0, R0, hk0, hp⟩ := hs
  have HK0 := Lib.hid hk0
  clear hk hk0
  go_enter Tryz.func123, Tryz.ntmps123
  go_wp2_with (first | go_skip | (first | (refine hA3 ?_; clear hp; intro b w1 hp) | refine hL2 ?_ | (refine hS1 ?_; clear hp; intro w1 hp)))
  go_loopg [8] l.length (fun k i wr => ∃ (j : Nat) (zs : List Nat) (a1 : Option Addr) (c1 : Nat) (R : List Blk), k + j = l.length ∧ i = .int .i64 j ∧ RowKit.Hid (zs = xs ++ bi8 (l.take j)) ∧ RowKit.Hid (SubRow 5 1 (.slice a1 zs.length c1) zs.length (zs.flatMap byV) R) ∧ Hp B w0 wr (⟨bo, [.slice a1 zs.length c1], 162, 1⟩ :: (L ++ R)))
  case atStart => exact ⟨0, xs, a0, c0, R0, by omega, rfl, Lib.hid (by rw [List.take_zero]; exact (List.append_nil xs).symm), HK0, hp⟩
  case round =>
    clear hp HK0
    obtain ⟨j, ys, a1, c1, R, hkj, rfl, HZ, HSR, hp⟩ := hrel
    have HK := Lib.hid HSR.out.keptS
    by_cases hlt : j < l.length
    · have hj := List.getElem?_eq_getElem hlt
      generalize l[j] = x at hj
      obtain ⟨bq, off, rfl, hE⟩ := HL.out.elem 1 iV_len (by decide) hj hp (by intro p hp2; simp [hp2])
      have HE := Lib.hid hE
      have HT := Lib.hid (bi8_take hj)
      have HSM : RowKit.Hid (ys.length ≤ 1000000) := Lib.hid (by rw [HZ.out, List.length_append, bi8_len, List.length_take]; omega)
      clear hE hj
      simp only [Nat.mul_one] at HE
      have e1 : (0 : Int) ≤ (j : Int) := by omega
      have e2 : (j : Int) < (l.length : Int) := by omega
      go_wp2_with (first | (go_at_call 153; (with_reducible refine (putis153 ys HSM.out x  a1 c1 _ (HK.out.at hp (by intro p hp2; simp [hp2]))).mono ?_); rintro e w1 ⟨v2, R2, rfl, hr2, hp2⟩; obtain ⟨a3, c3, rfl, hc3, hk3⟩ := hr2.keptC; replace hp := hp.join hp2; have HR2 := Lib.hid hr2; clear hr2 hp2 hk3 hc3; simp only [List.cons_append, List.append_assoc] at hp) | (refine hL10 ?_) | go_skip | (first | (refine hA3 ?_; clear hp; intro b w1 hp) | refine hL2 ?_ | (refine hS1 ?_; clear hp; intro w1 hp)))
      go_roundg (gk - 1)
      case measure => omega
      case rel =>
        exact ⟨j + 1, ys ++ beS 8 (uN x), a3, c3, R2, by omega, by go_num, Lib.hid (by rw [HT.out, HZ.out, List.append_assoc]), Lib.hid (SubRow.of_own HR2.out), by rw [List.length_append]; exact hp.kp⟩
    · have e2 : decide ((j : Int) < (l.length : Int)) = false := by simp; omega
      have hj : j = l.length := by omega
      have HJ := Lib.hid hj
      clear hj
      go_wp2_with fail
      refine bodyPost_end (results_none Tryz.results123 _ _ _) rfl ⟨rfl, ?_⟩
      have h := HZ.out
      rw [HJ.out, List.take_length] at h
      subst h
      exact ⟨a1, c1, R, HSR.out, hp⟩
set_option maxRecDepth 100000 in
set_option maxHeartbeats 4000000 in
theorem outg122 (l : List Nat) (hl : l.length ≤ 1000) (hb : ∀ x ∈ l, x ≤ 2147483647) (xs : List Nat) (hx : xs.length ≤ 900000) {B : Nat} {w0 w : World} {L : List Blk} (bo : Nat) (al : Option Addr) (cl : Nat) (hs : OutSt B w0 bo xs L w) (hk : Stay B w0 L fun w => RowIs w al (l.flatMap natV)) :
    Calls Tryz.prog 122 #[.pointer (some ⟨bo, 0, none⟩), .slice al l.length cl] w fun e w' => e = .returned (.tuple #[]) ∧ OutSt B w0 bo (xs ++ bn4 l) L w' := by
  have HL := Lib.hid hk
  obtain ⟨a0, c0, R0, hk0, hp⟩ := hs
  have HK0 := Lib.hid hk0
  clear hk hk0
  go_enter Tryz.func122, Tryz.ntmps122
  go_wp2_with (first | go_skip | (first | (refine hA3 ?_; clear hp; intro b w1 hp) | refine hL2 ?_ | (refine hS1 ?_; clear hp; intro w1 hp)))
  go_loopg [8] l.length (fun k i wr => ∃ (j : Nat) (zs : List Nat) (a1 : Option Addr) (c1 : Nat) (R : List Blk), k + j = l.length ∧ i = .int .i64 j ∧ RowKit.Hid (zs = xs ++ bn4 (l.take j)) ∧ RowKit.Hid (SubRow 5 1 (.slice a1 zs.length c1) zs.length (zs.flatMap byV) R) ∧ Hp B w0 wr (⟨bo, [.slice a1 zs.length c1], 162, 1⟩ :: (L ++ R)))
  case atStart => exact ⟨0, xs, a0, c0, R0, by omega, rfl, Lib.hid (by rw [List.take_zero]; exact (List.append_nil xs).symm), HK0, hp⟩
  case round =>
    clear hp HK0
    obtain ⟨j, ys, a1, c1, R, hkj, rfl, HZ, HSR, hp⟩ := hrel
    have HK := Lib.hid HSR.out.keptS
    by_cases hlt : j < l.length
    · have hj := List.getElem?_eq_getElem hlt
      have hbx := hb _ (List.getElem_mem hlt)
      generalize l[j] = x at hj hbx
      obtain ⟨bq, off, rfl, hE⟩ := HL.out.elem 1 natV_len (by decide) hj hp (by intro p hp2; simp [hp2])
      have HE := Lib.hid hE
      have HT := Lib.hid (bn4_take hj)
      have HSM : RowKit.Hid (ys.length ≤ 1000000) := Lib.hid (by rw [HZ.out, List.length_append, bn4_len, List.length_take]; omega)
      clear hE hj
      simp only [Nat.mul_one] at HE
      have e1 : (0 : Int) ≤ (j : Int) := by omega
      have e2 : (j : Int) < (l.length : Int) := by omega
      go_wp2_with (first | (go_at_call 152; (with_reducible refine (putn152 ys HSM.out x hbx a1 c1 _ (HK.out.at hp (by intro p hp2; simp [hp2]))).mono ?_); rintro e w1 ⟨v2, R2, rfl, hr2, hp2⟩; obtain ⟨a3, c3, rfl, hc3, hk3⟩ := hr2.keptC; replace hp := hp.join hp2; have HR2 := Lib.hid hr2; clear hr2 hp2 hk3 hc3; simp only [List.cons_append, List.append_assoc] at hp) | (refine hL10 ?_) | go_skip | (first | (refine hA3 ?_; clear hp; intro b w1 hp) | refine hL2 ?_ | (refine hS1 ?_; clear hp; intro w1 hp)))
      go_roundg (gk - 1)
      case measure => omega
      case rel =>
        exact ⟨j + 1, ys ++ beS 4 x, a3, c3, R2, by omega, by go_num, Lib.hid (by rw [HT.out, HZ.out, List.append_assoc]), Lib.hid (SubRow.of_own HR2.out), by rw [List.length_append]; exact hp.kp⟩
    · have e2 : decide ((j : Int) < (l.length : Int)) = false := by simp; omega
      have hj : j = l.length := by omega
      have HJ := Lib.hid hj
      clear hj
      go_wp2_with fail
      refine bodyPost_end (results_none Tryz.results122 _ _ _) rfl ⟨rfl, ?_⟩
      have h := HZ.out
      rw [HJ.out, List.take_length] at h
      subst h
      exact ⟨a1, c1, R, HSR.out, hp⟩
end Go.Proofs.YtcjbepaclbhjaaaGreat
