import Derived.Test.YtaafajaadfgaoaaGreatFp4
import Derived.Test.YtaafajaadfgaoaaGreatFp0
set_option linter.unusedSimpArgs false
set_option linter.unusedVariables false
set_option maxRecDepth 100000
set_option maxHeartbeats 60000000
namespace Go.Proofs.YtaafajaadfgaoaaGreat
open Go.RowKit
theorem za7 {ty : TypeId} (h : zB Tryz.prog ty = true := by with_reducible first | exact zq | exact zA | exact zS | exact Zw) : zB Tryz.prog ty = true := h
theorem zmz : (Tryz.prog.info? 5).map (fun i => (i.zero, i.size, i.bytes)) = some (some (.int .u8 0), 1, 1) := by kernel_rfl
theorem ZC : zac Tryz.prog 116 1 = true := by kernel_rfl
def zia (s u k : Nat) : Nat := u / 2 ^ (8 * (s - 1 - k)) % 256
def beS (s u : Nat) : List Nat := (List.range s).map (zia s u)
theorem zan (s u : Nat) : (beS s u).length = s := by simp [beS]
theorem zhw (s u j : Nat) (h : j < s) : (beS s u).take (j + 1) = (beS s u).take j ++ [zia s u j] := by
 rw [List.take_add_one]
 congr 1
 simp [beS, List.getElem?_map, List.getElem?_range h]
theorem zf6 (s u : Nat) : za4 (beS s u) := by
 intro x hx
 obtain ⟨k, _, rfl⟩ := List.mem_map.1 hx
 exact Nat.mod_lt _ (by decide)
theorem za4.app {l k : List Nat} (h : za4 l) (h' : za4 k) : za4 (l ++ k) := fun x hx => (List.mem_append.1 hx).elim (h x) (h' x)
theorem za4.nil : za4 [] := fun x hx => by cases hx
def zn6 (w : World) (xs : List Nat) (e : Ending) (w' : World) : Prop := ∃ v R, e = .returned v ∧ zJ 5 1 v xs.length (xs.flatMap byV) R ∧ Hp w.heap.size w w' R
theorem zgD (xs : List Nat) (hl : xs.length ≤ 1000000) (u : Nat) (hu : u < 18446744073709551616) (a : Option Addr) (c : Nat) (w : World) (ha : zr w a (xs.flatMap byV)) :
  Calls Tryz.prog 154 #[.slice a xs.length c, .int .u64 (u : Int), .int .i64 4] w (zn6 w (xs ++ beS 4 u)) := by
 obtain ⟨i0, hi0, hz0, hz1, hz2⟩ := info_parts zmz
 have hp := Hp.start w
 have HA := z0j ha
 clear ha
 go_enter Tryz.func154, Tryz.ntmps154
 go_wp2_with (first | ((refine zhV 57 _ _ rfl ?_); refine zcK hp _ _ _ rfl wy 5 i0 _ Tryz.underlying57 hi0 hz0 hz1 rfl _ (by first | exact zcb | exact za rfl) (by first | exact za rfl | exact zcb) (xs.length + 4) (by omega) (by rw [hz2]; omega) (by unfold maxLen; omega) ?_; clear hp; intro v R w1 hR hp; have HR := z0j hR; clear hR; replace hp : Hp _ _ _ ([] ++ (R ++ [])) := (by simpa using hp); simp only [zc, zb, z0b, z0a]) | ((refine Zb _ _ 57 rfl ?_); refine ZJ (K := []) hp _ _ _ rfl wy i0 _ 1 Tryz.underlying57 hi0 hz0 hz1 hz2 rfl (by decide) (za rfl) HR.out a xs.length c (za rfl) _ (by rw [ZH byV 1 zbN]) (HA.out.below hp.below) (zlS xs) (by unfold maxLen; omega) (by omega) ?_; clear hp; intro v' R' w1 hR' hp; have HR' := z0j hR'; clear hR'; simp only [zc, zb, z0b, z0a]) | go_skip | ((first | ((refine zh _ _ rfl ?_); refine lB hp rfl (za rfl) rfl ?_; clear hp; intro b w1 hp) | ((refine zf _ _ rfl ?_); first | refine lO hp rfl (za rfl) za7 zu ?_ | refine lA hp rfl (za rfl) ZC zu ?_) | ((refine zd _ _ _ rfl ?_); (first | refine sO hp rfl (za rfl) za7 zu ?_ | refine sA hp rfl (za rfl) (za rfl) ZC zu ?_ | refine sG hp rfl (za rfl) (za rfl) ZC zu ?_); clear hp; intro w1 hp; simp only [spl, z0a, z0b] at hp) | ((refine zi _ _ _ rfl ?_); refine lS hp rfl (by intro w; go_simp; rfl) ?_; clear hp; intro b w1 hp; simp only [z0g, z0h, Nat.reduceAdd] at hp)); simp only [zc, zb, z0b, z0a]))
 go_loopg [7, 8] 4 (fun k v i wr => ∃ (j : Nat) (R : List Blk), k + j = 4 ∧ i = .int .i64 (4 - 1 - (j : Int)) ∧ Hid (zJ 5 1 v (xs.length + j) ((xs ++ (beS 4 u).take j).flatMap byV) R) ∧ Hp w.heap.size w wr ([] ++ (R ++ [])))
 case atStart => exact ⟨0, R', by omega, rfl, z0j (by have := HR'.out; simpa using this), hp⟩
 case round =>
  clear hp HR HR'
  obtain ⟨j, R, hkj, rfl, HR, hp⟩ := hrel
  by_cases hlt : j < 4
  ·obtain ⟨m, hm⟩ : ∃ m : Nat, 4 - 1 - (j : Int) = m := ⟨4 - 1 - j, by omega⟩
   have hm7 : m ≤ 7 := by omega
   have HM := z0j hm
   rw [hm]
   have HB : Hid ((zia 4 u j : Nat) = u / 2 ^ (8 * m) % 256) := z0j (by unfold zia; rw [show 4 - 1 - j = m by omega])
   clear hm
   have e1 : (0 : Int) ≤ (m : Int) := by omega
   have e2 : wrap64 (8 * (m : Int)) = 8 * (m : Int) := by unfold wrap64; omega
   have e3 : (8 * (m : Int)).toNat = 8 * m := by omega
   go_wp2_with (first | ((refine Zb _ _ 57 rfl ?_); refine zM (K := []) hp _ _ _ rfl wy i0 _ 1 Tryz.underlying57 hi0 hz0 hz1 hz2 rfl (by decide) (za rfl) HR.out 1 1 (za rfl) (by rfl) (by decide) (by rfl) (by unfold maxLen; omega) (by omega) ?_; clear hp HR; intro v' R' w1 hR' hp; have HR' := z0j hR'; clear hR'; simp only [zc, zb, z0b, z0a]) | go_skip | ((first | ((refine zh _ _ rfl ?_); refine lB hp rfl (za rfl) rfl ?_; clear hp; intro b w1 hp) | ((refine zf _ _ rfl ?_); first | refine lO hp rfl (za rfl) za7 zu ?_ | refine lA hp rfl (za rfl) ZC zu ?_) | ((refine zd _ _ _ rfl ?_); (first | refine sO hp rfl (za rfl) za7 zu ?_ | refine sA hp rfl (za rfl) (za rfl) ZC zu ?_ | refine sG hp rfl (za rfl) (za rfl) ZC zu ?_); clear hp; intro w1 hp; simp only [spl, z0a, z0b] at hp) | ((refine zi _ _ _ rfl ?_); refine lS hp rfl (by intro w; go_simp; rfl) ?_; clear hp; intro b w1 hp; simp only [z0g, z0h, Nat.reduceAdd] at hp)); simp only [zc, zb, z0b, z0a]))
   go_roundg (gk - 1)
   case measure => omega
   case rel => exact ⟨j + 1, R', by omega, congrArg (Value.int .i64) (by have := HM.out; omega), z0j (by have h := HR'.out; rw [zhw 4 u j hlt, ← List.append_assoc, List.flatMap_append]; simp only [List.flatMap_cons, List.flatMap_nil, List.append_nil, byV]; rw [HB.out]; push_cast; exact h), hp⟩
  ·have hj : j = 4 := by omega
   subst hj
   have e1 : decide ((0 : Int) ≤ 4 - 1 - ((4 : Nat) : Int)) = false := by decide
   go_wp2_with (first | go_skip | ((first | ((refine zh _ _ rfl ?_); refine lB hp rfl (za rfl) rfl ?_; clear hp; intro b w1 hp) | ((refine zf _ _ rfl ?_); first | refine lO hp rfl (za rfl) za7 zu ?_ | refine lA hp rfl (za rfl) ZC zu ?_) | ((refine zd _ _ _ rfl ?_); (first | refine sO hp rfl (za rfl) za7 zu ?_ | refine sA hp rfl (za rfl) (za rfl) ZC zu ?_ | refine sG hp rfl (za rfl) (za rfl) ZC zu ?_); clear hp; intro w1 hp; simp only [spl, z0a, z0b] at hp) | ((refine zi _ _ _ rfl ?_); refine lS hp rfl (by intro w; go_simp; rfl) ?_; clear hp; intro b w1 hp; simp only [z0g, z0h, Nat.reduceAdd] at hp)); simp only [zc, zb, z0b, z0a]))
   go_ret
   refine ⟨_, R, rfl, ?_, by simpa using hp⟩
   have h := HR.out
   rw [List.take_of_length_le (by rw [zan]; omega)] at h
   rw [List.length_append, zan]
   exact h
theorem zj3 (xs : List Nat) (hl : xs.length ≤ 1000000) (u : Nat) (hu : u < 18446744073709551616) (a : Option Addr) (c : Nat) (w : World) (ha : zr w a (xs.flatMap byV)) :
  Calls Tryz.prog 154 #[.slice a xs.length c, .int .u64 (u : Int), .int .i64 8] w (zn6 w (xs ++ beS 8 u)) := by
 obtain ⟨i0, hi0, hz0, hz1, hz2⟩ := info_parts zmz
 have hp := Hp.start w
 have HA := z0j ha
 clear ha
 go_enter Tryz.func154, Tryz.ntmps154
 go_wp2_with (first | ((refine zhV 57 _ _ rfl ?_); refine zcK hp _ _ _ rfl wy 5 i0 _ Tryz.underlying57 hi0 hz0 hz1 rfl _ (by first | exact zcb | exact za rfl) (by first | exact za rfl | exact zcb) (xs.length + 8) (by omega) (by rw [hz2]; omega) (by unfold maxLen; omega) ?_; clear hp; intro v R w1 hR hp; have HR := z0j hR; clear hR; replace hp : Hp _ _ _ ([] ++ (R ++ [])) := (by simpa using hp); simp only [zc, zb, z0b, z0a]) | ((refine Zb _ _ 57 rfl ?_); refine ZJ (K := []) hp _ _ _ rfl wy i0 _ 1 Tryz.underlying57 hi0 hz0 hz1 hz2 rfl (by decide) (za rfl) HR.out a xs.length c (za rfl) _ (by rw [ZH byV 1 zbN]) (HA.out.below hp.below) (zlS xs) (by unfold maxLen; omega) (by omega) ?_; clear hp; intro v' R' w1 hR' hp; have HR' := z0j hR'; clear hR'; simp only [zc, zb, z0b, z0a]) | go_skip | ((first | ((refine zh _ _ rfl ?_); refine lB hp rfl (za rfl) rfl ?_; clear hp; intro b w1 hp) | ((refine zf _ _ rfl ?_); first | refine lO hp rfl (za rfl) za7 zu ?_ | refine lA hp rfl (za rfl) ZC zu ?_) | ((refine zd _ _ _ rfl ?_); (first | refine sO hp rfl (za rfl) za7 zu ?_ | refine sA hp rfl (za rfl) (za rfl) ZC zu ?_ | refine sG hp rfl (za rfl) (za rfl) ZC zu ?_); clear hp; intro w1 hp; simp only [spl, z0a, z0b] at hp) | ((refine zi _ _ _ rfl ?_); refine lS hp rfl (by intro w; go_simp; rfl) ?_; clear hp; intro b w1 hp; simp only [z0g, z0h, Nat.reduceAdd] at hp)); simp only [zc, zb, z0b, z0a]))
 go_loopg [7, 8] 8 (fun k v i wr => ∃ (j : Nat) (R : List Blk), k + j = 8 ∧ i = .int .i64 (8 - 1 - (j : Int)) ∧ Hid (zJ 5 1 v (xs.length + j) ((xs ++ (beS 8 u).take j).flatMap byV) R) ∧ Hp w.heap.size w wr ([] ++ (R ++ [])))
 case atStart => exact ⟨0, R', by omega, rfl, z0j (by have := HR'.out; simpa using this), hp⟩
 case round =>
  clear hp HR HR'
  obtain ⟨j, R, hkj, rfl, HR, hp⟩ := hrel
  by_cases hlt : j < 8
  ·obtain ⟨m, hm⟩ : ∃ m : Nat, 8 - 1 - (j : Int) = m := ⟨8 - 1 - j, by omega⟩
   have hm7 : m ≤ 7 := by omega
   have HM := z0j hm
   rw [hm]
   have HB : Hid ((zia 8 u j : Nat) = u / 2 ^ (8 * m) % 256) := z0j (by unfold zia; rw [show 8 - 1 - j = m by omega])
   clear hm
   have e1 : (0 : Int) ≤ (m : Int) := by omega
   have e2 : wrap64 (8 * (m : Int)) = 8 * (m : Int) := by unfold wrap64; omega
   have e3 : (8 * (m : Int)).toNat = 8 * m := by omega
   go_wp2_with (first | ((refine Zb _ _ 57 rfl ?_); refine zM (K := []) hp _ _ _ rfl wy i0 _ 1 Tryz.underlying57 hi0 hz0 hz1 hz2 rfl (by decide) (za rfl) HR.out 1 1 (za rfl) (by rfl) (by decide) (by rfl) (by unfold maxLen; omega) (by omega) ?_; clear hp HR; intro v' R' w1 hR' hp; have HR' := z0j hR'; clear hR'; simp only [zc, zb, z0b, z0a]) | go_skip | ((first | ((refine zh _ _ rfl ?_); refine lB hp rfl (za rfl) rfl ?_; clear hp; intro b w1 hp) | ((refine zf _ _ rfl ?_); first | refine lO hp rfl (za rfl) za7 zu ?_ | refine lA hp rfl (za rfl) ZC zu ?_) | ((refine zd _ _ _ rfl ?_); (first | refine sO hp rfl (za rfl) za7 zu ?_ | refine sA hp rfl (za rfl) (za rfl) ZC zu ?_ | refine sG hp rfl (za rfl) (za rfl) ZC zu ?_); clear hp; intro w1 hp; simp only [spl, z0a, z0b] at hp) | ((refine zi _ _ _ rfl ?_); refine lS hp rfl (by intro w; go_simp; rfl) ?_; clear hp; intro b w1 hp; simp only [z0g, z0h, Nat.reduceAdd] at hp)); simp only [zc, zb, z0b, z0a]))
   go_roundg (gk - 1)
   case measure => omega
   case rel => exact ⟨j + 1, R', by omega, congrArg (Value.int .i64) (by have := HM.out; omega), z0j (by have h := HR'.out; rw [zhw 8 u j hlt, ← List.append_assoc, List.flatMap_append]; simp only [List.flatMap_cons, List.flatMap_nil, List.append_nil, byV]; rw [HB.out]; push_cast; exact h), hp⟩
  ·have hj : j = 8 := by omega
   subst hj
   have e1 : decide ((0 : Int) ≤ 8 - 1 - ((8 : Nat) : Int)) = false := by decide
   go_wp2_with (first | go_skip | ((first | ((refine zh _ _ rfl ?_); refine lB hp rfl (za rfl) rfl ?_; clear hp; intro b w1 hp) | ((refine zf _ _ rfl ?_); first | refine lO hp rfl (za rfl) za7 zu ?_ | refine lA hp rfl (za rfl) ZC zu ?_) | ((refine zd _ _ _ rfl ?_); (first | refine sO hp rfl (za rfl) za7 zu ?_ | refine sA hp rfl (za rfl) (za rfl) ZC zu ?_ | refine sG hp rfl (za rfl) (za rfl) ZC zu ?_); clear hp; intro w1 hp; simp only [spl, z0a, z0b] at hp) | ((refine zi _ _ _ rfl ?_); refine lS hp rfl (by intro w; go_simp; rfl) ?_; clear hp; intro b w1 hp; simp only [z0g, z0h, Nat.reduceAdd] at hp)); simp only [zc, zb, z0b, z0a]))
   go_ret
   refine ⟨_, R, rfl, ?_, by simpa using hp⟩
   have h := HR.out
   rw [List.take_of_length_le (by rw [zan]; omega)] at h
   rw [List.length_append, zan]
   exact h
theorem zmS (xs : List Nat) (hl : xs.length ≤ 1000000) (n : Nat) (hn : n ≤ 2147483647) (a : Option Addr) (c : Nat) (w : World) (ha : zr w a (xs.flatMap byV)) :
  Calls Tryz.prog 155 #[.slice a xs.length c, .int .i64 n] w fun e w' => ∃ v R, e = .returned (.tuple #[v, .int .i64 0]) ∧ zJ 5 1 v (xs ++ beS 4 n).length ((xs ++ beS 4 n).flatMap byV) R ∧ Hp w.heap.size w w' R := by
 have hp := Hp.start w
 have HA := z0j ha
 have hu : n < 18446744073709551616 := by omega
 have e1 : decide ((n : Int) < 0) = false := decide_eq_false (by omega)
 have e2 : decide ((2147483647 : Int) < (n : Int)) = false := by simp; omega
 have e3 : IntKind.u64.wrap (n : Int) = (n : Int) := by rw [zkt]; unfold uN; omega
 clear ha
 go_enter Tryz.func155, Tryz.ntmps155
 go_wp2_with (first | (go_at_call 154; (with_reducible refine (zgD xs hl _ hu a c _ (HA.out.below hp.below)).mono ?_); rintro e w1 ⟨v2, R2, rfl, hr2, hp2⟩; replace hp := hp.join hp2; have HR2 := z0j hr2; clear hr2 hp2; simp only [z0e] at hp) | go_skip | ((first | ((refine zh _ _ rfl ?_); refine lB hp rfl (za rfl) rfl ?_; clear hp; intro b w1 hp) | ((refine zf _ _ rfl ?_); first | refine lO hp rfl (za rfl) za7 zu ?_ | refine lA hp rfl (za rfl) ZC zu ?_) | ((refine zd _ _ _ rfl ?_); (first | refine sO hp rfl (za rfl) za7 zu ?_ | refine sA hp rfl (za rfl) (za rfl) ZC zu ?_ | refine sG hp rfl (za rfl) (za rfl) ZC zu ?_); clear hp; intro w1 hp; simp only [spl, z0a, z0b] at hp) | ((refine zi _ _ _ rfl ?_); refine lS hp rfl (by intro w; go_simp; rfl) ?_; clear hp; intro b w1 hp; simp only [z0g, z0h, Nat.reduceAdd] at hp)); simp only [zc, zb, z0b, z0a]))
 go_ret2
 exact ⟨v2, R2, rfl, HR2.out, hp⟩
theorem zlx (xs : List Nat) (hl : xs.length ≤ 1000000) (n : Int) (a : Option Addr) (c : Nat) (w : World) (ha : zr w a (xs.flatMap byV)) :
  Calls Tryz.prog 156 #[.slice a xs.length c, .int .i64 n] w (zn6 w (xs ++ beS 8 (uN n))) := by
 have hp := Hp.start w
 have HA := z0j ha
 have e1 := zkt n
 clear ha
 go_enter Tryz.func156, Tryz.ntmps156
 go_wp2_with (first | (go_at_call 154; (with_reducible refine (zj3 xs hl _ (znW n) a c _ (HA.out.below hp.below)).mono ?_); rintro e w1 ⟨v2, R2, rfl, hr2, hp2⟩; replace hp := hp.join hp2; have HR2 := z0j hr2; clear hr2 hp2; simp only [z0e] at hp) | go_skip | ((first | ((refine zh _ _ rfl ?_); refine lB hp rfl (za rfl) rfl ?_; clear hp; intro b w1 hp) | ((refine zf _ _ rfl ?_); first | refine lO hp rfl (za rfl) za7 zu ?_ | refine lA hp rfl (za rfl) ZC zu ?_) | ((refine zd _ _ _ rfl ?_); (first | refine sO hp rfl (za rfl) za7 zu ?_ | refine sA hp rfl (za rfl) (za rfl) ZC zu ?_ | refine sG hp rfl (za rfl) (za rfl) ZC zu ?_); clear hp; intro w1 hp; simp only [spl, z0a, z0b] at hp) | ((refine zi _ _ _ rfl ?_); refine lS hp rfl (by intro w; go_simp; rfl) ?_; clear hp; intro b w1 hp; simp only [z0g, z0h, Nat.reduceAdd] at hp)); simp only [zc, zb, z0b, z0a]))
 go_ret
 exact ⟨v2, R2, rfl, HR2.out, hp⟩
def zbG (s : ByteArray) : List Nat := s.data.toList.map UInt8.toNat
theorem ZP (s : ByteArray) : (zbG s).length = s.size := by unfold zbG; rw [List.length_map, Array.length_toList]; rfl
theorem ziN (s : ByteArray) : byteCells s = (zbG s).flatMap byV := by rw [zid]; unfold byteCells zbG; rw [List.map_map]; rfl
theorem ziM (s : ByteArray) : za4 (zbG s) := by
 intro x hx
 obtain ⟨u, _, rfl⟩ := List.mem_map.1 hx
 exact u.toNat_lt
theorem zcJ {t : List Nat} (h : za4 t) : zbG (strOfNums (nI t)) = t := by
 unfold zbG strOfNums nI
 simp only [List.map_map, Function.comp_def]
 conv => rhs; rw [← List.map_id t]
 apply List.map_congr_left
 intro x hx
 have := h x hx
 simp [UInt8.toNat_ofNat]; omega
theorem znM (xs : List Nat) (hl : xs.length ≤ 1000000) (s : ByteArray) (hs : s.size ≤ 65536) (a : Option Addr) (c : Nat) (w : World) (ha : zr w a (xs.flatMap byV)) :
  Calls Tryz.prog 78 #[.slice a xs.length c, .string s] w fun e w' => ∃ v R, e = .returned (.tuple #[v, .int .i64 0]) ∧ zD 5 1 v (xs ++ beS 4 s.size ++ zbG s).length ((xs ++ beS 4 s.size ++ zbG s).flatMap byV) R ∧ Hp w.heap.size w w' R := by
 obtain ⟨i0, hi0, hz0, hz1, hz2⟩ := info_parts zmz
 have hp := Hp.start w
 have HA := z0j ha
 have hu : s.size < 18446744073709551616 := by omega
 have e1 : decide ((65536 : Int) < (s.size : Int)) = false := by simp; omega
 have e3 : IntKind.u64.wrap (s.size : Int) = (s.size : Int) := by rw [zkt]; unfold uN; omega
 have HM1 : Hid ((xs ++ beS 4 s.size).length + s.size ≤ maxLen) := z0j (by rw [List.length_append, zan]; unfold maxLen; omega)
 have HM2 : Hid (((xs ++ beS 4 s.size).length + s.size) * 1 ≤ 140737488355328) := z0j (by rw [List.length_append, zan]; omega)
 have HX : Hid ((xs ++ beS 4 s.size ++ zbG s).length = (xs ++ beS 4 s.size).length + s.size ∧ (xs ++ beS 4 s.size ++ zbG s).flatMap byV = (xs ++ beS 4 s.size).flatMap byV ++ byteCells s) := z0j ⟨by rw [List.length_append, ZP], by rw [List.flatMap_append, ziN]⟩
 clear ha
 go_enter Tryz.func78, Tryz.ntmps78
 go_wp2_with (first | (go_at_call 154; (with_reducible refine (zgD xs hl _ hu a c _ (HA.out.below hp.below)).mono ?_); rintro e w1 ⟨v2, R2, rfl, hr2, hp2⟩; replace hp := hp.join hp2; have HR2 := z0j hr2; clear hr2 hp2; replace hp : Hp _ _ _ ([] ++ (R2 ++ [])) := (by simpa using hp)) | ((refine Z5 _ _ 57 9 rfl ?_); refine Zp (K := []) hp _ _ _ _ rfl wy 5 i0 _ 1 1 Tryz.underlying57 hi0 hz0 hz1 hz2 rfl _ _ _ (za rfl) (zD.of_own HR2.out) _ (za rfl) s.size (byteCells s) (Src.ofString _ Tryz.underlying9 s) HM1.out HM2.out ?_; clear hp; intro v3 R3 w1 hr3 hp; have HR3 := z0j hr3; clear hr3; simp only [zc, zb, z0b, z0a]) | go_skip | ((first | ((refine zh _ _ rfl ?_); refine lB hp rfl (za rfl) rfl ?_; clear hp; intro b w1 hp) | ((refine zf _ _ rfl ?_); first | refine lO hp rfl (za rfl) za7 zu ?_ | refine lA hp rfl (za rfl) ZC zu ?_) | ((refine zd _ _ _ rfl ?_); (first | refine sO hp rfl (za rfl) za7 zu ?_ | refine sA hp rfl (za rfl) (za rfl) ZC zu ?_ | refine sG hp rfl (za rfl) (za rfl) ZC zu ?_); clear hp; intro w1 hp; simp only [spl, z0a, z0b] at hp) | ((refine zi _ _ _ rfl ?_); refine lS hp rfl (by intro w; go_simp; rfl) ?_; clear hp; intro b w1 hp; simp only [z0g, z0h, Nat.reduceAdd] at hp)); simp only [zc, zb, z0b, z0a]))
 go_ret2
 refine ⟨v3, R3, rfl, ?_, by simpa using hp⟩
 rw [HX.out.1, HX.out.2]; exact HR3.out
theorem zhD {α : Type} (f : α → List Nat) (c : Nat) (hf : ∀ x, (f x).length = c) (l : List α) : (l.flatMap f).length = l.length * c := by
 induction l with
 | nil => simp
 | cons x l ih => simp [ih, hf, Nat.add_mul, Nat.add_comm]
def zh7 (B : Nat) (w0 : World) (bo : Nat) (xs : List Nat) (L : List Blk) (w : World) : Prop := ∃ a c R, zD 5 1 (.slice a xs.length c) xs.length (xs.flatMap byV) R ∧ Hp B w0 w (⟨bo, [.slice a xs.length c], 116, 1⟩ :: (L ++ R))
theorem zD.keptS {e : TypeId} {c n : Nat} {a : Option Addr} {k : Nat} {xs : List Value} {R : List Blk} (h : zD e c (.slice a n k) n xs R) : zaG R fun w => zr w a xs := by
 obtain ⟨a', k', hv, _, hk⟩ := h.kept
 injection hv with h1 h2 h3
 subst h1
 exact hk
theorem zh7.of {B : Nat} {w0 w : World} {bo n : Nat} {xs : List Nat} {v : Value} {L R : List Blk} (hn : xs.length = n) (h : zD 5 1 v n (xs.flatMap byV) R) (hp : Hp B w0 w (⟨bo, [v], 116, 1⟩ :: (L ++ R))) : zh7 B w0 bo xs L w := by
 obtain ⟨a, k, rfl, hk, hkr⟩ := h.kept
 subst hn
 exact ⟨a, k, R, h, hp⟩
def bn4 (l : List Nat) : List Nat := l.flatMap fun n => beS 4 n
def bi8 (l : List Int) : List Nat := l.flatMap fun n => beS 8 (uN n)
theorem zaL (l : List Nat) : (bn4 l).length = l.length * 4 := zhD _ 4 (fun x => zan 4 x) l
theorem zew (l : List Int) : (bi8 l).length = l.length * 8 := zhD _ 8 (fun x => zan 8 (uN x)) l
theorem zkI {l : List Nat} {j : Nat} {x : Nat} (h : l[j]? = some x) : bn4 (l.take (j + 1)) = bn4 (l.take j) ++ beS 4 x := by
 unfold bn4
 rw [List.take_add_one, h]; simp [List.flatMap_append]
theorem zkH {l : List Int} {j : Nat} {x : Int} (h : l[j]? = some x) : bi8 (l.take (j + 1)) = bi8 (l.take j) ++ beS 8 (uN x) := by
 unfold bi8
 rw [List.take_add_one, h]; simp [List.flatMap_append]
def zgw (n : Nat) : List Value := [.int .i64 (n : Int)]
theorem zli (x : Nat) : (zgw x).length = 1 := rfl
theorem zl6 (l : List Int) (hl : l.length ≤ 1000) (xs : List Nat) (hx : xs.length ≤ 900000) {B : Nat} {w0 w : World} {L : List Blk} (bo : Nat) (al : Option Addr) (cl : Nat) (hs : zh7 B w0 bo xs L w) (hk : zfA B w0 L fun w => zr w al (l.flatMap iV)) :
  Calls Tryz.prog 80 #[.pointer (some ⟨bo, 0, none⟩), .slice al l.length cl] w fun e w' => e = .returned (.tuple #[]) ∧ zh7 B w0 bo (xs ++ bi8 l) L w' := by
 have HL := z0j hk
 obtain ⟨a0, c0, R0, hk0, hp⟩ := hs
 have HK0 := z0j hk0
 clear hk hk0
 go_enter Tryz.func80, Tryz.ntmps80
 go_wp2_with (first | go_skip | ((first | ((refine zh _ _ rfl ?_); refine lB hp rfl (za rfl) rfl ?_; clear hp; intro b w1 hp) | ((refine zf _ _ rfl ?_); first | refine lO hp rfl (za rfl) za7 zu ?_ | refine lA hp rfl (za rfl) ZC zu ?_) | ((refine zd _ _ _ rfl ?_); (first | refine sO hp rfl (za rfl) za7 zu ?_ | refine sA hp rfl (za rfl) (za rfl) ZC zu ?_ | refine sG hp rfl (za rfl) (za rfl) ZC zu ?_); clear hp; intro w1 hp; simp only [spl, z0a, z0b] at hp) | ((refine zi _ _ _ rfl ?_); refine lS hp rfl (by intro w; go_simp; rfl) ?_; clear hp; intro b w1 hp; simp only [z0g, z0h, Nat.reduceAdd] at hp)); simp only [zc, zb, z0b, z0a]))
 go_loopg [8] l.length (fun k i wr => ∃ (j : Nat) (zs : List Nat) (a1 : Option Addr) (c1 : Nat) (R : List Blk), k + j = l.length ∧ i = .int .i64 j ∧ Hid (zs = xs ++ bi8 (l.take j)) ∧ Hid (zD 5 1 (.slice a1 zs.length c1) zs.length (zs.flatMap byV) R) ∧ Hp B w0 wr (⟨bo, [.slice a1 zs.length c1], 116, 1⟩ :: (L ++ R)))
 case atStart => exact ⟨0, xs, a0, c0, R0, by omega, rfl, z0j (by rw [List.take_zero]; exact (List.append_nil xs).symm), HK0, hp⟩
 case round =>
  clear hp HK0
  obtain ⟨j, ys, a1, c1, R, hkj, rfl, HZ, HSR, hp⟩ := hrel
  have HK := z0j HSR.out.keptS
  by_cases hlt : j < l.length
  ·have hj := List.getElem?_eq_getElem hlt
   generalize l[j] = x at hj
   obtain ⟨bq, off, rfl, hE⟩ := HL.out.elem 1 zgq (by decide) hj hp (by intro p hp2; simp [hp2])
   have HE := z0j hE
   have HT := z0j (zkH hj)
   have HSM : Hid (ys.length ≤ 1000000) := z0j (by rw [HZ.out, List.length_append, zew, List.length_take]; omega)
   clear hE hj
   simp only [Nat.mul_one] at HE
   have e1 : (0 : Int) ≤ (j : Int) := by omega
   have e2 : (j : Int) < (l.length : Int) := by omega
   go_wp2_with (first | (go_at_call 156; (with_reducible refine (zlx ys HSM.out x  a1 c1 _ (HK.out.at hp (by intro p hp2; simp [hp2]))).mono ?_); rintro e w1 ⟨v2, R2, rfl, hr2, hp2⟩; obtain ⟨a3, c3, rfl, hc3, hk3⟩ := hr2.keptC; replace hp := hp.join hp2; have HR2 := z0j hr2; clear hr2 hp2 hk3 hc3; simp only [z0f, z0i] at hp) | ((refine zf 3 _ rfl ?_); refine zV (Hp.start _) _ _ rfl wy _ _ (za rfl) zq _ (HE.out.at hp (by intro p hp2; simp [hp2]) 0 _ rfl) ?_; simp only [zc, zb, z0b, z0a]) | go_skip | ((first | ((refine zh _ _ rfl ?_); refine lB hp rfl (za rfl) rfl ?_; clear hp; intro b w1 hp) | ((refine zf _ _ rfl ?_); first | refine lO hp rfl (za rfl) za7 zu ?_ | refine lA hp rfl (za rfl) ZC zu ?_) | ((refine zd _ _ _ rfl ?_); (first | refine sO hp rfl (za rfl) za7 zu ?_ | refine sA hp rfl (za rfl) (za rfl) ZC zu ?_ | refine sG hp rfl (za rfl) (za rfl) ZC zu ?_); clear hp; intro w1 hp; simp only [spl, z0a, z0b] at hp) | ((refine zi _ _ _ rfl ?_); refine lS hp rfl (by intro w; go_simp; rfl) ?_; clear hp; intro b w1 hp; simp only [z0g, z0h, Nat.reduceAdd] at hp)); simp only [zc, zb, z0b, z0a]))
   go_roundg (gk - 1)
   case measure => omega
   case rel =>
    exact ⟨j + 1, ys ++ beS 8 (uN x), a3, c3, R2, by omega, by go_num, z0j (by rw [HT.out, HZ.out, List.append_assoc]), z0j (zD.of_own HR2.out), by rw [List.length_append]; exact hp.kp⟩
  ·have e2 : decide ((j : Int) < (l.length : Int)) = false := by simp; omega
   have hj : j = l.length := by omega
   have HJ := z0j hj
   clear hj
   go_wp2_with fail
   refine bodyPost_end (results_none Tryz.results80 _ _ _) rfl ⟨rfl, ?_⟩
   have h := HZ.out
   rw [HJ.out, List.take_length] at h
   subst h
   exact ⟨a1, c1, R, HSR.out, hp⟩
theorem zhT (l : List Nat) (hl : l.length ≤ 1000) (hb : ∀ x ∈ l, x ≤ 2147483647) (xs : List Nat) (hx : xs.length ≤ 900000) {B : Nat} {w0 w : World} {L : List Blk} (bo : Nat) (al : Option Addr) (cl : Nat) (hs : zh7 B w0 bo xs L w) (hk : zfA B w0 L fun w => zr w al (l.flatMap zgw)) :
  Calls Tryz.prog 79 #[.pointer (some ⟨bo, 0, none⟩), .slice al l.length cl] w fun e w' => e = .returned (.tuple #[]) ∧ zh7 B w0 bo (xs ++ bn4 l) L w' := by
 have HL := z0j hk
 obtain ⟨a0, c0, R0, hk0, hp⟩ := hs
 have HK0 := z0j hk0
 clear hk hk0
 go_enter Tryz.func79, Tryz.ntmps79
 go_wp2_with (first | go_skip | ((first | ((refine zh _ _ rfl ?_); refine lB hp rfl (za rfl) rfl ?_; clear hp; intro b w1 hp) | ((refine zf _ _ rfl ?_); first | refine lO hp rfl (za rfl) za7 zu ?_ | refine lA hp rfl (za rfl) ZC zu ?_) | ((refine zd _ _ _ rfl ?_); (first | refine sO hp rfl (za rfl) za7 zu ?_ | refine sA hp rfl (za rfl) (za rfl) ZC zu ?_ | refine sG hp rfl (za rfl) (za rfl) ZC zu ?_); clear hp; intro w1 hp; simp only [spl, z0a, z0b] at hp) | ((refine zi _ _ _ rfl ?_); refine lS hp rfl (by intro w; go_simp; rfl) ?_; clear hp; intro b w1 hp; simp only [z0g, z0h, Nat.reduceAdd] at hp)); simp only [zc, zb, z0b, z0a]))
 go_loopg [8] l.length (fun k i wr => ∃ (j : Nat) (zs : List Nat) (a1 : Option Addr) (c1 : Nat) (R : List Blk), k + j = l.length ∧ i = .int .i64 j ∧ Hid (zs = xs ++ bn4 (l.take j)) ∧ Hid (zD 5 1 (.slice a1 zs.length c1) zs.length (zs.flatMap byV) R) ∧ Hp B w0 wr (⟨bo, [.slice a1 zs.length c1], 116, 1⟩ :: (L ++ R)))
 case atStart => exact ⟨0, xs, a0, c0, R0, by omega, rfl, z0j (by rw [List.take_zero]; exact (List.append_nil xs).symm), HK0, hp⟩
 case round =>
  clear hp HK0
  obtain ⟨j, ys, a1, c1, R, hkj, rfl, HZ, HSR, hp⟩ := hrel
  have HK := z0j HSR.out.keptS
  by_cases hlt : j < l.length
  ·have hj := List.getElem?_eq_getElem hlt
   have hbx := hb _ (List.getElem_mem hlt)
   generalize l[j] = x at hj hbx
   obtain ⟨bq, off, rfl, hE⟩ := HL.out.elem 1 zli (by decide) hj hp (by intro p hp2; simp [hp2])
   have HE := z0j hE
   have HT := z0j (zkI hj)
   have HSM : Hid (ys.length ≤ 1000000) := z0j (by rw [HZ.out, List.length_append, zaL, List.length_take]; omega)
   clear hE hj
   simp only [Nat.mul_one] at HE
   have e1 : (0 : Int) ≤ (j : Int) := by omega
   have e2 : (j : Int) < (l.length : Int) := by omega
   go_wp2_with (first | (go_at_call 155; (with_reducible refine (zmS ys HSM.out x hbx a1 c1 _ (HK.out.at hp (by intro p hp2; simp [hp2]))).mono ?_); rintro e w1 ⟨v2, R2, rfl, hr2, hp2⟩; obtain ⟨a3, c3, rfl, hc3, hk3⟩ := hr2.keptC; replace hp := hp.join hp2; have HR2 := z0j hr2; clear hr2 hp2 hk3 hc3; simp only [z0f, z0i] at hp) | ((refine zf 3 _ rfl ?_); refine zV (Hp.start _) _ _ rfl wy _ _ (za rfl) zq _ (HE.out.at hp (by intro p hp2; simp [hp2]) 0 _ rfl) ?_; simp only [zc, zb, z0b, z0a]) | go_skip | ((first | ((refine zh _ _ rfl ?_); refine lB hp rfl (za rfl) rfl ?_; clear hp; intro b w1 hp) | ((refine zf _ _ rfl ?_); first | refine lO hp rfl (za rfl) za7 zu ?_ | refine lA hp rfl (za rfl) ZC zu ?_) | ((refine zd _ _ _ rfl ?_); (first | refine sO hp rfl (za rfl) za7 zu ?_ | refine sA hp rfl (za rfl) (za rfl) ZC zu ?_ | refine sG hp rfl (za rfl) (za rfl) ZC zu ?_); clear hp; intro w1 hp; simp only [spl, z0a, z0b] at hp) | ((refine zi _ _ _ rfl ?_); refine lS hp rfl (by intro w; go_simp; rfl) ?_; clear hp; intro b w1 hp; simp only [z0g, z0h, Nat.reduceAdd] at hp)); simp only [zc, zb, z0b, z0a]))
   go_roundg (gk - 1)
   case measure => omega
   case rel =>
    exact ⟨j + 1, ys ++ beS 4 x, a3, c3, R2, by omega, by go_num, z0j (by rw [HT.out, HZ.out, List.append_assoc]), z0j (zD.of_own HR2.out), by rw [List.length_append]; exact hp.kp⟩
  ·have e2 : decide ((j : Int) < (l.length : Int)) = false := by simp; omega
   have hj : j = l.length := by omega
   have HJ := z0j hj
   clear hj
   go_wp2_with fail
   refine bodyPost_end (results_none Tryz.results79 _ _ _) rfl ⟨rfl, ?_⟩
   have h := HZ.out
   rw [HJ.out, List.take_length] at h
   subst h
   exact ⟨a1, c1, R, HSR.out, hp⟩
end Go.Proofs.YtaafajaadfgaoaaGreat
