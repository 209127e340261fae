import Derived.Test.YtaafajaadfgaoaaGreatTb6
import Derived.Test.YtaafajaadfgaoaaGreatTb24
import Derived.Test.YtaafajaadfgaoaaGreatTb0
set_option linter.unusedSimpArgs false
set_option linter.unusedVariables false
set_option maxRecDepth 100000
set_option maxHeartbeats 60000000
namespace Go.Proofs.YtaafajaadfgaoaaGreat
open Go.RowKit
theorem ZJ {ty : TypeId} (h : zN Tryz.prog ty = true := by with_reducible first | exact zw | exact Zd | exact Zc) : zN Tryz.prog ty = true := h
theorem zei {l : List Bl} {v x : Bl} {j : Nat} (h : l[j]? = some x) (hn : x ≠ v) : Zo (l.take (j + 1)) v = Zo (l.take j) v ++ [x] := by rw [List.take_add_one, h]; simp [Zo, hn]
theorem zhC {l : List Bl} {v x : Bl} {j : Nat} (h : l[j]? = some x) (hn : x = v) : Zo (l.take (j + 1)) v = Zo (l.take j) v := by rw [List.take_add_one, h]; simp [Zo, hn]
theorem zf5 (l : List Bl) (a : Option Addr) (c : Nat) (hl : l.length ≤ 1000) (q r : Int) (w : World) (ha : zD w a (l.flatMap blV)) : Calls Tryz.prog 258 #[.slice a l.length c, .agg #[.int .i64 q, .int .i64 r]] w (zdg w (Zo l ⟨q, r⟩).length ((Zo l ⟨q, r⟩).flatMap blV)) := by
 obtain ⟨i0, hi0, hz0, hz1, hz2⟩ := info_parts za6
 have hp := Hp.start w
 have HA := z0j ha
 clear ha
 go_enter Tryz.func258, Tryz.ntmps258
 go_wp2_with (first | go_skip | ((first | ((refine zh _ rfl ?_); refine lZ hp rfl zu ?_; clear hp; intro b w1 hp) | ((refine zi _ _ rfl ?_); refine lB hp rfl (zb rfl) rfl ?_; clear hp; intro b w1 hp) | ((refine zg _ _ rfl ?_); first | refine lO hp rfl (zb rfl) ZJ aa5 ?_ | refine lA hp rfl (zb rfl) zl aa5 ?_) | ((refine zf _ _ _ rfl ?_); (first | refine sO hp rfl (zb rfl) ZJ aa5 ?_ | refine sA hp rfl (zb rfl) (zb rfl) zl aa5 ?_ | refine sG hp rfl (zb rfl) (zb rfl) zl aa5 ?_); clear hp; intro w1 hp; simp only [spl, z0a, z0b] at hp) | ((refine zm _ _ _ rfl ?_); refine lS hp rfl (by intro w; go_simp; rfl) ?_; clear hp; intro b w1 hp; simp only [z0g, z0h, Nat.reduceAdd] at hp)); simp only [ze, zd, z0b, z0a]))
 obtain ⟨b1, rfl⟩ := hp.id0
 go_loopg [5, 6] l.length (fun k v i wr => ∃ (j : Nat) (RA : List Blk), k + j = l.length ∧ i = .int .i64 j ∧ Hid (zH 124 2 v (Zo (l.take j) ⟨q, r⟩).length ((Zo (l.take j) ⟨q, r⟩).flatMap blV) RA) ∧ Hp w.heap.size w wr (⟨b1, [.int .i64 q, .int .i64 r], 124, 2⟩ :: RA))
 case atStart => exact ⟨0, [], by omega, rfl, z0j (zH.nil _ _), hp⟩
 case round =>
  clear hp
  obtain ⟨j, RA, hkj, rfl, HRA, hp⟩ := hrel
  by_cases hlt : j < l.length
  ·obtain ⟨bq, off, rfl, hx⟩ := HA.out.elems 2 Zk (by omega) (by omega)
   have hj := List.getElem?_eq_getElem hlt
   replace hx := hx j _ hj
   generalize l[j] = x at hx hj
   obtain ⟨p, o⟩ := x
   simp only [blV] at hx
   have HX := z0j hx
   have HJ := z0j hj
   have hwl : (Zo (l.take j) ⟨q, r⟩).length ≤ l.length := by have h1 := (zaJ (l.take j) ⟨q, r⟩).length_le; rw [List.length_take] at h1; omega
   have sm1 : (Zo (l.take j) ⟨q, r⟩).length + 1 ≤ maxLen := by unfold maxLen; omega
   have sm2 : ((Zo (l.take j) ⟨q, r⟩).length + 1) * 16 ≤ 140737488355328 := by omega
   clear hx hj hwl
   have e1 : (0 : Int) ≤ (j : Int) := by omega
   have e2 : (j : Int) < (l.length : Int) := by omega
   by_cases hpq : p = q
   ·subst hpq
    by_cases hor : o = r
    ·subst hor
     go_wp2_with (first | go_skip | ((first | ((refine zh _ rfl ?_); refine lZ hp rfl zu ?_; clear hp; intro b w1 hp) | ((refine zi _ _ rfl ?_); refine lB hp rfl (zb rfl) rfl ?_; clear hp; intro b w1 hp) | ((refine zg _ _ rfl ?_); first | refine lO hp rfl (zb rfl) ZJ aa5 ?_ | first | refine lRO hp rfl (zb rfl) ZJ (HX.out 0 _ rfl) ?_ | refine lA hp rfl (zb rfl) zl aa5 ?_ | refine lR hp rfl (zb rfl) zl HX.out ?_) | ((refine zf _ _ _ rfl ?_); (first | refine sO hp rfl (zb rfl) ZJ aa5 ?_ | refine sA hp rfl (zb rfl) (zb rfl) zl aa5 ?_ | refine sG hp rfl (zb rfl) (zb rfl) zl aa5 ?_); clear hp; intro w1 hp; simp only [spl, z0a, z0b] at hp) | ((refine zm _ _ _ rfl ?_); refine lS hp rfl (by intro w; go_simp; rfl) ?_; clear hp; intro b w1 hp; simp only [z0g, z0h, Nat.reduceAdd] at hp)); simp only [ze, zd, z0b, z0a]))
     refine zk [_] (zA.one hp.drew at0) [] [(0, true), (1, true), (2, true), (3, true), (4, true), (5, true)] (by kernel_rfl) (by kernel_rfl) rfl (by kernel_rfl) (fun _ _ d _ _ h => by cases d <;> exact h) ?_
     replace hp := hp.drew
     repeat' (with_reducible refine zB ?_); first | (with_reducible refine zt ?_) | ((with_reducible refine zI ?_); refine zy rfl ?_; (first | ((with_reducible refine zV _ rfl ?_); refine tM rfl ?_) | ((with_reducible refine zS _ _ rfl ?_); first | refine tA rfl (zb rfl) zl aa5 ?_ | refine tR rfl (zb rfl) zl HX.out ?_) | refine tG (fun w _ => (by go_simp; try rfl)) ?_); try simp only [ze, zd, zn, zj, z0b, z0a, z0d, z0c, zr])
     go_wp2_with fail
     go_roundg (gk - 1)
     case measure => omega
     case rel => exact ⟨j + 1, RA, by omega, by go_num, z0j (by rw [zhC HJ.out rfl]; exact HRA.out), hp⟩
    ·have HW := z0j (zei (v := ⟨p, r⟩) HJ.out (by intro h; injection h with h1 h2; exact hor h2))
     have e3 : (o == r) = false := by simpa using hor
     have e3' : (o != r) = true := by simpa using hor
     clear hor
     go_wp2_with (first | go_skip | ((first | ((refine zh _ rfl ?_); refine lZ hp rfl zu ?_; clear hp; intro b w1 hp) | ((refine zi _ _ rfl ?_); refine lB hp rfl (zb rfl) rfl ?_; clear hp; intro b w1 hp) | ((refine zg _ _ rfl ?_); first | refine lO hp rfl (zb rfl) ZJ aa5 ?_ | first | refine lRO hp rfl (zb rfl) ZJ (HX.out 0 _ rfl) ?_ | refine lA hp rfl (zb rfl) zl aa5 ?_ | refine lR hp rfl (zb rfl) zl HX.out ?_) | ((refine zf _ _ _ rfl ?_); (first | refine sO hp rfl (zb rfl) ZJ aa5 ?_ | refine sA hp rfl (zb rfl) (zb rfl) zl aa5 ?_ | refine sG hp rfl (zb rfl) (zb rfl) zl aa5 ?_); clear hp; intro w1 hp; simp only [spl, z0a, z0b] at hp) | ((refine zm _ _ _ rfl ?_); refine lS hp rfl (by intro w; go_simp; rfl) ?_; clear hp; intro b w1 hp; simp only [z0g, z0h, Nat.reduceAdd] at hp)); simp only [ze, zd, z0b, z0a]))
     refine zk [_] (zA.one hp.drew at0) [] [(0, true), (1, true), (2, true), (3, true), (4, true), (5, true)] (by kernel_rfl) (by kernel_rfl) rfl (by kernel_rfl) (fun _ _ d _ _ h => by cases d <;> exact h) ?_
     replace hp := hp.drew
     repeat' (with_reducible refine zB ?_); first | (with_reducible refine zt ?_) | ((with_reducible refine zI ?_); refine zy rfl ?_; (first | ((with_reducible refine zV _ rfl ?_); refine tM rfl ?_) | ((with_reducible refine zS _ _ rfl ?_); first | refine tA rfl (zb rfl) zl aa5 ?_ | refine tR rfl (zb rfl) zl HX.out ?_) | refine tG (fun w _ => (by go_simp; try rfl)) ?_); try simp only [ze, zd, zn, zj, z0b, z0a, z0d, z0c, zr])
     go_wp2_with (first | ((refine zM _ _ 45 rfl ?_); refine zG (K := [_]) (R := RA) (M := []) (hp.reorder (by rw [List.append_nil]; exact List.Perm.refl _)) _ _ _ rfl wy i0 _ 16 Tryz.underlying45 hi0 hz0 hz1 hz2 rfl (by decide) (zb rfl) HRA.out 1 1 (zb rfl) (by rfl) (by decide) (by rfl) (by first | exact sm1 | exact sm3) (by first | exact sm2 | exact sm4) ?_; clear hp HRA; intro va' RA w1 hra hp; have HRA := z0j hra; clear hra; rw [List.append_nil] at hp; simp only [z0f, z0e] at hp; simp only [ze, zd, z0b, z0a]) | go_skip | ((first | ((refine zh _ rfl ?_); refine lZ hp rfl zu ?_; clear hp; intro b w1 hp) | ((refine zi _ _ rfl ?_); refine lB hp rfl (zb rfl) rfl ?_; clear hp; intro b w1 hp) | ((refine zg _ _ rfl ?_); first | refine lO hp rfl (zb rfl) ZJ aa5 ?_ | first | refine lRO hp rfl (zb rfl) ZJ (HX.out 0 _ rfl) ?_ | refine lA hp rfl (zb rfl) zl aa5 ?_ | refine lR hp rfl (zb rfl) zl HX.out ?_) | ((refine zf _ _ _ rfl ?_); (first | refine sO hp rfl (zb rfl) ZJ aa5 ?_ | refine sA hp rfl (zb rfl) (zb rfl) zl aa5 ?_ | refine sG hp rfl (zb rfl) (zb rfl) zl aa5 ?_); clear hp; intro w1 hp; simp only [spl, z0a, z0b] at hp) | ((refine zm _ _ _ rfl ?_); refine lS hp rfl (by intro w; go_simp; rfl) ?_; clear hp; intro b w1 hp; simp only [z0g, z0h, Nat.reduceAdd] at hp)); simp only [ze, zd, z0b, z0a]))
     go_roundg (gk - 1)
     case measure => omega
     case rel => exact ⟨j + 1, RA, by omega, by go_num, z0j (by rw [HW.out, List.length_append, List.flatMap_append]; exact HRA.out), hp⟩
   ·have HW := z0j (zei (v := ⟨q, r⟩) HJ.out (by intro h; injection h with h1 h2; exact hpq h1))
    have e3 : (p == q) = false := by simpa using hpq
    have e3' : (p != q) = true := by simpa using hpq
    clear hpq
    go_wp2_with (first | go_skip | ((first | ((refine zh _ rfl ?_); refine lZ hp rfl zu ?_; clear hp; intro b w1 hp) | ((refine zi _ _ rfl ?_); refine lB hp rfl (zb rfl) rfl ?_; clear hp; intro b w1 hp) | ((refine zg _ _ rfl ?_); first | refine lO hp rfl (zb rfl) ZJ aa5 ?_ | first | refine lRO hp rfl (zb rfl) ZJ (HX.out 0 _ rfl) ?_ | refine lA hp rfl (zb rfl) zl aa5 ?_ | refine lR hp rfl (zb rfl) zl HX.out ?_) | ((refine zf _ _ _ rfl ?_); (first | refine sO hp rfl (zb rfl) ZJ aa5 ?_ | refine sA hp rfl (zb rfl) (zb rfl) zl aa5 ?_ | refine sG hp rfl (zb rfl) (zb rfl) zl aa5 ?_); clear hp; intro w1 hp; simp only [spl, z0a, z0b] at hp) | ((refine zm _ _ _ rfl ?_); refine lS hp rfl (by intro w; go_simp; rfl) ?_; clear hp; intro b w1 hp; simp only [z0g, z0h, Nat.reduceAdd] at hp)); simp only [ze, zd, z0b, z0a]))
    refine zk [_] (zA.one hp.drew at0) [] [(0, true), (1, true), (2, true), (3, true), (4, true), (5, true)] (by kernel_rfl) (by kernel_rfl) rfl (by kernel_rfl) (fun _ _ d _ _ h => by cases d <;> exact h) ?_
    replace hp := hp.drew
    repeat' (with_reducible refine zB ?_); first | (with_reducible refine zt ?_) | ((with_reducible refine zI ?_); refine zy rfl ?_; (first | ((with_reducible refine zV _ rfl ?_); refine tM rfl ?_) | ((with_reducible refine zS _ _ rfl ?_); first | refine tA rfl (zb rfl) zl aa5 ?_ | refine tR rfl (zb rfl) zl HX.out ?_) | refine tG (fun w _ => (by go_simp; try rfl)) ?_); try simp only [ze, zd, zn, zj, z0b, z0a, z0d, z0c, zr])
    go_wp2_with (first | ((refine zM _ _ 45 rfl ?_); refine zG (K := [_]) (R := RA) (M := []) (hp.reorder (by rw [List.append_nil]; exact List.Perm.refl _)) _ _ _ rfl wy i0 _ 16 Tryz.underlying45 hi0 hz0 hz1 hz2 rfl (by decide) (zb rfl) HRA.out 1 1 (zb rfl) (by rfl) (by decide) (by rfl) (by first | exact sm1 | exact sm3) (by first | exact sm2 | exact sm4) ?_; clear hp HRA; intro va' RA w1 hra hp; have HRA := z0j hra; clear hra; rw [List.append_nil] at hp; simp only [z0f, z0e] at hp; simp only [ze, zd, z0b, z0a]) | go_skip | ((first | ((refine zh _ rfl ?_); refine lZ hp rfl zu ?_; clear hp; intro b w1 hp) | ((refine zi _ _ rfl ?_); refine lB hp rfl (zb rfl) rfl ?_; clear hp; intro b w1 hp) | ((refine zg _ _ rfl ?_); first | refine lO hp rfl (zb rfl) ZJ aa5 ?_ | first | refine lRO hp rfl (zb rfl) ZJ (HX.out 0 _ rfl) ?_ | refine lA hp rfl (zb rfl) zl aa5 ?_ | refine lR hp rfl (zb rfl) zl HX.out ?_) | ((refine zf _ _ _ rfl ?_); (first | refine sO hp rfl (zb rfl) ZJ aa5 ?_ | refine sA hp rfl (zb rfl) (zb rfl) zl aa5 ?_ | refine sG hp rfl (zb rfl) (zb rfl) zl aa5 ?_); clear hp; intro w1 hp; simp only [spl, z0a, z0b] at hp) | ((refine zm _ _ _ rfl ?_); refine lS hp rfl (by intro w; go_simp; rfl) ?_; clear hp; intro b w1 hp; simp only [z0g, z0h, Nat.reduceAdd] at hp)); simp only [ze, zd, z0b, z0a]))
    go_roundg (gk - 1)
    case measure => omega
    case rel => exact ⟨j + 1, RA, by omega, by go_num, z0j (by rw [HW.out, List.length_append, List.flatMap_append]; exact HRA.out), hp⟩
  ·have e2 : decide ((j : Int) < (l.length : Int)) = false := by simp; omega
   rw [List.take_of_length_le (by omega)] at HRA
   go_wp2_with fail
   go_ret
   exact ⟨_, RA, rfl, HRA.out, hp.tail⟩
theorem zox (l : List Bl) (a : Option Addr) (c : Nat) (hl : l.length ≤ 1000) (q r : Int) (w : World) (ha : zD w a (l.flatMap blV)) : Calls Tryz.prog 264 #[.slice a l.length c, .agg #[.int .i64 q, .int .i64 r]] w fun e w' => e = .returned (.bool (decide ((⟨q, r⟩ : Bl) ∈ l))) ∧ Below w.heap.size w w' := by
 have hp := Hp.start w
 have HA := z0j ha
 clear ha
 go_enter Tryz.func264, Tryz.ntmps264
 go_wp2_with (first | go_skip | ((first | ((refine zh _ rfl ?_); refine lZ hp rfl zu ?_; clear hp; intro b w1 hp) | ((refine zi _ _ rfl ?_); refine lB hp rfl (zb rfl) rfl ?_; clear hp; intro b w1 hp) | ((refine zg _ _ rfl ?_); first | refine lO hp rfl (zb rfl) ZJ aa5 ?_ | refine lA hp rfl (zb rfl) zl aa5 ?_) | ((refine zf _ _ _ rfl ?_); (first | refine sO hp rfl (zb rfl) ZJ aa5 ?_ | refine sA hp rfl (zb rfl) (zb rfl) zl aa5 ?_ | refine sG hp rfl (zb rfl) (zb rfl) zl aa5 ?_); clear hp; intro w1 hp; simp only [spl, z0a, z0b] at hp) | ((refine zm _ _ _ rfl ?_); refine lS hp rfl (by intro w; go_simp; rfl) ?_; clear hp; intro b w1 hp; simp only [z0g, z0h, Nat.reduceAdd] at hp)); simp only [ze, zd, z0b, z0a]))
 obtain ⟨b1, rfl⟩ := hp.id0
 go_loopg [5] l.length (fun k i wr => ∃ (j : Nat), k + j = l.length ∧ i = .int .i64 j ∧ Hid ((⟨q, r⟩ : Bl) ∉ l.take j) ∧ Hp w.heap.size w wr [⟨b1, [.int .i64 q, .int .i64 r], 124, 2⟩])
 case atStart => exact ⟨0, by omega, rfl, z0j (by simp), hp⟩
 case round =>
  clear hp
  obtain ⟨j, hkj, rfl, HG, hp⟩ := hrel
  by_cases hlt : j < l.length
  ·obtain ⟨bq, off, rfl, hx⟩ := HA.out.elems 2 Zk (by omega) (by omega)
   have hj := List.getElem?_eq_getElem hlt
   replace hx := hx j _ hj
   generalize l[j] = x at hx hj
   obtain ⟨p, o⟩ := x
   simp only [blV] at hx
   have HX := z0j hx
   have HJ := z0j hj
   clear hx hj
   have e1 : (0 : Int) ≤ (j : Int) := by omega
   have e2 : (j : Int) < (l.length : Int) := by omega
   by_cases hpq : p = q
   ·subst hpq
    by_cases hor : o = r
    ·subst hor
     go_wp2_with (first | go_skip | ((first | ((refine zh _ rfl ?_); refine lZ hp rfl zu ?_; clear hp; intro b w1 hp) | ((refine zi _ _ rfl ?_); refine lB hp rfl (zb rfl) rfl ?_; clear hp; intro b w1 hp) | ((refine zg _ _ rfl ?_); first | refine lO hp rfl (zb rfl) ZJ aa5 ?_ | first | refine lRO hp rfl (zb rfl) ZJ (HX.out 0 _ rfl) ?_ | refine lA hp rfl (zb rfl) zl aa5 ?_ | refine lR hp rfl (zb rfl) zl HX.out ?_) | ((refine zf _ _ _ rfl ?_); (first | refine sO hp rfl (zb rfl) ZJ aa5 ?_ | refine sA hp rfl (zb rfl) (zb rfl) zl aa5 ?_ | refine sG hp rfl (zb rfl) (zb rfl) zl aa5 ?_); clear hp; intro w1 hp; simp only [spl, z0a, z0b] at hp) | ((refine zm _ _ _ rfl ?_); refine lS hp rfl (by intro w; go_simp; rfl) ?_; clear hp; intro b w1 hp; simp only [z0g, z0h, Nat.reduceAdd] at hp)); simp only [ze, zd, z0b, z0a]))
     refine zk [_] (zA.one hp.drew at0) [] [(0, true), (1, true), (2, true), (3, true), (4, true), (5, true)] (by kernel_rfl) (by kernel_rfl) rfl (by kernel_rfl) (fun _ _ d _ _ h => by cases d <;> exact h) ?_
     replace hp := hp.drew
     repeat' (with_reducible refine zB ?_); first | (with_reducible refine zt ?_) | ((with_reducible refine zI ?_); refine zy rfl ?_; (first | ((with_reducible refine zV _ rfl ?_); refine tM rfl ?_) | ((with_reducible refine zS _ _ rfl ?_); first | refine tA rfl (zb rfl) zl aa5 ?_ | refine tR rfl (zb rfl) zl HX.out ?_) | refine tG (fun w _ => (by go_simp; try rfl)) ?_); try simp only [ze, zd, zn, zj, z0b, z0a, z0d, z0c, zr])
     go_wp2_with fail
     go_ret
     exact ⟨Ze (by simp [List.mem_of_getElem? HJ.out]), hp.below⟩
    ·have HOR := z0j hor
     have e3 : (o == r) = false := by simpa using hor
     clear hor
     go_wp2_with (first | go_skip | ((first | ((refine zh _ rfl ?_); refine lZ hp rfl zu ?_; clear hp; intro b w1 hp) | ((refine zi _ _ rfl ?_); refine lB hp rfl (zb rfl) rfl ?_; clear hp; intro b w1 hp) | ((refine zg _ _ rfl ?_); first | refine lO hp rfl (zb rfl) ZJ aa5 ?_ | first | refine lRO hp rfl (zb rfl) ZJ (HX.out 0 _ rfl) ?_ | refine lA hp rfl (zb rfl) zl aa5 ?_ | refine lR hp rfl (zb rfl) zl HX.out ?_) | ((refine zf _ _ _ rfl ?_); (first | refine sO hp rfl (zb rfl) ZJ aa5 ?_ | refine sA hp rfl (zb rfl) (zb rfl) zl aa5 ?_ | refine sG hp rfl (zb rfl) (zb rfl) zl aa5 ?_); clear hp; intro w1 hp; simp only [spl, z0a, z0b] at hp) | ((refine zm _ _ _ rfl ?_); refine lS hp rfl (by intro w; go_simp; rfl) ?_; clear hp; intro b w1 hp; simp only [z0g, z0h, Nat.reduceAdd] at hp)); simp only [ze, zd, z0b, z0a]))
     refine zk [_] (zA.one hp.drew at0) [] [(0, true), (1, true), (2, true), (3, true), (4, true), (5, true)] (by kernel_rfl) (by kernel_rfl) rfl (by kernel_rfl) (fun _ _ d _ _ h => by cases d <;> exact h) ?_
     replace hp := hp.drew
     repeat' (with_reducible refine zB ?_); first | (with_reducible refine zt ?_) | ((with_reducible refine zI ?_); refine zy rfl ?_; (first | ((with_reducible refine zV _ rfl ?_); refine tM rfl ?_) | ((with_reducible refine zS _ _ rfl ?_); first | refine tA rfl (zb rfl) zl aa5 ?_ | refine tR rfl (zb rfl) zl HX.out ?_) | refine tG (fun w _ => (by go_simp; try rfl)) ?_); try simp only [ze, zd, zn, zj, z0b, z0a, z0d, z0c, zr])
     go_wp2_with fail
     go_roundg (gk - 1)
     case measure => omega
     case rel =>
      refine ⟨j + 1, by omega, by go_num, z0j (fun hm => ?_), hp⟩
      rw [List.take_add_one, HJ.out] at hm
      rcases List.mem_append.1 hm with hm | hm
      ·exact HG.out hm
      ·simp at hm; exact HOR.out hm.symm
   ·have HPQ := z0j hpq
    have e3 : (p == q) = false := by simpa using hpq
    clear hpq
    go_wp2_with (first | go_skip | ((first | ((refine zh _ rfl ?_); refine lZ hp rfl zu ?_; clear hp; intro b w1 hp) | ((refine zi _ _ rfl ?_); refine lB hp rfl (zb rfl) rfl ?_; clear hp; intro b w1 hp) | ((refine zg _ _ rfl ?_); first | refine lO hp rfl (zb rfl) ZJ aa5 ?_ | first | refine lRO hp rfl (zb rfl) ZJ (HX.out 0 _ rfl) ?_ | refine lA hp rfl (zb rfl) zl aa5 ?_ | refine lR hp rfl (zb rfl) zl HX.out ?_) | ((refine zf _ _ _ rfl ?_); (first | refine sO hp rfl (zb rfl) ZJ aa5 ?_ | refine sA hp rfl (zb rfl) (zb rfl) zl aa5 ?_ | refine sG hp rfl (zb rfl) (zb rfl) zl aa5 ?_); clear hp; intro w1 hp; simp only [spl, z0a, z0b] at hp) | ((refine zm _ _ _ rfl ?_); refine lS hp rfl (by intro w; go_simp; rfl) ?_; clear hp; intro b w1 hp; simp only [z0g, z0h, Nat.reduceAdd] at hp)); simp only [ze, zd, z0b, z0a]))
    refine zk [_] (zA.one hp.drew at0) [] [(0, true), (1, true), (2, true), (3, true), (4, true), (5, true)] (by kernel_rfl) (by kernel_rfl) rfl (by kernel_rfl) (fun _ _ d _ _ h => by cases d <;> exact h) ?_
    replace hp := hp.drew
    repeat' (with_reducible refine zB ?_); first | (with_reducible refine zt ?_) | ((with_reducible refine zI ?_); refine zy rfl ?_; (first | ((with_reducible refine zV _ rfl ?_); refine tM rfl ?_) | ((with_reducible refine zS _ _ rfl ?_); first | refine tA rfl (zb rfl) zl aa5 ?_ | refine tR rfl (zb rfl) zl HX.out ?_) | refine tG (fun w _ => (by go_simp; try rfl)) ?_); try simp only [ze, zd, zn, zj, z0b, z0a, z0d, z0c, zr])
    go_wp2_with fail
    go_roundg (gk - 1)
    case measure => omega
    case rel =>
     refine ⟨j + 1, by omega, by go_num, z0j (fun hm => ?_), hp⟩
     rw [List.take_add_one, HJ.out] at hm
     rcases List.mem_append.1 hm with hm | hm
     ·exact HG.out hm
     ·simp at hm; exact HPQ.out hm.1.symm
  ·have e2 : decide ((j : Int) < (l.length : Int)) = false := by simp; omega
   go_wp2_with fail
   go_ret
   exact ⟨Ze (by have h := HG.out; rw [List.take_of_length_le (by omega)] at h; simp [h]), hp.below⟩
def zdc (l : List Bl) (b : Bl) (j : Nat) (inn : Bool) (out : List Bl) : Prop := (inn = false → zaP l b = out ++ zaP (l.drop j) b) ∧ (inn = true → zaP l b = out ++ l.drop j) ∧ out.length ≤ j + 1 ∧ (inn = false → out.length ≤ j)
theorem zdc.here {l : List Bl} {b x : Bl} {j : Nat} {out : List Bl} (h : zdc l b j false out) (hx : l[j]? = some x) (hb : b.p < x.p) : zdc l b (j + 1) true (out ++ [b] ++ [x]) := by
 obtain ⟨hj, rfl⟩ := List.getElem?_eq_some_iff.1 hx
 refine ⟨fun h => (by cases h), fun _ => ?_, by have := h.2.2.2 rfl; simp; omega, fun h => (by cases h)⟩
 rw [h.1 rfl, List.drop_eq_getElem_cons hj, zaP, if_pos hb]; simp
theorem zdc.pass {l : List Bl} {b x : Bl} {j : Nat} {out : List Bl} (h : zdc l b j false out) (hx : l[j]? = some x) (hb : ¬ b.p < x.p) : zdc l b (j + 1) false (out ++ [x]) := by
 obtain ⟨hj, rfl⟩ := List.getElem?_eq_some_iff.1 hx
 refine ⟨fun _ => ?_, fun h => (by cases h), by have := h.2.2.1; simp; omega, fun _ => by have := h.2.2.2 rfl; simp; omega⟩
 rw [h.1 rfl, List.drop_eq_getElem_cons hj, zaP, if_neg hb]; simp
theorem zdc.on {l : List Bl} {b x : Bl} {j : Nat} {out : List Bl} (h : zdc l b j true out) (hx : l[j]? = some x) : zdc l b (j + 1) true (out ++ [x]) := by
 obtain ⟨hj, rfl⟩ := List.getElem?_eq_some_iff.1 hx
 refine ⟨fun h => (by cases h), fun _ => ?_, by have := h.2.2.1; simp; omega, fun h => (by cases h)⟩
 rw [h.2.1 rfl, List.drop_eq_getElem_cons hj]; simp
theorem zeM (l : List Bl) (x : Bl) : (l ++ [x]).flatMap blV = l.flatMap blV ++ blV x := by simp [List.flatMap_append]
theorem ziE (l : List Bl) (a : Option Addr) (c : Nat) (hl : l.length ≤ 1000) (q r : Int) (w : World) (ha : zD w a (l.flatMap blV)) : Calls Tryz.prog 259 #[.slice a l.length c, .agg #[.int .i64 q, .int .i64 r]] w (zdg w (zaP l ⟨q, r⟩).length ((zaP l ⟨q, r⟩).flatMap blV)) := by
 obtain ⟨i0, hi0, hz0, hz1, hz2⟩ := info_parts za6
 have hp := Hp.start w
 have HA := z0j ha
 clear ha
 go_enter Tryz.func259, Tryz.ntmps259
 go_wp2_with (first | go_skip | ((first | ((refine zh _ rfl ?_); refine lZ hp rfl zu ?_; clear hp; intro b w1 hp) | ((refine zi _ _ rfl ?_); refine lB hp rfl (zb rfl) rfl ?_; clear hp; intro b w1 hp) | ((refine zg _ _ rfl ?_); first | refine lO hp rfl (zb rfl) ZJ aa5 ?_ | refine lA hp rfl (zb rfl) zl aa5 ?_) | ((refine zf _ _ _ rfl ?_); (first | refine sO hp rfl (zb rfl) ZJ aa5 ?_ | refine sA hp rfl (zb rfl) (zb rfl) zl aa5 ?_ | refine sG hp rfl (zb rfl) (zb rfl) zl aa5 ?_); clear hp; intro w1 hp; simp only [spl, z0a, z0b] at hp) | ((refine zm _ _ _ rfl ?_); refine lS hp rfl (by intro w; go_simp; rfl) ?_; clear hp; intro b w1 hp; simp only [z0g, z0h, Nat.reduceAdd] at hp)); simp only [ze, zd, z0b, z0a]))
 obtain ⟨b1, rfl⟩ := hp.id0
 go_loopg [5, 6, 7] l.length (fun k v f i wr => ∃ (j : Nat) (inn : Bool) (out : List Bl) (RA : List Blk), k + j = l.length ∧ f = .bool inn ∧ i = .int .i64 j ∧ Hid (zdc l ⟨q, r⟩ j inn out) ∧ Hid (zH 124 2 v out.length (out.flatMap blV) RA) ∧ Hp w.heap.size w wr (⟨b1, [.int .i64 q, .int .i64 r], 124, 2⟩ :: RA))
 case atStart => exact ⟨0, false, [], [], by omega, rfl, rfl, z0j ⟨fun _ => rfl, fun h => (by cases h), by simp, fun _ => by simp⟩, z0j (zH.nil _ _), hp⟩
 case round =>
  clear hp
  obtain ⟨j, inn, out, RA, hkj, rfl, rfl, HWA, HRA, hp⟩ := hrel
  by_cases hlt : j < l.length
  ·obtain ⟨bq, off, rfl, hx⟩ := HA.out.elems 2 Zk (by omega) (by omega)
   have hj := List.getElem?_eq_getElem hlt
   replace hx := hx j _ hj
   generalize l[j] = x at hx hj
   obtain ⟨p, o⟩ := x
   simp only [blV] at hx
   have HX := z0j hx
   have HJ := z0j hj
   have hol := HWA.out.2.2.1
   have sm1 : out.length + 1 ≤ maxLen := by unfold maxLen; omega
   have sm2 : (out.length + 1) * 16 ≤ 140737488355328 := by omega
   have sm3 : out.length + 1 + 1 ≤ maxLen := by unfold maxLen; omega
   have sm4 : (out.length + 1 + 1) * 16 ≤ 140737488355328 := by omega
   clear hx hj hol
   have e1 : (0 : Int) ≤ (j : Int) := by omega
   have e2 : (j : Int) < (l.length : Int) := by omega
   cases inn
   ·by_cases hqp : q < p
    ·have HN := z0j (HWA.out.here HJ.out hqp)
     have e3 : decide (q < p) = true := decide_eq_true hqp
     clear hqp
     go_wp2_with (first | go_skip | ((first | ((refine zh _ rfl ?_); refine lZ hp rfl zu ?_; clear hp; intro b w1 hp) | ((refine zi _ _ rfl ?_); refine lB hp rfl (zb rfl) rfl ?_; clear hp; intro b w1 hp) | ((refine zg _ _ rfl ?_); first | refine lO hp rfl (zb rfl) ZJ aa5 ?_ | first | refine lRO hp rfl (zb rfl) ZJ (HX.out 0 _ rfl) ?_ | refine lA hp rfl (zb rfl) zl aa5 ?_ | refine lR hp rfl (zb rfl) zl HX.out ?_) | ((refine zf _ _ _ rfl ?_); (first | refine sO hp rfl (zb rfl) ZJ aa5 ?_ | refine sA hp rfl (zb rfl) (zb rfl) zl aa5 ?_ | refine sG hp rfl (zb rfl) (zb rfl) zl aa5 ?_); clear hp; intro w1 hp; simp only [spl, z0a, z0b] at hp) | ((refine zm _ _ _ rfl ?_); refine lS hp rfl (by intro w; go_simp; rfl) ?_; clear hp; intro b w1 hp; simp only [z0g, z0h, Nat.reduceAdd] at hp)); simp only [ze, zd, z0b, z0a]))
     refine zk [_] (zA.one hp.drew at0) [] [(0, true), (1, true), (2, true), (3, true), (4, true), (5, true), (6, true), (7, true), (8, true), (9, true), (10, true), (11, true)] (by kernel_rfl) (by kernel_rfl) rfl (by kernel_rfl) (fun _ _ d _ _ h => by cases d <;> exact h) ?_
     replace hp := hp.drew
     repeat' (with_reducible refine zB ?_); first | (with_reducible refine zt ?_) | ((with_reducible refine zI ?_); refine zy rfl ?_; (first | ((with_reducible refine zcn _ _ rfl ?_); refine tS (ZA rfl rfl rfl rfl) ?_) | ((with_reducible refine zV _ rfl ?_); refine tM rfl ?_) | ((with_reducible refine zS _ _ rfl ?_); first | refine tO rfl (zb rfl) zw aa5 ?_ | refine tRO rfl (zb rfl) zw (HX.out 0 _ rfl) ?_) | refine tG (fun w _ => (by go_simp; try rfl)) ?_); try simp only [ze, zd, zn, zj, z0b, z0a, z0d, z0c, zr])
     go_wp2_with (first | ((refine zM _ _ 45 rfl ?_); refine zG (K := [_]) (R := RA) (M := []) (hp.reorder (by rw [List.append_nil]; exact List.Perm.refl _)) _ _ _ rfl wy i0 _ 16 Tryz.underlying45 hi0 hz0 hz1 hz2 rfl (by decide) (zb rfl) HRA.out 1 1 (zb rfl) (by rfl) (by decide) (by rfl) (by first | exact sm1 | exact sm3) (by first | exact sm2 | exact sm4) ?_; clear hp HRA; intro va' RA w1 hra hp; have HRA := z0j hra; clear hra; rw [List.append_nil] at hp; simp only [z0f, z0e] at hp; simp only [ze, zd, z0b, z0a]) | go_skip | ((first | ((refine zh _ rfl ?_); refine lZ hp rfl zu ?_; clear hp; intro b w1 hp) | ((refine zi _ _ rfl ?_); refine lB hp rfl (zb rfl) rfl ?_; clear hp; intro b w1 hp) | ((refine zg _ _ rfl ?_); first | refine lO hp rfl (zb rfl) ZJ aa5 ?_ | first | refine lRO hp rfl (zb rfl) ZJ (HX.out 0 _ rfl) ?_ | refine lA hp rfl (zb rfl) zl aa5 ?_ | refine lR hp rfl (zb rfl) zl HX.out ?_) | ((refine zf _ _ _ rfl ?_); (first | refine sO hp rfl (zb rfl) ZJ aa5 ?_ | refine sA hp rfl (zb rfl) (zb rfl) zl aa5 ?_ | refine sG hp rfl (zb rfl) (zb rfl) zl aa5 ?_); clear hp; intro w1 hp; simp only [spl, z0a, z0b] at hp) | ((refine zm _ _ _ rfl ?_); refine lS hp rfl (by intro w; go_simp; rfl) ?_; clear hp; intro b w1 hp; simp only [z0g, z0h, Nat.reduceAdd] at hp)); simp only [ze, zd, z0b, z0a]))
     go_roundg (gk - 1)
     case measure => omega
     case rel => exact ⟨j + 1, true, _, RA, by omega, rfl, by go_num, HN, z0j (by rw [zeM, zeM, List.length_append, List.length_append]; exact HRA.out), hp⟩
    ·have HN := z0j (HWA.out.pass HJ.out hqp)
     have e3 : decide (q < p) = false := decide_eq_false hqp
     clear hqp
     go_wp2_with (first | go_skip | ((first | ((refine zh _ rfl ?_); refine lZ hp rfl zu ?_; clear hp; intro b w1 hp) | ((refine zi _ _ rfl ?_); refine lB hp rfl (zb rfl) rfl ?_; clear hp; intro b w1 hp) | ((refine zg _ _ rfl ?_); first | refine lO hp rfl (zb rfl) ZJ aa5 ?_ | first | refine lRO hp rfl (zb rfl) ZJ (HX.out 0 _ rfl) ?_ | refine lA hp rfl (zb rfl) zl aa5 ?_ | refine lR hp rfl (zb rfl) zl HX.out ?_) | ((refine zf _ _ _ rfl ?_); (first | refine sO hp rfl (zb rfl) ZJ aa5 ?_ | refine sA hp rfl (zb rfl) (zb rfl) zl aa5 ?_ | refine sG hp rfl (zb rfl) (zb rfl) zl aa5 ?_); clear hp; intro w1 hp; simp only [spl, z0a, z0b] at hp) | ((refine zm _ _ _ rfl ?_); refine lS hp rfl (by intro w; go_simp; rfl) ?_; clear hp; intro b w1 hp; simp only [z0g, z0h, Nat.reduceAdd] at hp)); simp only [ze, zd, z0b, z0a]))
     refine zk [_] (zA.one hp.drew at0) [] [(0, true), (1, true), (2, true), (3, true), (4, true), (5, true), (6, true), (7, true), (8, true), (9, true), (10, true), (11, true)] (by kernel_rfl) (by kernel_rfl) rfl (by kernel_rfl) (fun _ _ d _ _ h => by cases d <;> exact h) ?_
     replace hp := hp.drew
     repeat' (with_reducible refine zB ?_); first | (with_reducible refine zt ?_) | ((with_reducible refine zI ?_); refine zy rfl ?_; (first | ((with_reducible refine zcn _ _ rfl ?_); refine tS (ZA rfl rfl rfl rfl) ?_) | ((with_reducible refine zV _ rfl ?_); refine tM rfl ?_) | ((with_reducible refine zS _ _ rfl ?_); first | refine tO rfl (zb rfl) zw aa5 ?_ | refine tRO rfl (zb rfl) zw (HX.out 0 _ rfl) ?_) | refine tG (fun w _ => (by go_simp; try rfl)) ?_); try simp only [ze, zd, zn, zj, z0b, z0a, z0d, z0c, zr])
     go_wp2_with (first | ((refine zM _ _ 45 rfl ?_); refine zG (K := [_]) (R := RA) (M := []) (hp.reorder (by rw [List.append_nil]; exact List.Perm.refl _)) _ _ _ rfl wy i0 _ 16 Tryz.underlying45 hi0 hz0 hz1 hz2 rfl (by decide) (zb rfl) HRA.out 1 1 (zb rfl) (by rfl) (by decide) (by rfl) (by first | exact sm1 | exact sm3) (by first | exact sm2 | exact sm4) ?_; clear hp HRA; intro va' RA w1 hra hp; have HRA := z0j hra; clear hra; rw [List.append_nil] at hp; simp only [z0f, z0e] at hp; simp only [ze, zd, z0b, z0a]) | go_skip | ((first | ((refine zh _ rfl ?_); refine lZ hp rfl zu ?_; clear hp; intro b w1 hp) | ((refine zi _ _ rfl ?_); refine lB hp rfl (zb rfl) rfl ?_; clear hp; intro b w1 hp) | ((refine zg _ _ rfl ?_); first | refine lO hp rfl (zb rfl) ZJ aa5 ?_ | first | refine lRO hp rfl (zb rfl) ZJ (HX.out 0 _ rfl) ?_ | refine lA hp rfl (zb rfl) zl aa5 ?_ | refine lR hp rfl (zb rfl) zl HX.out ?_) | ((refine zf _ _ _ rfl ?_); (first | refine sO hp rfl (zb rfl) ZJ aa5 ?_ | refine sA hp rfl (zb rfl) (zb rfl) zl aa5 ?_ | refine sG hp rfl (zb rfl) (zb rfl) zl aa5 ?_); clear hp; intro w1 hp; simp only [spl, z0a, z0b] at hp) | ((refine zm _ _ _ rfl ?_); refine lS hp rfl (by intro w; go_simp; rfl) ?_; clear hp; intro b w1 hp; simp only [z0g, z0h, Nat.reduceAdd] at hp)); simp only [ze, zd, z0b, z0a]))
     go_roundg (gk - 1)
     case measure => omega
     case rel => exact ⟨j + 1, false, _, RA, by omega, rfl, by go_num, HN, z0j (by rw [zeM, List.length_append]; exact HRA.out), hp⟩
   ·have HN := z0j (HWA.out.on HJ.out)
    go_wp2_with (first | go_skip | ((first | ((refine zh _ rfl ?_); refine lZ hp rfl zu ?_; clear hp; intro b w1 hp) | ((refine zi _ _ rfl ?_); refine lB hp rfl (zb rfl) rfl ?_; clear hp; intro b w1 hp) | ((refine zg _ _ rfl ?_); first | refine lO hp rfl (zb rfl) ZJ aa5 ?_ | first | refine lRO hp rfl (zb rfl) ZJ (HX.out 0 _ rfl) ?_ | refine lA hp rfl (zb rfl) zl aa5 ?_ | refine lR hp rfl (zb rfl) zl HX.out ?_) | ((refine zf _ _ _ rfl ?_); (first | refine sO hp rfl (zb rfl) ZJ aa5 ?_ | refine sA hp rfl (zb rfl) (zb rfl) zl aa5 ?_ | refine sG hp rfl (zb rfl) (zb rfl) zl aa5 ?_); clear hp; intro w1 hp; simp only [spl, z0a, z0b] at hp) | ((refine zm _ _ _ rfl ?_); refine lS hp rfl (by intro w; go_simp; rfl) ?_; clear hp; intro b w1 hp; simp only [z0g, z0h, Nat.reduceAdd] at hp)); simp only [ze, zd, z0b, z0a]))
    refine zk [_] (zA.one hp.drew at0) [] [(0, true), (1, true), (2, true), (3, true), (4, true), (5, true), (6, true), (7, true), (8, true), (9, true), (10, true), (11, true)] (by kernel_rfl) (by kernel_rfl) rfl (by kernel_rfl) (fun _ _ d _ _ h => by cases d <;> exact h) ?_
    replace hp := hp.drew
    repeat' (with_reducible refine zB ?_); first | (with_reducible refine zt ?_) | ((with_reducible refine zI ?_); refine zy rfl ?_; (first | ((with_reducible refine zcn _ _ rfl ?_); refine tS (ZA rfl rfl rfl rfl) ?_) | ((with_reducible refine zV _ rfl ?_); refine tM rfl ?_) | ((with_reducible refine zS _ _ rfl ?_); first | refine tO rfl (zb rfl) zw aa5 ?_ | refine tRO rfl (zb rfl) zw (HX.out 0 _ rfl) ?_) | refine tG (fun w _ => (by go_simp; try rfl)) ?_); try simp only [ze, zd, zn, zj, z0b, z0a, z0d, z0c, zr])
    go_wp2_with (first | ((refine zM _ _ 45 rfl ?_); refine zG (K := [_]) (R := RA) (M := []) (hp.reorder (by rw [List.append_nil]; exact List.Perm.refl _)) _ _ _ rfl wy i0 _ 16 Tryz.underlying45 hi0 hz0 hz1 hz2 rfl (by decide) (zb rfl) HRA.out 1 1 (zb rfl) (by rfl) (by decide) (by rfl) (by first | exact sm1 | exact sm3) (by first | exact sm2 | exact sm4) ?_; clear hp HRA; intro va' RA w1 hra hp; have HRA := z0j hra; clear hra; rw [List.append_nil] at hp; simp only [z0f, z0e] at hp; simp only [ze, zd, z0b, z0a]) | go_skip | ((first | ((refine zh _ rfl ?_); refine lZ hp rfl zu ?_; clear hp; intro b w1 hp) | ((refine zi _ _ rfl ?_); refine lB hp rfl (zb rfl) rfl ?_; clear hp; intro b w1 hp) | ((refine zg _ _ rfl ?_); first | refine lO hp rfl (zb rfl) ZJ aa5 ?_ | first | refine lRO hp rfl (zb rfl) ZJ (HX.out 0 _ rfl) ?_ | refine lA hp rfl (zb rfl) zl aa5 ?_ | refine lR hp rfl (zb rfl) zl HX.out ?_) | ((refine zf _ _ _ rfl ?_); (first | refine sO hp rfl (zb rfl) ZJ aa5 ?_ | refine sA hp rfl (zb rfl) (zb rfl) zl aa5 ?_ | refine sG hp rfl (zb rfl) (zb rfl) zl aa5 ?_); clear hp; intro w1 hp; simp only [spl, z0a, z0b] at hp) | ((refine zm _ _ _ rfl ?_); refine lS hp rfl (by intro w; go_simp; rfl) ?_; clear hp; intro b w1 hp; simp only [z0g, z0h, Nat.reduceAdd] at hp)); simp only [ze, zd, z0b, z0a]))
    go_roundg (gk - 1)
    case measure => omega
    case rel => exact ⟨j + 1, true, _, RA, by omega, rfl, by go_num, HN, z0j (by rw [zeM, List.length_append]; exact HRA.out), hp⟩
  ·have e2 : decide ((j : Int) < (l.length : Int)) = false := by simp; omega
   have hj : j = l.length := by omega
   subst hj
   have hol := HWA.out.2.2.1
   have sm1 : out.length + 1 ≤ maxLen := by unfold maxLen; omega
   have sm2 : (out.length + 1) * 16 ≤ 140737488355328 := by omega
   have sm3 := sm1
   have sm4 := sm2
   clear hol
   cases inn
   ·have HN : Hid (zaP l ⟨q, r⟩ = out ++ [⟨q, r⟩]) := z0j (by have h := HWA.out.1 rfl; rw [List.drop_length] at h; exact h)
    go_wp2_with (first | ((refine zM _ _ 45 rfl ?_); refine zG (K := [_]) (R := RA) (M := []) (hp.reorder (by rw [List.append_nil]; exact List.Perm.refl _)) _ _ _ rfl wy i0 _ 16 Tryz.underlying45 hi0 hz0 hz1 hz2 rfl (by decide) (zb rfl) HRA.out 1 1 (zb rfl) (by rfl) (by decide) (by rfl) (by first | exact sm1 | exact sm3) (by first | exact sm2 | exact sm4) ?_; clear hp HRA; intro va' RA w1 hra hp; have HRA := z0j hra; clear hra; rw [List.append_nil] at hp; simp only [z0f, z0e] at hp; simp only [ze, zd, z0b, z0a]) | go_skip | ((first | ((refine zh _ rfl ?_); refine lZ hp rfl zu ?_; clear hp; intro b w1 hp) | ((refine zi _ _ rfl ?_); refine lB hp rfl (zb rfl) rfl ?_; clear hp; intro b w1 hp) | ((refine zg _ _ rfl ?_); first | refine lO hp rfl (zb rfl) ZJ aa5 ?_ | refine lA hp rfl (zb rfl) zl aa5 ?_) | ((refine zf _ _ _ rfl ?_); (first | refine sO hp rfl (zb rfl) ZJ aa5 ?_ | refine sA hp rfl (zb rfl) (zb rfl) zl aa5 ?_ | refine sG hp rfl (zb rfl) (zb rfl) zl aa5 ?_); clear hp; intro w1 hp; simp only [spl, z0a, z0b] at hp) | ((refine zm _ _ _ rfl ?_); refine lS hp rfl (by intro w; go_simp; rfl) ?_; clear hp; intro b w1 hp; simp only [z0g, z0h, Nat.reduceAdd] at hp)); simp only [ze, zd, z0b, z0a]))
    go_ret
    exact ⟨_, RA, rfl, by rw [HN.out, zeM, List.length_append]; exact HRA.out, hp.tail⟩
   ·have HN : Hid (zaP l ⟨q, r⟩ = out) := z0j (by have h := HWA.out.2.1 rfl; rw [List.drop_length, List.append_nil] at h; exact h)
    go_wp2_with (first | ((refine zM _ _ 45 rfl ?_); refine zG (K := [_]) (R := RA) (M := []) (hp.reorder (by rw [List.append_nil]; exact List.Perm.refl _)) _ _ _ rfl wy i0 _ 16 Tryz.underlying45 hi0 hz0 hz1 hz2 rfl (by decide) (zb rfl) HRA.out 1 1 (zb rfl) (by rfl) (by decide) (by rfl) (by first | exact sm1 | exact sm3) (by first | exact sm2 | exact sm4) ?_; clear hp HRA; intro va' RA w1 hra hp; have HRA := z0j hra; clear hra; rw [List.append_nil] at hp; simp only [z0f, z0e] at hp; simp only [ze, zd, z0b, z0a]) | go_skip | ((first | ((refine zh _ rfl ?_); refine lZ hp rfl zu ?_; clear hp; intro b w1 hp) | ((refine zi _ _ rfl ?_); refine lB hp rfl (zb rfl) rfl ?_; clear hp; intro b w1 hp) | ((refine zg _ _ rfl ?_); first | refine lO hp rfl (zb rfl) ZJ aa5 ?_ | refine lA hp rfl (zb rfl) zl aa5 ?_) | ((refine zf _ _ _ rfl ?_); (first | refine sO hp rfl (zb rfl) ZJ aa5 ?_ | refine sA hp rfl (zb rfl) (zb rfl) zl aa5 ?_ | refine sG hp rfl (zb rfl) (zb rfl) zl aa5 ?_); clear hp; intro w1 hp; simp only [spl, z0a, z0b] at hp) | ((refine zm _ _ _ rfl ?_); refine lS hp rfl (by intro w; go_simp; rfl) ?_; clear hp; intro b w1 hp; simp only [z0g, z0h, Nat.reduceAdd] at hp)); simp only [ze, zd, z0b, z0a]))
    go_ret
    exact ⟨_, RA, rfl, by rw [HN.out]; exact HRA.out, hp.tail⟩
end Go.Proofs.YtaafajaadfgaoaaGreat
