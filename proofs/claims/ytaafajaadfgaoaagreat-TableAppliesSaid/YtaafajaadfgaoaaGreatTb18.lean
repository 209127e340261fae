import Derived.Test.YtaafajaadfgaoaaGreatTb17
import Derived.Test.YtaafajaadfgaoaaGreatTb2
import Derived.Test.YtaafajaadfgaoaaGreatTb1
set_option linter.unusedSimpArgs false
set_option linter.unusedVariables false
set_option maxRecDepth 100000
set_option maxHeartbeats 60000000
namespace Go.Proofs.YtaafajaadfgaoaaGreat
open Go.RowKit
theorem Zj {ty : TypeId} (h : zN Tryz.prog ty = true := by with_reducible first | exact zw | exact Zd | exact zat) : zN Tryz.prog ty = true := h
def zaj (l : List Rw) (c : Int) : Rw × Bool := match l.find? (fun x => decide (x.c = c)) with
 | some x => (x, true)
 | none => (⟨0, 0, 0, 0⟩, false)
theorem zkF {l : List Rw} {c : Int} (h : ∀ (i : Nat) y, l[i]? = some y → y.c ≠ c) : zaj l c = (⟨0, 0, 0, 0⟩, false) := by
 have : l.find? (fun x => decide (x.c = c)) = none := by
  rw [List.find?_eq_none]
  intro x hx
  obtain ⟨i, hi, rfl⟩ := List.getElem_of_mem hx
  simpa using h i _ (List.getElem?_eq_getElem hi)
 unfold zaj; rw [this]
theorem zkE {l : List Rw} {c : Int} {j : Nat} {x : Rw} (hj : l[j]? = some x) (hx : x.c = c) (h : ∀ (i : Nat) y, i < j → l[i]? = some y → y.c ≠ c) : zaj l c = (x, true) := by
 have : l.find? (fun x => decide (x.c = c)) = some x := by
  rw [List.find?_eq_some_iff_getElem]
  obtain ⟨hlt, he⟩ := List.getElem?_eq_some_iff.1 hj
  refine ⟨by simpa using hx, j, hlt, he, fun i hi => ?_⟩
  simpa using h i _ hi (List.getElem?_eq_getElem (by omega))
 unfold zaj; rw [this]
theorem zkG (l : List Rw) (c : Int) : (∃ (j : Nat) (x : Rw), l[j]? = some x ∧ x.c = c ∧ ∀ (i : Nat) y, i < j → l[i]? = some y → y.c ≠ c) ∨ (∀ (i : Nat) y, l[i]? = some y → y.c ≠ c) := by
 cases h : l.find? (fun x => decide (x.c = c)) with
 | none =>
  rw [List.find?_eq_none] at h
  exact .inr fun i y hy => by simpa using h y (List.mem_of_getElem? hy)
 | some x =>
  rw [List.find?_eq_some_iff_getElem] at h
  obtain ⟨hx, j, hj, he, hno⟩ := h
  refine .inl ⟨j, x, by rw [List.getElem?_eq_getElem hj, he], by simpa using hx, fun i y hi hy => ?_⟩
  have := hno i hi
  rw [List.getElem?_eq_getElem (by omega)] at hy
  injection hy with hy
  subst hy
  simpa using this
theorem znp (x : Rw) (c : Int) (b : Nat) (w : World) (hb : b < w.heap.size) (hc : w.cell? ⟨b, 0, none⟩ = some (.int .i64 c)) :
  Calls Tryz.prog 188 #[.agg #[.int .i64 x.c, .int .i64 x.s, .int .i64 x.e, .int .i64 x.v], .pointer (some ⟨b, 0, none⟩)] w fun e w' => e = .returned (.bool (x.c == c)) ∧ Below w.heap.size w w' := by
 have hp := Hp.start w
 have HC := z0j hc
 clear hc
 go_enter Tryz.func188, Tryz.ntmps188
 go_wp2_with (first | go_skip | ((first | ((refine zh _ rfl ?_); refine lZ hp rfl (by with_reducible first | exact Z7 | exact Z5) ?_; clear hp; intro b w1 hp) | ((refine zi _ _ rfl ?_); refine lB hp rfl (zb rfl) rfl ?_; clear hp; intro b w1 hp) | ((refine zg _ _ rfl ?_); first | refine lO hp rfl (zb rfl) Zj zq ?_ | refine lA hp rfl (zb rfl) (by with_reducible first | exact zY | exact zC) zq ?_) | ((refine zf _ _ _ rfl ?_); (first | refine sO hp rfl (zb rfl) Zj zq ?_ | refine sA hp rfl (zb rfl) (zb rfl) (by with_reducible first | exact zY | exact zC) zq ?_ | refine sG hp rfl (zb rfl) (zb rfl) (by with_reducible first | exact zY | exact zC) zq ?_); clear hp; intro w1 hp; simp only [spl, z0a, z0b] at hp)); simp only [ze, zd, z0b, z0a]) | ((refine zg 3 _ rfl ?_); refine Z9 hp _ _ rfl (zco rfl) _ _ (zb rfl) zw _ HC.out ?_; simp only [ze, zd, z0b, z0a]))
 go_ret
 exact ⟨rfl, hp.below⟩
theorem zjM (l : List Rw) (a : Option Addr) (k : Nat) (hl : l.length ≤ 1000) (c : Int) (bc : Nat) (w : World) (ha : zD w a (l.flatMap rwV)) (hbc : bc < w.heap.size) (hcc : w.cell? ⟨bc, 0, none⟩ = some (.int .i64 c))
  (m : Nat) (x : Rw) (hm : l[m]? = some x) (hx : x.c = c) (hno : ∀ (i : Nat) y, i < m → l[i]? = some y → y.c ≠ c) :
  Calls Tryz.prog 187 #[.slice a l.length k, .func (.func 188) #[] #[.pointer (some ⟨bc, 0, none⟩)]] w fun e w' => e = .returned (.int .i64 m) ∧ Below w.heap.size w w' := by
 have hp := Hp.start w
 have HA := z0j ha
 have HC := z0j hcc
 have HNO := z0j hno
 have HM := z0j hm
 have HCX := z0j hx
 have hml : m < l.length := (List.getElem?_eq_some_iff.1 hm).1
 clear ha hcc hno hm hx
 go_enter Tryz.func187, Tryz.ntmps187
 go_wp2_with (first | go_skip | ((first | ((refine zh _ rfl ?_); refine lZ hp rfl (by with_reducible first | exact Z7 | exact Z5) ?_; clear hp; intro b w1 hp) | ((refine zi _ _ rfl ?_); refine lB hp rfl (zb rfl) rfl ?_; clear hp; intro b w1 hp) | ((refine zg _ _ rfl ?_); first | refine lO hp rfl (zb rfl) Zj zq ?_ | refine lA hp rfl (zb rfl) (by with_reducible first | exact zY | exact zC) zq ?_) | ((refine zf _ _ _ rfl ?_); (first | refine sO hp rfl (zb rfl) Zj zq ?_ | refine sA hp rfl (zb rfl) (zb rfl) (by with_reducible first | exact zY | exact zC) zq ?_ | refine sG hp rfl (zb rfl) (zb rfl) (by with_reducible first | exact zY | exact zC) zq ?_); clear hp; intro w1 hp; simp only [spl, z0a, z0b] at hp)); simp only [ze, zd, z0b, z0a]))
 go_loopg [8] l.length (fun k i wr => ∃ j : Nat, k + j = l.length ∧ j ≤ m ∧ i = .int .i64 j ∧ Hp w.heap.size w wr [])
 case atStart => exact ⟨0, by omega, by omega, rfl, hp⟩
 case round =>
  clear hp
  obtain ⟨j, hkj, hjm, rfl, hp⟩ := hrel
  have hlt : j < l.length := by omega
  obtain ⟨bq, off, rfl, hx⟩ := HA.out.elems 4 ZP (by omega) (by omega)
  have hj := List.getElem?_eq_getElem hlt
  replace hx := hx j _ hj
  have HJ := z0j hj
  clear hj
  generalize l[j] = y at hx HJ
  have e1 : (0 : Int) ≤ (j : Int) := by omega
  have e2 : (j : Int) < (l.length : Int) := by omega
  by_cases hje : j = m
  ·have HXC : Hid ((y.c == c) = true) := z0j (by
    have h1 := HJ.out
    rw [hje, HM.out] at h1
    injection h1 with h1
    rw [← h1, HCX.out]; simp)
   subst hje
   obtain ⟨xc, xs, xe, xv⟩ := y
   simp only [rwV] at hx HXC
   have HX := z0j hx
   clear hx
   go_wp2_with (first | (go_at_call 188; (with_reducible refine (znp ⟨xc, xs, xe, xv⟩ c bc _ (by have := hp.below.size; omega) ((hp.below.cell (p := ⟨bc, 0, none⟩) hbc).trans HC.out)).mono ?_); rintro e w1 ⟨rfl, hb⟩; replace hp := hp.call hb; clear hb; simp only [HXC.out]) | go_skip | ((first | ((refine zh _ rfl ?_); refine lZ hp rfl (by with_reducible first | exact Z7 | exact Z5) ?_; clear hp; intro b w1 hp) | ((refine zi _ _ rfl ?_); refine lB hp rfl (zb rfl) rfl ?_; clear hp; intro b w1 hp) | ((refine zg _ _ rfl ?_); first | refine lO hp rfl (zb rfl) Zj zq ?_ | first | refine lRO hp rfl (zb rfl) Zj (HX.out 0 _ rfl) ?_ | refine lA hp rfl (zb rfl) (by with_reducible first | exact zY | exact zC) zq ?_ | refine lR hp rfl (zb rfl) (by with_reducible first | exact zY | exact zC) HX.out ?_) | ((refine zf _ _ _ rfl ?_); (first | refine sO hp rfl (zb rfl) Zj zq ?_ | refine sA hp rfl (zb rfl) (zb rfl) (by with_reducible first | exact zY | exact zC) zq ?_ | refine sG hp rfl (zb rfl) (zb rfl) (by with_reducible first | exact zY | exact zC) zq ?_); clear hp; intro w1 hp; simp only [spl, z0a, z0b] at hp)); simp only [ze, zd, z0b, z0a]))
   go_ret
   exact ⟨rfl, hp.below⟩
  ·have HXC : Hid ((y.c == c) = false) := z0j (by simpa using HNO.out j y (by omega) HJ.out)
   obtain ⟨xc, xs, xe, xv⟩ := y
   simp only [rwV] at hx HXC
   have HX := z0j hx
   clear hx
   go_wp2_with (first | (go_at_call 188; (with_reducible refine (znp ⟨xc, xs, xe, xv⟩ c bc _ (by have := hp.below.size; omega) ((hp.below.cell (p := ⟨bc, 0, none⟩) hbc).trans HC.out)).mono ?_); rintro e w1 ⟨rfl, hb⟩; replace hp := hp.call hb; clear hb; simp only [HXC.out]) | go_skip | ((first | ((refine zh _ rfl ?_); refine lZ hp rfl (by with_reducible first | exact Z7 | exact Z5) ?_; clear hp; intro b w1 hp) | ((refine zi _ _ rfl ?_); refine lB hp rfl (zb rfl) rfl ?_; clear hp; intro b w1 hp) | ((refine zg _ _ rfl ?_); first | refine lO hp rfl (zb rfl) Zj zq ?_ | first | refine lRO hp rfl (zb rfl) Zj (HX.out 0 _ rfl) ?_ | refine lA hp rfl (zb rfl) (by with_reducible first | exact zY | exact zC) zq ?_ | refine lR hp rfl (zb rfl) (by with_reducible first | exact zY | exact zC) HX.out ?_) | ((refine zf _ _ _ rfl ?_); (first | refine sO hp rfl (zb rfl) Zj zq ?_ | refine sA hp rfl (zb rfl) (zb rfl) (by with_reducible first | exact zY | exact zC) zq ?_ | refine sG hp rfl (zb rfl) (zb rfl) (by with_reducible first | exact zY | exact zC) zq ?_); clear hp; intro w1 hp; simp only [spl, z0a, z0b] at hp)); simp only [ze, zd, z0b, z0a]))
   go_roundg (gk - 1)
   case measure => omega
   case rel => exact ⟨j + 1, by omega, by omega, by go_num, hp⟩
theorem zkO (l : List Rw) (a : Option Addr) (k : Nat) (hl : l.length ≤ 1000) (c : Int) (bc : Nat) (w : World) (ha : zD w a (l.flatMap rwV)) (hbc : bc < w.heap.size) (hcc : w.cell? ⟨bc, 0, none⟩ = some (.int .i64 c))
  (hno : ∀ (i : Nat) y, l[i]? = some y → y.c ≠ c) :
  Calls Tryz.prog 187 #[.slice a l.length k, .func (.func 188) #[] #[.pointer (some ⟨bc, 0, none⟩)]] w fun e w' => e = .returned (.int .i64 (-1)) ∧ Below w.heap.size w w' := by
 have hp := Hp.start w
 have HA := z0j ha
 have HC := z0j hcc
 have HNO := z0j hno
 clear ha hcc hno
 go_enter Tryz.func187, Tryz.ntmps187
 go_wp2_with (first | go_skip | ((first | ((refine zh _ rfl ?_); refine lZ hp rfl (by with_reducible first | exact Z7 | exact Z5) ?_; clear hp; intro b w1 hp) | ((refine zi _ _ rfl ?_); refine lB hp rfl (zb rfl) rfl ?_; clear hp; intro b w1 hp) | ((refine zg _ _ rfl ?_); first | refine lO hp rfl (zb rfl) Zj zq ?_ | refine lA hp rfl (zb rfl) (by with_reducible first | exact zY | exact zC) zq ?_) | ((refine zf _ _ _ rfl ?_); (first | refine sO hp rfl (zb rfl) Zj zq ?_ | refine sA hp rfl (zb rfl) (zb rfl) (by with_reducible first | exact zY | exact zC) zq ?_ | refine sG hp rfl (zb rfl) (zb rfl) (by with_reducible first | exact zY | exact zC) zq ?_); clear hp; intro w1 hp; simp only [spl, z0a, z0b] at hp)); simp only [ze, zd, z0b, z0a]))
 go_loopg [8] l.length (fun k i wr => ∃ j : Nat, k + j = l.length ∧ i = .int .i64 j ∧ Hp w.heap.size w wr [])
 case atStart => exact ⟨0, by omega, rfl, hp⟩
 case round =>
  clear hp
  obtain ⟨j, hkj, rfl, hp⟩ := hrel
  by_cases hlt : j < l.length
  ·obtain ⟨bq, off, rfl, hx⟩ := HA.out.elems 4 ZP (by omega) (by omega)
   have hj := List.getElem?_eq_getElem hlt
   replace hx := hx j _ hj
   have HXC : Hid ((l[j].c == c) = false) := z0j (by simpa using HNO.out j _ hj)
   clear hj
   generalize l[j] = y at hx HXC
   have e1 : (0 : Int) ≤ (j : Int) := by omega
   have e2 : (j : Int) < (l.length : Int) := by omega
   obtain ⟨xc, xs, xe, xv⟩ := y
   simp only [rwV] at hx HXC
   have HX := z0j hx
   clear hx
   go_wp2_with (first | (go_at_call 188; (with_reducible refine (znp ⟨xc, xs, xe, xv⟩ c bc _ (by have := hp.below.size; omega) ((hp.below.cell (p := ⟨bc, 0, none⟩) hbc).trans HC.out)).mono ?_); rintro e w1 ⟨rfl, hb⟩; replace hp := hp.call hb; clear hb; simp only [HXC.out]) | go_skip | ((first | ((refine zh _ rfl ?_); refine lZ hp rfl (by with_reducible first | exact Z7 | exact Z5) ?_; clear hp; intro b w1 hp) | ((refine zi _ _ rfl ?_); refine lB hp rfl (zb rfl) rfl ?_; clear hp; intro b w1 hp) | ((refine zg _ _ rfl ?_); first | refine lO hp rfl (zb rfl) Zj zq ?_ | first | refine lRO hp rfl (zb rfl) Zj (HX.out 0 _ rfl) ?_ | refine lA hp rfl (zb rfl) (by with_reducible first | exact zY | exact zC) zq ?_ | refine lR hp rfl (zb rfl) (by with_reducible first | exact zY | exact zC) HX.out ?_) | ((refine zf _ _ _ rfl ?_); (first | refine sO hp rfl (zb rfl) Zj zq ?_ | refine sA hp rfl (zb rfl) (zb rfl) (by with_reducible first | exact zY | exact zC) zq ?_ | refine sG hp rfl (zb rfl) (zb rfl) (by with_reducible first | exact zY | exact zC) zq ?_); clear hp; intro w1 hp; simp only [spl, z0a, z0b] at hp)); simp only [ze, zd, z0b, z0a]))
   go_roundg (gk - 1)
   case measure => omega
   case rel => exact ⟨j + 1, by omega, by go_num, hp⟩
  ·have e2 : decide ((j : Int) < (l.length : Int)) = false := by simp; omega
   go_wp2_with fail
   go_ret
   exact ⟨rfl, hp.below⟩
def zex (w : World) (l : List Rw) (c : Int) (e : Ending) (w' : World) : Prop := e = .returned (.tuple #[.agg (rwV (zaj l c).1).toArray, .bool (zaj l c).2]) ∧ Below w.heap.size w w'
theorem znq (x : Sv) (hs : x.rs.length ≤ 1000) (c : Int) (w : World) (hx0 : x.Is w) : Calls Tryz.prog 120 #[.agg (svL x).toArray, .int .i64 c] w (zex w x.rs c) := by
 obtain ⟨⟨od, oa, os, oc, nx, t0, t1, t2, t3, fa, fs, fc⟩, ra, rs, rc⟩ := x
 obtain ⟨_, hr⟩ := hx0
 simp only at hr hs
 simp only [svL, hvL, z0f, z0e]
 have HR := z0j hr
 have hp := Hp.start w
 clear hr
 rcases zkG rs c with ⟨m, xr, hm, hxc, hno⟩ | hno
 ·have HM := z0j hm
  have HXC := z0j hxc
  have HNO := z0j hno
  have HF := z0j (zkE hm hxc hno)
  have hml : m < rs.length := (List.getElem?_eq_some_iff.1 hm).1
  obtain ⟨bq, off, rfl, hx⟩ := HR.out.elems 4 ZP (by omega) (by omega)
  replace hx := hx m _ hm
  clear hm hxc hno
  obtain ⟨yc, ys, ye, yv⟩ := xr
  simp only [rwV] at hx
  have HX := z0j hx
  clear hx
  have e1 : (0 : Int) ≤ (m : Int) := by omega
  have e2 : (m : Int) < (rs.length : Int) := by omega
  have e3 : decide ((m : Int) < 0) = false := decide_eq_false (by omega)
  have IDF := z0j (fun bc w h1 h2 h3 => zjM rs (some ⟨bq, off, none⟩) rc hs c bc w h1 h2 h3 m ⟨yc, ys, ye, yv⟩ HM.out HXC.out HNO.out)
  go_enter Tryz.func120, Tryz.ntmps120
  go_wp2_with (first | (go_at_call 187; (with_reducible refine (IDF.out _ _ (HR.out.below hp.below) (hp.lt (Hp.mem at1)).2 (hp.cell at1 rfl)).mono ?_); rintro e w1 ⟨rfl, hb⟩; replace hp := hp.call hb; clear hb) | go_skip | ((first | ((refine zh _ rfl ?_); refine lZ hp rfl (by with_reducible first | exact Z7 | exact Z5) ?_; clear hp; intro b w1 hp) | ((refine zi _ _ rfl ?_); refine lB hp rfl (zb rfl) rfl ?_; clear hp; intro b w1 hp) | ((refine zg _ _ rfl ?_); first | refine lO hp rfl (zb rfl) Zj zq ?_ | first | refine lRO hp rfl (zb rfl) Zj (HX.out 0 _ rfl) ?_ | refine lA hp rfl (zb rfl) (by with_reducible first | exact zY | exact zC) zq ?_ | refine lR hp rfl (zb rfl) (by with_reducible first | exact zY | exact zC) HX.out ?_) | ((refine zf _ _ _ rfl ?_); (first | refine sO hp rfl (zb rfl) Zj zq ?_ | refine sA hp rfl (zb rfl) (zb rfl) (by with_reducible first | exact zY | exact zC) zq ?_ | refine sG hp rfl (zb rfl) (zb rfl) (by with_reducible first | exact zY | exact zC) zq ?_); clear hp; intro w1 hp; simp only [spl, z0a, z0b] at hp)); simp only [ze, zd, z0b, z0a]))
  refine bodyPost_ret (zx (rs := [.cell 4 120, .tmp 5]) Tryz.results120 (.cell rfl (hp.loadAgg zC at0 0 _ (by rfl) (by rfl)) (.tmp rfl .nil))) rfl ⟨?_, hp.below⟩
  rw [HF.out]; try rfl
 ·have HNO := z0j hno
  have HF := z0j (zkF hno)
  clear hno
  have IDF := z0j (fun bc w h1 h2 h3 => zkO rs ra rc hs c bc w h1 h2 h3 HNO.out)
  go_enter Tryz.func120, Tryz.ntmps120
  go_wp2_with (first | (go_at_call 187; (with_reducible refine (IDF.out _ _ (HR.out.below hp.below) (hp.lt (Hp.mem at1)).2 (hp.cell at1 rfl)).mono ?_); rintro e w1 ⟨rfl, hb⟩; replace hp := hp.call hb; clear hb) | go_skip | ((first | ((refine zh _ rfl ?_); refine lZ hp rfl (by with_reducible first | exact Z7 | exact Z5) ?_; clear hp; intro b w1 hp) | ((refine zi _ _ rfl ?_); refine lB hp rfl (zb rfl) rfl ?_; clear hp; intro b w1 hp) | ((refine zg _ _ rfl ?_); first | refine lO hp rfl (zb rfl) Zj zq ?_ | refine lA hp rfl (zb rfl) (by with_reducible first | exact zY | exact zC) zq ?_) | ((refine zf _ _ _ rfl ?_); (first | refine sO hp rfl (zb rfl) Zj zq ?_ | refine sA hp rfl (zb rfl) (zb rfl) (by with_reducible first | exact zY | exact zC) zq ?_ | refine sG hp rfl (zb rfl) (zb rfl) (by with_reducible first | exact zY | exact zC) zq ?_); clear hp; intro w1 hp; simp only [spl, z0a, z0b] at hp)); simp only [ze, zd, z0b, z0a]))
  refine bodyPost_ret (zx (rs := [.cell 4 120, .tmp 5]) Tryz.results120 (.cell rfl (hp.loadAgg zC at0 0 _ (by rfl) (by rfl)) (.tmp rfl .nil))) rfl ⟨?_, hp.below⟩
  rw [HF.out]; try rfl
theorem znr (x : Sv) (hs : x.rs.length ≤ 1000) (c : Int) (w : World) (hx0 : x.Is w) : Calls Tryz.prog 159 #[.agg (svL x).toArray, .int .i64 c] w (zex w x.rs c) := by
 obtain ⟨⟨od, oa, os, oc, nx, t0, t1, t2, t3, fa, fs, fc⟩, ra, rs, rc⟩ := x
 obtain ⟨_, hr⟩ := hx0
 simp only at hr hs
 simp only [svL, hvL, z0f, z0e]
 have HR := z0j hr
 have hp := Hp.start w
 clear hr
 go_enter Tryz.func159, Tryz.ntmps159
 go_wp2_with (first | go_skip | ((first | ((refine zh _ rfl ?_); refine lZ hp rfl (by with_reducible first | exact Z7 | exact Z5) ?_; clear hp; intro b w1 hp) | ((refine zi _ _ rfl ?_); refine lB hp rfl (zb rfl) rfl ?_; clear hp; intro b w1 hp) | ((refine zg _ _ rfl ?_); first | refine lO hp rfl (zb rfl) Zj zq ?_ | refine lA hp rfl (zb rfl) (by with_reducible first | exact zY | exact zC) zq ?_) | ((refine zf _ _ _ rfl ?_); (first | refine sO hp rfl (zb rfl) Zj zq ?_ | refine sA hp rfl (zb rfl) (zb rfl) (by with_reducible first | exact zY | exact zC) zq ?_ | refine sG hp rfl (zb rfl) (zb rfl) (by with_reducible first | exact zY | exact zC) zq ?_); clear hp; intro w1 hp; simp only [spl, z0a, z0b] at hp)); simp only [ze, zd, z0b, z0a]))
 obtain ⟨b1, rfl⟩ := hp.id1
 go_loopg [6] rs.length (fun k i wr => ∃ j : Nat, k + j = rs.length ∧ i = .int .i64 j ∧ Hid (∀ (i : Nat) y, i < j → rs[i]? = some y → y.c ≠ c) ∧ Hp w.heap.size w wr [⟨b, [.int .i64 0, .int .i64 0, .int .i64 0, .int .i64 0], 120, 4⟩, ⟨b1, [.int .i64 od, .slice oa os.length oc, .int .i64 nx, .int .i64 t0, .int .i64 t1, .int .i64 t2, .int .i64 t3, .slice fa fs.length fc, .slice ra rs.length rc], 50, 9⟩])
 case atStart => exact ⟨0, by omega, rfl, z0j (fun i y hi => by omega), hp⟩
 case round =>
  clear hp
  obtain ⟨j, hkj, rfl, HNO, hp⟩ := hrel
  by_cases hlt : j < rs.length
  ·obtain ⟨bq, off, rfl, hx⟩ := HR.out.elems 4 ZP (by omega) (by omega)
   have hj := List.getElem?_eq_getElem hlt
   replace hx := hx j _ hj
   have HJ := z0j hj
   clear hj
   generalize rs[j] = y at hx HJ
   have e1 : (0 : Int) ≤ (j : Int) := by omega
   have e2 : (j : Int) < (rs.length : Int) := by omega
   by_cases hyc : y.c = c
   ·have HF := z0j (zkE HJ.out hyc HNO.out)
    obtain ⟨yc, ys, ye, yv⟩ := y
    simp only [rwV] at hx hyc
    subst hyc
    have HX := z0j hx
    clear hx
    go_wp2_with (first | go_skip | ((first | ((refine zh _ rfl ?_); refine lZ hp rfl (by with_reducible first | exact Z7 | exact Z5) ?_; clear hp; intro b w1 hp) | ((refine zi _ _ rfl ?_); refine lB hp rfl (zb rfl) rfl ?_; clear hp; intro b w1 hp) | ((refine zg _ _ rfl ?_); first | refine lO hp rfl (zb rfl) Zj zq ?_ | first | refine lRO hp rfl (zb rfl) Zj (HX.out 0 _ rfl) ?_ | refine lA hp rfl (zb rfl) (by with_reducible first | exact zY | exact zC) zq ?_ | refine lR hp rfl (zb rfl) (by with_reducible first | exact zY | exact zC) HX.out ?_) | ((refine zf _ _ _ rfl ?_); (first | refine sO hp rfl (zb rfl) Zj zq ?_ | refine sA hp rfl (zb rfl) (zb rfl) (by with_reducible first | exact zY | exact zC) zq ?_ | refine sG hp rfl (zb rfl) (zb rfl) (by with_reducible first | exact zY | exact zC) zq ?_); clear hp; intro w1 hp; simp only [spl, z0a, z0b] at hp)); simp only [ze, zd, z0b, z0a]))
    refine bodyPost_ret (zx (rs := [.cell 4 120, .tmp 5]) Tryz.results159 (.cell rfl (hp.loadAgg zC at0 0 _ (by rfl) (by rfl)) (.tmp rfl .nil))) rfl ⟨?_, hp.below⟩
    rw [HF.out]; try rfl
   ·have HNE := z0j hyc
    obtain ⟨yc, ys, ye, yv⟩ := y
    simp only [rwV] at hx hyc
    have hyd : (yc == c) = false := by simpa using hyc
    have HX := z0j hx
    clear hx hyc
    go_wp2_with (first | go_skip | ((first | ((refine zh _ rfl ?_); refine lZ hp rfl (by with_reducible first | exact Z7 | exact Z5) ?_; clear hp; intro b w1 hp) | ((refine zi _ _ rfl ?_); refine lB hp rfl (zb rfl) rfl ?_; clear hp; intro b w1 hp) | ((refine zg _ _ rfl ?_); first | refine lO hp rfl (zb rfl) Zj zq ?_ | first | refine lRO hp rfl (zb rfl) Zj (HX.out 0 _ rfl) ?_ | refine lA hp rfl (zb rfl) (by with_reducible first | exact zY | exact zC) zq ?_ | refine lR hp rfl (zb rfl) (by with_reducible first | exact zY | exact zC) HX.out ?_) | ((refine zf _ _ _ rfl ?_); (first | refine sO hp rfl (zb rfl) Zj zq ?_ | refine sA hp rfl (zb rfl) (zb rfl) (by with_reducible first | exact zY | exact zC) zq ?_ | refine sG hp rfl (zb rfl) (zb rfl) (by with_reducible first | exact zY | exact zC) zq ?_); clear hp; intro w1 hp; simp only [spl, z0a, z0b] at hp)); simp only [ze, zd, z0b, z0a]))
    go_roundg (gk - 1)
    case measure => omega
    case rel =>
     refine ⟨j + 1, by omega, by go_num, z0j ?_, hp⟩
     intro i z hi hz
     rcases Nat.lt_or_ge i j with h | h
     ·exact HNO.out i z h hz
     ·obtain rfl : i = j := by omega
      rw [HJ.out] at hz
      injection hz with hz
      subst hz
      exact HNE.out
  ·have e2 : decide ((j : Int) < (rs.length : Int)) = false := by simp; omega
   have HF : Hid (zaj rs c = (⟨0, 0, 0, 0⟩, false)) := z0j (zkF (fun i y hy => HNO.out i y (by have := (List.getElem?_eq_some_iff.1 hy).1; omega) hy))
   go_wp2_with (first | go_skip | ((first | ((refine zh _ rfl ?_); refine lZ hp rfl (by with_reducible first | exact Z7 | exact Z5) ?_; clear hp; intro b w1 hp) | ((refine zi _ _ rfl ?_); refine lB hp rfl (zb rfl) rfl ?_; clear hp; intro b w1 hp) | ((refine zg _ _ rfl ?_); first | refine lO hp rfl (zb rfl) Zj zq ?_ | refine lA hp rfl (zb rfl) (by with_reducible first | exact zY | exact zC) zq ?_) | ((refine zf _ _ _ rfl ?_); (first | refine sO hp rfl (zb rfl) Zj zq ?_ | refine sA hp rfl (zb rfl) (zb rfl) (by with_reducible first | exact zY | exact zC) zq ?_ | refine sG hp rfl (zb rfl) (zb rfl) (by with_reducible first | exact zY | exact zC) zq ?_); clear hp; intro w1 hp; simp only [spl, z0a, z0b] at hp)); simp only [ze, zd, z0b, z0a]))
   refine bodyPost_ret (zx (rs := [.cell 4 120, .tmp 5]) Tryz.results159 (.cell rfl (hp.loadAgg zC at0 0 _ (by rfl) (by rfl)) (.tmp rfl .nil))) rfl ⟨?_, hp.below⟩
   rw [HF.out]; try rfl
open Go.RowKit
theorem zen {ty : TypeId} (h : zN Tryz.prog ty = true := by with_reducible first | exact zw | exact Zd | exact zat) : zN Tryz.prog ty = true := h
theorem zl5 (x : Rw) (t : Int) (w : World) : Calls Tryz.prog 123 #[.agg #[.int .i64 x.c, .int .i64 x.s, .int .i64 x.e, .int .i64 x.v], .int .i64 t] w fun e w' => e = .returned (.int .i64 (zcs x.c t)) ∧ Below w.heap.size w w' := by
 have hp := Hp.start w
 go_enter Tryz.func123, Tryz.ntmps123
 go_wp2_with (first | (go_at_call 124; (with_reducible refine (zfH _ _ _).mono ?_); rintro e w' ⟨rfl, rfl⟩) | go_skip | ((first | ((refine zh _ rfl ?_); refine lZ hp rfl Z5 ?_; clear hp; intro b w1 hp) | ((refine zi _ _ rfl ?_); refine lB hp rfl (zb rfl) rfl ?_; clear hp; intro b w1 hp) | ((refine zg _ _ rfl ?_); first | refine lO hp rfl (zb rfl) zw zq ?_ | refine lA hp rfl (zb rfl) zC zq ?_) | ((refine zf _ _ _ rfl ?_); (first | refine sO hp rfl (zb rfl) zw zq ?_ | refine sA hp rfl (zb rfl) (zb rfl) zC zq ?_ | refine sG hp rfl (zb rfl) (zb rfl) zC zq ?_); clear hp; intro w1 hp; simp only [spl, z0a, z0b] at hp)); simp only [ze, zd, z0b, z0a]))
 go_ret
 exact ⟨rfl, hp.below⟩
def AtR (l : List Rw) (t : Int) (k : Nat) : Prop := k ≤ l.length ∧ (∀ (j : Nat) y, l[j]? = some y → j < k → y.c < t) ∧ (∀ (j : Nat) y, l[j]? = some y → k ≤ j → t ≤ y.c)
def zkj (l : List Rw) : Prop := ∀ (i j : Nat) x y, i < j → l[i]? = some x → l[j]? = some y → x.c < y.c
def zb6 (l : List Rw) (t : Int) (k : Nat) : Bool := match l[k]? with
 | some y => decide (y.c = t)
 | none => false
theorem zog {l : List Rw} (hs : zkj l) (t : Int) : ∃ k, AtR l t k := by
 let P : Nat → Prop := fun k => ∀ (j : Nat) y, l[j]? = some y → k ≤ j → t ≤ y.c
 have hP : P l.length := fun j y hj hk => by have := (List.getElem?_eq_some_iff.1 hj).1; omega
 have least : ∀ m, P m → ∃ k, P k ∧ k ≤ m ∧ ∀ k', k' < k → ¬ P k' := by
  intro m
  induction m using Nat.strongRecOn with
  | _ m ih =>
   intro hm
   by_cases h : ∃ m', m' < m ∧ P m'
   ·obtain ⟨m', h1, h2⟩ := h
    obtain ⟨k, hk, hle, hno⟩ := ih m' h1 h2
    exact ⟨k, hk, by omega, hno⟩
   ·exact ⟨m, hm, Nat.le_refl _, fun k' hk' hp => h ⟨k', hk', hp⟩⟩
 obtain ⟨k, hk, hle, hno⟩ := least _ hP
 refine ⟨k, hle, fun j y hj hjk => ?_, hk⟩
 have hn := hno (k - 1) (by omega)
 obtain ⟨j0, hn⟩ := Classical.not_forall.1 hn
 obtain ⟨y0, hn⟩ := Classical.not_forall.1 hn
 obtain ⟨hy0, hn⟩ := Classical.not_forall.1 hn
 obtain ⟨hk0, hn⟩ := Classical.not_forall.1 hn
 have hj0 : j0 = k - 1 := by
  rcases Nat.lt_or_ge j0 k with h | h
  ·omega
  ·exact absurd (hk j0 y0 hy0 h) hn
 subst hj0
 rcases Nat.lt_or_ge j (k - 1) with h | h
 ·have := hs j (k - 1) y y0 h hj hy0; omega
 ·have : j = k - 1 := by omega
  subst this
  rw [hj] at hy0; injection hy0 with hy0; subst hy0; omega
theorem zok (l : List Rw) (a : Option Addr) (c : Nat) (hl : l.length ≤ 1000) (t : Int) (k : Nat) (hk : AtR l t k) (w : World) (ha : zD w a (l.flatMap rwV)) :
  Calls Tryz.prog 122 #[.slice a l.length c, .int .i64 t, .func (.func 123) #[] #[]] w fun e w' => e = .returned (.tuple #[.int .i64 k, .bool (zb6 l t k)]) ∧ Below w.heap.size w w' := by
 have hp := Hp.start w
 have HA := z0j ha
 have HK := z0j hk
 clear ha hk
 go_enter Tryz.func122, Tryz.ntmps122
 go_wp2_with (first | go_skip | ((first | ((refine zi _ _ rfl ?_); refine lB hp rfl (zb rfl) rfl ?_; clear hp; intro b w1 hp) | ((refine zg _ _ rfl ?_); first | refine lO hp rfl (zb rfl) zen zq ?_ | refine lA hp rfl (zb rfl) zC zq ?_ | refine lR hp rfl (zb rfl) zC HX.out ?_) | ((refine zf _ _ _ rfl ?_); (first | refine sO hp rfl (zb rfl) zen zq ?_ | refine sA hp rfl (zb rfl) (zb rfl) zC zq ?_ | refine sG hp rfl (zb rfl) (zb rfl) zC zq ?_); clear hp; intro w1 hp; simp only [spl, z0a, z0b] at hp)); simp only [ze, zd, z0b, z0a]) | go_skip)
 go_loopg [9, 10] l.length (fun g i j wr => ∃ x y : Nat, i = .int .i64 x ∧ j = .int .i64 y ∧ x ≤ y ∧ y ≤ l.length ∧ g + x = y ∧ Hid (x ≤ k ∧ k ≤ y) ∧ Hp w.heap.size w wr [])
 case atStart => exact ⟨0, l.length, rfl, rfl, by omega, by omega, by omega, z0j ⟨by omega, HK.out.1⟩, hp⟩
 case round =>
  clear hp
  obtain ⟨x, y, rfl, rfl, hxy, hyl, hg, HXY, hp⟩ := hrel
  by_cases hlt : x < y
  ·obtain ⟨h, hh⟩ : ∃ h, h = (x + y) / 2 := ⟨_, rfl⟩
   have hxh : x ≤ h := by omega
   have hhy : h < y := by omega
   obtain ⟨bq, off, rfl, hx⟩ := HA.out.elems 4 ZP (by omega) (by omega)
   have hj := List.getElem?_eq_getElem (l := l) (i := h) (by omega)
   replace hx := hx h _ hj
   generalize l[h]'(by omega) = z at hx hj
   have e1 : (x : Int) < (y : Int) := by omega
   have e2 : ((x : Int) + (y : Int)) / 2 = (h : Int) := by omega
   have e3 : (0 : Int) ≤ (h : Int) := by omega
   have e4 : (h : Int) < (l.length : Int) := by omega
   have HJ := z0j hj
   obtain ⟨yc, ys, ye, yv⟩ := z
   simp only [rwV] at hx
   have HX := z0j hx
   have HHH := z0j hh
   clear hx hj hh
   by_cases hc : yc < t
   ·have HCM : Hid (zcs yc t = -1) := z0j (by unfold zcs; rw [if_pos hc])
    have HC := z0j hc
    clear hc
    go_wp2_with (first | (go_at_call 123; (with_reducible refine (zl5 ⟨yc, ys, ye, yv⟩ t _).mono ?_); rintro e w1 ⟨rfl, hb⟩; replace hp := hp.call hb; clear hb; rw [HCM.out]) | go_skip | ((first | ((refine zi _ _ rfl ?_); refine lB hp rfl (zb rfl) rfl ?_; clear hp; intro b w1 hp) | ((refine zg _ _ rfl ?_); first | refine lO hp rfl (zb rfl) zen zq ?_ | refine lA hp rfl (zb rfl) zC zq ?_ | refine lR hp rfl (zb rfl) zC HX.out ?_) | ((refine zf _ _ _ rfl ?_); (first | refine sO hp rfl (zb rfl) zen zq ?_ | refine sA hp rfl (zb rfl) (zb rfl) zC zq ?_ | refine sG hp rfl (zb rfl) (zb rfl) zC zq ?_); clear hp; intro w1 hp; simp only [spl, z0a, z0b] at hp)); simp only [ze, zd, z0b, z0a]))
    go_roundg (y - (h + 1))
    case measure => have := HHH.out; omega
    case rel =>
     refine ⟨h + 1, y, by go_num, rfl, by omega, hyl, by omega, z0j ⟨?_, HXY.out.2⟩, hp⟩
     rcases Nat.lt_or_ge h k with h1 | h1
     ·omega
     ·have h2 : t ≤ yc := HK.out.2.2 h _ HJ.out h1
      have h3 := HC.out
      omega
   ·obtain ⟨cv, hcv, hc0⟩ : ∃ cv : Int, zcs yc t = cv ∧ 0 ≤ cv := by
     unfold zcs; rw [if_neg hc]
     split
     ·exact ⟨1, rfl, by omega⟩
     ·exact ⟨0, rfl, by omega⟩
    have HCM := z0j hcv
    have HC := z0j hc
    have hc1 : decide (cv < 0) = false := by simp; omega
    clear hc hcv
    go_wp2_with (first | (go_at_call 123; (with_reducible refine (zl5 ⟨yc, ys, ye, yv⟩ t _).mono ?_); rintro e w1 ⟨rfl, hb⟩; replace hp := hp.call hb; clear hb; rw [HCM.out]) | go_skip | ((first | ((refine zi _ _ rfl ?_); refine lB hp rfl (zb rfl) rfl ?_; clear hp; intro b w1 hp) | ((refine zg _ _ rfl ?_); first | refine lO hp rfl (zb rfl) zen zq ?_ | refine lA hp rfl (zb rfl) zC zq ?_ | refine lR hp rfl (zb rfl) zC HX.out ?_) | ((refine zf _ _ _ rfl ?_); (first | refine sO hp rfl (zb rfl) zen zq ?_ | refine sA hp rfl (zb rfl) (zb rfl) zC zq ?_ | refine sG hp rfl (zb rfl) (zb rfl) zC zq ?_); clear hp; intro w1 hp; simp only [spl, z0a, z0b] at hp)); simp only [ze, zd, z0b, z0a]))
    go_roundg (h - x)
    case measure => have := HHH.out; omega
    case rel =>
     refine ⟨x, h, rfl, rfl, by omega, by omega, by omega, z0j ⟨HXY.out.1, ?_⟩, hp⟩
     rcases Nat.lt_or_ge h k with h1 | h1
     ·have h2 : yc < t := HK.out.2.1 h _ HJ.out h1
      have h3 := HC.out
      omega
     ·exact h1
  ·have hxk : x = k := by have := HXY.out; omega
   have hyk : y = k := by have := HXY.out; omega
   subst hxk
   subst hyk
   have e0 : decide ((y : Int) < (y : Int)) = false := by simp
   by_cases hkl : y < l.length
   ·obtain ⟨bq, off, rfl, hx⟩ := HA.out.elems 4 ZP (by omega) (by omega)
    have hj := List.getElem?_eq_getElem hkl
    replace hx := hx y _ hj
    generalize l[y] = z at hx hj
    have e3 : (0 : Int) ≤ (y : Int) := by omega
    have e4 : (y : Int) < (l.length : Int) := by omega
    obtain ⟨yc, ys, ye, yv⟩ := z
    simp only [rwV] at hx
    have HX := z0j hx
    have hge := HK.out.2.2 y _ hj (Nat.le_refl _)
    simp only at hge
    by_cases hc : yc = t
    ·have HB : Hid (zb6 l t y = true) := z0j (by unfold zb6; rw [hj]; simp [hc])
     have HCM : Hid (zcs yc t = 0) := z0j (by unfold zcs; rw [if_neg (by omega), if_neg (by omega)])
     clear hx hj hge hc
     go_wp2_with (first | (go_at_call 123; (with_reducible refine (zl5 ⟨yc, ys, ye, yv⟩ t _).mono ?_); rintro e w1 ⟨rfl, hb⟩; replace hp := hp.call hb; clear hb; rw [HCM.out]) | go_skip | ((first | ((refine zi _ _ rfl ?_); refine lB hp rfl (zb rfl) rfl ?_; clear hp; intro b w1 hp) | ((refine zg _ _ rfl ?_); first | refine lO hp rfl (zb rfl) zen zq ?_ | refine lA hp rfl (zb rfl) zC zq ?_ | refine lR hp rfl (zb rfl) zC HX.out ?_) | ((refine zf _ _ _ rfl ?_); (first | refine sO hp rfl (zb rfl) zen zq ?_ | refine sA hp rfl (zb rfl) (zb rfl) zC zq ?_ | refine sG hp rfl (zb rfl) (zb rfl) zC zq ?_); clear hp; intro w1 hp; simp only [spl, z0a, z0b] at hp)); simp only [ze, zd, z0b, z0a]))
     go_ret2
     exact ⟨by rw [HB.out]; rfl, hp.below⟩
    ·have HB : Hid (zb6 l t y = false) := z0j (by unfold zb6; rw [hj]; simp [hc])
     have HCM : Hid (zcs yc t = 1) := z0j (by unfold zcs; rw [if_neg (by omega), if_pos (by omega)])
     clear hx hj hge hc
     go_wp2_with (first | (go_at_call 123; (with_reducible refine (zl5 ⟨yc, ys, ye, yv⟩ t _).mono ?_); rintro e w1 ⟨rfl, hb⟩; replace hp := hp.call hb; clear hb; rw [HCM.out]) | go_skip | ((first | ((refine zi _ _ rfl ?_); refine lB hp rfl (zb rfl) rfl ?_; clear hp; intro b w1 hp) | ((refine zg _ _ rfl ?_); first | refine lO hp rfl (zb rfl) zen zq ?_ | refine lA hp rfl (zb rfl) zC zq ?_ | refine lR hp rfl (zb rfl) zC HX.out ?_) | ((refine zf _ _ _ rfl ?_); (first | refine sO hp rfl (zb rfl) zen zq ?_ | refine sA hp rfl (zb rfl) (zb rfl) zC zq ?_ | refine sG hp rfl (zb rfl) (zb rfl) zC zq ?_); clear hp; intro w1 hp; simp only [spl, z0a, z0b] at hp)); simp only [ze, zd, z0b, z0a]))
     go_ret2
     exact ⟨by rw [HB.out]; rfl, hp.below⟩
   ·have e4 : decide ((y : Int) < (l.length : Int)) = false := by simp; omega
    have HB : Hid (zb6 l t y = false) := z0j (by unfold zb6; rw [List.getElem?_eq_none (by omega)])
    go_wp2_with (first | go_skip | ((first | ((refine zi _ _ rfl ?_); refine lB hp rfl (zb rfl) rfl ?_; clear hp; intro b w1 hp) | ((refine zg _ _ rfl ?_); first | refine lO hp rfl (zb rfl) zen zq ?_ | refine lA hp rfl (zb rfl) zC zq ?_ | refine lR hp rfl (zb rfl) zC HX.out ?_) | ((refine zf _ _ _ rfl ?_); (first | refine sO hp rfl (zb rfl) zen zq ?_ | refine sA hp rfl (zb rfl) (zb rfl) zC zq ?_ | refine sG hp rfl (zb rfl) (zb rfl) zC zq ?_); clear hp; intro w1 hp; simp only [spl, z0a, z0b] at hp)); simp only [ze, zd, z0b, z0a]) | go_skip)
    go_ret2
    exact ⟨by rw [HB.out]; rfl, hp.below⟩
end Go.Proofs.YtaafajaadfgaoaaGreat
