import Derived.Test.YtjcbpfbifbfkcaaGreatTq18
import Derived.Test.YtjcbpfbifbfkcaaGreatTq2
import Derived.Test.YtjcbpfbifbfkcaaGreatTq1
set_option linter.unusedSimpArgs false
set_option linter.unusedVariables false
set_option maxRecDepth 100000
set_option maxHeartbeats 60000000
namespace Go.Proofs.YtjcbpfbifbfkcaaGreat
open Go.RowKit
theorem ztb {ty : TypeId} (h : zF Tryz.prog ty = true := by with_reducible first | exact zm | exact Zt | exact ZS) : zF Tryz.prog ty = true := h
def zad (l : List Rw) (c : Int) : Rw × Bool := match l.find? (fun x => decide (x.c = c)) with
 | some x => (x, true)
 | none => (⟨0, 0, 0, 0⟩, false)
theorem zq7 {l : List Rw} {c : Int} (h : ∀ (i : Nat) y, l[i]? = some y → y.c ≠ c) : zad l c = (⟨0, 0, 0, 0⟩, false) := by
 have : l.find? (fun x => decide (x.c = c)) = none := by
  rw [List.find?_eq_none]
  intro x hx
  obtain ⟨i, hi, rfl⟩ := List.getElem_of_mem hx
  simpa using h i _ (List.getElem?_eq_getElem hi)
 unfold zad; rw [this]
theorem zrk {l : List Rw} {c : Int} {j : Nat} {x : Rw} (hj : l[j]? = some x) (hx : x.c = c) (h : ∀ (i : Nat) y, i < j → l[i]? = some y → y.c ≠ c) : zad l c = (x, true) := by
 have : l.find? (fun x => decide (x.c = c)) = some x := by
  rw [List.find?_eq_some_iff_getElem]
  obtain ⟨hlt, he⟩ := List.getElem?_eq_some_iff.1 hj
  refine ⟨by simpa using hx, j, hlt, he, fun i hi => ?_⟩
  simpa using h i _ hi (List.getElem?_eq_getElem (by omega))
 unfold zad; rw [this]
theorem zl1 (l : List Rw) (c : Int) : (∃ (j : Nat) (x : Rw), l[j]? = some x ∧ x.c = c ∧ ∀ (i : Nat) y, i < j → l[i]? = some y → y.c ≠ c) ∨ (∀ (i : Nat) y, l[i]? = some y → y.c ≠ c) := by
 cases h : l.find? (fun x => decide (x.c = c)) with
 | none =>
  rw [List.find?_eq_none] at h
  exact .inr fun i y hy => by simpa using h y (List.mem_of_getElem? hy)
 | some x =>
  rw [List.find?_eq_some_iff_getElem] at h
  obtain ⟨hx, j, hj, he, hno⟩ := h
  refine .inl ⟨j, x, by rw [List.getElem?_eq_getElem hj, he], by simpa using hx, fun i y hi hy => ?_⟩
  have := hno i hi
  rw [List.getElem?_eq_getElem (by omega)] at hy
  injection hy with hy
  subst hy
  simpa using this
theorem zqW (x : Rw) (c : Int) (b : Nat) (w : World) (hb : b < w.heap.size) (hc : w.cell? ⟨b, 0, none⟩ = some (.int .i64 c)) :
  Calls Tryz.prog 173 #[.agg #[.int .i64 x.c, .int .i64 x.s, .int .i64 x.e, .int .i64 x.v], .pointer (some ⟨b, 0, none⟩)] w fun e w' => e = .returned (.bool (x.c == c)) ∧ Below w.heap.size w w' := by
 have hp := Hp.start w
 have HC := z0j hc
 clear hc
 go_enter Tryz.func173, Tryz.ntmps173
 go_wp2_with (first | go_skip | ((first | ((refine zi _ _ rfl ?_); refine lB hp rfl (za rfl) rfl ?_; clear hp; intro b w1 hp) | ((refine ze _ _ rfl ?_); refine lO hp rfl (za rfl) zm zn ?_)); simp only [zc, zb, z0b, z0a]) | ((refine ze 3 _ rfl ?_); refine zS hp _ _ rfl (zcu rfl) _ _ (za rfl) zm _ HC.out ?_; simp only [zc, zb, z0b, z0a]))
 go_ret
 exact ⟨rfl, hp.below⟩
theorem zlF (l : List Rw) (a : Option Addr) (k : Nat) (hl : l.length ≤ 1000) (c : Int) (bc : Nat) (w : World) (ha : zr w a (l.flatMap rwV)) (hbc : bc < w.heap.size) (hcc : w.cell? ⟨bc, 0, none⟩ = some (.int .i64 c))
  (m : Nat) (x : Rw) (hm : l[m]? = some x) (hx : x.c = c) (hno : ∀ (i : Nat) y, i < m → l[i]? = some y → y.c ≠ c) :
  Calls Tryz.prog 172 #[.slice a l.length k, .func (.func 173) #[] #[.pointer (some ⟨bc, 0, none⟩)]] w fun e w' => e = .returned (.int .i64 m) ∧ Below w.heap.size w w' := by
 have hp := Hp.start w
 have HA := z0j ha
 have HC := z0j hcc
 have HNO := z0j hno
 have HM := z0j hm
 have HCX := z0j hx
 have hml : m < l.length := (List.getElem?_eq_some_iff.1 hm).1
 clear ha hcc hno hm hx
 go_enter Tryz.func172, Tryz.ntmps172
 go_wp2_with (first | go_skip | (((refine ze _ _ rfl ?_); refine lA hp rfl (za rfl) zO zn ?_); simp only [zc, zb, z0b, z0a]))
 go_loopg [8] l.length (fun k i wr => ∃ j : Nat, k + j = l.length ∧ j ≤ m ∧ i = .int .i64 j ∧ Hp w.heap.size w wr [])
 case atStart => exact ⟨0, by omega, by omega, rfl, hp⟩
 case round =>
  clear hp
  obtain ⟨j, hkj, hjm, rfl, hp⟩ := hrel
  have hlt : j < l.length := by omega
  obtain ⟨bq, off, rfl, hx⟩ := HA.out.elems 4 ZY (by omega) (by omega)
  have hj := List.getElem?_eq_getElem hlt
  replace hx := hx j _ hj
  have HJ := z0j hj
  clear hj
  generalize l[j] = y at hx HJ
  have e1 : (0 : Int) ≤ (j : Int) := by omega
  have e2 : (j : Int) < (l.length : Int) := by omega
  by_cases hje : j = m
  ·have HXC : Hid ((y.c == c) = true) := z0j (by
    have h1 := HJ.out
    rw [hje, HM.out] at h1
    injection h1 with h1
    rw [← h1, HCX.out]; simp)
   subst hje
   obtain ⟨xc, xs, xe, xv⟩ := y
   simp only [rwV] at hx HXC
   have HX := z0j hx
   clear hx
   go_wp2_with (first | (go_at_call 173; (with_reducible refine (zqW ⟨xc, xs, xe, xv⟩ c bc _ (by have := hp.below.size; omega) ((hp.below.cell (p := ⟨bc, 0, none⟩) hbc).trans HC.out)).mono ?_); rintro e w1 ⟨rfl, hb⟩; replace hp := hp.call hb; clear hb; simp only [HXC.out]) | go_skip | (((refine ze _ _ rfl ?_); first | first | refine lA hp rfl (za rfl) zO zn ?_ | refine lR hp rfl (za rfl) zO HX.out ?_); simp only [zc, zb, z0b, z0a]))
   go_ret
   exact ⟨rfl, hp.below⟩
  ·have HXC : Hid ((y.c == c) = false) := z0j (by simpa using HNO.out j y (by omega) HJ.out)
   obtain ⟨xc, xs, xe, xv⟩ := y
   simp only [rwV] at hx HXC
   have HX := z0j hx
   clear hx
   go_wp2_with (first | (go_at_call 173; (with_reducible refine (zqW ⟨xc, xs, xe, xv⟩ c bc _ (by have := hp.below.size; omega) ((hp.below.cell (p := ⟨bc, 0, none⟩) hbc).trans HC.out)).mono ?_); rintro e w1 ⟨rfl, hb⟩; replace hp := hp.call hb; clear hb; simp only [HXC.out]) | go_skip | (((refine ze _ _ rfl ?_); first | first | refine lA hp rfl (za rfl) zO zn ?_ | refine lR hp rfl (za rfl) zO HX.out ?_); simp only [zc, zb, z0b, z0a]))
   go_roundg (gk - 1)
   case measure => omega
   case rel => exact ⟨j + 1, by omega, by omega, by go_num, hp⟩
theorem zmL (l : List Rw) (a : Option Addr) (k : Nat) (hl : l.length ≤ 1000) (c : Int) (bc : Nat) (w : World) (ha : zr w a (l.flatMap rwV)) (hbc : bc < w.heap.size) (hcc : w.cell? ⟨bc, 0, none⟩ = some (.int .i64 c))
  (hno : ∀ (i : Nat) y, l[i]? = some y → y.c ≠ c) :
  Calls Tryz.prog 172 #[.slice a l.length k, .func (.func 173) #[] #[.pointer (some ⟨bc, 0, none⟩)]] w fun e w' => e = .returned (.int .i64 (-1)) ∧ Below w.heap.size w w' := by
 have hp := Hp.start w
 have HA := z0j ha
 have HC := z0j hcc
 have HNO := z0j hno
 clear ha hcc hno
 go_enter Tryz.func172, Tryz.ntmps172
 go_wp2_with (first | go_skip | (((refine ze _ _ rfl ?_); refine lA hp rfl (za rfl) zO zn ?_); simp only [zc, zb, z0b, z0a]))
 go_loopg [8] l.length (fun k i wr => ∃ j : Nat, k + j = l.length ∧ i = .int .i64 j ∧ Hp w.heap.size w wr [])
 case atStart => exact ⟨0, by omega, rfl, hp⟩
 case round =>
  clear hp
  obtain ⟨j, hkj, rfl, hp⟩ := hrel
  by_cases hlt : j < l.length
  ·obtain ⟨bq, off, rfl, hx⟩ := HA.out.elems 4 ZY (by omega) (by omega)
   have hj := List.getElem?_eq_getElem hlt
   replace hx := hx j _ hj
   have HXC : Hid ((l[j].c == c) = false) := z0j (by simpa using HNO.out j _ hj)
   clear hj
   generalize l[j] = y at hx HXC
   have e1 : (0 : Int) ≤ (j : Int) := by omega
   have e2 : (j : Int) < (l.length : Int) := by omega
   obtain ⟨xc, xs, xe, xv⟩ := y
   simp only [rwV] at hx HXC
   have HX := z0j hx
   clear hx
   go_wp2_with (first | (go_at_call 173; (with_reducible refine (zqW ⟨xc, xs, xe, xv⟩ c bc _ (by have := hp.below.size; omega) ((hp.below.cell (p := ⟨bc, 0, none⟩) hbc).trans HC.out)).mono ?_); rintro e w1 ⟨rfl, hb⟩; replace hp := hp.call hb; clear hb; simp only [HXC.out]) | go_skip | (((refine ze _ _ rfl ?_); first | first | refine lA hp rfl (za rfl) zO zn ?_ | refine lR hp rfl (za rfl) zO HX.out ?_); simp only [zc, zb, z0b, z0a]))
   go_roundg (gk - 1)
   case measure => omega
   case rel => exact ⟨j + 1, by omega, by go_num, hp⟩
  ·have e2 : decide ((j : Int) < (l.length : Int)) = false := by simp; omega
   go_wp2_with fail
   go_ret
   exact ⟨rfl, hp.below⟩
def zjY (w : World) (l : List Rw) (c : Int) (e : Ending) (w' : World) : Prop := e = .returned (.tuple #[.agg (rwV (zad l c).1).toArray, .bool (zad l c).2]) ∧ Below w.heap.size w w'
theorem zq6 (x : Sv) (hs : x.rs.length ≤ 1000) (c : Int) (w : World) (hx0 : x.Is w) : Calls Tryz.prog 108 #[.agg (svL x).toArray, .int .i64 c] w (zjY w x.rs c) := by
 obtain ⟨⟨od, oa, os, oc, nx, t0, t1, t2, t3, fa, fs, fc⟩, ra, rs, rc⟩ := x
 obtain ⟨_, hr⟩ := hx0
 simp only at hr hs
 simp only [svL, hvL, z0f, z0e]
 have HR := z0j hr
 have hp := Hp.start w
 clear hr
 rcases zl1 rs c with ⟨m, xr, hm, hxc, hno⟩ | hno
 ·have HM := z0j hm
  have HXC := z0j hxc
  have HNO := z0j hno
  have HF := z0j (zrk hm hxc hno)
  have hml : m < rs.length := (List.getElem?_eq_some_iff.1 hm).1
  obtain ⟨bq, off, rfl, hx⟩ := HR.out.elems 4 ZY (by omega) (by omega)
  replace hx := hx m _ hm
  clear hm hxc hno
  obtain ⟨yc, ys, ye, yv⟩ := xr
  simp only [rwV] at hx
  have HX := z0j hx
  clear hx
  have e1 : (0 : Int) ≤ (m : Int) := by omega
  have e2 : (m : Int) < (rs.length : Int) := by omega
  have e3 : decide ((m : Int) < 0) = false := decide_eq_false (by omega)
  have IDF := z0j (fun bc w h1 h2 h3 => zlF rs (some ⟨bq, off, none⟩) rc hs c bc w h1 h2 h3 m ⟨yc, ys, ye, yv⟩ HM.out HXC.out HNO.out)
  go_enter Tryz.func108, Tryz.ntmps108
  go_wp2_with (first | (go_at_call 172; (with_reducible refine (IDF.out _ _ (HR.out.below hp.below) (hp.lt (Hp.mem at1)).2 (hp.cell at1 rfl)).mono ?_); rintro e w1 ⟨rfl, hb⟩; replace hp := hp.call hb; clear hb) | go_skip | ((first | ((refine zf _ rfl ?_); refine lZ hp rfl (by with_reducible first | exact zN | exact Zw) ?_; clear hp; intro b w1 hp) | ((refine zi _ _ rfl ?_); refine lB hp rfl (za rfl) rfl ?_; clear hp; intro b w1 hp) | ((refine ze _ _ rfl ?_); first | refine lO hp rfl (za rfl) ZS zn ?_ | first | refine lRO hp rfl (za rfl) ZS (HX.out 0 _ rfl) ?_ | refine lA hp rfl (za rfl) zO zn ?_ | refine lR hp rfl (za rfl) zO HX.out ?_) | ((refine zd _ _ _ rfl ?_); (first | refine sA hp rfl (za rfl) (za rfl) zO zn ?_ | refine sG hp rfl (za rfl) (za rfl) zO zn ?_); clear hp; intro w1 hp; simp only [spl, z0a, z0b] at hp)); simp only [zc, zb, z0b, z0a]))
  refine bodyPost_ret (zD (rs := [.cell 4 141, .tmp 5]) Tryz.results108 (.cell rfl (hp.loadAgg zO at0 0 _ (by rfl) (by rfl)) (.tmp rfl .nil))) rfl ⟨?_, hp.below⟩
  rw [HF.out]; try rfl
 ·have HNO := z0j hno
  have HF := z0j (zq7 hno)
  clear hno
  have IDF := z0j (fun bc w h1 h2 h3 => zmL rs ra rc hs c bc w h1 h2 h3 HNO.out)
  go_enter Tryz.func108, Tryz.ntmps108
  go_wp2_with (first | (go_at_call 172; (with_reducible refine (IDF.out _ _ (HR.out.below hp.below) (hp.lt (Hp.mem at1)).2 (hp.cell at1 rfl)).mono ?_); rintro e w1 ⟨rfl, hb⟩; replace hp := hp.call hb; clear hb) | go_skip | ((first | ((refine zf _ rfl ?_); refine lZ hp rfl (by with_reducible first | exact zN | exact Zw) ?_; clear hp; intro b w1 hp) | ((refine zi _ _ rfl ?_); refine lB hp rfl (za rfl) rfl ?_; clear hp; intro b w1 hp) | ((refine ze _ _ rfl ?_); first | refine lO hp rfl (za rfl) ZS zn ?_ | refine lA hp rfl (za rfl) zO zn ?_) | ((refine zd _ _ _ rfl ?_); (first | refine sA hp rfl (za rfl) (za rfl) zO zn ?_ | refine sG hp rfl (za rfl) (za rfl) zO zn ?_); clear hp; intro w1 hp; simp only [spl, z0a, z0b] at hp)); simp only [zc, zb, z0b, z0a]))
  refine bodyPost_ret (zD (rs := [.cell 4 141, .tmp 5]) Tryz.results108 (.cell rfl (hp.loadAgg zO at0 0 _ (by rfl) (by rfl)) (.tmp rfl .nil))) rfl ⟨?_, hp.below⟩
  rw [HF.out]; try rfl
open Go.RowKit
theorem zua {ty : TypeId} (h : zF Tryz.prog ty = true := by with_reducible first | exact zm | exact Zt | exact ZS) : zF Tryz.prog ty = true := h
theorem zoa (x : Rw) (t : Int) (w : World) : Calls Tryz.prog 111 #[.agg #[.int .i64 x.c, .int .i64 x.s, .int .i64 x.e, .int .i64 x.v], .int .i64 t] w fun e w' => e = .returned (.int .i64 (zcB x.c t)) ∧ Below w.heap.size w w' := by
 have hp := Hp.start w
 go_enter Tryz.func111, Tryz.ntmps111
 go_wp2_with (first | (go_at_call 112; (with_reducible refine (zgq _ _ _).mono ?_); rintro e w' ⟨rfl, rfl⟩) | go_skip | ((first | ((refine zi _ _ rfl ?_); refine lB hp rfl (za rfl) rfl ?_; clear hp; intro b w1 hp) | ((refine ze _ _ rfl ?_); refine lO hp rfl (za rfl) zm zn ?_)); simp only [zc, zb, z0b, z0a]))
 go_ret
 exact ⟨rfl, hp.below⟩
def AtR (l : List Rw) (t : Int) (k : Nat) : Prop := k ≤ l.length ∧ (∀ (j : Nat) y, l[j]? = some y → j < k → y.c < t) ∧ (∀ (j : Nat) y, l[j]? = some y → k ≤ j → t ≤ y.c)
def znB (l : List Rw) : Prop := ∀ (i j : Nat) x y, i < j → l[i]? = some x → l[j]? = some y → x.c < y.c
def zcf (l : List Rw) (t : Int) (k : Nat) : Bool := match l[k]? with
 | some y => decide (y.c = t)
 | none => false
theorem zsG {l : List Rw} (hs : znB l) (t : Int) : ∃ k, AtR l t k := by
 let P : Nat → Prop := fun k => ∀ (j : Nat) y, l[j]? = some y → k ≤ j → t ≤ y.c
 have hP : P l.length := fun j y hj hk => by have := (List.getElem?_eq_some_iff.1 hj).1; omega
 have least : ∀ m, P m → ∃ k, P k ∧ k ≤ m ∧ ∀ k', k' < k → ¬ P k' := by
  intro m
  induction m using Nat.strongRecOn with
  | _ m ih =>
   intro hm
   by_cases h : ∃ m', m' < m ∧ P m'
   ·obtain ⟨m', h1, h2⟩ := h
    obtain ⟨k, hk, hle, hno⟩ := ih m' h1 h2
    exact ⟨k, hk, by omega, hno⟩
   ·exact ⟨m, hm, Nat.le_refl _, fun k' hk' hp => h ⟨k', hk', hp⟩⟩
 obtain ⟨k, hk, hle, hno⟩ := least _ hP
 refine ⟨k, hle, fun j y hj hjk => ?_, hk⟩
 have hn := hno (k - 1) (by omega)
 obtain ⟨j0, hn⟩ := Classical.not_forall.1 hn
 obtain ⟨y0, hn⟩ := Classical.not_forall.1 hn
 obtain ⟨hy0, hn⟩ := Classical.not_forall.1 hn
 obtain ⟨hk0, hn⟩ := Classical.not_forall.1 hn
 have hj0 : j0 = k - 1 := by
  rcases Nat.lt_or_ge j0 k with h | h
  ·omega
  ·exact absurd (hk j0 y0 hy0 h) hn
 subst hj0
 rcases Nat.lt_or_ge j (k - 1) with h | h
 ·have := hs j (k - 1) y y0 h hj hy0; omega
 ·have : j = k - 1 := by omega
  subst this
  rw [hj] at hy0; injection hy0 with hy0; subst hy0; omega
theorem zrY (l : List Rw) (a : Option Addr) (c : Nat) (hl : l.length ≤ 1000) (t : Int) (k : Nat) (hk : AtR l t k) (w : World) (ha : zr w a (l.flatMap rwV)) :
  Calls Tryz.prog 110 #[.slice a l.length c, .int .i64 t, .func (.func 111) #[] #[]] w fun e w' => e = .returned (.tuple #[.int .i64 k, .bool (zcf l t k)]) ∧ Below w.heap.size w w' := by
 have hp := Hp.start w
 have HA := z0j ha
 have HK := z0j hk
 clear ha hk
 go_enter Tryz.func110, Tryz.ntmps110
 go_wp2_with (first | go_skip | (((refine ze _ _ rfl ?_); first | refine lA hp rfl (za rfl) zO zn ?_ | refine lR hp rfl (za rfl) zO HX.out ?_); simp only [zc, zb, z0b, z0a]) | go_skip)
 go_loopg [9, 10] l.length (fun g i j wr => ∃ x y : Nat, i = .int .i64 x ∧ j = .int .i64 y ∧ x ≤ y ∧ y ≤ l.length ∧ g + x = y ∧ Hid (x ≤ k ∧ k ≤ y) ∧ Hp w.heap.size w wr [])
 case atStart => exact ⟨0, l.length, rfl, rfl, by omega, by omega, by omega, z0j ⟨by omega, HK.out.1⟩, hp⟩
 case round =>
  clear hp
  obtain ⟨x, y, rfl, rfl, hxy, hyl, hg, HXY, hp⟩ := hrel
  by_cases hlt : x < y
  ·obtain ⟨h, hh⟩ : ∃ h, h = (x + y) / 2 := ⟨_, rfl⟩
   have hxh : x ≤ h := by omega
   have hhy : h < y := by omega
   obtain ⟨bq, off, rfl, hx⟩ := HA.out.elems 4 ZY (by omega) (by omega)
   have hj := List.getElem?_eq_getElem (l := l) (i := h) (by omega)
   replace hx := hx h _ hj
   generalize l[h]'(by omega) = z at hx hj
   have e1 : (x : Int) < (y : Int) := by omega
   have e2 : ((x : Int) + (y : Int)) / 2 = (h : Int) := by omega
   have e3 : (0 : Int) ≤ (h : Int) := by omega
   have e4 : (h : Int) < (l.length : Int) := by omega
   have HJ := z0j hj
   obtain ⟨yc, ys, ye, yv⟩ := z
   simp only [rwV] at hx
   have HX := z0j hx
   have HHH := z0j hh
   clear hx hj hh
   by_cases hc : yc < t
   ·have HCM : Hid (zcB yc t = -1) := z0j (by unfold zcB; rw [if_pos hc])
    have HC := z0j hc
    clear hc
    go_wp2_with (first | (go_at_call 111; (with_reducible refine (zoa ⟨yc, ys, ye, yv⟩ t _).mono ?_); rintro e w1 ⟨rfl, hb⟩; replace hp := hp.call hb; clear hb; rw [HCM.out]) | go_skip | (((refine ze _ _ rfl ?_); first | refine lA hp rfl (za rfl) zO zn ?_ | refine lR hp rfl (za rfl) zO HX.out ?_); simp only [zc, zb, z0b, z0a]))
    go_roundg (y - (h + 1))
    case measure => have := HHH.out; omega
    case rel =>
     refine ⟨h + 1, y, by go_num, rfl, by omega, hyl, by omega, z0j ⟨?_, HXY.out.2⟩, hp⟩
     rcases Nat.lt_or_ge h k with h1 | h1
     ·omega
     ·have h2 : t ≤ yc := HK.out.2.2 h _ HJ.out h1
      have h3 := HC.out
      omega
   ·obtain ⟨cv, hcv, hc0⟩ : ∃ cv : Int, zcB yc t = cv ∧ 0 ≤ cv := by
     unfold zcB; rw [if_neg hc]
     split
     ·exact ⟨1, rfl, by omega⟩
     ·exact ⟨0, rfl, by omega⟩
    have HCM := z0j hcv
    have HC := z0j hc
    have hc1 : decide (cv < 0) = false := by simp; omega
    clear hc hcv
    go_wp2_with (first | (go_at_call 111; (with_reducible refine (zoa ⟨yc, ys, ye, yv⟩ t _).mono ?_); rintro e w1 ⟨rfl, hb⟩; replace hp := hp.call hb; clear hb; rw [HCM.out]) | go_skip | (((refine ze _ _ rfl ?_); first | refine lA hp rfl (za rfl) zO zn ?_ | refine lR hp rfl (za rfl) zO HX.out ?_); simp only [zc, zb, z0b, z0a]))
    go_roundg (h - x)
    case measure => have := HHH.out; omega
    case rel =>
     refine ⟨x, h, rfl, rfl, by omega, by omega, by omega, z0j ⟨HXY.out.1, ?_⟩, hp⟩
     rcases Nat.lt_or_ge h k with h1 | h1
     ·have h2 : yc < t := HK.out.2.1 h _ HJ.out h1
      have h3 := HC.out
      omega
     ·exact h1
  ·have hxk : x = k := by have := HXY.out; omega
   have hyk : y = k := by have := HXY.out; omega
   subst hxk
   subst hyk
   have e0 : decide ((y : Int) < (y : Int)) = false := by simp
   by_cases hkl : y < l.length
   ·obtain ⟨bq, off, rfl, hx⟩ := HA.out.elems 4 ZY (by omega) (by omega)
    have hj := List.getElem?_eq_getElem hkl
    replace hx := hx y _ hj
    generalize l[y] = z at hx hj
    have e3 : (0 : Int) ≤ (y : Int) := by omega
    have e4 : (y : Int) < (l.length : Int) := by omega
    obtain ⟨yc, ys, ye, yv⟩ := z
    simp only [rwV] at hx
    have HX := z0j hx
    have hge := HK.out.2.2 y _ hj (Nat.le_refl _)
    simp only at hge
    by_cases hc : yc = t
    ·have HB : Hid (zcf l t y = true) := z0j (by unfold zcf; rw [hj]; simp [hc])
     have HCM : Hid (zcB yc t = 0) := z0j (by unfold zcB; rw [if_neg (by omega), if_neg (by omega)])
     clear hx hj hge hc
     go_wp2_with (first | (go_at_call 111; (with_reducible refine (zoa ⟨yc, ys, ye, yv⟩ t _).mono ?_); rintro e w1 ⟨rfl, hb⟩; replace hp := hp.call hb; clear hb; rw [HCM.out]) | go_skip | (((refine ze _ _ rfl ?_); first | refine lA hp rfl (za rfl) zO zn ?_ | refine lR hp rfl (za rfl) zO HX.out ?_); simp only [zc, zb, z0b, z0a]))
     go_ret2
     exact ⟨by rw [HB.out]; rfl, hp.below⟩
    ·have HB : Hid (zcf l t y = false) := z0j (by unfold zcf; rw [hj]; simp [hc])
     have HCM : Hid (zcB yc t = 1) := z0j (by unfold zcB; rw [if_neg (by omega), if_pos (by omega)])
     clear hx hj hge hc
     go_wp2_with (first | (go_at_call 111; (with_reducible refine (zoa ⟨yc, ys, ye, yv⟩ t _).mono ?_); rintro e w1 ⟨rfl, hb⟩; replace hp := hp.call hb; clear hb; rw [HCM.out]) | go_skip | (((refine ze _ _ rfl ?_); first | refine lA hp rfl (za rfl) zO zn ?_ | refine lR hp rfl (za rfl) zO HX.out ?_); simp only [zc, zb, z0b, z0a]))
     go_ret2
     exact ⟨by rw [HB.out]; rfl, hp.below⟩
   ·have e4 : decide ((y : Int) < (l.length : Int)) = false := by simp; omega
    have HB : Hid (zcf l t y = false) := z0j (by unfold zcf; rw [List.getElem?_eq_none (by omega)])
    go_wp2_with (first | go_skip | (((refine ze _ _ rfl ?_); first | refine lA hp rfl (za rfl) zO zn ?_ | refine lR hp rfl (za rfl) zO HX.out ?_); simp only [zc, zb, z0b, z0a]) | go_skip)
    go_ret2
    exact ⟨by rw [HB.out]; rfl, hp.below⟩
def zdR (last : Int) (x : Rw) : Bool := decide (last < x.c ∧ x.c ≤ 4 ∧ 1 ≤ x.s ∧ x.s ≤ 1000000 ∧ 0 ≤ x.e ∧ x.e ≤ 65535)
def zaW : Int → List Rw → Bool
 | _, [] => true
 | last, x :: r => zdR last x && zaW x.c r
noncomputable def stB (x : Sv) : Bool := Zr x.hv && zaW 0 x.rs
def zak : List Rw → Rw → List Rw
 | [], x => [x]
 | y :: r, x => if y.c < x.c then y :: zak r x else if y.c = x.c then x :: r else x :: y :: r
def zaw (x : Sv) (c s : Int) (o : Opd) : Sv × Int × Int :=
 if s < (zad x.rs c).1.s then (x, 130, 0) else if c = 0 ∨ (zad x.rs c).1.s = s then (x, (zad x.rs c).1.e, (zad x.rs c).1.v) else
  ({ x with hv := (doC x.hv o).1, rs := zak x.rs ⟨c, s, (doC x.hv o).2.1, (doC x.hv o).2.2⟩ }, (doC x.hv o).2.1, (doC x.hv o).2.2)
theorem Zz {last : Int} {x : Rw} {r : List Rw} : zaW last (x :: r) = true ↔ zdR last x = true ∧ zaW x.c r = true := by simp [zaW]
theorem Z5 {last : Int} {x : Rw} : zdR last x = true ↔ last < x.c ∧ x.c ≤ 4 ∧ 1 ≤ x.s ∧ x.s ≤ 1000000 ∧ 0 ≤ x.e ∧ x.e ≤ 65535 := by simp [zdR]
theorem zde : ∀ {l : List Rw} {last : Int}, zaW last l = true → ∀ x ∈ l, zdR last x = true
 | [], _, _, x, hx => by cases hx
 | y :: r, last, h, x, hx => by
  obtain ⟨h1, h2⟩ := Zz.1 h
  rcases List.mem_cons.1 hx with rfl | hx
  ·exact h1
  ·have h3 := Z5.1 h1
   have h4 := Z5.1 (zde h2 x hx)
   exact Z5.2 ⟨by omega, h4.2⟩
theorem zcd : ∀ {l : List Rw} {last : Int}, zaW last l = true → last ≤ 4 → (l.length : Int) ≤ 4 - last
 | [], _, _, h => by simp; omega
 | y :: r, last, h, _ => by
  obtain ⟨h1, h2⟩ := Zz.1 h
  have h3 := Z5.1 h1
  have := zcd h2 h3.2.1
  simp only [z0g]; omega
theorem zd3 : ∀ {l : List Rw} {last : Int}, zaW last l = true → znB l
 | [], _, _, i, j, x, y, _, hx, _ => by simp at hx
 | z :: r, last, h, i, j, x, y, hij, hx, hy => by
  obtain ⟨h1, h2⟩ := Zz.1 h
  cases j with
  | zero => omega
  | succ j =>
   rw [List.getElem?_cons_succ] at hy
   cases i with
   | zero =>
    simp at hx; subst hx
    have := Z5.1 (zde h2 y (List.mem_of_getElem? hy))
    omega
   | succ i =>
    rw [List.getElem?_cons_succ] at hx
    exact zd3 h2 i j x y (by omega) hx hy
theorem zpR {x : Rw} : ∀ {l : List Rw} {last : Int}, zaW last l = true → zdR last x = true → zaW last (zak l x) = true
 | [], last, _, h => by unfold zak; exact Zz.2 ⟨h, rfl⟩
 | y :: r, last, h, hx => by
  obtain ⟨h1, h2⟩ := Zz.1 h
  have hx' := Z5.1 hx
  have h1' := Z5.1 h1
  unfold zak
  split
  ·rename_i hlt
   exact Zz.2 ⟨h1, zpR h2 (Z5.2 ⟨hlt, hx'.2⟩)⟩
  ·split
   ·rename_i heq
    exact Zz.2 ⟨hx, by rw [← heq]; exact h2⟩
   ·exact Zz.2 ⟨hx, Zz.2 ⟨Z5.2 ⟨by omega, h1'.2⟩, h2⟩⟩
theorem zbA (y : Rw) (r : List Rw) (c : Int) : zad (y :: r) c = if y.c = c then (y, true) else zad r c := by
 unfold zad
 rw [List.find?_cons]
 by_cases h : y.c = c <;> simp [h]
theorem zgS : ∀ {l : List Rw} {last : Int}, zaW last l = true → ∀ c, c ≤ last → zad l c = (⟨0, 0, 0, 0⟩, false)
 | [], _, _, c, _ => rfl
 | y :: r, last, h, c, hc => by
  obtain ⟨h1, h2⟩ := Zz.1 h
  have := Z5.1 h1
  rw [zbA, if_neg (by omega)]
  exact zgS h2 c (by omega)
theorem zeU {x : Rw} : ∀ {l : List Rw} {last : Int}, zaW last l = true → ∀ c, zad (zak l x) c = if x.c = c then (x, true) else zad l c
 | [], last, _, c => by unfold zak; rw [zbA]
 | y :: r, last, h, c => by
  obtain ⟨h1, h2⟩ := Zz.1 h
  unfold zak
  split
  ·rename_i hlt
   rw [zbA, zbA, zeU h2 c]
   by_cases hy : y.c = c
   ·rw [if_pos hy, if_pos hy, if_neg (by omega)]
   ·rw [if_neg hy, if_neg hy]
  ·split
   ·rename_i heq
    rw [zbA, zbA]
    by_cases hx : x.c = c
    ·rw [if_pos hx, if_pos hx]
    ·rw [if_neg hx, if_neg hx, if_neg (by omega)]
   ·rw [zbA]
theorem zg9 {x : Rw} : ∀ {l : List Rw} {last : Int}, zaW last l = true → ∀ {k : Nat}, AtR l x.c k → zak l x = if zcf l x.c k = true then l.set k x else l.take k ++ x :: l.drop k
 | [], _, _, k, hk => by
  obtain ⟨h1, _⟩ := hk
  have : k = 0 := by simpa using h1
  subst this
  simp [zak, zcf]
 | y :: r, last, h, k, hk => by
  obtain ⟨h1, h2⟩ := Zz.1 h
  obtain ⟨k1, k2, k3⟩ := hk
  unfold zak
  cases k with
  | zero =>
   have := k3 0 y rfl (Nat.le_refl _)
   rw [if_neg (by omega)]
   by_cases he : y.c = x.c
   ·rw [if_pos he, if_pos (by simp [zcf, he])]; rfl
   ·rw [if_neg he, if_neg (by simp [zcf, he])]; rfl
  | succ k =>
   have := k2 0 y rfl (by omega)
   rw [if_pos this]
   have hk' : AtR r x.c k := ⟨by simpa using k1, fun j z hz hj => k2 (j + 1) z (by simpa using hz) (by omega), fun j z hz hj => k3 (j + 1) z (by simpa using hz) (by omega)⟩
   rw [zg9 h2 hk']
   have hb : zcf (y :: r) x.c (k + 1) = zcf r x.c k := by simp [zcf]
   rw [hb]
   split <;> simp
theorem zog (x : Hv) (o : Opd) : 0 ≤ (doC x o).2.1 ∧ (doC x o).2.1 ≤ 54 := by
 unfold doC
 split
 ·unfold zeL
  split
  ·simp
  ·split
   ·simp
   ·split <;> simp
 ·split
  ·unfold atC
   split
   ·simp
   ·split
    ·simp
    ·split
     ·simp
     ·split
      ·simp
      ·split
       ·simp
       ·split
        ·split <;> simp
        ·simp
  ·split
   ·unfold zrM
    split
    ·simp
    ·split
     ·simp
     ·split <;> simp
   ·simp
structure StR (x : Sv) : Prop where
 hv : zQ x.hv
 rows : zaW 0 x.rs = true
theorem zdh {x : Sv} (h : stB x = true) : StR x := by
 unfold stB at h
 rw [Bool.and_eq_true] at h
 exact ⟨zcV h.1, h.2⟩
theorem zd2 {x : Sv} (h : StR x) : stB x = true := by unfold stB; rw [za7 h.hv, h.rows]; rfl
theorem StR.small {x : Sv} (h : StR x) : x.Small := ⟨h.hv.small, by have := zcd h.rows (by decide); omega⟩
theorem zea {x y : Sv} (h : x.Sm y) : stB x = stB y := by unfold stB; rw [zfg h.1, h.2]
theorem ziH {x : Sv} (hx : StR x) {c s : Int} (o : Opd) (hc : c = 0 ∨ (1 ≤ c ∧ c ≤ 4 ∧ 1 ≤ s ∧ s ≤ 1000000)) : StR (zaw x c s o).1 := by
 unfold zaw
 split
 ·exact hx
 ·split
  ·exact hx
  ·rename_i h1 h2
   have hc0 : c ≠ 0 := fun h => h2 (.inl h)
   have hcd := zog x.hv o
   refine ⟨znd hx.hv o, zpR hx.rows (Z5.2 ⟨?_, ?_, ?_, ?_, ?_, ?_⟩)⟩ <;> simp only <;> omega
theorem zmV {x y : Sv} (h : x.Sm y) (c s : Int) (o : Opd) : (zaw x c s o).2 = (zaw y c s o).2 ∧ (zaw x c s o).1.Sm (zaw y c s o).1 := by
 obtain ⟨h1, h2⟩ := h
 have hd := zpK h1 o
 unfold zaw
 rw [h2]
 split
 ·exact ⟨rfl, h1, h2⟩
 ·split
  ·exact ⟨rfl, h1, h2⟩
  ·refine ⟨by simp only; rw [hd.1], hd.2, ?_⟩
   simp only; rw [hd.1]
open Go.RowKit
theorem zfU {ty : TypeId} {k : Nat} (h : ZM Tryz.prog ty k = true := by with_reducible first | exact zy | exact zP | exact zO) : ZM Tryz.prog ty k = true := h
theorem zlX {ty : TypeId} (h : zF Tryz.prog ty = true := by with_reducible first | exact zm | exact Zt | exact ZS | exact Za) : zF Tryz.prog ty = true := h
theorem zor (last : Int) (x : Rw) : (decide (last < x.c) = false ∧ zdR last x = false) ∨ (decide (last < x.c) = true ∧ decide (x.c ≤ 4) = false ∧ zdR last x = false) ∨
  (decide (last < x.c) = true ∧ decide (x.c ≤ 4) = true ∧ decide (1 ≤ x.s) = false ∧ zdR last x = false) ∨ (decide (last < x.c) = true ∧ decide (x.c ≤ 4) = true ∧ decide (1 ≤ x.s) = true ∧ decide (x.s ≤ 1000000) = false ∧ zdR last x = false) ∨
  (decide (last < x.c) = true ∧ decide (x.c ≤ 4) = true ∧ decide (1 ≤ x.s) = true ∧ decide (x.s ≤ 1000000) = true ∧ decide (0 ≤ x.e) = false ∧ zdR last x = false) ∨
  (decide (last < x.c) = true ∧ decide (x.c ≤ 4) = true ∧ decide (1 ≤ x.s) = true ∧ decide (x.s ≤ 1000000) = true ∧ decide (0 ≤ x.e) = true ∧ decide (x.e ≤ 65535) = false ∧ zdR last x = false) ∨
  (decide (last < x.c) = true ∧ decide (x.c ≤ 4) = true ∧ decide (1 ≤ x.s) = true ∧ decide (x.s ≤ 1000000) = true ∧ decide (0 ≤ x.e) = true ∧ decide (x.e ≤ 65535) = true ∧ zdR last x = true) := by
 unfold zdR
 simp only [decide_eq_true_eq, decide_eq_false_iff_not]
 omega
def zkX (b : Bool) : Int := if b then 0 else 60
theorem zrn (x : Sv) (r : Bool) (hr : stB x = r) (hs : x.Small) (w : World) (hx0 : x.Is w) :
  Calls Tryz.prog 89 #[.agg (svL x).toArray] w fun e w' => e = .returned (.int .i64 (zkX r)) ∧ Below w.heap.size w w' := by
 obtain ⟨⟨od, oa, os, oc, nx, t0, t1, t2, t3, fa, fs, fc⟩, ra, rs, rc⟩ := x
 obtain ⟨hb, hhb⟩ : ∃ b, Zr ⟨od, oa, os, oc, nx, t0, t1, t2, t3, fa, fs, fc⟩ = b := ⟨_, rfl⟩
 have hq : (hb && zaW 0 rs) = r := by rw [← hr]; unfold stB; simp only; rw [hhb]
 obtain ⟨hi, hri⟩ := hx0
 simp only at hi hri
 simp only [svL, hvL, z0f, z0e]
 have hl : rs.length ≤ 1000 := hs.2
 have HB := z0j hhb
 have HQ := z0j hq
 have HSS : Hid (Hv.Small ⟨od, oa, os, oc, nx, t0, t1, t2, t3, fa, fs, fc⟩) := z0j hs.1
 have HIS := z0j hi
 have HR : Hid (zr w ra (rs.flatMap rwV)) := z0j hri
 have he : ((zfS hb == 0) : Bool) = hb := by cases hb <;> rfl
 have hp := Hp.start w
 clear hr hhb hq hi hri hs
 go_enter Tryz.func89, Tryz.ntmps89
 go_wp2_with (first | (go_at_call 85; (with_reducible refine (zda od oa os oc nx t0 t1 t2 t3 fa fs fc _ HB.out HSS.out _ (HIS.out.below hp.below)).mono ?_); rintro e w1 ⟨rfl, hb⟩; replace hp := hp.call hb; clear hb) | go_skip | ((first | ((refine zf _ rfl ?_); refine lZ hp rfl Zw ?_; clear hp; intro b w1 hp) | ((refine zi _ _ rfl ?_); refine lB hp rfl (za rfl) rfl ?_; clear hp; intro b w1 hp) | ((refine ze _ _ rfl ?_); first | refine lO hp rfl (za rfl) zlX zn ?_ | refine lA hp rfl (za rfl) zfU zn ?_ | refine lR hp rfl (za rfl) zfU HX.out ?_) | ((refine zd _ _ _ rfl ?_); (first | refine sA hp rfl (za rfl) (za rfl) zO zn ?_ | refine sG hp rfl (za rfl) (za rfl) zO zn ?_); clear hp; intro w1 hp; simp only [spl, z0a, z0b] at hp)); simp only [zc, zb, z0b, z0a]))
 obtain ⟨b1, rfl⟩ := hp.id0
 go_loopg [3, 4, 14] rs.length (fun k o l i wr => ∃ (q : Nat) (ok : Bool) (last : Int) (L : List Blk), k + q = rs.length ∧ o = .bool ok ∧ l = .int .i64 last ∧ i = .int .i64 q ∧ Hid ((ok && zaW last (rs.drop q)) = r) ∧ Hp w.heap.size w wr L)
 case atStart => exact ⟨0, hb, 0, _, by omega, by first | rfl | (rw [he]), rfl, rfl, z0j (by simpa using HQ.out), hp⟩
 case round =>
  clear hp
  obtain ⟨q, ok, last, L, hkq, rfl, rfl, rfl, HI, hp⟩ := hrel
  by_cases hlt : q < rs.length
  ·obtain ⟨bq, off, rfl, hx⟩ := HR.out.elems 4 ZY (by omega) (by omega)
   have hj := List.getElem?_eq_getElem hlt
   replace hx := hx q _ hj
   have hdrop := List.drop_eq_getElem_cons hlt
   have hin := HI.out
   rw [hdrop] at hin
   clear hj hdrop HI
   generalize rs[q] = x at hx hin
   have hw := zor last x
   obtain ⟨yc, ys, ye, yv⟩ := x
   simp only [rwV] at hx
   simp only [zaW] at hin
   simp only at hw
   have HX := z0j hx
   have HIN := z0j hin
   have e1 : (0 : Int) ≤ (q : Int) := by omega
   have e2 : (q : Int) < (rs.length : Int) := by omega
   clear hx hin
   cases ok with
   | false =>
    clear hw
    go_wp2_with (first | go_skip | ((first | ((refine zf _ rfl ?_); refine lZ hp rfl Zw ?_; clear hp; intro b w1 hp) | ((refine zi _ _ rfl ?_); refine lB hp rfl (za rfl) rfl ?_; clear hp; intro b w1 hp) | ((refine ze _ _ rfl ?_); first | refine lO hp rfl (za rfl) zlX zn ?_ | refine lA hp rfl (za rfl) zfU zn ?_ | refine lR hp rfl (za rfl) zfU HX.out ?_) | ((refine zd _ _ _ rfl ?_); (first | refine sA hp rfl (za rfl) (za rfl) zO zn ?_ | refine sG hp rfl (za rfl) (za rfl) zO zn ?_); clear hp; intro w1 hp; simp only [spl, z0a, z0b] at hp)); simp only [zc, zb, z0b, z0a]))
    go_roundg (gk - 1)
    case measure => omega
    case rel => exact ⟨q + 1, false, yc, _, by omega, rfl, rfl, by go_num, z0j (by simpa using HIN.out), hp⟩
   | true =>
    rcases hw with ⟨d1, g⟩ | ⟨d1, d2, g⟩ | ⟨d1, d2, d3, g⟩ | ⟨d1, d2, d3, d4, g⟩ | ⟨d1, d2, d3, d4, d5, g⟩ | ⟨d1, d2, d3, d4, d5, d6, g⟩ | ⟨d1, d2, d3, d4, d5, d6, g⟩
    all_goals
     have HG := z0j g
     clear g
     go_wp2_with (first | go_skip | ((first | ((refine zf _ rfl ?_); refine lZ hp rfl Zw ?_; clear hp; intro b w1 hp) | ((refine zi _ _ rfl ?_); refine lB hp rfl (za rfl) rfl ?_; clear hp; intro b w1 hp) | ((refine ze _ _ rfl ?_); first | refine lO hp rfl (za rfl) zlX zn ?_ | refine lA hp rfl (za rfl) zfU zn ?_ | refine lR hp rfl (za rfl) zfU HX.out ?_) | ((refine zd _ _ _ rfl ?_); (first | refine sA hp rfl (za rfl) (za rfl) zO zn ?_ | refine sG hp rfl (za rfl) (za rfl) zO zn ?_); clear hp; intro w1 hp; simp only [spl, z0a, z0b] at hp)); simp only [zc, zb, z0b, z0a]))
     go_roundg (gk - 1)
     case measure => omega
     case rel => exact ⟨q + 1, _, yc, _, by omega, rfl, rfl, by go_num, z0j (by have h := HIN.out; rw [HG.out] at h; simpa using h), hp⟩
  ·have e2 : decide ((q : Int) < (rs.length : Int)) = false := by simp; omega
   have hr : ok = r := by have h := HI.out; rw [List.drop_eq_nil_of_le (by omega)] at h; simpa [zaW] using h
   subst hr
   clear HI HQ
   cases ok with
   | true =>
    go_wp2_with (first | go_skip | ((first | ((refine zf _ rfl ?_); refine lZ hp rfl Zw ?_; clear hp; intro b w1 hp) | ((refine zi _ _ rfl ?_); refine lB hp rfl (za rfl) rfl ?_; clear hp; intro b w1 hp) | ((refine ze _ _ rfl ?_); first | refine lO hp rfl (za rfl) zlX zn ?_ | refine lA hp rfl (za rfl) zfU zn ?_ | refine lR hp rfl (za rfl) zfU HX.out ?_) | ((refine zd _ _ _ rfl ?_); (first | refine sA hp rfl (za rfl) (za rfl) zO zn ?_ | refine sG hp rfl (za rfl) (za rfl) zO zn ?_); clear hp; intro w1 hp; simp only [spl, z0a, z0b] at hp)); simp only [zc, zb, z0b, z0a]))
    go_ret
    exact ⟨rfl, hp.below⟩
   | false =>
    go_wp2_with (first | go_skip | ((first | ((refine zf _ rfl ?_); refine lZ hp rfl Zw ?_; clear hp; intro b w1 hp) | ((refine zi _ _ rfl ?_); refine lB hp rfl (za rfl) rfl ?_; clear hp; intro b w1 hp) | ((refine ze _ _ rfl ?_); first | refine lO hp rfl (za rfl) zlX zn ?_ | refine lA hp rfl (za rfl) zfU zn ?_ | refine lR hp rfl (za rfl) zfU HX.out ?_) | ((refine zd _ _ _ rfl ?_); (first | refine sA hp rfl (za rfl) (za rfl) zO zn ?_ | refine sG hp rfl (za rfl) (za rfl) zO zn ?_); clear hp; intro w1 hp; simp only [spl, z0a, z0b] at hp)); simp only [zc, zb, z0b, z0a]))
    go_ret
    exact ⟨rfl, hp.below⟩
theorem zaZ (od : Int) (oa : Option Addr) (os : List Ob) (oc : Nat) (nx t0 t1 t2 t3 : Int) (fa : Option Addr) (fs : List Bl) (fc : Nat) (ra : Option Addr) (rs : List Rw) (rc : Nat) (r : Bool) (hr : stB ⟨⟨od, oa, os, oc, nx, t0, t1, t2, t3, fa, fs, fc⟩, ra, rs, rc⟩ = r)
  (hs : Sv.Small ⟨⟨od, oa, os, oc, nx, t0, t1, t2, t3, fa, fs, fc⟩, ra, rs, rc⟩) (w : World) (h : Sv.Is w ⟨⟨od, oa, os, oc, nx, t0, t1, t2, t3, fa, fs, fc⟩, ra, rs, rc⟩) :
  Calls Tryz.prog 89 #[.agg #[.int .i64 od, .slice oa os.length oc, .int .i64 nx, .int .i64 t0, .int .i64 t1, .int .i64 t2, .int .i64 t3, .slice fa fs.length fc, .slice ra rs.length rc]] w fun e w' => e = .returned (.int .i64 (zkX r)) ∧ Below w.heap.size w w' := zrn _ r hr hs w h
end Go.Proofs.YtjcbpfbifbfkcaaGreat
