import Derived.Test.YtaafajaadfgaoaaGreatCx19
import Derived.Test.YtaafajaadfgaoaaGreatCx2
import Derived.Test.YtaafajaadfgaoaaGreatCx1
set_option linter.unusedSimpArgs false
set_option linter.unusedVariables false
set_option maxRecDepth 100000
set_option maxHeartbeats 60000000
namespace Go.Proofs.YtaafajaadfgaoaaGreat
open Go.RowKit
theorem zt8 {ty : TypeId} (h : zy Tryz.prog ty = true := by with_reducible first | exact zr | exact Ze | exact zaC) : zy Tryz.prog ty = true := h
def zdk (l : List Rw) (c : Int) : Rw × Bool := match l.find? (fun x => decide (x.c = c)) with
 | some x => (x, true)
 | none => (⟨0, 0, 0, 0⟩, false)
theorem zrp {l : List Rw} {c : Int} (h : ∀ (i : Nat) y, l[i]? = some y → y.c ≠ c) : zdk l c = (⟨0, 0, 0, 0⟩, false) := by
 have : l.find? (fun x => decide (x.c = c)) = none := by
  rw [List.find?_eq_none]
  intro x hx
  obtain ⟨i, hi, rfl⟩ := List.getElem_of_mem hx
  simpa using h i _ (List.getElem?_eq_getElem hi)
 unfold zdk; rw [this]
theorem zro {l : List Rw} {c : Int} {j : Nat} {x : Rw} (hj : l[j]? = some x) (hx : x.c = c) (h : ∀ (i : Nat) y, i < j → l[i]? = some y → y.c ≠ c) : zdk l c = (x, true) := by
 have : l.find? (fun x => decide (x.c = c)) = some x := by
  rw [List.find?_eq_some_iff_getElem]
  obtain ⟨hlt, he⟩ := List.getElem?_eq_some_iff.1 hj
  refine ⟨by simpa using hx, j, hlt, he, fun i hi => ?_⟩
  simpa using h i _ hi (List.getElem?_eq_getElem (by omega))
 unfold zdk; rw [this]
theorem zmJ (l : List Rw) (c : Int) : (∃ (j : Nat) (x : Rw), l[j]? = some x ∧ x.c = c ∧ ∀ (i : Nat) y, i < j → l[i]? = some y → y.c ≠ c) ∨ (∀ (i : Nat) y, l[i]? = some y → y.c ≠ c) := by
 cases h : l.find? (fun x => decide (x.c = c)) with
 | none =>
  rw [List.find?_eq_none] at h
  exact .inr fun i y hy => by simpa using h y (List.mem_of_getElem? hy)
 | some x =>
  rw [List.find?_eq_some_iff_getElem] at h
  obtain ⟨hx, j, hj, he, hno⟩ := h
  refine .inl ⟨j, x, by rw [List.getElem?_eq_getElem hj, he], by simpa using hx, fun i y hi hy => ?_⟩
  have := hno i hi
  rw [List.getElem?_eq_getElem (by omega)] at hy
  injection hy with hy
  subst hy
  simpa using this
theorem zrm (x : Rw) (c : Int) (b : Nat) (w : World) (hb : b < w.heap.size) (hc : w.cell? ⟨b, 0, none⟩ = some (.int .i64 c)) :
  Calls Tryz.prog 188 #[.agg #[.int .i64 x.c, .int .i64 x.s, .int .i64 x.e, .int .i64 x.v], .pointer (some ⟨b, 0, none⟩)] w fun e w' => e = .returned (.bool (x.c == c)) ∧ Below w.heap.size w w' := by
 have hp := Hp.start w
 have HC := z0j hc
 clear hc
 go_enter Tryz.func188, Tryz.ntmps188
 go_wp2_with (first | go_skip | ((first | ((refine zk _ _ rfl ?_); refine lB hp rfl (za rfl) rfl ?_; clear hp; intro b w1 hp) | ((refine zd _ _ rfl ?_); refine lO hp rfl (za rfl) zr zK ?_)); simp only [zc, zb, z0b, z0a]) | ((refine zd 3 _ rfl ?_); refine zN hp _ _ rfl (zco rfl) _ _ (za rfl) zr _ HC.out ?_; simp only [zc, zb, z0b, z0a]))
 go_ret
 exact ⟨rfl, hp.below⟩
theorem zll (l : List Rw) (a : Option Addr) (k : Nat) (hl : l.length ≤ 1000) (c : Int) (bc : Nat) (w : World) (ha : zm w a (l.flatMap rwV)) (hbc : bc < w.heap.size) (hcc : w.cell? ⟨bc, 0, none⟩ = some (.int .i64 c))
  (m : Nat) (x : Rw) (hm : l[m]? = some x) (hx : x.c = c) (hno : ∀ (i : Nat) y, i < m → l[i]? = some y → y.c ≠ c) :
  Calls Tryz.prog 187 #[.slice a l.length k, .func (.func 188) #[] #[.pointer (some ⟨bc, 0, none⟩)]] w fun e w' => e = .returned (.int .i64 m) ∧ Below w.heap.size w w' := by
 have hp := Hp.start w
 have HA := z0j ha
 have HC := z0j hcc
 have HNO := z0j hno
 have HM := z0j hm
 have HCX := z0j hx
 have hml : m < l.length := (List.getElem?_eq_some_iff.1 hm).1
 clear ha hcc hno hm hx
 go_enter Tryz.func187, Tryz.ntmps187
 go_wp2_with (first | go_skip | (((refine zd _ _ rfl ?_); refine lA hp rfl (za rfl) zV zK ?_); simp only [zc, zb, z0b, z0a]))
 go_loopg [8] l.length (fun k i wr => ∃ j : Nat, k + j = l.length ∧ j ≤ m ∧ i = .int .i64 j ∧ Hp w.heap.size w wr [])
 case atStart => exact ⟨0, by omega, by omega, rfl, hp⟩
 case round =>
  clear hp
  obtain ⟨j, hkj, hjm, rfl, hp⟩ := hrel
  have hlt : j < l.length := by omega
  obtain ⟨bq, off, rfl, hx⟩ := HA.out.elems 4 ZL (by omega) (by omega)
  have hj := List.getElem?_eq_getElem hlt
  replace hx := hx j _ hj
  have HJ := z0j hj
  clear hj
  generalize l[j] = y at hx HJ
  have e1 : (0 : Int) ≤ (j : Int) := by omega
  have e2 : (j : Int) < (l.length : Int) := by omega
  by_cases hje : j = m
  ·have HXC : Hid ((y.c == c) = true) := z0j (by
    have h1 := HJ.out
    rw [hje, HM.out] at h1
    injection h1 with h1
    rw [← h1, HCX.out]; simp)
   subst hje
   obtain ⟨xc, xs, xe, xv⟩ := y
   simp only [rwV] at hx HXC
   have HX := z0j hx
   clear hx
   go_wp2_with (first | (go_at_call 188; (with_reducible refine (zrm ⟨xc, xs, xe, xv⟩ c bc _ (by have := hp.below.size; omega) ((hp.below.cell (p := ⟨bc, 0, none⟩) hbc).trans HC.out)).mono ?_); rintro e w1 ⟨rfl, hb⟩; replace hp := hp.call hb; clear hb; simp only [HXC.out]) | go_skip | (((refine zd _ _ rfl ?_); first | first | refine lA hp rfl (za rfl) zV zK ?_ | refine lR hp rfl (za rfl) zV HX.out ?_); simp only [zc, zb, z0b, z0a]))
   go_ret
   exact ⟨rfl, hp.below⟩
  ·have HXC : Hid ((y.c == c) = false) := z0j (by simpa using HNO.out j y (by omega) HJ.out)
   obtain ⟨xc, xs, xe, xv⟩ := y
   simp only [rwV] at hx HXC
   have HX := z0j hx
   clear hx
   go_wp2_with (first | (go_at_call 188; (with_reducible refine (zrm ⟨xc, xs, xe, xv⟩ c bc _ (by have := hp.below.size; omega) ((hp.below.cell (p := ⟨bc, 0, none⟩) hbc).trans HC.out)).mono ?_); rintro e w1 ⟨rfl, hb⟩; replace hp := hp.call hb; clear hb; simp only [HXC.out]) | go_skip | (((refine zd _ _ rfl ?_); first | first | refine lA hp rfl (za rfl) zV zK ?_ | refine lR hp rfl (za rfl) zV HX.out ?_); simp only [zc, zb, z0b, z0a]))
   go_roundg (gk - 1)
   case measure => omega
   case rel => exact ⟨j + 1, by omega, by omega, by go_num, hp⟩
theorem zm3 (l : List Rw) (a : Option Addr) (k : Nat) (hl : l.length ≤ 1000) (c : Int) (bc : Nat) (w : World) (ha : zm w a (l.flatMap rwV)) (hbc : bc < w.heap.size) (hcc : w.cell? ⟨bc, 0, none⟩ = some (.int .i64 c))
  (hno : ∀ (i : Nat) y, l[i]? = some y → y.c ≠ c) :
  Calls Tryz.prog 187 #[.slice a l.length k, .func (.func 188) #[] #[.pointer (some ⟨bc, 0, none⟩)]] w fun e w' => e = .returned (.int .i64 (-1)) ∧ Below w.heap.size w w' := by
 have hp := Hp.start w
 have HA := z0j ha
 have HC := z0j hcc
 have HNO := z0j hno
 clear ha hcc hno
 go_enter Tryz.func187, Tryz.ntmps187
 go_wp2_with (first | go_skip | (((refine zd _ _ rfl ?_); refine lA hp rfl (za rfl) zV zK ?_); simp only [zc, zb, z0b, z0a]))
 go_loopg [8] l.length (fun k i wr => ∃ j : Nat, k + j = l.length ∧ i = .int .i64 j ∧ Hp w.heap.size w wr [])
 case atStart => exact ⟨0, by omega, rfl, hp⟩
 case round =>
  clear hp
  obtain ⟨j, hkj, rfl, hp⟩ := hrel
  by_cases hlt : j < l.length
  ·obtain ⟨bq, off, rfl, hx⟩ := HA.out.elems 4 ZL (by omega) (by omega)
   have hj := List.getElem?_eq_getElem hlt
   replace hx := hx j _ hj
   have HXC : Hid ((l[j].c == c) = false) := z0j (by simpa using HNO.out j _ hj)
   clear hj
   generalize l[j] = y at hx HXC
   have e1 : (0 : Int) ≤ (j : Int) := by omega
   have e2 : (j : Int) < (l.length : Int) := by omega
   obtain ⟨xc, xs, xe, xv⟩ := y
   simp only [rwV] at hx HXC
   have HX := z0j hx
   clear hx
   go_wp2_with (first | (go_at_call 188; (with_reducible refine (zrm ⟨xc, xs, xe, xv⟩ c bc _ (by have := hp.below.size; omega) ((hp.below.cell (p := ⟨bc, 0, none⟩) hbc).trans HC.out)).mono ?_); rintro e w1 ⟨rfl, hb⟩; replace hp := hp.call hb; clear hb; simp only [HXC.out]) | go_skip | (((refine zd _ _ rfl ?_); first | first | refine lA hp rfl (za rfl) zV zK ?_ | refine lR hp rfl (za rfl) zV HX.out ?_); simp only [zc, zb, z0b, z0a]))
   go_roundg (gk - 1)
   case measure => omega
   case rel => exact ⟨j + 1, by omega, by go_num, hp⟩
  ·have e2 : decide ((j : Int) < (l.length : Int)) = false := by simp; omega
   go_wp2_with fail
   go_ret
   exact ⟨rfl, hp.below⟩
def zjM (w : World) (l : List Rw) (c : Int) (e : Ending) (w' : World) : Prop := e = .returned (.tuple #[.agg (rwV (zdk l c).1).toArray, .bool (zdk l c).2]) ∧ Below w.heap.size w w'
theorem zrn (x : Sv) (hs : x.rs.length ≤ 1000) (c : Int) (w : World) (hx0 : x.Is w) : Calls Tryz.prog 120 #[.agg (svL x).toArray, .int .i64 c] w (zjM w x.rs c) := by
 obtain ⟨⟨od, oa, os, oc, nx, t0, t1, t2, t3, fa, fs, fc⟩, ra, rs, rc⟩ := x
 obtain ⟨_, hr⟩ := hx0
 simp only at hr hs
 simp only [svL, hvL, z0f, z0e]
 have HR := z0j hr
 have hp := Hp.start w
 clear hr
 rcases zmJ rs c with ⟨m, xr, hm, hxc, hno⟩ | hno
 ·have HM := z0j hm
  have HXC := z0j hxc
  have HNO := z0j hno
  have HF := z0j (zro hm hxc hno)
  have hml : m < rs.length := (List.getElem?_eq_some_iff.1 hm).1
  obtain ⟨bq, off, rfl, hx⟩ := HR.out.elems 4 ZL (by omega) (by omega)
  replace hx := hx m _ hm
  clear hm hxc hno
  obtain ⟨yc, ys, ye, yv⟩ := xr
  simp only [rwV] at hx
  have HX := z0j hx
  clear hx
  have e1 : (0 : Int) ≤ (m : Int) := by omega
  have e2 : (m : Int) < (rs.length : Int) := by omega
  have e3 : decide ((m : Int) < 0) = false := decide_eq_false (by omega)
  have IDF := z0j (fun bc w h1 h2 h3 => zll rs (some ⟨bq, off, none⟩) rc hs c bc w h1 h2 h3 m ⟨yc, ys, ye, yv⟩ HM.out HXC.out HNO.out)
  go_enter Tryz.func120, Tryz.ntmps120
  go_wp2_with (first | (go_at_call 187; (with_reducible refine (IDF.out _ _ (HR.out.below hp.below) (hp.lt (Hp.mem at1)).2 (hp.cell at1 rfl)).mono ?_); rintro e w1 ⟨rfl, hb⟩; replace hp := hp.call hb; clear hb) | go_skip | ((first | ((refine zi _ rfl ?_); refine lZ hp rfl (by with_reducible first | exact Zt | exact zaY) ?_; clear hp; intro b w1 hp) | ((refine zk _ _ rfl ?_); refine lB hp rfl (za rfl) rfl ?_; clear hp; intro b w1 hp) | ((refine zd _ _ rfl ?_); first | refine lO hp rfl (za rfl) zaC zK ?_ | first | refine lRO hp rfl (za rfl) zaC (HX.out 0 _ rfl) ?_ | refine lA hp rfl (za rfl) zV zK ?_ | refine lR hp rfl (za rfl) zV HX.out ?_) | ((refine zg _ _ _ rfl ?_); (first | refine sA hp rfl (za rfl) (za rfl) zV zK ?_ | refine sG hp rfl (za rfl) (za rfl) zV zK ?_); clear hp; intro w1 hp; simp only [spl, z0a, z0b] at hp)); simp only [zc, zb, z0b, z0a]))
  refine bodyPost_ret (zx (rs := [.cell 4 120, .tmp 5]) Tryz.results120 (.cell rfl (hp.loadAgg zV at0 0 _ (by rfl) (by rfl)) (.tmp rfl .nil))) rfl ⟨?_, hp.below⟩
  rw [HF.out]; try rfl
 ·have HNO := z0j hno
  have HF := z0j (zrp hno)
  clear hno
  have IDF := z0j (fun bc w h1 h2 h3 => zm3 rs ra rc hs c bc w h1 h2 h3 HNO.out)
  go_enter Tryz.func120, Tryz.ntmps120
  go_wp2_with (first | (go_at_call 187; (with_reducible refine (IDF.out _ _ (HR.out.below hp.below) (hp.lt (Hp.mem at1)).2 (hp.cell at1 rfl)).mono ?_); rintro e w1 ⟨rfl, hb⟩; replace hp := hp.call hb; clear hb) | go_skip | ((first | ((refine zi _ rfl ?_); refine lZ hp rfl (by with_reducible first | exact Zt | exact zaY) ?_; clear hp; intro b w1 hp) | ((refine zk _ _ rfl ?_); refine lB hp rfl (za rfl) rfl ?_; clear hp; intro b w1 hp) | ((refine zd _ _ rfl ?_); first | refine lO hp rfl (za rfl) zaC zK ?_ | refine lA hp rfl (za rfl) zV zK ?_) | ((refine zg _ _ _ rfl ?_); (first | refine sA hp rfl (za rfl) (za rfl) zV zK ?_ | refine sG hp rfl (za rfl) (za rfl) zV zK ?_); clear hp; intro w1 hp; simp only [spl, z0a, z0b] at hp)); simp only [zc, zb, z0b, z0a]))
  refine bodyPost_ret (zx (rs := [.cell 4 120, .tmp 5]) Tryz.results120 (.cell rfl (hp.loadAgg zV at0 0 _ (by rfl) (by rfl)) (.tmp rfl .nil))) rfl ⟨?_, hp.below⟩
  rw [HF.out]; try rfl
open Go.RowKit
theorem zve {ty : TypeId} (h : zy Tryz.prog ty = true := by with_reducible first | exact zr | exact Ze | exact zaC) : zy Tryz.prog ty = true := h
theorem zo7 (x : Rw) (t : Int) (w : World) : Calls Tryz.prog 123 #[.agg #[.int .i64 x.c, .int .i64 x.s, .int .i64 x.e, .int .i64 x.v], .int .i64 t] w fun e w' => e = .returned (.int .i64 (zcs x.c t)) ∧ Below w.heap.size w w' := by
 have hp := Hp.start w
 go_enter Tryz.func123, Tryz.ntmps123
 go_wp2_with (first | (go_at_call 124; (with_reducible refine (zf8 _ _ _).mono ?_); rintro e w' ⟨rfl, rfl⟩) | ((first | ((refine zk _ _ rfl ?_); refine lB hp rfl (za rfl) rfl ?_; clear hp; intro b w1 hp) | ((refine zd _ _ rfl ?_); first | refine lO hp rfl (za rfl) zr zK ?_)); simp only [zc, zb, z0b, z0a]))
 go_ret
 exact ⟨rfl, hp.below⟩
def AtR (l : List Rw) (t : Int) (k : Nat) : Prop := k ≤ l.length ∧ (∀ (j : Nat) y, l[j]? = some y → j < k → y.c < t) ∧ (∀ (j : Nat) y, l[j]? = some y → k ≤ j → t ≤ y.c)
def zmb (l : List Rw) : Prop := ∀ (i j : Nat) x y, i < j → l[i]? = some x → l[j]? = some y → x.c < y.c
def zb2 (l : List Rw) (t : Int) (k : Nat) : Bool := match l[k]? with
 | some y => decide (y.c = t)
 | none => false
theorem zsR {l : List Rw} (hs : zmb l) (t : Int) : ∃ k, AtR l t k := by
 let P : Nat → Prop := fun k => ∀ (j : Nat) y, l[j]? = some y → k ≤ j → t ≤ y.c
 have hP : P l.length := fun j y hj hk => by have := (List.getElem?_eq_some_iff.1 hj).1; omega
 have least : ∀ m, P m → ∃ k, P k ∧ k ≤ m ∧ ∀ k', k' < k → ¬ P k' := by
  intro m
  induction m using Nat.strongRecOn with
  | _ m ih =>
   intro hm
   by_cases h : ∃ m', m' < m ∧ P m'
   ·obtain ⟨m', h1, h2⟩ := h
    obtain ⟨k, hk, hle, hno⟩ := ih m' h1 h2
    exact ⟨k, hk, by omega, hno⟩
   ·exact ⟨m, hm, Nat.le_refl _, fun k' hk' hp => h ⟨k', hk', hp⟩⟩
 obtain ⟨k, hk, hle, hno⟩ := least _ hP
 refine ⟨k, hle, fun j y hj hjk => ?_, hk⟩
 have hn := hno (k - 1) (by omega)
 obtain ⟨j0, hn⟩ := Classical.not_forall.1 hn
 obtain ⟨y0, hn⟩ := Classical.not_forall.1 hn
 obtain ⟨hy0, hn⟩ := Classical.not_forall.1 hn
 obtain ⟨hk0, hn⟩ := Classical.not_forall.1 hn
 have hj0 : j0 = k - 1 := by
  rcases Nat.lt_or_ge j0 k with h | h
  ·omega
  ·exact absurd (hk j0 y0 hy0 h) hn
 subst hj0
 rcases Nat.lt_or_ge j (k - 1) with h | h
 ·have := hs j (k - 1) y y0 h hj hy0; omega
 ·have : j = k - 1 := by omega
  subst this
  rw [hj] at hy0; injection hy0 with hy0; subst hy0; omega
theorem zsV (l : List Rw) (a : Option Addr) (c : Nat) (hl : l.length ≤ 1000) (t : Int) (k : Nat) (hk : AtR l t k) (w : World) (ha : zm w a (l.flatMap rwV)) :
  Calls Tryz.prog 122 #[.slice a l.length c, .int .i64 t, .func (.func 123) #[] #[]] w fun e w' => e = .returned (.tuple #[.int .i64 k, .bool (zb2 l t k)]) ∧ Below w.heap.size w w' := by
 have hp := Hp.start w
 have HA := z0j ha
 have HK := z0j hk
 clear ha hk
 go_enter Tryz.func122, Tryz.ntmps122
 go_wp2_with (first | fail)
 go_loopg [9, 10] l.length (fun g i j wr => ∃ x y : Nat, i = .int .i64 x ∧ j = .int .i64 y ∧ x ≤ y ∧ y ≤ l.length ∧ g + x = y ∧ Hid (x ≤ k ∧ k ≤ y) ∧ Hp w.heap.size w wr [])
 case atStart => exact ⟨0, l.length, rfl, rfl, by omega, by omega, by omega, z0j ⟨by omega, HK.out.1⟩, hp⟩
 case round =>
  clear hp
  obtain ⟨x, y, rfl, rfl, hxy, hyl, hg, HXY, hp⟩ := hrel
  by_cases hlt : x < y
  ·obtain ⟨h, hh⟩ : ∃ h, h = (x + y) / 2 := ⟨_, rfl⟩
   have hxh : x ≤ h := by omega
   have hhy : h < y := by omega
   obtain ⟨bq, off, rfl, hx⟩ := HA.out.elems 4 ZL (by omega) (by omega)
   have hj := List.getElem?_eq_getElem (l := l) (i := h) (by omega)
   replace hx := hx h _ hj
   generalize l[h]'(by omega) = z at hx hj
   have e1 : (x : Int) < (y : Int) := by omega
   have e2 : ((x : Int) + (y : Int)) / 2 = (h : Int) := by omega
   have e3 : (0 : Int) ≤ (h : Int) := by omega
   have e4 : (h : Int) < (l.length : Int) := by omega
   have HJ := z0j hj
   obtain ⟨yc, ys, ye, yv⟩ := z
   simp only [rwV] at hx
   have HX := z0j hx
   have HHH := z0j hh
   clear hx hj hh
   by_cases hc : yc < t
   ·have HCM : Hid (zcs yc t = -1) := z0j (by unfold zcs; rw [if_pos hc])
    have HC := z0j hc
    clear hc
    go_wp2_with (first | (go_at_call 123; (with_reducible refine (zo7 ⟨yc, ys, ye, yv⟩ t _).mono ?_); rintro e w1 ⟨rfl, hb⟩; replace hp := hp.call hb; clear hb; rw [HCM.out]) | ((first | ((refine zd _ _ rfl ?_); first | refine lR hp rfl (za rfl) zV HX.out ?_)); simp only [zc, zb, z0b, z0a]))
    go_roundg (y - (h + 1))
    case measure => have := HHH.out; omega
    case rel =>
     refine ⟨h + 1, y, by go_num, rfl, by omega, hyl, by omega, z0j ⟨?_, HXY.out.2⟩, hp⟩
     rcases Nat.lt_or_ge h k with h1 | h1
     ·omega
     ·have h2 : t ≤ yc := HK.out.2.2 h _ HJ.out h1
      have h3 := HC.out
      omega
   ·obtain ⟨cv, hcv, hc0⟩ : ∃ cv : Int, zcs yc t = cv ∧ 0 ≤ cv := by
     unfold zcs; rw [if_neg hc]
     split
     ·exact ⟨1, rfl, by omega⟩
     ·exact ⟨0, rfl, by omega⟩
    have HCM := z0j hcv
    have HC := z0j hc
    have hc1 : decide (cv < 0) = false := by simp; omega
    clear hc hcv
    go_wp2_with (first | (go_at_call 123; (with_reducible refine (zo7 ⟨yc, ys, ye, yv⟩ t _).mono ?_); rintro e w1 ⟨rfl, hb⟩; replace hp := hp.call hb; clear hb; rw [HCM.out]) | ((first | ((refine zd _ _ rfl ?_); first | refine lR hp rfl (za rfl) zV HX.out ?_)); simp only [zc, zb, z0b, z0a]))
    go_roundg (h - x)
    case measure => have := HHH.out; omega
    case rel =>
     refine ⟨x, h, rfl, rfl, by omega, by omega, by omega, z0j ⟨HXY.out.1, ?_⟩, hp⟩
     rcases Nat.lt_or_ge h k with h1 | h1
     ·have h2 : yc < t := HK.out.2.1 h _ HJ.out h1
      have h3 := HC.out
      omega
     ·exact h1
  ·have hxk : x = k := by have := HXY.out; omega
   have hyk : y = k := by have := HXY.out; omega
   subst hxk
   subst hyk
   have e0 : decide ((y : Int) < (y : Int)) = false := by simp
   by_cases hkl : y < l.length
   ·obtain ⟨bq, off, rfl, hx⟩ := HA.out.elems 4 ZL (by omega) (by omega)
    have hj := List.getElem?_eq_getElem hkl
    replace hx := hx y _ hj
    generalize l[y] = z at hx hj
    have e3 : (0 : Int) ≤ (y : Int) := by omega
    have e4 : (y : Int) < (l.length : Int) := by omega
    obtain ⟨yc, ys, ye, yv⟩ := z
    simp only [rwV] at hx
    have HX := z0j hx
    have hge := HK.out.2.2 y _ hj (Nat.le_refl _)
    simp only at hge
    by_cases hc : yc = t
    ·have HB : Hid (zb2 l t y = true) := z0j (by unfold zb2; rw [hj]; simp [hc])
     have HCM : Hid (zcs yc t = 0) := z0j (by unfold zcs; rw [if_neg (by omega), if_neg (by omega)])
     clear hx hj hge hc
     go_wp2_with (first | (go_at_call 123; (with_reducible refine (zo7 ⟨yc, ys, ye, yv⟩ t _).mono ?_); rintro e w1 ⟨rfl, hb⟩; replace hp := hp.call hb; clear hb; rw [HCM.out]) | ((first | ((refine zd _ _ rfl ?_); first | refine lR hp rfl (za rfl) zV HX.out ?_)); simp only [zc, zb, z0b, z0a]))
     go_ret2
     exact ⟨by rw [HB.out]; rfl, hp.below⟩
    ·have HB : Hid (zb2 l t y = false) := z0j (by unfold zb2; rw [hj]; simp [hc])
     have HCM : Hid (zcs yc t = 1) := z0j (by unfold zcs; rw [if_neg (by omega), if_pos (by omega)])
     clear hx hj hge hc
     go_wp2_with (first | (go_at_call 123; (with_reducible refine (zo7 ⟨yc, ys, ye, yv⟩ t _).mono ?_); rintro e w1 ⟨rfl, hb⟩; replace hp := hp.call hb; clear hb; rw [HCM.out]) | ((first | ((refine zd _ _ rfl ?_); first | refine lR hp rfl (za rfl) zV HX.out ?_)); simp only [zc, zb, z0b, z0a]))
     go_ret2
     exact ⟨by rw [HB.out]; rfl, hp.below⟩
   ·have e4 : decide ((y : Int) < (l.length : Int)) = false := by simp; omega
    have HB : Hid (zb2 l t y = false) := z0j (by unfold zb2; rw [List.getElem?_eq_none (by omega)])
    go_wp2_with (first | fail)
    go_ret2
    exact ⟨by rw [HB.out]; rfl, hp.below⟩
def zbR (last : Int) (x : Rw) : Bool := decide (last < x.c ∧ x.c ≤ 4 ∧ 1 ≤ x.s ∧ x.s ≤ 1000000 ∧ 0 ≤ x.e ∧ x.e ≤ 65535)
def ZG : Int → List Rw → Bool
 | _, [] => true
 | last, x :: r => zbR last x && ZG x.c r
noncomputable def stB (x : Sv) : Bool := zY x.hv && ZG 0 x.rs
def zal : List Rw → Rw → List Rw
 | [], x => [x]
 | y :: r, x => if y.c < x.c then y :: zal r x else if y.c = x.c then x :: r else x :: y :: r
def zcq (x : Sv) (c s : Int) (o : Opd) : Sv × Int × Int :=
 if s < (zdk x.rs c).1.s then (x, 130, 0) else if c = 0 ∨ (zdk x.rs c).1.s = s then (x, (zdk x.rs c).1.e, (zdk x.rs c).1.v) else
  ({ x with hv := (doC x.hv o).1, rs := zal x.rs ⟨c, s, (doC x.hv o).2.1, (doC x.hv o).2.2⟩ }, (doC x.hv o).2.1, (doC x.hv o).2.2)
theorem ZV {last : Int} {x : Rw} {r : List Rw} : ZG last (x :: r) = true ↔ zbR last x = true ∧ ZG x.c r = true := by simp [ZG]
theorem ZF {last : Int} {x : Rw} : zbR last x = true ↔ last < x.c ∧ x.c ≤ 4 ∧ 1 ≤ x.s ∧ x.s ≤ 1000000 ∧ 0 ≤ x.e ∧ x.e ≤ 65535 := by simp [zbR]
theorem zca : ∀ {l : List Rw} {last : Int}, ZG last l = true → ∀ x ∈ l, zbR last x = true
 | [], _, _, x, hx => by cases hx
 | y :: r, last, h, x, hx => by
  obtain ⟨h1, h2⟩ := ZV.1 h
  rcases List.mem_cons.1 hx with rfl | hx
  ·exact h1
  ·have h3 := ZF.1 h1
   have h4 := ZF.1 (zca h2 x hx)
   exact ZF.2 ⟨by omega, h4.2⟩
theorem zbj : ∀ {l : List Rw} {last : Int}, ZG last l = true → last ≤ 4 → (l.length : Int) ≤ 4 - last
 | [], _, _, h => by simp; omega
 | y :: r, last, h, _ => by
  obtain ⟨h1, h2⟩ := ZV.1 h
  have h3 := ZF.1 h1
  have := zbj h2 h3.2.1
  simp only [z0g]; omega
theorem zdQ : ∀ {l : List Rw} {last : Int}, ZG last l = true → zmb l
 | [], _, _, i, j, x, y, _, hx, _ => by simp at hx
 | z :: r, last, h, i, j, x, y, hij, hx, hy => by
  obtain ⟨h1, h2⟩ := ZV.1 h
  cases j with
  | zero => omega
  | succ j =>
   rw [List.getElem?_cons_succ] at hy
   cases i with
   | zero =>
    simp at hx; subst hx
    have := ZF.1 (zca h2 y (List.mem_of_getElem? hy))
    omega
   | succ i =>
    rw [List.getElem?_cons_succ] at hx
    exact zdQ h2 i j x y (by omega) hx hy
theorem zqU {x : Rw} : ∀ {l : List Rw} {last : Int}, ZG last l = true → zbR last x = true → ZG last (zal l x) = true
 | [], last, _, h => by unfold zal; exact ZV.2 ⟨h, rfl⟩
 | y :: r, last, h, hx => by
  obtain ⟨h1, h2⟩ := ZV.1 h
  have hx' := ZF.1 hx
  have h1' := ZF.1 h1
  unfold zal
  split
  ·rename_i hlt
   exact ZV.2 ⟨h1, zqU h2 (ZF.2 ⟨hlt, hx'.2⟩)⟩
  ·split
   ·rename_i heq
    exact ZV.2 ⟨hx, by rw [← heq]; exact h2⟩
   ·exact ZV.2 ⟨hx, ZV.2 ⟨ZF.2 ⟨by omega, h1'.2⟩, h2⟩⟩
theorem zg2 {x : Rw} : ∀ {l : List Rw} {last : Int}, ZG last l = true → ∀ {k : Nat}, AtR l x.c k → zal l x = if zb2 l x.c k = true then l.set k x else l.take k ++ x :: l.drop k
 | [], _, _, k, hk => by
  obtain ⟨h1, _⟩ := hk
  have : k = 0 := by simpa using h1
  subst this
  simp [zal, zb2]
 | y :: r, last, h, k, hk => by
  obtain ⟨h1, h2⟩ := ZV.1 h
  obtain ⟨k1, k2, k3⟩ := hk
  unfold zal
  cases k with
  | zero =>
   have := k3 0 y rfl (Nat.le_refl _)
   rw [if_neg (by omega)]
   by_cases he : y.c = x.c
   ·rw [if_pos he, if_pos (by simp [zb2, he])]; rfl
   ·rw [if_neg he, if_neg (by simp [zb2, he])]; rfl
  | succ k =>
   have := k2 0 y rfl (by omega)
   rw [if_pos this]
   have hk' : AtR r x.c k := ⟨by simpa using k1, fun j z hz hj => k2 (j + 1) z (by simpa using hz) (by omega), fun j z hz hj => k3 (j + 1) z (by simpa using hz) (by omega)⟩
   rw [zg2 h2 hk']
   have hb : zb2 (y :: r) x.c (k + 1) = zb2 r x.c k := by simp [zb2]
   rw [hb]
   split <;> simp
theorem zoZ (x : Hv) (o : Opd) : 0 ≤ (doC x o).2.1 ∧ (doC x o).2.1 ≤ 54 := by
 unfold doC
 split
 ·unfold zdA
  split
  ·simp
  ·split
   ·simp
   ·split <;> simp
 ·split
  ·unfold atC
   split
   ·simp
   ·split
    ·simp
    ·split
     ·simp
     ·split
      ·simp
      ·split
       ·simp
       ·split
        ·split <;> simp
        ·simp
  ·split
   ·unfold zsv
    split
    ·simp
    ·split
     ·simp
     ·split <;> simp
   ·simp
structure StR (x : Sv) : Prop where
 hv : zJ x.hv
 rows : ZG 0 x.rs = true
theorem zfz {x : Sv} (h : stB x = true) : StR x := by
 unfold stB at h
 rw [Bool.and_eq_true] at h
 exact ⟨zb4 h.1, h.2⟩
theorem zkx {x : Sv} (h : StR x) : stB x = true := by unfold stB; rw [zag h.hv, h.rows]; rfl
theorem StR.small {x : Sv} (h : StR x) : x.Small := ⟨h.hv.small, by have := zbj h.rows (by decide); omega⟩
theorem zio {x y : Sv} (h : x.Sm y) : stB x = stB y := by unfold stB; rw [zfh h.1, h.2]
theorem ziL {x : Sv} (hx : StR x) {c s : Int} (o : Opd) (hc : c = 0 ∨ (1 ≤ c ∧ c ≤ 4 ∧ 1 ≤ s ∧ s ≤ 1000000)) : StR (zcq x c s o).1 := by
 unfold zcq
 split
 ·exact hx
 ·split
  ·exact hx
  ·rename_i h1 h2
   have hc0 : c ≠ 0 := fun h => h2 (.inl h)
   have hcd := zoZ x.hv o
   refine ⟨zmB hx.hv o, zqU hx.rows (ZF.2 ⟨?_, ?_, ?_, ?_, ?_, ?_⟩)⟩ <;> simp only <;> omega
theorem zme {x y : Sv} (h : x.Sm y) (c s : Int) (o : Opd) : (zcq x c s o).2 = (zcq y c s o).2 ∧ (zcq x c s o).1.Sm (zcq y c s o).1 := by
 obtain ⟨h1, h2⟩ := h
 have hd := zqv h1 o
 unfold zcq
 rw [h2]
 split
 ·exact ⟨rfl, h1, h2⟩
 ·split
  ·exact ⟨rfl, h1, h2⟩
  ·refine ⟨by simp only; rw [hd.1], hd.2, ?_⟩
   simp only; rw [hd.1]
end Go.Proofs.YtaafajaadfgaoaaGreat
