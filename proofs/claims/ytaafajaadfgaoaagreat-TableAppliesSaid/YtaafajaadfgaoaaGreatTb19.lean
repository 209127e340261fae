import Derived.Test.YtaafajaadfgaoaaGreatTb17
import Derived.Test.YtaafajaadfgaoaaGreatTb18
import Derived.Test.YtaafajaadfgaoaaGreatTb8
import Derived.Test.YtaafajaadfgaoaaGreatTb2
import Derived.Test.YtaafajaadfgaoaaGreatTb3
import Derived.Test.YtaafajaadfgaoaaGreatTb6
import Derived.Test.YtaafajaadfgaoaaGreatTb9
import Derived.Test.YtaafajaadfgaoaaGreatTb1
set_option linter.unusedSimpArgs false
set_option linter.unusedVariables false
set_option maxRecDepth 100000
set_option maxHeartbeats 60000000
namespace Go.Proofs.YtaafajaadfgaoaaGreat
def zbW (last : Int) (x : Rw) : Bool := decide (last < x.c ∧ x.c ≤ 4 ∧ 1 ≤ x.s ∧ x.s ≤ 1000000 ∧ 0 ≤ x.e ∧ x.e ≤ 65535)
def Zz : Int → List Rw → Bool
 | _, [] => true
 | last, x :: r => zbW last x && Zz x.c r
noncomputable def stB (x : Sv) : Bool := Zv x.hv && Zz 0 x.rs
def ZV : List Rw → Rw → List Rw
 | [], x => [x]
 | y :: r, x => if y.c < x.c then y :: ZV r x else if y.c = x.c then x :: r else x :: y :: r
def Zg (x : Sv) (c s : Int) (o : Opd) : Sv × Int × Int :=
 if s < (zaj x.rs c).1.s then (x, 130, 0) else if c = 0 ∨ (zaj x.rs c).1.s = s then (x, (zaj x.rs c).1.e, (zaj x.rs c).1.v) else
  ({ x with hv := (doC x.hv o).1, rs := ZV x.rs ⟨c, s, (doC x.hv o).2.1, (doC x.hv o).2.2⟩ }, (doC x.hv o).2.1, (doC x.hv o).2.2)
theorem Zn {last : Int} {x : Rw} {r : List Rw} : Zz last (x :: r) = true ↔ zbW last x = true ∧ Zz x.c r = true := by simp [Zz]
theorem ZI {last : Int} {x : Rw} : zbW last x = true ↔ last < x.c ∧ x.c ≤ 4 ∧ 1 ≤ x.s ∧ x.s ≤ 1000000 ∧ 0 ≤ x.e ∧ x.e ≤ 65535 := by simp [zbW]
theorem zfX : ∀ {l : List Rw} {last : Int}, Zz last l = true → ∀ x ∈ l, zbW last x = true
 | [], _, _, x, hx => by cases hx
 | y :: r, last, h, x, hx => by
  obtain ⟨h1, h2⟩ := Zn.1 h
  rcases List.mem_cons.1 hx with rfl | hx
  ·exact h1
  ·have h3 := ZI.1 h1
   have h4 := ZI.1 (zfX h2 x hx)
   exact ZI.2 ⟨by omega, h4.2⟩
theorem zbt : ∀ {l : List Rw} {last : Int}, Zz last l = true → last ≤ 4 → (l.length : Int) ≤ 4 - last
 | [], _, _, h => by simp; omega
 | y :: r, last, h, _ => by
  obtain ⟨h1, h2⟩ := Zn.1 h
  have h3 := ZI.1 h1
  have := zbt h2 h3.2.1
  simp only [z0g]; omega
theorem zdO : ∀ {l : List Rw} {last : Int}, Zz last l = true → zkj l
 | [], _, _, i, j, x, y, _, hx, _ => by simp at hx
 | z :: r, last, h, i, j, x, y, hij, hx, hy => by
  obtain ⟨h1, h2⟩ := Zn.1 h
  cases j with
  | zero => omega
  | succ j =>
   rw [List.getElem?_cons_succ] at hy
   cases i with
   | zero =>
    simp at hx; subst hx
    have := ZI.1 (zfX h2 y (List.mem_of_getElem? hy))
    omega
   | succ i =>
    rw [List.getElem?_cons_succ] at hx
    exact zdO h2 i j x y (by omega) hx hy
theorem zmX {x : Rw} : ∀ {l : List Rw} {last : Int}, Zz last l = true → zbW last x = true → Zz last (ZV l x) = true
 | [], last, _, h => by unfold ZV; exact Zn.2 ⟨h, rfl⟩
 | y :: r, last, h, hx => by
  obtain ⟨h1, h2⟩ := Zn.1 h
  have hx' := ZI.1 hx
  have h1' := ZI.1 h1
  unfold ZV
  split
  ·rename_i hlt
   exact Zn.2 ⟨h1, zmX h2 (ZI.2 ⟨hlt, hx'.2⟩)⟩
  ·split
   ·rename_i heq
    exact Zn.2 ⟨hx, by rw [← heq]; exact h2⟩
   ·exact Zn.2 ⟨hx, Zn.2 ⟨ZI.2 ⟨by omega, h1'.2⟩, h2⟩⟩
theorem zbx (y : Rw) (r : List Rw) (c : Int) : zaj (y :: r) c = if y.c = c then (y, true) else zaj r c := by
 unfold zaj
 rw [List.find?_cons]
 by_cases h : y.c = c <;> simp [h]
theorem ziW : ∀ {l : List Rw} {last : Int}, Zz last l = true → ∀ c, c ≤ last → zaj l c = (⟨0, 0, 0, 0⟩, false)
 | [], _, _, c, _ => rfl
 | y :: r, last, h, c, hc => by
  obtain ⟨h1, h2⟩ := Zn.1 h
  have := ZI.1 h1
  rw [zbx, if_neg (by omega)]
  exact ziW h2 c (by omega)
theorem ziX {x : Rw} : ∀ {l : List Rw} {last : Int}, Zz last l = true → ∀ c, zaj (ZV l x) c = if x.c = c then (x, true) else zaj l c
 | [], last, _, c => by unfold ZV; rw [zbx]
 | y :: r, last, h, c => by
  obtain ⟨h1, h2⟩ := Zn.1 h
  unfold ZV
  split
  ·rename_i hlt
   rw [zbx, zbx, ziX h2 c]
   by_cases hy : y.c = c
   ·rw [if_pos hy, if_pos hy, if_neg (by omega)]
   ·rw [if_neg hy, if_neg hy]
  ·split
   ·rename_i heq
    rw [zbx, zbx]
    by_cases hx : x.c = c
    ·rw [if_pos hx, if_pos hx]
    ·rw [if_neg hx, if_neg hx, if_neg (by omega)]
   ·rw [zbx]
theorem zgy {x : Rw} : ∀ {l : List Rw} {last : Int}, Zz last l = true → ∀ {k : Nat}, AtR l x.c k → ZV l x = if zb6 l x.c k = true then l.set k x else l.take k ++ x :: l.drop k
 | [], _, _, k, hk => by
  obtain ⟨h1, _⟩ := hk
  have : k = 0 := by simpa using h1
  subst this
  simp [ZV, zb6]
 | y :: r, last, h, k, hk => by
  obtain ⟨h1, h2⟩ := Zn.1 h
  obtain ⟨k1, k2, k3⟩ := hk
  unfold ZV
  cases k with
  | zero =>
   have := k3 0 y rfl (Nat.le_refl _)
   rw [if_neg (by omega)]
   by_cases he : y.c = x.c
   ·rw [if_pos he, if_pos (by simp [zb6, he])]; rfl
   ·rw [if_neg he, if_neg (by simp [zb6, he])]; rfl
  | succ k =>
   have := k2 0 y rfl (by omega)
   rw [if_pos this]
   have hk' : AtR r x.c k := ⟨by simpa using k1, fun j z hz hj => k2 (j + 1) z (by simpa using hz) (by omega), fun j z hz hj => k3 (j + 1) z (by simpa using hz) (by omega)⟩
   rw [zgy h2 hk']
   have hb : zb6 (y :: r) x.c (k + 1) = zb6 r x.c k := by simp [zb6]
   rw [hb]
   split <;> simp
theorem zlY (x : Hv) (o : Opd) : 0 ≤ (doC x o).2.1 ∧ (doC x o).2.1 ≤ 54 := by
 unfold doC
 split
 ·unfold zbm
  split
  ·simp
  ·split
   ·simp
   ·split <;> simp
 ·split
  ·unfold atC
   split
   ·simp
   ·split
    ·simp
    ·split
     ·simp
     ·split
      ·simp
      ·split
       ·simp
       ·split
        ·split <;> simp
        ·simp
  ·split
   ·unfold zj8
    split
    ·simp
    ·split
     ·simp
     ·split <;> simp
   ·simp
structure StR (x : Sv) : Prop where
 hv : zQ x.hv
 rows : Zz 0 x.rs = true
theorem zfb {x : Sv} (h : stB x = true) : StR x := by
 unfold stB at h
 rw [Bool.and_eq_true] at h
 exact ⟨zeY h.1, h.2⟩
theorem zm0 {x : Sv} (h : StR x) : stB x = true := by unfold stB; rw [zbs h.hv, h.rows]; rfl
theorem StR.small {x : Sv} (h : StR x) : x.Small := ⟨h.hv.small, by have := zbt h.rows (by decide); omega⟩
theorem zmZ {x y : Sv} (h : x.Sm y) : stB x = stB y := by unfold stB; rw [zkM h.1, h.2]
theorem zdj {x : Sv} (hx : StR x) {c s : Int} (o : Opd) (hc : c = 0 ∨ (1 ≤ c ∧ c ≤ 4 ∧ 1 ≤ s ∧ s ≤ 1000000)) : StR (Zg x c s o).1 := by
 unfold Zg
 split
 ·exact hx
 ·split
  ·exact hx
  ·rename_i h1 h2
   have hc0 : c ≠ 0 := fun h => h2 (.inl h)
   have hcd := zlY x.hv o
   refine ⟨zkz hx.hv o, zmX hx.rows (ZI.2 ⟨?_, ?_, ?_, ?_, ?_, ?_⟩)⟩ <;> simp only <;> omega
theorem zkm {x y : Sv} (h : x.Sm y) (c s : Int) (o : Opd) : (Zg x c s o).2 = (Zg y c s o).2 ∧ (Zg x c s o).1.Sm (Zg y c s o).1 := by
 obtain ⟨h1, h2⟩ := h
 have hd := zfM h1 o
 unfold Zg
 rw [h2]
 split
 ·exact ⟨rfl, h1, h2⟩
 ·split
  ·exact ⟨rfl, h1, h2⟩
  ·refine ⟨by simp only; rw [hd.1], hd.2, ?_⟩
   simp only; rw [hd.1]
open Go.RowKit
theorem zb5 {ty : TypeId} {k : Nat} (h : zac Tryz.prog ty k = true := by with_reducible first | exact zY | exact zL | exact zC) : zac Tryz.prog ty k = true := h
theorem zfr {ty : TypeId} (h : zN Tryz.prog ty = true := by with_reducible first | exact zw | exact Zd | exact zat | exact zaa) : zN Tryz.prog ty = true := h
theorem zmv (last : Int) (x : Rw) : (decide (last < x.c) = false ∧ zbW last x = false) ∨ (decide (last < x.c) = true ∧ decide (x.c ≤ 4) = false ∧ zbW last x = false) ∨
  (decide (last < x.c) = true ∧ decide (x.c ≤ 4) = true ∧ decide (1 ≤ x.s) = false ∧ zbW last x = false) ∨ (decide (last < x.c) = true ∧ decide (x.c ≤ 4) = true ∧ decide (1 ≤ x.s) = true ∧ decide (x.s ≤ 1000000) = false ∧ zbW last x = false) ∨
  (decide (last < x.c) = true ∧ decide (x.c ≤ 4) = true ∧ decide (1 ≤ x.s) = true ∧ decide (x.s ≤ 1000000) = true ∧ decide (0 ≤ x.e) = false ∧ zbW last x = false) ∨
  (decide (last < x.c) = true ∧ decide (x.c ≤ 4) = true ∧ decide (1 ≤ x.s) = true ∧ decide (x.s ≤ 1000000) = true ∧ decide (0 ≤ x.e) = true ∧ decide (x.e ≤ 65535) = false ∧ zbW last x = false) ∨
  (decide (last < x.c) = true ∧ decide (x.c ≤ 4) = true ∧ decide (1 ≤ x.s) = true ∧ decide (x.s ≤ 1000000) = true ∧ decide (0 ≤ x.e) = true ∧ decide (x.e ≤ 65535) = true ∧ zbW last x = true) := by
 unfold zbW
 simp only [decide_eq_true_eq, decide_eq_false_iff_not]
 omega
def zno (b : Bool) : Int := if b then 0 else 60
theorem znf (x : Sv) (r : Bool) (hr : stB x = r) (hs : x.Small) (w : World) (hx0 : x.Is w) :
  Calls Tryz.prog 35 #[.agg (svL x).toArray] w fun e w' => e = .returned (.int .i64 (zno r)) ∧ Below w.heap.size w w' := by
 obtain ⟨⟨od, oa, os, oc, nx, t0, t1, t2, t3, fa, fs, fc⟩, ra, rs, rc⟩ := x
 obtain ⟨hb, hhb⟩ : ∃ b, Zv ⟨od, oa, os, oc, nx, t0, t1, t2, t3, fa, fs, fc⟩ = b := ⟨_, rfl⟩
 have hq : (hb && Zz 0 rs) = r := by rw [← hr]; unfold stB; simp only; rw [hhb]
 obtain ⟨hi, hri⟩ := hx0
 simp only at hi hri
 simp only [svL, hvL, z0f, z0e]
 have hl : rs.length ≤ 1000 := hs.2
 have HB := z0j hhb
 have HQ := z0j hq
 have HSS : Hid (Hv.Small ⟨od, oa, os, oc, nx, t0, t1, t2, t3, fa, fs, fc⟩) := z0j hs.1
 have HIS := z0j hi
 have HR : Hid (zD w ra (rs.flatMap rwV)) := z0j hri
 have he : ((zgL hb == 0) : Bool) = hb := by cases hb <;> rfl
 have hp := Hp.start w
 clear hr hhb hq hi hri hs
 go_enter Tryz.func35, Tryz.ntmps35
 go_wp2_with (first | (go_at_call 74; (with_reducible refine (zgg od oa os oc nx t0 t1 t2 t3 fa fs fc _ HB.out HSS.out _ (HIS.out.below hp.below)).mono ?_); rintro e w1 ⟨rfl, hb⟩; replace hp := hp.call hb; clear hb) | go_skip | ((first | ((refine zh _ rfl ?_); refine lZ hp rfl Z5 ?_; clear hp; intro b w1 hp) | ((refine zi _ _ rfl ?_); refine lB hp rfl (zb rfl) rfl ?_; clear hp; intro b w1 hp) | ((refine zg _ _ rfl ?_); first | refine lO hp rfl (zb rfl) zfr zq ?_ | refine lA hp rfl (zb rfl) zb5 zq ?_ | refine lR hp rfl (zb rfl) zb5 HX.out ?_) | ((refine zf _ _ _ rfl ?_); (first | refine sO hp rfl (zb rfl) zfr zq ?_ | refine sA hp rfl (zb rfl) (zb rfl) zb5 zq ?_ | refine sG hp rfl (zb rfl) (zb rfl) zb5 zq ?_); clear hp; intro w1 hp; simp only [spl, z0a, z0b] at hp)); simp only [ze, zd, z0b, z0a]))
 obtain ⟨b1, rfl⟩ := hp.id0
 go_loopg [3, 4, 14] rs.length (fun k o l i wr => ∃ (q : Nat) (ok : Bool) (last : Int) (L : List Blk), k + q = rs.length ∧ o = .bool ok ∧ l = .int .i64 last ∧ i = .int .i64 q ∧ Hid ((ok && Zz last (rs.drop q)) = r) ∧ Hp w.heap.size w wr L)
 case atStart => exact ⟨0, hb, 0, _, by omega, by first | rfl | (rw [he]), rfl, rfl, z0j (by simpa using HQ.out), hp⟩
 case round =>
  clear hp
  obtain ⟨q, ok, last, L, hkq, rfl, rfl, rfl, HI, hp⟩ := hrel
  by_cases hlt : q < rs.length
  ·obtain ⟨bq, off, rfl, hx⟩ := HR.out.elems 4 ZP (by omega) (by omega)
   have hj := List.getElem?_eq_getElem hlt
   replace hx := hx q _ hj
   have hdrop := List.drop_eq_getElem_cons hlt
   have hin := HI.out
   rw [hdrop] at hin
   clear hj hdrop HI
   generalize rs[q] = x at hx hin
   have hw := zmv last x
   obtain ⟨yc, ys, ye, yv⟩ := x
   simp only [rwV] at hx
   simp only [Zz] at hin
   simp only at hw
   have HX := z0j hx
   have HIN := z0j hin
   have e1 : (0 : Int) ≤ (q : Int) := by omega
   have e2 : (q : Int) < (rs.length : Int) := by omega
   clear hx hin
   cases ok with
   | false =>
    clear hw
    go_wp2_with (first | go_skip | ((first | ((refine zh _ rfl ?_); refine lZ hp rfl Z5 ?_; clear hp; intro b w1 hp) | ((refine zi _ _ rfl ?_); refine lB hp rfl (zb rfl) rfl ?_; clear hp; intro b w1 hp) | ((refine zg _ _ rfl ?_); first | refine lO hp rfl (zb rfl) zfr zq ?_ | refine lA hp rfl (zb rfl) zb5 zq ?_ | refine lR hp rfl (zb rfl) zb5 HX.out ?_) | ((refine zf _ _ _ rfl ?_); (first | refine sO hp rfl (zb rfl) zfr zq ?_ | refine sA hp rfl (zb rfl) (zb rfl) zb5 zq ?_ | refine sG hp rfl (zb rfl) (zb rfl) zb5 zq ?_); clear hp; intro w1 hp; simp only [spl, z0a, z0b] at hp)); simp only [ze, zd, z0b, z0a]))
    go_roundg (gk - 1)
    case measure => omega
    case rel => exact ⟨q + 1, false, yc, _, by omega, rfl, rfl, by go_num, z0j (by simpa using HIN.out), hp⟩
   | true =>
    rcases hw with ⟨d1, g⟩ | ⟨d1, d2, g⟩ | ⟨d1, d2, d3, g⟩ | ⟨d1, d2, d3, d4, g⟩ | ⟨d1, d2, d3, d4, d5, g⟩ | ⟨d1, d2, d3, d4, d5, d6, g⟩ | ⟨d1, d2, d3, d4, d5, d6, g⟩
    all_goals
     have HG := z0j g
     clear g
     go_wp2_with (first | go_skip | ((first | ((refine zh _ rfl ?_); refine lZ hp rfl Z5 ?_; clear hp; intro b w1 hp) | ((refine zi _ _ rfl ?_); refine lB hp rfl (zb rfl) rfl ?_; clear hp; intro b w1 hp) | ((refine zg _ _ rfl ?_); first | refine lO hp rfl (zb rfl) zfr zq ?_ | refine lA hp rfl (zb rfl) zb5 zq ?_ | refine lR hp rfl (zb rfl) zb5 HX.out ?_) | ((refine zf _ _ _ rfl ?_); (first | refine sO hp rfl (zb rfl) zfr zq ?_ | refine sA hp rfl (zb rfl) (zb rfl) zb5 zq ?_ | refine sG hp rfl (zb rfl) (zb rfl) zb5 zq ?_); clear hp; intro w1 hp; simp only [spl, z0a, z0b] at hp)); simp only [ze, zd, z0b, z0a]))
     go_roundg (gk - 1)
     case measure => omega
     case rel => exact ⟨q + 1, _, yc, _, by omega, rfl, rfl, by go_num, z0j (by have h := HIN.out; rw [HG.out] at h; simpa using h), hp⟩
  ·have e2 : decide ((q : Int) < (rs.length : Int)) = false := by simp; omega
   have hr : ok = r := by have h := HI.out; rw [List.drop_eq_nil_of_le (by omega)] at h; simpa [Zz] using h
   subst hr
   clear HI HQ
   cases ok with
   | true =>
    go_wp2_with (first | go_skip | ((first | ((refine zh _ rfl ?_); refine lZ hp rfl Z5 ?_; clear hp; intro b w1 hp) | ((refine zi _ _ rfl ?_); refine lB hp rfl (zb rfl) rfl ?_; clear hp; intro b w1 hp) | ((refine zg _ _ rfl ?_); first | refine lO hp rfl (zb rfl) zfr zq ?_ | refine lA hp rfl (zb rfl) zb5 zq ?_ | refine lR hp rfl (zb rfl) zb5 HX.out ?_) | ((refine zf _ _ _ rfl ?_); (first | refine sO hp rfl (zb rfl) zfr zq ?_ | refine sA hp rfl (zb rfl) (zb rfl) zb5 zq ?_ | refine sG hp rfl (zb rfl) (zb rfl) zb5 zq ?_); clear hp; intro w1 hp; simp only [spl, z0a, z0b] at hp)); simp only [ze, zd, z0b, z0a]))
    go_ret
    exact ⟨rfl, hp.below⟩
   | false =>
    go_wp2_with (first | go_skip | ((first | ((refine zh _ rfl ?_); refine lZ hp rfl Z5 ?_; clear hp; intro b w1 hp) | ((refine zi _ _ rfl ?_); refine lB hp rfl (zb rfl) rfl ?_; clear hp; intro b w1 hp) | ((refine zg _ _ rfl ?_); first | refine lO hp rfl (zb rfl) zfr zq ?_ | refine lA hp rfl (zb rfl) zb5 zq ?_ | refine lR hp rfl (zb rfl) zb5 HX.out ?_) | ((refine zf _ _ _ rfl ?_); (first | refine sO hp rfl (zb rfl) zfr zq ?_ | refine sA hp rfl (zb rfl) (zb rfl) zb5 zq ?_ | refine sG hp rfl (zb rfl) (zb rfl) zb5 zq ?_); clear hp; intro w1 hp; simp only [spl, z0a, z0b] at hp)); simp only [ze, zd, z0b, z0a]))
    go_ret
    exact ⟨rfl, hp.below⟩
theorem zdB (od : Int) (oa : Option Addr) (os : List Ob) (oc : Nat) (nx t0 t1 t2 t3 : Int) (fa : Option Addr) (fs : List Bl) (fc : Nat) (ra : Option Addr) (rs : List Rw) (rc : Nat) (r : Bool) (hr : stB ⟨⟨od, oa, os, oc, nx, t0, t1, t2, t3, fa, fs, fc⟩, ra, rs, rc⟩ = r)
  (hs : Sv.Small ⟨⟨od, oa, os, oc, nx, t0, t1, t2, t3, fa, fs, fc⟩, ra, rs, rc⟩) (w : World) (h : Sv.Is w ⟨⟨od, oa, os, oc, nx, t0, t1, t2, t3, fa, fs, fc⟩, ra, rs, rc⟩) :
  Calls Tryz.prog 35 #[.agg #[.int .i64 od, .slice oa os.length oc, .int .i64 nx, .int .i64 t0, .int .i64 t1, .int .i64 t2, .int .i64 t3, .slice fa fs.length fc, .slice ra rs.length rc]] w fun e w' => e = .returned (.int .i64 (zno r)) ∧ Below w.heap.size w w' := znf _ r hr hs w h
structure AtK (od : Int) (k : Nat) (p : Int) : Prop where
 ko : (k : Int) ≤ od
 lo : 0 ≤ p
 hi : p + pw k ≤ pw od
 al : p % pw k = 0
theorem AtK.may {od : Int} {k : Nat} {p : Int} (h : AtK od k p) : zcd od ⟨p, k⟩ := ⟨by simp only; omega, h.ko, h.lo, by simp only; have := h.hi; omega, h.al⟩
theorem pwS (k : Nat) : pw ((k + 1 : Nat) : Int) = 2 * pw k := by
 have := zbB (o := (k : Int)) (by omega)
 rw [← this]; congr 1
theorem AtK.left {od : Int} {k : Nat} {p : Int} (h : AtK od (k + 1) p) : AtK od k p := by
 have h1 := pwS k
 have h2 := z7 (k : Int)
 have h3 := h.hi
 have h4 := h.al
 rw [h1] at h3 h4
 exact ⟨by have := h.ko; omega, h.lo, by omega, Int.emod_eq_zero_of_dvd (Int.dvd_trans ⟨2, by omega⟩ (Int.dvd_of_emod_eq_zero h4))⟩
theorem AtK.right {od : Int} {k : Nat} {p : Int} (h : AtK od (k + 1) p) : AtK od k (p + pw k) := by
 have h0 := h.left
 have h1 := pwS k
 have h2 := z7 (k : Int)
 have h3 := h.hi
 rw [h1] at h3
 exact ⟨h0.ko, by have := h.lo; omega, by omega, by rw [Int.add_emod_right]; exact h0.al⟩
open Go.RowKit
def zgP (w : World) (b : Nat) (v : Value) : Prop := ∀ j u, [v][j]? = some u → w.cell? ⟨b, 0 + j, none⟩ = some u
theorem zgP.of {w : World} {b : Nat} {v : Value} (h : w.cell? ⟨b, 0, none⟩ = some v) : zgP w b v := fun j u hj => by
 match j, hj with
 | 0, hj => simp at hj; subst hj; exact h
theorem zgP.below {w w' : World} {b : Nat} {v : Value} (h : zgP w b v) (hb : Below w.heap.size w w') : zgP w' b v := fun j u hj => by
 have := h j u hj
 exact (hb.cell (World.block_lt_of_cell? w _ this)).trans this
open Go.RowKit
theorem zmJ.swap {w0 w : World} {br bi : Nat} {bs : List Nat} {A B C D L : List Blk} (h : zmJ w0 br bi bs [] (A ++ (B ++ (C ++ L))) w) (hD : D = C ++ A) : zmJ w0 br bi bs [] (B ++ (D ++ L)) w := by
 subst hD
 obtain ⟨a, c, h1, h2, hp⟩ := h
 exact ⟨a, c, h1, h2, hp.kp⟩
open Go.RowKit
theorem zh9 (d : Nat) (n c : Nat) (w : World) : (Op.equalIn (d + 1) 48 (.slice none n c) (.slice none 0 0)).run Tryz.prog w = .ok true w := by
 rw [Op.equalIn]; simp [Sem.run_bind, run_underlying Tryz.underlying48]
theorem zhg (d : Nat) (a : Addr) (n c : Nat) (w : World) : (Op.equalIn (d + 1) 48 (.slice (some a) n c) (.slice none 0 0)).run Tryz.prog w = .ok false w := by
 rw [Op.equalIn]; simp [Sem.run_bind, run_underlying Tryz.underlying48]
theorem zmn (n c : Nat) (w : World) : (binOp .eql 48 (.slice none n c) (.slice none 0 0)).run Tryz.prog w = .ok (.bool true) w := by
 have h : (Op.equalIn 10000 48 (.slice none n c) (.slice none 0 0)).run Tryz.prog w = .ok true w := zh9 9999 n c w
 simp only [binOp]
 simp [Op.equal, Op.maxDepth, h]
theorem zlt (a : Addr) (n c : Nat) (w : World) : (binOp .eql 48 (.slice (some a) n c) (.slice none 0 0)).run Tryz.prog w = .ok (.bool false) w := by
 have h : (Op.equalIn 10000 48 (.slice (some a) n c) (.slice none 0 0)).run Tryz.prog w = .ok false w := zhg 9999 a n c w
 simp only [binOp]
 simp [Op.equal, Op.maxDepth, h]
def zga (w : World) (n : Nat) (xs : List Value) (e : Ending) (w' : World) : Prop := ∃ v R, e = .returned v ∧ zH 120 4 v n xs R ∧ Hp w.heap.size w w' R
theorem zgh (a : Option Addr) (n c : Nat) (hn : n ≤ 2000) (xs : List Value) (hl : xs.length = n * 4) (h1 : xs.all (·.oneCell') = true) (w : World) (ha : zD w a xs) :
  Calls Tryz.prog 121 #[.slice a n c] w (zga w n xs) := by
 obtain ⟨i0, hi0, hz0, hz1, hz2⟩ := info_parts zeZ
 have hp := Hp.start w
 cases a with
 | none =>
  have hn0 : n = 0 := by
   rcases Nat.eq_zero_or_pos n with h | h
   ·exact h
   ·obtain ⟨b, off, he, _⟩ := ha.addr (by omega)
    cases he
  subst hn0
  have hx : xs = [] := List.eq_nil_of_length_eq_zero (by simpa using hl)
  subst hx
  clear ha hl h1
  have hq := zmn
  go_enter Tryz.func121, Tryz.ntmps121
  go_wp2
  go_ret
  exact ⟨_, [], rfl, zH.nil _ _, hp⟩
 | some a =>
  have HA := z0j ha
  have HL := z0j hl
  have H1 := z0j h1
  have sm1 : 0 + n ≤ maxLen := by unfold maxLen; omega
  have sm2 : (0 + n) * 32 ≤ 140737488355328 := by omega
  clear ha hl h1
  have hq := zlt
  go_enter Tryz.func121, Tryz.ntmps121
  go_wp2_with (first | ((refine zm _ _ _ rfl ?_); refine ZO hp _ _ _ rfl wy [] 120 (by intro w; go_simp; try rfl) ?_; clear hp; intro b w1 hp; simp only [ze, zd, z0b, z0a]) | ((refine zM _ _ 48 rfl ?_); refine Zp (K := []) (R := [⟨b, [], 120, 0 * 4⟩]) (M := []) hp _ _ _ rfl wy i0 _ 32 Tryz.underlying48 hi0 hz0 hz1 hz2 rfl (by decide) (zb rfl) ⟨rfl, .inr ⟨b, 0, rfl, Nat.le_refl _, Nat.zero_le _, rfl⟩⟩ (some a) n c (zb rfl) xs HL.out (HA.out.below hp.below) H1.out sm1 sm2 ?_; clear hp; intro v' R' w1 hR' hp; have HR' := z0j hR'; clear hR'; simp only [ze, zd, z0b, z0a]) | go_skip)
  go_ret
  exact ⟨v', R', rfl, by simpa using HR'.out, by simpa using hp⟩
end Go.Proofs.YtaafajaadfgaoaaGreat
