import Derived.Test.YtaafajaadfgaoaaGreatTb31
import Derived.Test.YtaafajaadfgaoaaGreatTb3
import Derived.Test.YtaafajaadfgaoaaGreatTb2
import Derived.Test.YtaafajaadfgaoaaGreatTb20
import Derived.Test.YtaafajaadfgaoaaGreatTb19
import Derived.Test.YtaafajaadfgaoaaGreatTb32
set_option linter.unusedSimpArgs false
set_option linter.unusedVariables false
set_option maxRecDepth 100000
set_option maxHeartbeats 60000000
namespace Go.Proofs.YtaafajaadfgaoaaGreat
open Go.RowKit
theorem zon {ty : TypeId} (h : zN Tryz.prog ty = true := by with_reducible first | exact zw | exact Zd | exact zoo | exact zpk | exact zaa) : zN Tryz.prog ty = true := h
theorem zaN {ty : TypeId} {k : Nat} (h : zac Tryz.prog ty k = true := by with_reducible first | exact zY | exact zL | exact zC) : zac Tryz.prog ty k = true := h
theorem zb3 {ty : TypeId} (h : zN Tryz.prog ty = true := by with_reducible first | exact zw | exact Zd | exact zat | exact zaa) : zN Tryz.prog ty = true := h
theorem zfd (n lo hi : Int) (b : Bool) (hb : inM n lo hi = b) (w : World) : Calls Tryz.prog 162 #[.int .i64 n, .int .i64 lo, .int .i64 hi] w fun e w' => e = .returned (.bool b) ∧ w = w' := by
 subst hb
 go_enter Tryz.func162, Tryz.ntmps162
 go_wp2
 all_goals go_ret
 all_goals refine ⟨Ze ?_, rfl⟩
 all_goals (simp [inM, *]; try omega)
def zkY (x : Rw) : Bool := inM x.c 1 4 && (inM x.s 1 1000000 && inM x.e 0 65535)
theorem zeA (xc xs xe xv : Int) (b : Bool) (hb : zkY ⟨xc, xs, xe, xv⟩ = b) (w : World) : Calls Tryz.prog 95 #[.agg #[.int .i64 xc, .int .i64 xs, .int .i64 xe, .int .i64 xv]] w fun e w' => e = .returned (.bool b) ∧ Below w.heap.size w w' := by
 subst hb
 have hp := Hp.start w
 unfold zkY
 simp only
 cases h1 : inM xc 1 4
 all_goals cases h2 : inM xs 1 1000000
 all_goals cases h3 : inM xe 0 65535
 all_goals
  have H1 := z0j h1
  have H2 := z0j h2
  have H3 := z0j h3
  clear h1 h2 h3
  go_enter Tryz.func95, Tryz.ntmps95
  go_wp2_with (first | (go_at_call 162; (first | (with_reducible refine (zfd xc 1 4 _ H1.out _).mono ?_) | (with_reducible refine (zfd xs 1 1000000 _ H2.out _).mono ?_) | (with_reducible refine (zfd xe 0 65535 _ H3.out _).mono ?_)); rintro e w' ⟨rfl, rfl⟩) | go_skip | ((first | ((refine zi _ _ rfl ?_); refine lB hp rfl (zb rfl) rfl ?_; clear hp; intro b w1 hp) | ((refine zg _ _ rfl ?_); first | refine lO hp rfl (zb rfl) zon aa5 ?_ | refine lA hp rfl (zb rfl) zC aa5 ?_) | ((refine zf _ _ _ rfl ?_); (first | refine sO hp rfl (zb rfl) zon aa5 ?_ | refine sA hp rfl (zb rfl) (zb rfl) zC aa5 ?_ | refine sG hp rfl (zb rfl) (zb rfl) zC aa5 ?_); clear hp; intro w1 hp; simp only [spl, z0a, z0b] at hp)); simp only [ze, zd, z0b, z0a]))
  go_ret
  exact ⟨rfl, hp.below⟩
theorem zlm {last : Int} {x : Rw} (h : zkY x = false) : zbW last x = false ∨ last < 0 := by
 by_cases hl : last < 0
 ·exact .inr hl
 ·left
  unfold zbW
  rw [decide_eq_false_iff_not]
  rintro ⟨h1, h2, h3, h4, h5, h6⟩
  unfold zkY inM at h
  have : (decide (1 ≤ x.c) && decide (x.c ≤ 4) && (decide (1 ≤ x.s) && decide (x.s ≤ 1000000) && (decide (0 ≤ x.e) && decide (x.e ≤ 65535)))) = true := by simp; omega
  rw [this] at h; cases h
theorem zjS {x : Rw} (h : zkY x = true) : 1 ≤ x.c ∧ x.c ≤ 4 ∧ 1 ≤ x.s ∧ x.s ≤ 1000000 ∧ 0 ≤ x.e ∧ x.e ≤ 65535 := by
 unfold zkY inM at h
 simp at h
 omega
theorem zlj (od : Int) (oa : Option Addr) (os : List Ob) (oc : Nat) (nx t0 t1 t2 t3 : Int) (fa : Option Addr) (fs : List Bl) (fc : Nat) (b : Bool) (hb : Zv ⟨od, oa, os, oc, nx, t0, t1, t2, t3, fa, fs, fc⟩ = b) (hs : Hv.Small ⟨od, oa, os, oc, nx, t0, t1, t2, t3, fa, fs, fc⟩) (hnx : nx ≤ 9223372036854775807) (w : World) (h : Hv.Is w ⟨od, oa, os, oc, nx, t0, t1, t2, t3, fa, fs, fc⟩) :
  Calls Tryz.prog 96 #[.agg #[.int .i64 od, .slice oa os.length oc, .int .i64 nx, .int .i64 t0, .int .i64 t1, .int .i64 t2, .int .i64 t3, .slice fa fs.length fc]] w fun e w' => e = .returned (.bool b) ∧ Below w.heap.size w w' := hb ▸ znP ⟨od, oa, os, oc, nx, t0, t1, t2, t3, fa, fs, fc⟩ hs hnx w h
def zgS (rs : List Rw) (q : Nat) (last : Int) : Prop := (q = 0 → last = 0) ∧ (0 < q → 1 ≤ last ∧ ∃ y, rs[q - 1]? = some y ∧ y.c = last)
theorem zln {rs : List Rw} (hrl : rs.length ≤ 1000) {q : Nat} {last : Int} {x : Rw} (h : zgS rs q last) (hx : rs[q]? = some x) {res : Bool} (hr : Zz 0 rs = Zz last (rs.drop q)) (hres : res = Zz 0 rs) :
  (zkY x = false ∧ res = false) ∨ (zkY x = true ∧ decide ((0 : Int) < (q : Int)) = false ∧ decide (0 < q) = false ∧ Zz 0 rs = Zz x.c (rs.drop (q + 1)) ∧ zgS rs (q + 1) x.c) ∨
  (∃ (k : Nat) (y : Rw), zkY x = true ∧ decide ((0 : Int) < (q : Int)) = true ∧ decide (0 < q) = true ∧ wrap64 ((q : Int) - 1) = (k : Int) ∧ (q : Int) - 1 = (k : Int) ∧ (0 : Int) ≤ (k : Int) ∧ (k : Int) < (rs.length : Int) ∧ rs[k]? = some y ∧ decide (x.c ≤ y.c) = true ∧ res = false) ∨
  (∃ (k : Nat) (y : Rw), zkY x = true ∧ decide ((0 : Int) < (q : Int)) = true ∧ decide (0 < q) = true ∧ wrap64 ((q : Int) - 1) = (k : Int) ∧ (q : Int) - 1 = (k : Int) ∧ (0 : Int) ≤ (k : Int) ∧ (k : Int) < (rs.length : Int) ∧ rs[k]? = some y ∧ decide (x.c ≤ y.c) = false ∧ Zz 0 rs = Zz x.c (rs.drop (q + 1)) ∧ zgS rs (q + 1) x.c) := by
 have hql := (List.getElem?_eq_some_iff.1 hx).1
 have hd : rs.drop q = x :: rs.drop (q + 1) := by
  rw [List.drop_eq_getElem_cons hql]
  congr 1
  rw [List.getElem?_eq_getElem hql] at hx; injection hx
 have hc : Zz 0 rs = (zbW last x && Zz x.c (rs.drop (q + 1))) := by rw [hr, hd]; rfl
 have hla : 0 ≤ last := by
  rcases Nat.eq_zero_or_pos q with h0 | h0
  ·rw [h.1 h0]; exact Int.le_refl _
  ·have := (h.2 h0).1; omega
 cases hm : zkY x with
 | false =>
  left
  refine ⟨rfl, ?_⟩
  rcases zlm (last := last) hm with h1 | h1
  ·rw [hres, hc, h1]; rfl
  ·omega
 | true =>
  right
  have hf := zjS hm
  have hnext : zgS rs (q + 1) x.c := ⟨fun h => by omega, fun _ => ⟨hf.1, x, by simpa using hx, rfl⟩⟩
  rcases Nat.eq_zero_or_pos q with h0 | h0
  ·left
   have hl := h.1 h0
   refine ⟨rfl, by simp; omega, by simp; omega, ?_, hnext⟩
   rw [hc, show zbW last x = true from ZI.2 (by omega)]; rfl
  ·right
   obtain ⟨h1, y, hy, hyc⟩ := h.2 h0
   have w1 : wrap64 ((q : Int) - 1) = ((q - 1 : Nat) : Int) := by unfold wrap64; omega
   by_cases hle : x.c ≤ y.c
   ·left
    refine ⟨q - 1, y, rfl, by simp; omega, by simp; omega, w1, by omega, by omega, by omega, hy, decide_eq_true hle, ?_⟩
    rw [hres, hc, show zbW last x = false by unfold zbW; rw [decide_eq_false_iff_not]; rintro ⟨g, _⟩; omega]; rfl
   ·right
    refine ⟨q - 1, y, rfl, by simp; omega, by simp; omega, w1, by omega, by omega, by omega, hy, decide_eq_false hle, ?_, hnext⟩
    rw [hc, show zbW last x = true from ZI.2 (by omega)]; rfl
theorem zgB (od : Int) (oa : Option Addr) (os : List Ob) (oc : Nat) (nx t0 t1 t2 t3 : Int) (fa : Option Addr) (fs : List Bl) (fc : Nat) (ra : Option Addr) (rs : List Rw) (rc : Nat) (res : Bool) (hres : stB ⟨⟨od, oa, os, oc, nx, t0, t1, t2, t3, fa, fs, fc⟩, ra, rs, rc⟩ = res) (hs : Sv.Small ⟨⟨od, oa, os, oc, nx, t0, t1, t2, t3, fa, fs, fc⟩, ra, rs, rc⟩) (hnx : nx ≤ 9223372036854775807) (w : World) (hx0 : Sv.Is w ⟨⟨od, oa, os, oc, nx, t0, t1, t2, t3, fa, fs, fc⟩, ra, rs, rc⟩) :
  Calls Tryz.prog 36 #[.agg #[.int .i64 od, .slice oa os.length oc, .int .i64 nx, .int .i64 t0, .int .i64 t1, .int .i64 t2, .int .i64 t3, .slice fa fs.length fc, .slice ra rs.length rc]] w fun e w' => e = .returned (.bool res) ∧ Below w.heap.size w w' := by
 subst hres
 have hp := Hp.start w
 have HSH : Hid (Hv.Small ⟨od, oa, os, oc, nx, t0, t1, t2, t3, fa, fs, fc⟩) := z0j hs.1
 have HIH : Hid (Hv.Is w ⟨od, oa, os, oc, nx, t0, t1, t2, t3, fa, fs, fc⟩) := z0j hx0.1
 have HR : Hid (zD w ra (rs.flatMap rwV)) := z0j hx0.2
 have hrl : rs.length ≤ 1000 := hs.2
 have HNX := z0j hnx
 clear hs hx0 hnx
 go_enter Tryz.func36, Tryz.ntmps36
 go_wp2_with (first | go_skip | ((first | ((refine zi _ _ rfl ?_); refine lB hp rfl (zb rfl) rfl ?_; clear hp; intro b w1 hp) | ((refine zg _ _ rfl ?_); first | refine lO hp rfl (zb rfl) zb3 aa5 ?_ | refine lA hp rfl (zb rfl) zaN aa5 ?_) | ((refine zf _ _ _ rfl ?_); (first | refine sO hp rfl (zb rfl) zb3 aa5 ?_ | refine sA hp rfl (zb rfl) (zb rfl) zaN aa5 ?_ | refine sG hp rfl (zb rfl) (zb rfl) zaN aa5 ?_); clear hp; intro w1 hp; simp only [spl, z0a, z0b] at hp)); simp only [ze, zd, z0b, z0a]))
 obtain ⟨bb, rfl⟩ := hp.id0
 go_loopg [3] rs.length (fun k i wr => ∃ (q : Nat) (last : Int), k + q = rs.length ∧ i = .int .i64 q ∧ Hid (Zz 0 rs = Zz last (rs.drop q)) ∧ Hid (zgS rs q last) ∧ Hp w.heap.size w wr [⟨bb, [.int .i64 od, .slice oa os.length oc, .int .i64 nx, .int .i64 t0, .int .i64 t1, .int .i64 t2, .int .i64 t3, .slice fa fs.length fc, .slice ra rs.length rc], 50, 9⟩])
 case atStart => exact ⟨0, 0, by omega, rfl, z0j rfl, z0j ⟨fun _ => rfl, fun h => absurd h (Nat.lt_irrefl 0)⟩, hp⟩
 case round =>
  clear hp
  obtain ⟨q, last, hkq, rfl, HF, HLA, hp⟩ := hrel
  by_cases hlt : q < rs.length
  ·obtain ⟨bq, off, rfl, hx⟩ := HR.out.elems 4 ZP (by omega) (by omega)
   have HE := z0j hx
   have hj := List.getElem?_eq_getElem hlt
   replace hx := hx q _ hj
   have hways := zln hrl HLA.out hj HF.out rfl
   clear hj
   generalize rs[q] = x at hx hways
   obtain ⟨xc, xs, xe, xv⟩ := x
   simp only [rwV] at hx
   have HX := z0j hx
   have f1 : (0 : Int) ≤ (q : Int) := by omega
   have f2 : (q : Int) < (rs.length : Int) := by omega
   clear hx
   rcases hways with ⟨hm, hr⟩ | ⟨hm, d1, d2, hn, hl⟩ | ⟨k, y, hm, d1, d2, d3, d4, d5, d6, hy, hle, hr⟩ | ⟨k, y, hm, d1, d2, d3, d4, d5, d6, hy, hle, hn, hl⟩
   ·have HMB := z0j hm
    have HRR : Hid (Zz 0 rs = false) := z0j hr
    clear hm hr HE
    go_wp2_with (first | go_skip | ((first | ((refine zi _ _ rfl ?_); refine lB hp rfl (zb rfl) rfl ?_; clear hp; intro b w1 hp) | ((refine zg _ _ rfl ?_); first | refine lO hp rfl (zb rfl) zb3 aa5 ?_ | refine lA hp rfl (zb rfl) zaN aa5 ?_) | ((refine zf _ _ _ rfl ?_); (first | refine sO hp rfl (zb rfl) zb3 aa5 ?_ | refine sA hp rfl (zb rfl) (zb rfl) zaN aa5 ?_ | refine sG hp rfl (zb rfl) (zb rfl) zaN aa5 ?_); clear hp; intro w1 hp; simp only [spl, z0a, z0b] at hp)); simp only [ze, zd, z0b, z0a]))
    refine zk _ (zA.all hp.drew) [] [(0, true), (1, true), (2, true), (3, true), (4, true), (5, false), (6, true), (7, true), (8, true), (9, true), (10, true), (11, true), (12, true), (13, true), (14, true), (15, true), (16, true), (17, true), (18, true), (19, true), (20, true), (21, true), (22, true), (23, true), (24, true), (25, true), (26, true)] (by kernel_rfl) (by kernel_rfl) rfl (by kernel_rfl) (fun _ _ d _ _ h => by cases d <;> exact h) ?_
    replace hp := hp.drew
    repeat' (with_reducible refine zB ?_); first | (with_reducible refine zt ?_) | ((with_reducible refine zI ?_); refine zy rfl ?_; (first | ((with_reducible refine zcn _ _ rfl ?_); refine tS (by first | exact ZA rfl rfl rfl rfl | exact zab rfl rfl rfl rfl) ?_) | ((with_reducible refine zV _ rfl ?_); refine tM rfl ?_) | ((with_reducible refine zS _ _ rfl ?_); first | refine tA rfl (zb rfl) zC aa5 ?_ | refine tO rfl (zb rfl) (by with_reducible first | exact zw | exact zat) aa5 ?_ | refine tR rfl (zb rfl) zC HX.out ?_ | refine tRO rfl (zb rfl) (by with_reducible first | exact zw | exact zat) (HX.out 0 _ rfl) ?_) | refine tG (fun w _ => (by go_simp; try rfl)) ?_); try simp only [ze, zd, zn, zj, z0b, z0a, z0d, z0c, zr]) | (refine zF rfl (fun K hK => ?_); go_wp2_with (first | (go_at_call 95; (with_reducible refine (zeA xc xs xe xv _ HMB.out _).mono ?_); rintro e w1 ⟨rfl, hb⟩; replace hp := hp.call hb; clear hb) | go_skip); (refine hK.out _ _ (.inr (zd2 hp)) ?_); clear hK K; try simp only [ze, zd, zn, zj, z0b, z0a, z0d, z0c, zr])
    go_wp2_with (first | go_skip | ((first | ((refine zi _ _ rfl ?_); refine lB hp rfl (zb rfl) rfl ?_; clear hp; intro b w1 hp) | ((refine zg _ _ rfl ?_); first | refine lO hp rfl (zb rfl) zb3 aa5 ?_ | refine lA hp rfl (zb rfl) zaN aa5 ?_) | ((refine zf _ _ _ rfl ?_); (first | refine sO hp rfl (zb rfl) zb3 aa5 ?_ | refine sA hp rfl (zb rfl) (zb rfl) zaN aa5 ?_ | refine sG hp rfl (zb rfl) (zb rfl) zaN aa5 ?_); clear hp; intro w1 hp; simp only [spl, z0a, z0b] at hp)); simp only [ze, zd, z0b, z0a]))
    go_ret
    refine ⟨Ze ?_, hp.below⟩
    unfold stB
    simp only
    rw [HRR.out, Bool.and_false]
   ·have HMB := z0j hm
    have HNN := z0j hn
    have HLL := z0j hl
    have d3 : ¬ 0 < q := by simpa using d2
    clear hm hn hl HE
    go_wp2_with (first | go_skip | ((first | ((refine zi _ _ rfl ?_); refine lB hp rfl (zb rfl) rfl ?_; clear hp; intro b w1 hp) | ((refine zg _ _ rfl ?_); first | refine lO hp rfl (zb rfl) zb3 aa5 ?_ | refine lA hp rfl (zb rfl) zaN aa5 ?_) | ((refine zf _ _ _ rfl ?_); (first | refine sO hp rfl (zb rfl) zb3 aa5 ?_ | refine sA hp rfl (zb rfl) (zb rfl) zaN aa5 ?_ | refine sG hp rfl (zb rfl) (zb rfl) zaN aa5 ?_); clear hp; intro w1 hp; simp only [spl, z0a, z0b] at hp)); simp only [ze, zd, z0b, z0a]))
    refine zk [_] (zA.one hp.drew at0) [] [(0, true), (1, true), (2, true), (3, true), (4, true), (5, false), (6, true), (7, true), (8, true), (9, true), (10, true), (11, true), (12, true), (13, true), (14, true), (15, true), (16, true), (17, true), (18, true), (19, true), (20, true), (21, true), (22, true), (23, true), (24, true), (25, true), (26, true)] (by kernel_rfl) (by kernel_rfl) rfl (by kernel_rfl) (fun _ _ d _ _ h => by cases d <;> exact h) ?_
    replace hp := hp.drew
    repeat' (with_reducible refine zB ?_); first | (with_reducible refine zt ?_) | ((with_reducible refine zI ?_); refine zy rfl ?_; (first | ((with_reducible refine zcn _ _ rfl ?_); refine tS (ZA rfl rfl rfl rfl) ?_) | ((with_reducible refine zV _ rfl ?_); refine tM rfl ?_) | ((with_reducible refine zS _ _ rfl ?_); first | refine tA rfl (zb rfl) zC aa5 ?_ | refine tO rfl (zb rfl) (by with_reducible first | exact zw | exact zat) aa5 ?_ | refine tR rfl (zb rfl) zC HX.out ?_ | refine tRO rfl (zb rfl) (by with_reducible first | exact zw | exact zat) (HX.out 0 _ rfl) ?_) | refine tG (fun w _ => (by go_simp; try rfl)) ?_); try simp only [ze, zd, zn, zj, z0b, z0a, z0d, z0c, zr]) | (refine zF rfl (fun K hK => ?_); go_wp2_with (first | (go_at_call 95; (with_reducible refine (zeA xc xs xe xv _ HMB.out _).mono ?_); rintro e w1 ⟨rfl, hb⟩; replace hp := hp.call hb; clear hb) | go_skip); (refine hK.out _ _ (.inr (zA.one hp aa5)) ?_); clear hK K; try simp only [ze, zd, zn, zj, z0b, z0a, z0d, z0c, zr])
    go_wp2_with (first | go_skip | ((first | ((refine zi _ _ rfl ?_); refine lB hp rfl (zb rfl) rfl ?_; clear hp; intro b w1 hp) | ((refine zg _ _ rfl ?_); first | refine lO hp rfl (zb rfl) zb3 aa5 ?_ | refine lA hp rfl (zb rfl) zaN aa5 ?_) | ((refine zf _ _ _ rfl ?_); (first | refine sO hp rfl (zb rfl) zb3 aa5 ?_ | refine sA hp rfl (zb rfl) (zb rfl) zaN aa5 ?_ | refine sG hp rfl (zb rfl) (zb rfl) zaN aa5 ?_); clear hp; intro w1 hp; simp only [spl, z0a, z0b] at hp)); simp only [ze, zd, z0b, z0a]))
    go_roundg (gk - 1)
    case measure => omega
    case rel => exact ⟨q + 1, xc, by omega, by go_num, HNN, HLL, hp⟩
   ·have HMB := z0j hm
    have HRR : Hid (Zz 0 rs = false) := z0j hr
    have HY := HE.out _ _ hy
    obtain ⟨yc, ys, ye, yv⟩ := y
    simp only [rwV] at HY
    have HK := z0j HY
    have HW := z0j d3
    have d7 : 0 < q := by simpa using d2
    simp only at hle
    clear hm hr HE HY hy d3 d4
    go_wp2_with (first | go_skip | ((first | ((refine zi _ _ rfl ?_); refine lB hp rfl (zb rfl) rfl ?_; clear hp; intro b w1 hp) | ((refine zg _ _ rfl ?_); first | refine lO hp rfl (zb rfl) zb3 aa5 ?_ | refine lA hp rfl (zb rfl) zaN aa5 ?_) | ((refine zf _ _ _ rfl ?_); (first | refine sO hp rfl (zb rfl) zb3 aa5 ?_ | refine sA hp rfl (zb rfl) (zb rfl) zaN aa5 ?_ | refine sG hp rfl (zb rfl) (zb rfl) zaN aa5 ?_); clear hp; intro w1 hp; simp only [spl, z0a, z0b] at hp)); simp only [ze, zd, z0b, z0a]))
    refine zk [_] (zA.one hp.drew at0) [] [(0, true), (1, true), (2, true), (3, true), (4, true), (5, false), (6, true), (7, true), (8, true), (9, true), (10, true), (11, true), (12, true), (13, true), (14, true), (15, true), (16, true), (17, true), (18, true), (19, true), (20, true), (21, true), (22, true), (23, true), (24, true), (25, true), (26, true)] (by kernel_rfl) (by kernel_rfl) rfl (by kernel_rfl) (fun _ _ d _ _ h => by cases d <;> exact h) ?_
    replace hp := hp.drew
    repeat' (with_reducible refine zB ?_); first | (with_reducible refine zt ?_) | ((with_reducible refine zI ?_); refine zy rfl ?_; (first | ((with_reducible refine zcn _ _ rfl ?_); refine tS (ZA rfl rfl rfl rfl) ?_) | ((with_reducible refine zV _ rfl ?_); refine tM rfl ?_) | ((with_reducible refine zS _ _ rfl ?_); first | refine tA rfl (zb rfl) zC aa5 ?_ | refine tO rfl (zb rfl) (by with_reducible first | exact zw | exact zat) aa5 ?_ | refine tR rfl (zb rfl) zC HX.out ?_ | refine tRO rfl (zb rfl) (by with_reducible first | exact zw | exact zat) (HX.out 0 _ rfl) ?_ | refine tR rfl (zb rfl) zC HK.out ?_ | refine tRO rfl (zb rfl) (by with_reducible first | exact zw | exact zat) (HK.out 0 _ rfl) ?_) | refine tG (fun w _ => (by go_simp; try rfl)) ?_); try simp only [ze, zd, zn, zj, z0b, z0a, z0d, z0c, zr, HW.out]) | (refine zF rfl (fun K hK => ?_); go_wp2_with (first | (go_at_call 95; (with_reducible refine (zeA xc xs xe xv _ HMB.out _).mono ?_); rintro e w1 ⟨rfl, hb⟩; replace hp := hp.call hb; clear hb) | go_skip); (refine hK.out _ _ (.inr (zA.one hp aa5)) ?_); clear hK K; try simp only [ze, zd, zn, zj, z0b, z0a, z0d, z0c, zr, HW.out])
    go_wp2_with (first | go_skip | ((first | ((refine zi _ _ rfl ?_); refine lB hp rfl (zb rfl) rfl ?_; clear hp; intro b w1 hp) | ((refine zg _ _ rfl ?_); first | refine lO hp rfl (zb rfl) zb3 aa5 ?_ | refine lA hp rfl (zb rfl) zaN aa5 ?_) | ((refine zf _ _ _ rfl ?_); (first | refine sO hp rfl (zb rfl) zb3 aa5 ?_ | refine sA hp rfl (zb rfl) (zb rfl) zaN aa5 ?_ | refine sG hp rfl (zb rfl) (zb rfl) zaN aa5 ?_); clear hp; intro w1 hp; simp only [spl, z0a, z0b] at hp)); simp only [ze, zd, z0b, z0a]))
    go_ret
    refine ⟨Ze ?_, hp.below⟩
    unfold stB
    simp only
    rw [HRR.out, Bool.and_false]
   ·have HMB := z0j hm
    have HNN := z0j hn
    have HLL := z0j hl
    have HY := HE.out _ _ hy
    obtain ⟨yc, ys, ye, yv⟩ := y
    simp only [rwV] at HY
    have HK := z0j HY
    have HW := z0j d3
    have d7 : 0 < q := by simpa using d2
    simp only at hle
    clear hm hn hl HE HY hy d3 d4
    go_wp2_with (first | go_skip | ((first | ((refine zi _ _ rfl ?_); refine lB hp rfl (zb rfl) rfl ?_; clear hp; intro b w1 hp) | ((refine zg _ _ rfl ?_); first | refine lO hp rfl (zb rfl) zb3 aa5 ?_ | refine lA hp rfl (zb rfl) zaN aa5 ?_) | ((refine zf _ _ _ rfl ?_); (first | refine sO hp rfl (zb rfl) zb3 aa5 ?_ | refine sA hp rfl (zb rfl) (zb rfl) zaN aa5 ?_ | refine sG hp rfl (zb rfl) (zb rfl) zaN aa5 ?_); clear hp; intro w1 hp; simp only [spl, z0a, z0b] at hp)); simp only [ze, zd, z0b, z0a]))
    refine zk [_] (zA.one hp.drew at0) [] [(0, true), (1, true), (2, true), (3, true), (4, true), (5, false), (6, true), (7, true), (8, true), (9, true), (10, true), (11, true), (12, true), (13, true), (14, true), (15, true), (16, true), (17, true), (18, true), (19, true), (20, true), (21, true), (22, true), (23, true), (24, true), (25, true), (26, true)] (by kernel_rfl) (by kernel_rfl) rfl (by kernel_rfl) (fun _ _ d _ _ h => by cases d <;> exact h) ?_
    replace hp := hp.drew
    repeat' (with_reducible refine zB ?_); first | (with_reducible refine zt ?_) | ((with_reducible refine zI ?_); refine zy rfl ?_; (first | ((with_reducible refine zcn _ _ rfl ?_); refine tS (ZA rfl rfl rfl rfl) ?_) | ((with_reducible refine zV _ rfl ?_); refine tM rfl ?_) | ((with_reducible refine zS _ _ rfl ?_); first | refine tA rfl (zb rfl) zC aa5 ?_ | refine tO rfl (zb rfl) (by with_reducible first | exact zw | exact zat) aa5 ?_ | refine tR rfl (zb rfl) zC HX.out ?_ | refine tRO rfl (zb rfl) (by with_reducible first | exact zw | exact zat) (HX.out 0 _ rfl) ?_ | refine tR rfl (zb rfl) zC HK.out ?_ | refine tRO rfl (zb rfl) (by with_reducible first | exact zw | exact zat) (HK.out 0 _ rfl) ?_) | refine tG (fun w _ => (by go_simp; try rfl)) ?_); try simp only [ze, zd, zn, zj, z0b, z0a, z0d, z0c, zr, HW.out]) | (refine zF rfl (fun K hK => ?_); go_wp2_with (first | (go_at_call 95; (with_reducible refine (zeA xc xs xe xv _ HMB.out _).mono ?_); rintro e w1 ⟨rfl, hb⟩; replace hp := hp.call hb; clear hb) | go_skip); (refine hK.out _ _ (.inr (zA.one hp aa5)) ?_); clear hK K; try simp only [ze, zd, zn, zj, z0b, z0a, z0d, z0c, zr, HW.out])
    go_wp2_with (first | go_skip | ((first | ((refine zi _ _ rfl ?_); refine lB hp rfl (zb rfl) rfl ?_; clear hp; intro b w1 hp) | ((refine zg _ _ rfl ?_); first | refine lO hp rfl (zb rfl) zb3 aa5 ?_ | refine lA hp rfl (zb rfl) zaN aa5 ?_) | ((refine zf _ _ _ rfl ?_); (first | refine sO hp rfl (zb rfl) zb3 aa5 ?_ | refine sA hp rfl (zb rfl) (zb rfl) zaN aa5 ?_ | refine sG hp rfl (zb rfl) (zb rfl) zaN aa5 ?_); clear hp; intro w1 hp; simp only [spl, z0a, z0b] at hp)); simp only [ze, zd, z0b, z0a]))
    go_roundg (gk - 1)
    case measure => omega
    case rel => exact ⟨q + 1, xc, by omega, by go_num, HNN, HLL, hp⟩
  ·obtain rfl : q = rs.length := by omega
   have f2 : decide ((rs.length : Int) < (rs.length : Int)) = false := by simp
   have HT : Hid (Zz 0 rs = true) := z0j (by rw [HF.out, List.drop_length]; rfl)
   obtain ⟨b, hb⟩ : ∃ b, Zv ⟨od, oa, os, oc, nx, t0, t1, t2, t3, fa, fs, fc⟩ = b := ⟨_, rfl⟩
   have HB := z0j hb
   clear hkq hlt hb HF
   go_wp2_with (first | (go_at_call 96; (with_reducible refine (zlj od oa os oc nx t0 t1 t2 t3 fa fs fc _ HB.out HSH.out HNX.out _ (HIH.out.below hp.below)).mono ?_); rintro e w1 ⟨rfl, hb⟩; replace hp := hp.call hb; clear hb) | go_skip | ((first | ((refine zi _ _ rfl ?_); refine lB hp rfl (zb rfl) rfl ?_; clear hp; intro b w1 hp) | ((refine zg _ _ rfl ?_); first | refine lO hp rfl (zb rfl) zb3 aa5 ?_ | refine lA hp rfl (zb rfl) zaN aa5 ?_) | ((refine zf _ _ _ rfl ?_); (first | refine sO hp rfl (zb rfl) zb3 aa5 ?_ | refine sA hp rfl (zb rfl) (zb rfl) zaN aa5 ?_ | refine sG hp rfl (zb rfl) (zb rfl) zaN aa5 ?_); clear hp; intro w1 hp; simp only [spl, z0a, z0b] at hp)); simp only [ze, zd, z0b, z0a]))
   go_ret
   refine ⟨Ze ?_, hp.below⟩
   unfold stB
   simp only
   rw [HT.out, Bool.and_true, HB.out]
open Go.RowKit
theorem zgq {ty : TypeId} {k : Nat} (h : zac Tryz.prog ty k = true := by with_reducible first | exact zY | exact zU | exact zel) : zac Tryz.prog ty k = true := h
theorem zjv {ty : TypeId} (h : zN Tryz.prog ty = true := by with_reducible first | exact zw | exact Zd | exact zaa) : zN Tryz.prog ty = true := h
theorem zl0 (odX : Int) (oaX : Option Addr) (osX : List Ob) (ocX : Nat) (nxX t0X t1X t2X t3X : Int) (faX : Option Addr) (fsX : List Bl) (fcX : Nat) (raX : Option Addr) (rsX : List Rw) (rcX : Nat) (nu vi cl sq kk hh ii nn cc vv tt : Int) (hst : StR ⟨⟨odX, oaX, osX, ocX, nxX, t0X, t1X, t2X, t3X, faX, fsX, fcX⟩, raX, rsX, rcX⟩) (he : zdn ⟨nu, vi, cl, sq, ⟨kk, hh, ii, nn, cc, vv, tt⟩⟩ = true) (ss : Sv) (rcc rvv : Int) (hq : Zg ⟨⟨odX, oaX, osX, ocX, nxX, t0X, t1X, t2X, t3X, faX, fsX, fcX⟩, raX, rsX, rcX⟩ cl sq ⟨kk, hh, ii, nn, cc, vv, tt⟩ = (ss, rcc, rvv)) (w : World) (hx0 : Sv.Is w ⟨⟨odX, oaX, osX, ocX, nxX, t0X, t1X, t2X, t3X, faX, fsX, fcX⟩, raX, rsX, rcX⟩) :
  Calls Tryz.prog 94 #[.agg #[.int .i64 odX, .slice oaX (List.length osX) ocX, .int .i64 nxX, .int .i64 t0X, .int .i64 t1X, .int .i64 t2X, .int .i64 t3X, .slice faX (List.length fsX) fcX, .slice raX (List.length rsX) rcX], .agg #[.int .i64 nu, .int .i64 vi, .int .i64 cl, .int .i64 sq, .int .i64 kk, .int .i64 hh, .int .i64 ii, .int .i64 nn, .int .i64 cc, .int .i64 vv, .int .i64 tt]] w (zce w (ss, rcc, rvv)) := hq ▸ zot odX oaX osX ocX nxX t0X t1X t2X t3X faX fsX fcX raX rsX rcX nu vi cl sq kk hh ii nn cc vv tt hst he w hx0
theorem zkX (nu vi cl sq kk hh ii nn cc vv tt : Int) (b : Bool) (hb : zdn ⟨nu, vi, cl, sq, ⟨kk, hh, ii, nn, cc, vv, tt⟩⟩ = b) (w : World) : Calls Tryz.prog 126 #[.agg #[.int .i64 nu, .int .i64 vi, .int .i64 cl, .int .i64 sq, .int .i64 kk, .int .i64 hh, .int .i64 ii, .int .i64 nn, .int .i64 cc, .int .i64 vv, .int .i64 tt]] w fun x w' => x = .returned (.bool b) ∧ Below w.heap.size w w' := hb ▸ zoF ⟨nu, vi, cl, sq, ⟨kk, hh, ii, nn, cc, vv, tt⟩⟩ w
theorem zfj : ZC [] fun w => Sv.Is w ⟨⟨0, none, [], 0, 0, 0, 0, 0, 0, none, [], 0⟩, none, [], 0⟩ := zgu.mono (fun _ h => h) (fun w h => ⟨h, zD.nil _ _⟩)
theorem zlR (odX : Int) (oaX : Option Addr) (osX : List Ob) (ocX : Nat) (nxX t0X t1X t2X t3X : Int) (faX : Option Addr) (fsX : List Bl) (fcX : Nat) (raX : Option Addr) (rsX : List Rw) (rcX : Nat) (nu vi cl sq kk hh ii nn cc vv tt : Int) (ss : Sv) (rcc rvv : Int) (hr : ZT ⟨⟨odX, oaX, osX, ocX, nxX, t0X, t1X, t2X, t3X, faX, fsX, fcX⟩, raX, rsX, rcX⟩ ⟨nu, vi, cl, sq, ⟨kk, hh, ii, nn, cc, vv, tt⟩⟩ = (ss, rcc, rvv)) (hs : Sv.Small ⟨⟨odX, oaX, osX, ocX, nxX, t0X, t1X, t2X, t3X, faX, fsX, fcX⟩, raX, rsX, rcX⟩) (hnx : nxX ≤ 9223372036854775807) (w : World) (hx0 : Sv.Is w ⟨⟨odX, oaX, osX, ocX, nxX, t0X, t1X, t2X, t3X, faX, fsX, fcX⟩, raX, rsX, rcX⟩) :
  Calls Tryz.prog 48 #[.agg #[.int .i64 odX, .slice oaX (List.length osX) ocX, .int .i64 nxX, .int .i64 t0X, .int .i64 t1X, .int .i64 t2X, .int .i64 t3X, .slice faX (List.length fsX) fcX, .slice raX (List.length rsX) rcX], .agg #[.int .i64 nu, .int .i64 vi, .int .i64 cl, .int .i64 sq, .int .i64 kk, .int .i64 hh, .int .i64 ii, .int .i64 nn, .int .i64 cc, .int .i64 vv, .int .i64 tt]] w (zce w (ss, rcc, rvv)) := by
 have hp := Hp.start w
 have HSX := z0j hs
 have HNX := z0j hnx
 have HIX := z0j hx0
 cases h1 : stB ⟨⟨odX, oaX, osX, ocX, nxX, t0X, t1X, t2X, t3X, faX, fsX, fcX⟩, raX, rsX, rcX⟩ with
 | false =>
  have hz : (zcU, (1 : Int), (0 : Int)) = (ss, rcc, rvv) := by rw [← hr]; exact (zcH (.inl h1)).symm
  injection hz with z1 z2
  injection z2 with z2 z3
  subst z1 z2 z3
  have HBX := z0j h1
  clear hr h1 hx0 hs hnx
  go_enter Tryz.func48, Tryz.ntmps48
  go_wp2_with (first | (go_at_call 36; (with_reducible refine (zgB odX oaX osX ocX nxX t0X t1X t2X t3X faX fsX fcX raX rsX rcX _ HBX.out HSX.out HNX.out _ (HIX.out.below hp.below)).mono ?_); rintro e w1 ⟨rfl, hb⟩; replace hp := hp.call hb; clear hb) | go_skip | ((first | ((refine zh _ rfl ?_); refine lZ hp rfl (by with_reducible first | exact Z7 | exact zJ) ?_; clear hp; intro b w1 hp) | ((refine zi _ _ rfl ?_); refine lB hp rfl (zb rfl) rfl ?_; clear hp; intro b w1 hp) | ((refine zg _ _ rfl ?_); first | refine lO hp rfl (zb rfl) zjv aa5 ?_ | refine lA hp rfl (zb rfl) zgq aa5 ?_) | ((refine zf _ _ _ rfl ?_); (first | refine sO hp rfl (zb rfl) zjv aa5 ?_ | refine sA hp rfl (zb rfl) (zb rfl) zgq aa5 ?_ | refine sG hp rfl (zb rfl) (zb rfl) zgq aa5 ?_); clear hp; intro w1 hp; simp only [spl, z0a, z0b] at hp) | ((refine zm _ _ _ rfl ?_); refine lS hp rfl (by intro w; go_simp; rfl) ?_; clear hp; intro b w1 hp; simp only [z0g, z0h, Nat.reduceAdd] at hp)); simp only [ze, zd, z0b, z0a]))
  exact bodyPost_ret (zx (rs := [.cell 4 50, .cell 5 54]) Tryz.results48 (.cell rfl (hp.loadAgg zY at1 0 _ (by rfl) (by rfl)) (.cell rfl (hp.loadAgg zU at0 0 _ (by rfl) (by rfl)) .nil))) rfl ⟨0, none, [], 0, 0, 0, 0, 0, 0, none, [], 0, none, [], 0, [], rfl, ⟨Hv.Sm.refl _, rfl⟩, zfj, hp.sub (List.nil_sublist _)⟩
 | true =>
  have HBX := z0j h1
  cases h2 : zdn ⟨nu, vi, cl, sq, ⟨kk, hh, ii, nn, cc, vv, tt⟩⟩ with
  | false =>
   have hz : (zcU, (1 : Int), (0 : Int)) = (ss, rcc, rvv) := by rw [← hr]; exact (zcH (.inr h2)).symm
   injection hz with z1 z2
   injection z2 with z2 z3
   subst z1 z2 z3
   have HMY := z0j h2
   clear hr h1 h2 hx0 hs hnx
   go_enter Tryz.func48, Tryz.ntmps48
   go_wp2_with (first | (go_at_call 36; (with_reducible refine (zgB odX oaX osX ocX nxX t0X t1X t2X t3X faX fsX fcX raX rsX rcX _ HBX.out HSX.out HNX.out _ (HIX.out.below hp.below)).mono ?_); rintro e w1 ⟨rfl, hb⟩; replace hp := hp.call hb; clear hb) | (go_at_call 126; (with_reducible refine (zkX nu vi cl sq kk hh ii nn cc vv tt _ HMY.out _).mono ?_); rintro e w1 ⟨rfl, hb⟩; replace hp := hp.call hb; clear hb) | go_skip | ((first | ((refine zh _ rfl ?_); refine lZ hp rfl (by with_reducible first | exact Z7 | exact zJ) ?_; clear hp; intro b w1 hp) | ((refine zi _ _ rfl ?_); refine lB hp rfl (zb rfl) rfl ?_; clear hp; intro b w1 hp) | ((refine zg _ _ rfl ?_); first | refine lO hp rfl (zb rfl) zjv aa5 ?_ | refine lA hp rfl (zb rfl) zgq aa5 ?_) | ((refine zf _ _ _ rfl ?_); (first | refine sO hp rfl (zb rfl) zjv aa5 ?_ | refine sA hp rfl (zb rfl) (zb rfl) zgq aa5 ?_ | refine sG hp rfl (zb rfl) (zb rfl) zgq aa5 ?_); clear hp; intro w1 hp; simp only [spl, z0a, z0b] at hp) | ((refine zm _ _ _ rfl ?_); refine lS hp rfl (by intro w; go_simp; rfl) ?_; clear hp; intro b w1 hp; simp only [z0g, z0h, Nat.reduceAdd] at hp)); simp only [ze, zd, z0b, z0a]))
   exact bodyPost_ret (zx (rs := [.cell 4 50, .cell 5 54]) Tryz.results48 (.cell rfl (hp.loadAgg zY at1 0 _ (by rfl) (by rfl)) (.cell rfl (hp.loadAgg zU at0 0 _ (by rfl) (by rfl)) .nil))) rfl ⟨0, none, [], 0, 0, 0, 0, 0, 0, none, [], 0, none, [], 0, [], rfl, ⟨Hv.Sm.refl _, rfl⟩, zfj, hp.sub (List.nil_sublist _)⟩
  | true =>
   have HST := z0j (zfb h1)
   have HMY := z0j h2
   have HDQ : Hid (Zg ⟨⟨odX, oaX, osX, ocX, nxX, t0X, t1X, t2X, t3X, faX, fsX, fcX⟩, raX, rsX, rcX⟩ cl sq ⟨kk, hh, ii, nn, cc, vv, tt⟩ = (ss, rcc, rvv)) := z0j (by rw [← hr]; unfold ZT; rw [if_pos ⟨h1, h2⟩])
   clear hr h1 h2 hx0 hs hnx
   go_enter Tryz.func48, Tryz.ntmps48
   go_wp2_with (first | (go_at_call 36; (with_reducible refine (zgB odX oaX osX ocX nxX t0X t1X t2X t3X faX fsX fcX raX rsX rcX _ HBX.out HSX.out HNX.out _ (HIX.out.below hp.below)).mono ?_); rintro e w1 ⟨rfl, hb⟩; replace hp := hp.call hb; clear hb) | (go_at_call 126; (with_reducible refine (zkX nu vi cl sq kk hh ii nn cc vv tt _ HMY.out _).mono ?_); rintro e w1 ⟨rfl, hb⟩; replace hp := hp.call hb; clear hb) | (go_at_call 94; (with_reducible refine (zl0 odX oaX osX ocX nxX t0X t1X t2X t3X faX fsX fcX raX rsX rcX nu vi cl sq kk hh ii nn cc vv tt HST.out HMY.out ss rcc rvv HDQ.out _ (HIX.out.below hp.below)).mono ?_); rintro e w1 ⟨odZ, oaZ, osZ, ocZ, nxZ, t0Z, t1Z, t2Z, t3Z, faZ, fsZ, fcZ, raZ, rsZ, rcZ, RZ, rfl, hyz, hkz, hpn⟩; replace hp := hp.join hpn; have HYZ := z0j hyz; have HKZ := z0j hkz; clear hpn hyz hkz; simp only [z0f, z0e, z0i] at hp) | go_skip | ((first | ((refine zh _ rfl ?_); refine lZ hp rfl (by with_reducible first | exact Z7 | exact zJ) ?_; clear hp; intro b w1 hp) | ((refine zi _ _ rfl ?_); refine lB hp rfl (zb rfl) rfl ?_; clear hp; intro b w1 hp) | ((refine zg _ _ rfl ?_); first | refine lO hp rfl (zb rfl) zjv aa5 ?_ | refine lA hp rfl (zb rfl) zgq aa5 ?_) | ((refine zf _ _ _ rfl ?_); (first | refine sO hp rfl (zb rfl) zjv aa5 ?_ | refine sA hp rfl (zb rfl) (zb rfl) zgq aa5 ?_ | refine sG hp rfl (zb rfl) (zb rfl) zgq aa5 ?_); clear hp; intro w1 hp; simp only [spl, z0a, z0b] at hp) | ((refine zm _ _ _ rfl ?_); refine lS hp rfl (by intro w; go_simp; rfl) ?_; clear hp; intro b w1 hp; simp only [z0g, z0h, Nat.reduceAdd] at hp)); simp only [ze, zd, z0b, z0a]))
   exact bodyPost_ret (zx (rs := [.cell 4 50, .cell 5 54]) Tryz.results48 (.cell rfl (hp.loadAgg zY at1 0 _ (by rfl) (by rfl)) (.cell rfl (hp.loadAgg zU at0 0 _ (by rfl) (by rfl)) .nil))) rfl ⟨odZ, oaZ, osZ, ocZ, nxZ, t0Z, t1Z, t2Z, t3Z, faZ, fsZ, fcZ, raZ, rsZ, rcZ, RZ, rfl, HYZ.out, HKZ.out, hp.tail.tail.tail.tail⟩
end Go.Proofs.YtaafajaadfgaoaaGreat
