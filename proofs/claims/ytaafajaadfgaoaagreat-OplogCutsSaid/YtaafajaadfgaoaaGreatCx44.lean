import Derived.Test.YtaafajaadfgaoaaGreatCx40
import Derived.Test.YtaafajaadfgaoaaGreatCx22
import Derived.Test.YtaafajaadfgaoaaGreatCx29
import Derived.Test.YtaafajaadfgaoaaGreatCx20
import Derived.Test.YtaafajaadfgaoaaGreatCx42
set_option linter.unusedSimpArgs false
set_option linter.unusedVariables false
set_option maxRecDepth 100000
set_option maxHeartbeats 60000000
namespace Go.Proofs.YtaafajaadfgaoaaGreat
open Go.RowKit
theorem zuv {ty : TypeId} (h : zy Tryz.prog ty = true := by with_reducible first | exact zr | exact Ze | exact zev | exact zkQ | exact Zb) : zy Tryz.prog ty = true := h
theorem zuB {ty : TypeId} {k : Nat} (h : ZB Tryz.prog ty k = true := by with_reducible first | exact zap | exact zW | exact zV) : ZB Tryz.prog ty k = true := h
theorem zmm {ty : TypeId} (h : zy Tryz.prog ty = true := by with_reducible first | exact zr | exact Ze | exact zaC | exact Zb) : zy Tryz.prog ty = true := h
theorem zfF (n lo hi : Int) (b : Bool) (hb : inM n lo hi = b) (w : World) : Calls Tryz.prog 162 #[.int .i64 n, .int .i64 lo, .int .i64 hi] w fun e w' => e = .returned (.bool b) ∧ w = w' := by
 subst hb
 go_enter Tryz.func162, Tryz.ntmps162
 go_wp2
 all_goals go_ret
 all_goals refine ⟨zU ?_, rfl⟩
 all_goals (simp [inM, *]; try omega)
def znm (x : Rw) : Bool := inM x.c 1 4 && (inM x.s 1 1000000 && inM x.e 0 65535)
theorem zeS (xc xs xe xv : Int) (b : Bool) (hb : znm ⟨xc, xs, xe, xv⟩ = b) (w : World) : Calls Tryz.prog 95 #[.agg #[.int .i64 xc, .int .i64 xs, .int .i64 xe, .int .i64 xv]] w fun e w' => e = .returned (.bool b) ∧ Below w.heap.size w w' := by
 subst hb
 have hp := Hp.start w
 unfold znm
 simp only
 cases h1 : inM xc 1 4
 all_goals cases h2 : inM xs 1 1000000
 all_goals cases h3 : inM xe 0 65535
 all_goals
  have H1 := z0j h1
  have H2 := z0j h2
  have H3 := z0j h3
  clear h1 h2 h3
  go_enter Tryz.func95, Tryz.ntmps95
  go_wp2_with (first | (go_at_call 162; (first | (with_reducible refine (zfF xc 1 4 _ H1.out _).mono ?_) | (with_reducible refine (zfF xs 1 1000000 _ H2.out _).mono ?_) | (with_reducible refine (zfF xe 0 65535 _ H3.out _).mono ?_)); rintro e w' ⟨rfl, rfl⟩) | go_skip | ((first | ((refine zk _ _ rfl ?_); refine lB hp rfl (za rfl) rfl ?_; clear hp; intro b w1 hp) | ((refine zd _ _ rfl ?_); first | refine lO hp rfl (za rfl) zuv aa5 ?_)); simp only [zc, zb, z0b, z0a]))
  go_ret
  exact ⟨rfl, hp.below⟩
theorem znS {last : Int} {x : Rw} (h : znm x = false) : zbR last x = false ∨ last < 0 := by
 by_cases hl : last < 0
 ·exact .inr hl
 ·left
  unfold zbR
  rw [decide_eq_false_iff_not]
  rintro ⟨h1, h2, h3, h4, h5, h6⟩
  unfold znm inM at h
  have : (decide (1 ≤ x.c) && decide (x.c ≤ 4) && (decide (1 ≤ x.s) && decide (x.s ≤ 1000000) && (decide (0 ≤ x.e) && decide (x.e ≤ 65535)))) = true := by simp; omega
  rw [this] at h; cases h
theorem zlv {x : Rw} (h : znm x = true) : 1 ≤ x.c ∧ x.c ≤ 4 ∧ 1 ≤ x.s ∧ x.s ≤ 1000000 ∧ 0 ≤ x.e ∧ x.e ≤ 65535 := by
 unfold znm inM at h
 simp at h
 omega
theorem znO (od : Int) (oa : Option Addr) (os : List Ob) (oc : Nat) (nx t0 t1 t2 t3 : Int) (fa : Option Addr) (fs : List Bl) (fc : Nat) (b : Bool) (hb : zY ⟨od, oa, os, oc, nx, t0, t1, t2, t3, fa, fs, fc⟩ = b) (hs : Hv.Small ⟨od, oa, os, oc, nx, t0, t1, t2, t3, fa, fs, fc⟩) (hnx : nx ≤ 9223372036854775807) (w : World) (h : Hv.Is w ⟨od, oa, os, oc, nx, t0, t1, t2, t3, fa, fs, fc⟩) :
  Calls Tryz.prog 96 #[.agg #[.int .i64 od, .slice oa os.length oc, .int .i64 nx, .int .i64 t0, .int .i64 t1, .int .i64 t2, .int .i64 t3, .slice fa fs.length fc]] w fun e w' => e = .returned (.bool b) ∧ Below w.heap.size w w' := hb ▸ znP ⟨od, oa, os, oc, nx, t0, t1, t2, t3, fa, fs, fc⟩ hs hnx w h
def zhk (rs : List Rw) (q : Nat) (last : Int) : Prop := (q = 0 → last = 0) ∧ (0 < q → 1 ≤ last ∧ ∃ y, rs[q - 1]? = some y ∧ y.c = last)
theorem znT {rs : List Rw} (hrl : rs.length ≤ 1000) {q : Nat} {last : Int} {x : Rw} (h : zhk rs q last) (hx : rs[q]? = some x) {res : Bool} (hr : ZG 0 rs = ZG last (rs.drop q)) (hres : res = ZG 0 rs) :
  (znm x = false ∧ res = false) ∨ (znm x = true ∧ decide ((0 : Int) < (q : Int)) = false ∧ decide (0 < q) = false ∧ ZG 0 rs = ZG x.c (rs.drop (q + 1)) ∧ zhk rs (q + 1) x.c) ∨
  (∃ (k : Nat) (y : Rw), znm x = true ∧ decide ((0 : Int) < (q : Int)) = true ∧ decide (0 < q) = true ∧ wrap64 ((q : Int) - 1) = (k : Int) ∧ (q : Int) - 1 = (k : Int) ∧ (0 : Int) ≤ (k : Int) ∧ (k : Int) < (rs.length : Int) ∧ rs[k]? = some y ∧ decide (x.c ≤ y.c) = true ∧ res = false) ∨
  (∃ (k : Nat) (y : Rw), znm x = true ∧ decide ((0 : Int) < (q : Int)) = true ∧ decide (0 < q) = true ∧ wrap64 ((q : Int) - 1) = (k : Int) ∧ (q : Int) - 1 = (k : Int) ∧ (0 : Int) ≤ (k : Int) ∧ (k : Int) < (rs.length : Int) ∧ rs[k]? = some y ∧ decide (x.c ≤ y.c) = false ∧ ZG 0 rs = ZG x.c (rs.drop (q + 1)) ∧ zhk rs (q + 1) x.c) := by
 have hql := (List.getElem?_eq_some_iff.1 hx).1
 have hd : rs.drop q = x :: rs.drop (q + 1) := by
  rw [List.drop_eq_getElem_cons hql]
  congr 1
  rw [List.getElem?_eq_getElem hql] at hx; injection hx
 have hc : ZG 0 rs = (zbR last x && ZG x.c (rs.drop (q + 1))) := by rw [hr, hd]; rfl
 have hla : 0 ≤ last := by
  rcases Nat.eq_zero_or_pos q with h0 | h0
  ·rw [h.1 h0]; exact Int.le_refl _
  ·have := (h.2 h0).1; omega
 cases hm : znm x with
 | false =>
  left
  refine ⟨rfl, ?_⟩
  rcases znS (last := last) hm with h1 | h1
  ·rw [hres, hc, h1]; rfl
  ·omega
 | true =>
  right
  have hf := zlv hm
  have hnext : zhk rs (q + 1) x.c := ⟨fun h => by omega, fun _ => ⟨hf.1, x, by simpa using hx, rfl⟩⟩
  rcases Nat.eq_zero_or_pos q with h0 | h0
  ·left
   have hl := h.1 h0
   refine ⟨rfl, by simp; omega, by simp; omega, ?_, hnext⟩
   rw [hc, show zbR last x = true from ZF.2 (by omega)]; rfl
  ·right
   obtain ⟨h1, y, hy, hyc⟩ := h.2 h0
   have w1 : wrap64 ((q : Int) - 1) = ((q - 1 : Nat) : Int) := by unfold wrap64; omega
   by_cases hle : x.c ≤ y.c
   ·left
    refine ⟨q - 1, y, rfl, by simp; omega, by simp; omega, w1, by omega, by omega, by omega, hy, decide_eq_true hle, ?_⟩
    rw [hres, hc, show zbR last x = false by unfold zbR; rw [decide_eq_false_iff_not]; rintro ⟨g, _⟩; omega]; rfl
   ·right
    refine ⟨q - 1, y, rfl, by simp; omega, by simp; omega, w1, by omega, by omega, by omega, hy, decide_eq_false hle, ?_, hnext⟩
    rw [hc, show zbR last x = true from ZF.2 (by omega)]; rfl
theorem zks (od : Int) (oa : Option Addr) (os : List Ob) (oc : Nat) (nx t0 t1 t2 t3 : Int) (fa : Option Addr) (fs : List Bl) (fc : Nat) (ra : Option Addr) (rs : List Rw) (rc : Nat) (res : Bool) (hres : stB ⟨⟨od, oa, os, oc, nx, t0, t1, t2, t3, fa, fs, fc⟩, ra, rs, rc⟩ = res) (hs : Sv.Small ⟨⟨od, oa, os, oc, nx, t0, t1, t2, t3, fa, fs, fc⟩, ra, rs, rc⟩) (hnx : nx ≤ 9223372036854775807) (w : World) (hx0 : Sv.Is w ⟨⟨od, oa, os, oc, nx, t0, t1, t2, t3, fa, fs, fc⟩, ra, rs, rc⟩) :
  Calls Tryz.prog 36 #[.agg #[.int .i64 od, .slice oa os.length oc, .int .i64 nx, .int .i64 t0, .int .i64 t1, .int .i64 t2, .int .i64 t3, .slice fa fs.length fc, .slice ra rs.length rc]] w fun e w' => e = .returned (.bool res) ∧ Below w.heap.size w w' := by
 subst hres
 have hp := Hp.start w
 have HSH : Hid (Hv.Small ⟨od, oa, os, oc, nx, t0, t1, t2, t3, fa, fs, fc⟩) := z0j hs.1
 have HIH : Hid (Hv.Is w ⟨od, oa, os, oc, nx, t0, t1, t2, t3, fa, fs, fc⟩) := z0j hx0.1
 have HR : Hid (zm w ra (rs.flatMap rwV)) := z0j hx0.2
 have hrl : rs.length ≤ 1000 := hs.2
 have HNX := z0j hnx
 clear hs hx0 hnx
 go_enter Tryz.func36, Tryz.ntmps36
 go_wp2_with (first | ((first | ((refine zk _ _ rfl ?_); refine lB hp rfl (za rfl) rfl ?_; clear hp; intro b w1 hp)); simp only [zc, zb, z0b, z0a]))
 obtain ⟨bb, rfl⟩ := hp.id0
 go_loopg [3] rs.length (fun k i wr => ∃ (q : Nat) (last : Int), k + q = rs.length ∧ i = .int .i64 q ∧ Hid (ZG 0 rs = ZG last (rs.drop q)) ∧ Hid (zhk rs q last) ∧ Hp w.heap.size w wr [⟨bb, [.int .i64 od, .slice oa os.length oc, .int .i64 nx, .int .i64 t0, .int .i64 t1, .int .i64 t2, .int .i64 t3, .slice fa fs.length fc, .slice ra rs.length rc], 50, 9⟩])
 case atStart => exact ⟨0, 0, by omega, rfl, z0j rfl, z0j ⟨fun _ => rfl, fun h => absurd h (Nat.lt_irrefl 0)⟩, hp⟩
 case round =>
  clear hp
  obtain ⟨q, last, hkq, rfl, HF, HLA, hp⟩ := hrel
  by_cases hlt : q < rs.length
  ·obtain ⟨bq, off, rfl, hx⟩ := HR.out.elems 4 ZL (by omega) (by omega)
   have HE := z0j hx
   have hj := List.getElem?_eq_getElem hlt
   replace hx := hx q _ hj
   have hways := znT hrl HLA.out hj HF.out rfl
   clear hj
   generalize rs[q] = x at hx hways
   obtain ⟨xc, xs, xe, xv⟩ := x
   simp only [rwV] at hx
   have HX := z0j hx
   have f1 : (0 : Int) ≤ (q : Int) := by omega
   have f2 : (q : Int) < (rs.length : Int) := by omega
   clear hx
   rcases hways with ⟨hm, hr⟩ | ⟨hm, d1, d2, hn, hl⟩ | ⟨k, y, hm, d1, d2, d3, d4, d5, d6, hy, hle, hr⟩ | ⟨k, y, hm, d1, d2, d3, d4, d5, d6, hy, hle, hn, hl⟩
   ·have HMB := z0j hm
    have HRR : Hid (ZG 0 rs = false) := z0j hr
    clear hm hr HE
    go_wp2_with (first | ((first | ((refine zd _ _ rfl ?_); first | refine lO hp rfl (za rfl) zmm aa5 ?_)); simp only [zc, zb, z0b, z0a]))
    refine zf _ (zt.all hp.drew) [] [(0, true), (1, true), (2, true), (3, true), (4, true), (5, false), (6, true), (7, true), (8, true), (9, true), (10, true), (11, true), (12, true), (13, true), (14, true), (15, true), (16, true), (17, true), (18, true), (19, true), (20, true), (21, true), (22, true), (23, true), (24, true), (25, true), (26, true)] (by kernel_rfl) (by kernel_rfl) rfl (by kernel_rfl) (fun _ _ d _ _ h => by cases d <;> exact h) ?_
    replace hp := hp.drew
    repeat' (with_reducible refine zq ?_); first | (with_reducible refine zl ?_) | ((with_reducible refine zw ?_); refine zn rfl ?_; (first | ((with_reducible refine zcQ _ _ rfl ?_); refine tS (by first | exact Zr rfl rfl rfl rfl | exact zbu rfl rfl rfl rfl) ?_) | ((with_reducible refine zH _ rfl ?_); refine tM rfl ?_) | ((with_reducible refine zI _ _ rfl ?_); first | refine tO rfl (za rfl) (by with_reducible first | exact zaC) aa5 ?_ | refine tR rfl (za rfl) zV HX.out ?_) | refine tG (fun w _ => (by go_simp; try rfl)) ?_); try simp only [zc, zb, zh, ze, z0b, z0a, z0d, z0c, zj]) | (refine zv rfl (fun K hK => ?_); go_wp2_with (first | (go_at_call 95; (with_reducible refine (zeS xc xs xe xv _ HMB.out _).mono ?_); rintro e w1 ⟨rfl, hb⟩; replace hp := hp.call hb; clear hb)); (refine hK.out _ _ (.inr (zex hp)) ?_); clear hK K; try simp only [zc, zb, zh, ze, z0b, z0a, z0d, z0c, zj])
    go_wp2_with (first | fail)
    go_ret
    refine ⟨zU ?_, hp.below⟩
    unfold stB
    simp only
    rw [HRR.out, Bool.and_false]
   ·have HMB := z0j hm
    have HNN := z0j hn
    have HLL := z0j hl
    have d3 : ¬ 0 < q := by simpa using d2
    clear hm hn hl HE
    go_wp2_with (first | ((first | ((refine zd _ _ rfl ?_); first | refine lO hp rfl (za rfl) zmm aa5 ?_)); simp only [zc, zb, z0b, z0a]))
    refine zf [_] (zt.one hp.drew at0) [] [(0, true), (1, true), (2, true), (3, true), (4, true), (5, false), (6, true), (7, true), (8, true), (9, true), (10, true), (11, true), (12, true), (13, true), (14, true), (15, true), (16, true), (17, true), (18, true), (19, true), (20, true), (21, true), (22, true), (23, true), (24, true), (25, true), (26, true)] (by kernel_rfl) (by kernel_rfl) rfl (by kernel_rfl) (fun _ _ d _ _ h => by cases d <;> exact h) ?_
    replace hp := hp.drew
    repeat' (with_reducible refine zq ?_); first | (with_reducible refine zl ?_) | ((with_reducible refine zw ?_); refine zn rfl ?_; (first | ((with_reducible refine zcQ _ _ rfl ?_); refine tS (Zr rfl rfl rfl rfl) ?_) | ((with_reducible refine zH _ rfl ?_); refine tM rfl ?_) | ((with_reducible refine zI _ _ rfl ?_); first | refine tO rfl (za rfl) (by with_reducible first | exact zaC) aa5 ?_ | refine tR rfl (za rfl) zV HX.out ?_) | refine tG (fun w _ => (by go_simp; try rfl)) ?_); try simp only [zc, zb, zh, ze, z0b, z0a, z0d, z0c, zj]) | (refine zv rfl (fun K hK => ?_); go_wp2_with (first | (go_at_call 95; (with_reducible refine (zeS xc xs xe xv _ HMB.out _).mono ?_); rintro e w1 ⟨rfl, hb⟩; replace hp := hp.call hb; clear hb)); (refine hK.out _ _ (.inr (zt.one hp aa5)) ?_); clear hK K; try simp only [zc, zb, zh, ze, z0b, z0a, z0d, z0c, zj])
    go_wp2_with (first | fail)
    go_roundg (gk - 1)
    case measure => omega
    case rel => exact ⟨q + 1, xc, by omega, by go_num, HNN, HLL, hp⟩
   ·have HMB := z0j hm
    have HRR : Hid (ZG 0 rs = false) := z0j hr
    have HY := HE.out _ _ hy
    obtain ⟨yc, ys, ye, yv⟩ := y
    simp only [rwV] at HY
    have HK := z0j HY
    have HW := z0j d3
    have d7 : 0 < q := by simpa using d2
    simp only at hle
    clear hm hr HE HY hy d3 d4
    go_wp2_with (first | ((first | ((refine zd _ _ rfl ?_); first | refine lO hp rfl (za rfl) zmm aa5 ?_)); simp only [zc, zb, z0b, z0a]))
    refine zf [_] (zt.one hp.drew at0) [] [(0, true), (1, true), (2, true), (3, true), (4, true), (5, false), (6, true), (7, true), (8, true), (9, true), (10, true), (11, true), (12, true), (13, true), (14, true), (15, true), (16, true), (17, true), (18, true), (19, true), (20, true), (21, true), (22, true), (23, true), (24, true), (25, true), (26, true)] (by kernel_rfl) (by kernel_rfl) rfl (by kernel_rfl) (fun _ _ d _ _ h => by cases d <;> exact h) ?_
    replace hp := hp.drew
    repeat' (with_reducible refine zq ?_); first | (with_reducible refine zl ?_) | ((with_reducible refine zw ?_); refine zn rfl ?_; (first | ((with_reducible refine zH _ rfl ?_); refine tM rfl ?_) | ((with_reducible refine zI _ _ rfl ?_); first | refine tO rfl (za rfl) (by with_reducible first | exact zr | exact zaC) aa5 ?_ | refine tR rfl (za rfl) zV HX.out ?_ | refine tRO rfl (za rfl) (by with_reducible first | exact zr) (HX.out 0 _ rfl) ?_ | refine tRO rfl (za rfl) (by with_reducible first | exact zr) (HK.out 0 _ rfl) ?_) | refine tG (fun w _ => (by go_simp; try rfl)) ?_); try simp only [zc, zb, zh, ze, z0b, z0a, z0d, z0c, zj, HW.out]) | (refine zv rfl (fun K hK => ?_); go_wp2_with (first | (go_at_call 95; (with_reducible refine (zeS xc xs xe xv _ HMB.out _).mono ?_); rintro e w1 ⟨rfl, hb⟩; replace hp := hp.call hb; clear hb)); (refine hK.out _ _ (.inr (zt.one hp aa5)) ?_); clear hK K; try simp only [zc, zb, zh, ze, z0b, z0a, z0d, z0c, zj, HW.out])
    go_wp2_with (first | fail)
    go_ret
    refine ⟨zU ?_, hp.below⟩
    unfold stB
    simp only
    rw [HRR.out, Bool.and_false]
   ·have HMB := z0j hm
    have HNN := z0j hn
    have HLL := z0j hl
    have HY := HE.out _ _ hy
    obtain ⟨yc, ys, ye, yv⟩ := y
    simp only [rwV] at HY
    have HK := z0j HY
    have HW := z0j d3
    have d7 : 0 < q := by simpa using d2
    simp only at hle
    clear hm hn hl HE HY hy d3 d4
    go_wp2_with (first | ((first | ((refine zd _ _ rfl ?_); first | refine lO hp rfl (za rfl) zmm aa5 ?_)); simp only [zc, zb, z0b, z0a]))
    refine zf [_] (zt.one hp.drew at0) [] [(0, true), (1, true), (2, true), (3, true), (4, true), (5, false), (6, true), (7, true), (8, true), (9, true), (10, true), (11, true), (12, true), (13, true), (14, true), (15, true), (16, true), (17, true), (18, true), (19, true), (20, true), (21, true), (22, true), (23, true), (24, true), (25, true), (26, true)] (by kernel_rfl) (by kernel_rfl) rfl (by kernel_rfl) (fun _ _ d _ _ h => by cases d <;> exact h) ?_
    replace hp := hp.drew
    repeat' (with_reducible refine zq ?_); first | (with_reducible refine zl ?_) | ((with_reducible refine zw ?_); refine zn rfl ?_; (first | ((with_reducible refine zH _ rfl ?_); refine tM rfl ?_) | ((with_reducible refine zI _ _ rfl ?_); first | refine tO rfl (za rfl) (by with_reducible first | exact zr | exact zaC) aa5 ?_ | refine tR rfl (za rfl) zV HX.out ?_ | refine tRO rfl (za rfl) (by with_reducible first | exact zr) (HX.out 0 _ rfl) ?_ | refine tRO rfl (za rfl) (by with_reducible first | exact zr) (HK.out 0 _ rfl) ?_) | refine tG (fun w _ => (by go_simp; try rfl)) ?_); try simp only [zc, zb, zh, ze, z0b, z0a, z0d, z0c, zj, HW.out]) | (refine zv rfl (fun K hK => ?_); go_wp2_with (first | (go_at_call 95; (with_reducible refine (zeS xc xs xe xv _ HMB.out _).mono ?_); rintro e w1 ⟨rfl, hb⟩; replace hp := hp.call hb; clear hb)); (refine hK.out _ _ (.inr (zt.one hp aa5)) ?_); clear hK K; try simp only [zc, zb, zh, ze, z0b, z0a, z0d, z0c, zj, HW.out])
    go_wp2_with (first | fail)
    go_roundg (gk - 1)
    case measure => omega
    case rel => exact ⟨q + 1, xc, by omega, by go_num, HNN, HLL, hp⟩
  ·obtain rfl : q = rs.length := by omega
   have f2 : decide ((rs.length : Int) < (rs.length : Int)) = false := by simp
   have HT : Hid (ZG 0 rs = true) := z0j (by rw [HF.out, List.drop_length]; rfl)
   obtain ⟨b, hb⟩ : ∃ b, zY ⟨od, oa, os, oc, nx, t0, t1, t2, t3, fa, fs, fc⟩ = b := ⟨_, rfl⟩
   have HB := z0j hb
   clear hkq hlt hb HF
   go_wp2_with (first | (go_at_call 96; (with_reducible refine (znO od oa os oc nx t0 t1 t2 t3 fa fs fc _ HB.out HSH.out HNX.out _ (HIH.out.below hp.below)).mono ?_); rintro e w1 ⟨rfl, hb⟩; replace hp := hp.call hb; clear hb) | ((first | ((refine zd _ _ rfl ?_); first | refine lO hp rfl (za rfl) zmm aa5 ?_ | refine lA hp rfl (za rfl) zuB aa5 ?_)); simp only [zc, zb, z0b, z0a]))
   go_ret
   refine ⟨zU ?_, hp.below⟩
   unfold stB
   simp only
   rw [HT.out, Bool.and_true, HB.out]
end Go.Proofs.YtaafajaadfgaoaaGreat
