import Derived.Test.YtaafajaadfgaoaaGreatTb23
import Derived.Test.YtaafajaadfgaoaaGreatTb17
import Derived.Test.YtaafajaadfgaoaaGreatTb1
set_option linter.unusedSimpArgs false
set_option linter.unusedVariables false
set_option maxRecDepth 100000
set_option maxHeartbeats 60000000
namespace Go.Proofs.YtaafajaadfgaoaaGreat
open Go.RowKit
theorem zcK {ty : TypeId} {k : Nat} (h : zac Tryz.prog ty k = true := by with_reducible first | exact zL | exact zv | exact zcw | exact zU) : zac Tryz.prog ty k = true := h
theorem zeP {ty : TypeId} (h : zN Tryz.prog ty = true := by with_reducible first | exact zw | exact Zd | exact Zb | exact zfG) : zN Tryz.prog ty = true := h
def zax (B : Nat) (w0 w : World) (x : Hv) (K : List Blk) : Prop := ∃ RO RF M, HvR x RO RF M ∧ Hp B w0 w (RO ++ (RF ++ (M ++ K)))
def Zt (B : Nat) (w0 : World) (s : Hv) (c v : Int) (K : List Blk) (e : Ending) (w' : World) : Prop :=
 ∃ y : Hv, e = .returned (.tuple #[.agg (hvL y).toArray, .agg #[.int .i64 c, .int .i64 v]]) ∧ y.Sm s ∧ zax B w0 w' y K
theorem zhB {x : Hv} {kk hh ii nn cc vv tt : Int} {B : Nat} {w0 w : World} {K : List Blk} (hi : ii < 0 ∨ 3 < ii) (hW : zax B w0 w x K) : Calls Tryz.prog 207 #[.agg (hvL x).toArray, .agg #[.int .i64 kk, .int .i64 hh, .int .i64 ii, .int .i64 nn, .int .i64 cc, .int .i64 vv, .int .i64 tt]] w (Zt B w0 x 52 0 K) := by
 obtain ⟨RO, RF, M, hR, hp⟩ := hW
 have HR := z0j hR
 clear hR
 obtain ⟨od, oa, os, oc, nx, t0, t1, t2, t3, fa, fs, fc⟩ := x
 simp only [hvL]
 have hw : decide (ii < 0) = true ∨ (decide (ii < 0) = false ∧ decide (4 ≤ ii) = true) := by
  by_cases h : ii < 0
  ·exact .inl (decide_eq_true h)
  ·exact .inr ⟨decide_eq_false h, decide_eq_true (by omega)⟩
 clear hi
 rcases hw with e1 | ⟨e1, e2⟩
 all_goals
  go_enter Tryz.func207, Tryz.ntmps207
  go_wp2_with (first | go_skip | ((first | ((refine zh _ rfl ?_); refine lZ hp rfl (by with_reducible first | exact zT | exact zJ) ?_; clear hp; intro b w1 hp) | ((refine zi _ _ rfl ?_); refine lB hp rfl (zb rfl) rfl ?_; clear hp; intro b w1 hp) | ((refine zg _ _ rfl ?_); first | refine lO hp rfl (zb rfl) zeP aa5 ?_ | refine lA hp rfl (zb rfl) zcK aa5 ?_) | ((refine zf _ _ _ rfl ?_); (first | refine sO hp rfl (zb rfl) zeP aa5 ?_ | refine sA hp rfl (zb rfl) (zb rfl) zcK aa5 ?_ | refine sG hp rfl (zb rfl) (zb rfl) zcK aa5 ?_); clear hp; intro w1 hp; simp only [spl, z0a, z0b] at hp) | ((refine zm _ _ _ rfl ?_); refine lS hp rfl (by intro w; go_simp; rfl) ?_; clear hp; intro b w1 hp; simp only [z0g, z0h, Nat.reduceAdd] at hp)); simp only [ze, zd, z0b, z0a]))
  exact bodyPost_ret (zx (rs := [.cell 4 47, .cell 5 54]) Tryz.results207 (.cell rfl (hp.loadAgg zL at1 0 _ (by rfl) (by rfl)) (.cell rfl (hp.loadAgg zU at0 0 _ (by rfl) (by rfl)) .nil))) rfl ⟨⟨od, oa, os, oc, nx, t0, t1, t2, t3, fa, fs, fc⟩, rfl, Hv.Sm.refl _, RO, RF, M, HR.out, hp.tail.tail.tail.tail⟩
theorem zj7 {x : Hv} {kk hh ii nn cc vv tt : Int} {B : Nat} {w0 w : World} {K : List Blk} (hk : kk = 8) (hi : ii = 0 ∨ ii = 1 ∨ ii = 2 ∨ ii = 3) (hW : zax B w0 w x K) : Calls Tryz.prog 207 #[.agg (hvL x).toArray, .agg #[.int .i64 kk, .int .i64 hh, .int .i64 ii, .int .i64 nn, .int .i64 cc, .int .i64 vv, .int .i64 tt]] w (Zt B w0 x 0 ((tops x).getD ii.toNat 0) K) := by
 subst hk
 obtain ⟨RO, RF, M, hR, hp⟩ := hW
 have HR := z0j hR
 clear hR
 obtain ⟨od, oa, os, oc, nx, t0, t1, t2, t3, fa, fs, fc⟩ := x
 simp only [hvL]
 rcases hi with rfl | rfl | rfl | rfl
 all_goals
  go_enter Tryz.func207, Tryz.ntmps207
  go_wp2_with (first | go_skip | ((first | ((refine zh _ rfl ?_); refine lZ hp rfl (by with_reducible first | exact zT | exact zJ) ?_; clear hp; intro b w1 hp) | ((refine zi _ _ rfl ?_); refine lB hp rfl (zb rfl) rfl ?_; clear hp; intro b w1 hp) | ((refine zg _ _ rfl ?_); first | refine lO hp rfl (zb rfl) zeP aa5 ?_ | refine lA hp rfl (zb rfl) zcK aa5 ?_) | ((refine zf _ _ _ rfl ?_); (first | refine sO hp rfl (zb rfl) zeP aa5 ?_ | refine sA hp rfl (zb rfl) (zb rfl) zcK aa5 ?_ | refine sG hp rfl (zb rfl) (zb rfl) zcK aa5 ?_); clear hp; intro w1 hp; simp only [spl, z0a, z0b] at hp) | ((refine zm _ _ _ rfl ?_); refine lS hp rfl (by intro w; go_simp; rfl) ?_; clear hp; intro b w1 hp; simp only [z0g, z0h, Nat.reduceAdd] at hp)); simp only [ze, zd, z0b, z0a]))
  refine zk [_, _] (zA.two hp.drew at2 at3) [8] [(0, true), (1, true), (2, true), (3, true), (4, true), (5, true), (6, true), (7, false), (8, false)] (by kernel_rfl) (by kernel_rfl) rfl (by kernel_rfl) (fun _ _ d _ _ h => by cases d <;> exact h) ?_
  replace hp := hp.drew
  repeat' (with_reducible refine zB ?_); first | (with_reducible refine zt ?_) | ((with_reducible refine zI ?_); refine zy rfl ?_; (first | ((with_reducible refine zS _ _ rfl ?_); first | refine tA rfl (zb rfl) zL aa5 ?_ | refine tO rfl (zb rfl) zw aa5 ?_) | refine tG (fun w _ => (by go_simp; try rfl)) ?_); try simp only [ze, zd, zn, zj, z0b, z0a, z0d, z0c, zr]) | (refine zF rfl (fun K hK => ?_); go_wp2_with (first | go_skip | (((refine zf _ _ _ rfl ?_); (first | refine sO hp rfl (zb rfl) zeP aa5 ?_ | refine sA hp rfl (zb rfl) (zb rfl) zcK aa5 ?_ | refine sG hp rfl (zb rfl) (zb rfl) zcK aa5 ?_); clear hp; intro w1 hp; simp only [spl, z0a, z0b] at hp); simp only [ze, zd, z0b, z0a])); (first | refine hK.out _ _ (.inl rfl) ?_ | refine hK.out _ _ (.inr (zA.two hp aa5 aa5)) ?_); clear hK K; try simp only [ze, zd, zn, zj, z0b, z0a, z0d, z0c, zr])
  go_wp2_with (first | go_skip | ((first | ((refine zh _ rfl ?_); refine lZ hp rfl (by with_reducible first | exact zT | exact zJ) ?_; clear hp; intro b w1 hp) | ((refine zi _ _ rfl ?_); refine lB hp rfl (zb rfl) rfl ?_; clear hp; intro b w1 hp) | ((refine zg _ _ rfl ?_); first | refine lO hp rfl (zb rfl) zeP aa5 ?_ | refine lA hp rfl (zb rfl) zcK aa5 ?_) | ((refine zf _ _ _ rfl ?_); (first | refine sO hp rfl (zb rfl) zeP aa5 ?_ | refine sA hp rfl (zb rfl) (zb rfl) zcK aa5 ?_ | refine sG hp rfl (zb rfl) (zb rfl) zcK aa5 ?_); clear hp; intro w1 hp; simp only [spl, z0a, z0b] at hp) | ((refine zm _ _ _ rfl ?_); refine lS hp rfl (by intro w; go_simp; rfl) ?_; clear hp; intro b w1 hp; simp only [z0g, z0h, Nat.reduceAdd] at hp)); simp only [ze, zd, z0b, z0a]))
  exact bodyPost_ret (zx (rs := [.cell 4 47, .cell 5 54]) Tryz.results207 (.cell rfl (hp.loadAgg zL at1 0 _ (by rfl) (by rfl)) (.cell rfl (hp.loadAgg zU at0 0 _ (by rfl) (by rfl)) .nil))) rfl ⟨⟨od, oa, os, oc, nx, t0, t1, t2, t3, fa, fs, fc⟩, rfl, Hv.Sm.refl _, RO, RF, M, HR.out, hp.tail.tail.tail.tail⟩
theorem zlA {x : Hv} {kk hh ii nn cc vv tt : Int} {B : Nat} {w0 w : World} {K : List Blk} (hk : kk = 5) (hol : x.os.length ≤ 1000) (hto : ZQ x.os tt = false) (hi : ii = 0 ∨ ii = 1 ∨ ii = 2 ∨ ii = 3) (hW : zax B w0 w x K) : Calls Tryz.prog 207 #[.agg (hvL x).toArray, .agg #[.int .i64 kk, .int .i64 hh, .int .i64 ii, .int .i64 nn, .int .i64 cc, .int .i64 vv, .int .i64 tt]] w (Zt B w0 x 51 0 K) := by
 subst hk
 obtain ⟨RO, RF, M, hR, hp⟩ := hW
 have HR := z0j hR
 rw [zdI] at hto
 have HTO := z0j hto
 obtain ⟨od, oa, os, oc, nx, t0, t1, t2, t3, fa, fs, fc⟩ := x
 have HRO : Hid (ZC RO fun w => zD w oa (os.flatMap obV)) := z0j hR.objs.keptS
 simp only at hol HTO
 clear hR hto
 simp only [hvL]
 rcases hi with rfl | rfl | rfl | rfl
 all_goals
  go_enter Tryz.func207, Tryz.ntmps207
  go_wp2_with (first | (go_at_call 166; (with_reducible refine (zbM od oa os oc nx t0 t1 t2 t3 fa fs.length fc hol tt _ (HRO.out.at hp (fun p hm => by simp [hm]))).mono ?_); rintro e w1 ⟨rfl, hb⟩; replace hp := hp.call hb; clear hb; rw [HTO.out]) | go_skip | ((first | ((refine zh _ rfl ?_); refine lZ hp rfl (by with_reducible first | exact zT | exact zJ) ?_; clear hp; intro b w1 hp) | ((refine zi _ _ rfl ?_); refine lB hp rfl (zb rfl) rfl ?_; clear hp; intro b w1 hp) | ((refine zg _ _ rfl ?_); first | refine lO hp rfl (zb rfl) zeP aa5 ?_ | refine lA hp rfl (zb rfl) zcK aa5 ?_) | ((refine zf _ _ _ rfl ?_); (first | refine sO hp rfl (zb rfl) zeP aa5 ?_ | refine sA hp rfl (zb rfl) (zb rfl) zcK aa5 ?_ | refine sG hp rfl (zb rfl) (zb rfl) zcK aa5 ?_); clear hp; intro w1 hp; simp only [spl, z0a, z0b] at hp) | ((refine zm _ _ _ rfl ?_); refine lS hp rfl (by intro w; go_simp; rfl) ?_; clear hp; intro b w1 hp; simp only [z0g, z0h, Nat.reduceAdd] at hp)); simp only [ze, zd, z0b, z0a]))
  exact bodyPost_ret (zx (rs := [.cell 4 47, .cell 5 54]) Tryz.results207 (.cell rfl (hp.loadAgg zL at1 0 _ (by rfl) (by rfl)) (.cell rfl (hp.loadAgg zU at0 0 _ (by rfl) (by rfl)) .nil))) rfl ⟨⟨od, oa, os, oc, nx, t0, t1, t2, t3, fa, fs, fc⟩, rfl, Hv.Sm.refl _, RO, RF, M, HR.out, hp.tail.tail.tail.tail⟩
theorem ziB {x : Hv} {kk hh ii nn cc vv tt : Int} {B : Nat} {w0 w : World} {K : List Blk} (hk : kk = 5) (hol : x.os.length ≤ 1000) (hto : ZQ x.os tt = true) (hi : ii = 0 ∨ ii = 1 ∨ ii = 2 ∨ ii = 3) (hW : zax B w0 w x K) : Calls Tryz.prog 207 #[.agg (hvL x).toArray, .agg #[.int .i64 kk, .int .i64 hh, .int .i64 ii, .int .i64 nn, .int .i64 cc, .int .i64 vv, .int .i64 tt]] w (Zt B w0 (zmE x ii.toNat tt) 0 0 K) := by
 subst hk
 obtain ⟨RO, RF, M, hR, hp⟩ := hW
 have HR := z0j hR
 rw [zdI] at hto
 have HTO := z0j hto
 obtain ⟨od, oa, os, oc, nx, t0, t1, t2, t3, fa, fs, fc⟩ := x
 have HRO : Hid (ZC RO fun w => zD w oa (os.flatMap obV)) := z0j hR.objs.keptS
 simp only at hol HTO
 clear hR hto
 simp only [hvL]
 rcases hi with rfl | rfl | rfl | rfl
 all_goals
  go_enter Tryz.func207, Tryz.ntmps207
  go_wp2_with (first | (go_at_call 166; (with_reducible refine (zbM od oa os oc nx t0 t1 t2 t3 fa fs.length fc hol tt _ (HRO.out.at hp (fun p hm => by simp [hm]))).mono ?_); rintro e w1 ⟨rfl, hb⟩; replace hp := hp.call hb; clear hb; rw [HTO.out]) | go_skip | ((first | ((refine zh _ rfl ?_); refine lZ hp rfl (by with_reducible first | exact zT | exact zJ) ?_; clear hp; intro b w1 hp) | ((refine zi _ _ rfl ?_); refine lB hp rfl (zb rfl) rfl ?_; clear hp; intro b w1 hp) | ((refine zg _ _ rfl ?_); first | refine lO hp rfl (zb rfl) zeP aa5 ?_ | refine lA hp rfl (zb rfl) zcK aa5 ?_) | ((refine zf _ _ _ rfl ?_); (first | refine sO hp rfl (zb rfl) zeP aa5 ?_ | refine sA hp rfl (zb rfl) (zb rfl) zcK aa5 ?_ | refine sG hp rfl (zb rfl) (zb rfl) zcK aa5 ?_); clear hp; intro w1 hp; simp only [spl, z0a, z0b] at hp) | ((refine zm _ _ _ rfl ?_); refine lS hp rfl (by intro w; go_simp; rfl) ?_; clear hp; intro b w1 hp; simp only [z0g, z0h, Nat.reduceAdd] at hp)); simp only [ze, zd, z0b, z0a]))
  exact bodyPost_ret (zx (rs := [.cell 4 47, .cell 5 54]) Tryz.results207 (.cell rfl (hp.loadAgg zL at1 0 _ (by rfl) (by rfl)) (.cell rfl (hp.loadAgg zU at0 0 _ (by rfl) (by rfl)) .nil))) rfl ⟨_, rfl, Hv.Sm.refl _, RO, RF, M, ⟨HR.out.1, HR.out.2, HR.out.3⟩, hp.tail.tail.tail.tail⟩
theorem zo0 {x : Hv} {kk hh ii nn cc vv tt : Int} {B : Nat} {w0 w : World} {K : List Blk} (hk : kk = 5 ∨ kk = 8) (hol : x.os.length ≤ 1000) (hW : zax B w0 w x K) :
  Calls Tryz.prog 207 #[.agg (hvL x).toArray, .agg #[.int .i64 kk, .int .i64 hh, .int .i64 ii, .int .i64 nn, .int .i64 cc, .int .i64 vv, .int .i64 tt]] w (Zt B w0 (zj8 x ⟨kk, hh, ii, nn, cc, vv, tt⟩).1 (zj8 x ⟨kk, hh, ii, nn, cc, vv, tt⟩).2.1 (zj8 x ⟨kk, hh, ii, nn, cc, vv, tt⟩).2.2 K) := by
 unfold zj8
 simp only
 by_cases hi : ii < 0 ∨ 3 < ii
 ·rw [if_pos hi]; exact zhB hi hW
 ·rw [if_neg hi]
  have hi4 : ii = 0 ∨ ii = 1 ∨ ii = 2 ∨ ii = 3 := by omega
  rcases hk with hk | hk
  ·rw [if_neg (by omega)]
   cases hto : ZQ x.os tt with
   | true => exact ziB hk hol hto hi4 hW
   | false => exact zlA hk hol hto hi4 hW
  ·rw [if_pos hk]; exact zj7 hk hi4 hW
open Go.RowKit
theorem zb1 {ty : TypeId} (h : zN Tryz.prog ty = true := by with_reducible first | exact zw | exact Zd | exact zaa) : zN Tryz.prog ty = true := h
theorem zko (l : List Bl) (a : Option Addr) (c : Nat) (hl : l.length ≤ 600) (want : Int) (w : World) (ha : zD w a (l.flatMap blV)) :
  Calls Tryz.prog 257 #[.slice a l.length c, .int .i64 want] w (zlH w l want) := by
 have hp := Hp.start w
 have HA := z0j ha
 clear ha
 go_enter Tryz.func257, Tryz.ntmps257
 go_wp2_with (first | go_skip | ((first | ((refine zh _ rfl ?_); refine lZ hp rfl zu ?_; clear hp; intro b w1 hp) | ((refine zi _ _ rfl ?_); refine lB hp rfl (zb rfl) rfl ?_; clear hp; intro b w1 hp) | ((refine zg _ _ rfl ?_); first | refine lO hp rfl (zb rfl) zb1 aa5 ?_ | refine lA hp rfl (zb rfl) zl aa5 ?_) | ((refine zf _ _ _ rfl ?_); (first | refine sO hp rfl (zb rfl) zb1 aa5 ?_ | refine sA hp rfl (zb rfl) (zb rfl) zl aa5 ?_ | refine sG hp rfl (zb rfl) (zb rfl) zl aa5 ?_); clear hp; intro w1 hp; simp only [spl, z0a, z0b] at hp)); simp only [ze, zd, z0b, z0a]))
 go_loopg [5, 6] l.length (fun k at_ i wr => ∃ (j : Nat) (b : Int), k + j = l.length ∧ i = .int .i64 j ∧ at_ = .int .i64 b ∧ zba l want j b ∧ Hp w.heap.size w wr [])
 case atStart => exact ⟨0, -1, by omega, rfl, rfl, .inl ⟨rfl, fun k x h => by omega⟩, hp⟩
 case round =>
  clear hp
  obtain ⟨j, i, hkj, rfl, rfl, hb, hp⟩ := hrel
  by_cases hlt : j < l.length
  ·obtain ⟨bq, off, rfl, hx⟩ := HA.out.elems 2 Zk (by omega) (by omega)
   have HE := z0j hx
   have hj := List.getElem?_eq_getElem hlt
   replace hx := hx j _ hj
   generalize l[j] = x at hx hj
   obtain ⟨p, o⟩ := x
   simp only [blV] at hx
   have HX := z0j hx
   have e1 : (0 : Int) ≤ (j : Int) := by omega
   have e2 : (j : Int) < (l.length : Int) := by omega
   rcases hb with ⟨rfl, hb⟩ | ⟨k, z, rfl, hk, hz, hwz, hb⟩
   ·have W9 := z0j (zjs hj hb)
    clear hx hj hb
    go_wp2_with (first | go_skip | ((first | ((refine zh _ rfl ?_); refine lZ hp rfl zu ?_; clear hp; intro b w1 hp) | ((refine zi _ _ rfl ?_); refine lB hp rfl (zb rfl) rfl ?_; clear hp; intro b w1 hp) | ((refine zg _ _ rfl ?_); first | refine lO hp rfl (zb rfl) zb1 aa5 ?_ | refine lA hp rfl (zb rfl) zl aa5 ?_) | ((refine zf _ _ _ rfl ?_); (first | refine sO hp rfl (zb rfl) zb1 aa5 ?_ | refine sA hp rfl (zb rfl) (zb rfl) zl aa5 ?_ | refine sG hp rfl (zb rfl) (zb rfl) zl aa5 ?_); clear hp; intro w1 hp; simp only [spl, z0a, z0b] at hp)); simp only [ze, zd, z0b, z0a]))
    refine zk _ (zA.all hp.drew) [] [(0, true), (1, true), (2, true), (3, true), (4, true), (5, true), (6, true), (7, true), (8, true), (9, true), (10, true), (11, true), (12, true), (13, true), (14, true), (15, true), (16, true), (17, true), (18, true), (19, true), (20, true), (21, true), (22, true), (23, true)] (by kernel_rfl) (by kernel_rfl) rfl (by kernel_rfl) (fun _ _ d _ _ h => by cases d <;> exact h) ?_
    replace hp := hp.drew
    rcases W9.out with ⟨d1, r⟩ | ⟨d1, r⟩
    all_goals have R := z0j r
    all_goals clear r W9
    all_goals
     repeat' (with_reducible refine zB ?_); first | (with_reducible refine zt ?_) | ((with_reducible refine zI ?_); refine zy rfl ?_; (first | ((with_reducible refine zcn _ _ rfl ?_); refine tS (by first | exact ZA rfl rfl rfl rfl | exact zab rfl rfl rfl rfl) ?_) | ((with_reducible refine zV _ rfl ?_); refine tM rfl ?_) | ((with_reducible refine zS _ _ rfl ?_); first | refine tO rfl (zb rfl) zw aa5 ?_ | refine tRO rfl (zb rfl) zw (HX.out 0 _ rfl) ?_ | refine tRO rfl (zb rfl) zw (HX.out 1 _ rfl) ?_) | refine tG (fun w _ => (by go_simp; try rfl)) ?_); try simp only [ze, zd, zn, zj, z0b, z0a, z0d, z0c, zr])
    all_goals
     go_wp2_with fail
     go_roundg (gk - 1)
     case measure => omega
     case rel => exact ⟨j + 1, _, by omega, by go_num, rfl, R.out, hp⟩
   ·have hy := HE.out k _ hz
    obtain ⟨q, r⟩ := z
    simp only [blV] at hy
    have HY := z0j hy
    have W9 := z0j (zjt hj hk hz hwz hb)
    clear hx hj hb hy hz hwz
    have e3 : (0 : Int) ≤ (k : Int) := by omega
    have e4 : (k : Int) < (l.length : Int) := by omega
    go_wp2_with (first | go_skip | ((first | ((refine zh _ rfl ?_); refine lZ hp rfl zu ?_; clear hp; intro b w1 hp) | ((refine zi _ _ rfl ?_); refine lB hp rfl (zb rfl) rfl ?_; clear hp; intro b w1 hp) | ((refine zg _ _ rfl ?_); first | refine lO hp rfl (zb rfl) zb1 aa5 ?_ | refine lA hp rfl (zb rfl) zl aa5 ?_) | ((refine zf _ _ _ rfl ?_); (first | refine sO hp rfl (zb rfl) zb1 aa5 ?_ | refine sA hp rfl (zb rfl) (zb rfl) zl aa5 ?_ | refine sG hp rfl (zb rfl) (zb rfl) zl aa5 ?_); clear hp; intro w1 hp; simp only [spl, z0a, z0b] at hp)); simp only [ze, zd, z0b, z0a]))
    refine zk _ (zA.all hp.drew) [] [(0, true), (1, true), (2, true), (3, true), (4, true), (5, true), (6, true), (7, true), (8, true), (9, true), (10, true), (11, true), (12, true), (13, true), (14, true), (15, true), (16, true), (17, true), (18, true), (19, true), (20, true), (21, true), (22, true), (23, true)] (by kernel_rfl) (by kernel_rfl) rfl (by kernel_rfl) (fun _ _ d _ _ h => by cases d <;> exact h) ?_
    replace hp := hp.drew
    rcases W9.out with ⟨d1, r⟩ | ⟨d1, d2, r⟩ | ⟨d1, d2, r⟩
    all_goals have R := z0j r
    all_goals clear r W9
    all_goals
     repeat' (with_reducible refine zB ?_); first | (with_reducible refine zt ?_) | ((with_reducible refine zI ?_); refine zy rfl ?_; (first | ((with_reducible refine zcn _ _ rfl ?_); refine tS (by first | exact ZA rfl rfl rfl rfl | exact zab rfl rfl rfl rfl) ?_) | ((with_reducible refine zV _ rfl ?_); refine tM rfl ?_) | ((with_reducible refine zS _ _ rfl ?_); first | refine tO rfl (zb rfl) zw aa5 ?_ | refine tRO rfl (zb rfl) zw (HX.out 0 _ rfl) ?_ | refine tRO rfl (zb rfl) zw (HX.out 1 _ rfl) ?_ | refine tRO rfl (zb rfl) zw (HY.out 0 _ rfl) ?_ | refine tRO rfl (zb rfl) zw (HY.out 1 _ rfl) ?_) | refine tG (fun w _ => (by go_simp; try rfl)) ?_); try simp only [ze, zd, zn, zj, z0b, z0a, z0d, z0c, zr])
    all_goals
     go_wp2_with fail
     go_roundg (gk - 1)
     case measure => omega
     case rel => exact ⟨j + 1, _, by omega, by go_num, rfl, R.out, hp⟩
  ·have e2 : decide ((j : Int) < (l.length : Int)) = false := by simp; omega
   have HB : Hid (zba l want l.length i) := z0j (by
      have : j = l.length := by omega
      rw [this] at hb; exact hb)
   clear hb
   go_wp2_with fail
   go_ret
   exact ⟨i, rfl, HB.out, hp.below⟩
end Go.Proofs.YtaafajaadfgaoaaGreat
