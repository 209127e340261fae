import Derived.Test.YtaafajaadfgaoaaGreatTb14
import Derived.Test.YtaafajaadfgaoaaGreatTb15
set_option linter.unusedSimpArgs false
set_option linter.unusedVariables false
set_option maxRecDepth 100000
set_option maxHeartbeats 60000000
namespace Go.Proofs.YtaafajaadfgaoaaGreat
open Go.RowKit
theorem zP {ty : TypeId} {k : Nat} (h : zac Tryz.prog ty k = true := by with_reducible first | exact zL | exact zv | exact ZK | exact zU | exact zcw) : zac Tryz.prog ty k = true := h
theorem Zl {ty : TypeId} (h : zN Tryz.prog ty = true := by with_reducible first | exact zw | exact Zd | exact Za | exact Zb | exact zfG | exact zaa) : zN Tryz.prog ty = true := h
theorem zlO {x : Hv} (hx : zQ x) {kk hh ii nn cc vv tt : Int} {B bw : Nat} {w0 w : World} {K : List Blk} (hW : zZ B w0 w bw x K) :
  Calls Tryz.prog 151 #[.pointer (some ⟨bw, 0, none⟩), .agg #[.int .i64 kk, .int .i64 hh, .int .i64 ii, .int .i64 nn, .int .i64 cc, .int .i64 vv, .int .i64 tt]] w (zX B w0 bw (zbm x ⟨kk, hh, ii, nn, cc, vv, tt⟩).1 (zbm x ⟨kk, hh, ii, nn, cc, vv, tt⟩).2.1 (zbm x ⟨kk, hh, ii, nn, cc, vv, tt⟩).2.2 K) := by
 obtain ⟨RO, RF, M, hR, hp⟩ := hW
 obtain ⟨h3, h8, hcan⟩ := zca hx.free
 have hsm := hx.small
 have hlen := hx.len
 have hlo := hx.lo
 have hfree := hx.free
 obtain ⟨od, oa, os, oc, nx, t0, t1, t2, t3, fa, fs, fc⟩ := x
 simp only at h3 h8 hcan hlen hlo hfree
 unfold zbm
 simp only
 by_cases hn : Zy nn cc < 0
 ·rw [if_pos hn]
  exact zfm (z0j rfl) hn (z0j hR) hp
 ·rw [if_neg hn]
  by_cases hl : 1000000 < nx
  ·rw [if_pos hl]
   exact zfn (z0j rfl) (by omega) hl (z0j hR) hp
  ·rw [if_neg hl]
   cases hb : zeN fs (Zy nn cc) with
   | none =>
    have hg := zb0.1 hb
    by_cases ho : od < Zy nn cc
    ·exact zdd (z0j rfl) (by omega) (by omega) (.inl rfl) (z0j fun a k w h => ziA od (Zy nn cc) fs a k hsm.2 w h (.inr (.inr ho))) (z0j hR) hp
    ·exact zdd (z0j rfl) (by omega) (by omega) (.inr rfl) (z0j fun a k w h => zhy od (Zy nn cc) fs a k hsm.2 w h hfree (by omega) (by omega) hg) (z0j hR) hp
   | some b =>
    have hlt := zdk hcan.disj hb
    have hmay := hcan.may b hlt.mem
    have hgr := hlt.great
    obtain ⟨n1, n2, n3, n4⟩ := zeB (a := nn) (b := cc) (by omega)
    obtain ⟨m, rfl⟩ := Int.eq_ofNat_of_zero_le n1
    obtain ⟨k, rfl⟩ := Int.eq_ofNat_of_zero_le n3
    refine zhM (z0j rfl) (by omega) (by have := hmay.2.1; omega) (by omega) (by omega) (by omega) hlo hlen hsm.2 (z0j hfree) (z0j ?_) (z0j fun b' s hl' ht => ?_) (z0j hR) hp
    ·cases hq : ZD fs (Zy m k) with
     | true => rfl
     | false => rw [zb0.2 hq] at hb; cases hb
    ·have e := hl'.uniq hlt
     subst e
     exact ⟨rfl, zmC hcan.disj hl'.mem (by omega) hl'.great ht⟩
theorem zpg {x : Hv} (hx : zQ x) {kk hh ii nn cc vv tt : Int} (hk : kk = 2 ∨ kk = 3 ∨ kk = 4 ∨ kk = 6 ∨ kk = 7) {B bw : Nat} {w0 w : World} {K : List Blk} (hW : zZ B w0 w bw x K) :
  Calls Tryz.prog 152 #[.pointer (some ⟨bw, 0, none⟩), .agg #[.int .i64 kk, .int .i64 hh, .int .i64 ii, .int .i64 nn, .int .i64 cc, .int .i64 vv, .int .i64 tt]] w (zX B w0 bw (atC x ⟨kk, hh, ii, nn, cc, vv, tt⟩).1 (atC x ⟨kk, hh, ii, nn, cc, vv, tt⟩).2.1 (atC x ⟨kk, hh, ii, nn, cc, vv, tt⟩).2.2 K) := by
 unfold atC
 simp only
 cases hn : Z0 x.os hh with
 | none => exact zjp hx hn hW
 | some i =>
  obtain ⟨g, hg, _⟩ := zc1 hn
  simp only [hg]
  have hin : ∀ {n : Nat}, (ii < 0 ∨ (n : Int) ≤ ii) → inB ii 0 ((n : Int) - 1) = false := fun h => by simp [inB]; omega
  have hnat : ∀ {n : Nat}, ¬ (ii < 0 ∨ (n : Int) ≤ ii) → ∃ q : Nat, ii = q ∧ q < n := fun h => ⟨ii.toNat, by omega, by omega⟩
  rcases hk with rfl | rfl | rfl | rfl | rfl
  ·exact zjn hx hn hg hW
  ·simp only [zj1, Int.reduceEq, or_self, if_false, if_true]
   by_cases h : ii < 0 ∨ (g.ws.length : Int) ≤ ii
   ·rw [if_pos h]; exact zgZ hx hn hg (hin h) hW
   ·obtain ⟨q, rfl, hq⟩ := hnat h
    rw [if_neg h]; exact zhQ hx hn hg hq hW
  ·simp only [zj1, Int.reduceEq, or_false, false_or, if_false, if_true]
   by_cases h : ii < 0 ∨ (g.ls.length : Int) ≤ ii
   ·rw [if_pos h]; exact zg0 hx hn hg (hin h) hW
   ·obtain ⟨q, rfl, hq⟩ := hnat h
    rw [if_neg h]
    cases hto : ZQ x.os tt with
    | true => exact zjo hx hn hg hq hto hW
    | false => exact zg3 hx hn hg hq hto hW
  ·simp only [zj1, Int.reduceEq, or_self, if_false, if_true]
   by_cases h : ii < 0 ∨ (g.ws.length : Int) ≤ ii
   ·rw [if_pos h]; exact zg1 hx hn hg (hin h) hW
   ·obtain ⟨q, rfl, hq⟩ := hnat h
    rw [if_neg h]
    have hv := List.getElem?_eq_getElem hq
    have he : g.ws.getD q 0 = g.ws[q] := by simp [hq]
    simp only [Int.toNat_natCast, he]
    exact zjq hx hn hg hv hW
  ·simp only [zj1, Int.reduceEq, or_true, if_false, if_true]
   by_cases h : ii < 0 ∨ (g.ls.length : Int) ≤ ii
   ·rw [if_pos h]; exact zg2 hx hn hg (hin h) hW
   ·obtain ⟨q, rfl, hq⟩ := hnat h
    rw [if_neg h]
    have hv := List.getElem?_eq_getElem hq
    have he : g.ls.getD q 0 = g.ls[q] := by simp [hq]
    simp only [Int.toNat_natCast, he]
    exact zgY hx hn hg hv hW
theorem zbR {x : Hv} {RO RF M K : List Blk} (hR : HvR x RO RF M) {br bo b : Nat} {c d : List Value} {B : Nat} {w0 w : World} (hp : Hp B w0 w (⟨br, c, 54, 2⟩ :: ⟨bo, d, 29, 7⟩ :: ⟨b, hvL x, 113, 8⟩ :: (RO ++ (RF ++ (M ++ K))))) : zZ B w0 w b x K :=
 ⟨RO, RF, M, hR, hp.tail.tail⟩
theorem zhc {x : Hv} {kk hh ii nn cc vv tt : Int} {s : Hv} {c v : Int} {B bw : Nat} {w0 w : World} {K9 : List Blk} (hW : zZ B w0 w bw x K9)
  (h : (kk = 1 ∧ Hid (∀ {K : List Blk} {w : World}, zZ B w0 w bw x K → Calls Tryz.prog 151 #[.pointer (some ⟨bw, 0, none⟩), .agg #[.int .i64 kk, .int .i64 hh, .int .i64 ii, .int .i64 nn, .int .i64 cc, .int .i64 vv, .int .i64 tt]] w (zX B w0 bw s c v K))) ∨ ((kk = 2 ∨ kk = 3 ∨ kk = 4 ∨ kk = 6 ∨ kk = 7) ∧ Hid (∀ {K : List Blk} {w : World}, zZ B w0 w bw x K → Calls Tryz.prog 152 #[.pointer (some ⟨bw, 0, none⟩), .agg #[.int .i64 kk, .int .i64 hh, .int .i64 ii, .int .i64 nn, .int .i64 cc, .int .i64 vv, .int .i64 tt]] w (zX B w0 bw s c v K)))) :
  Calls Tryz.prog 77 #[.pointer (some ⟨bw, 0, none⟩), .agg #[.int .i64 kk, .int .i64 hh, .int .i64 ii, .int .i64 nn, .int .i64 cc, .int .i64 vv, .int .i64 tt]] w (zX B w0 bw s c v K9) := by
 obtain ⟨RO, RF, M, hR, hp⟩ := hW
 have HWK : Hid (∀ {br bo : Nat} {c d : List Value} {w : World}, Hp B w0 w (⟨br, c, 54, 2⟩ :: ⟨bo, d, 29, 7⟩ :: ⟨bw, hvL x, 113, 8⟩ :: (RO ++ (RF ++ (M ++ K9)))) → zZ B w0 w bw x (K9 ++ [⟨br, c, 54, 2⟩, ⟨bo, d, 29, 7⟩])) := z0j (fun h => zhD hR h)
 clear hR
 rcases h with ⟨rfl, HAL⟩ | ⟨hk, HAL⟩
 ·go_enter Tryz.func77, Tryz.ntmps77
  go_wp2_with (first | go_skip | ((first | ((refine zh _ rfl ?_); refine lZ hp rfl (by with_reducible first | exact zJ | exact zT) ?_; clear hp; intro b w1 hp) | ((refine zi _ _ rfl ?_); refine lB hp rfl (zb rfl) rfl ?_; clear hp; intro b w1 hp) | ((refine zg _ _ rfl ?_); first | refine lO hp rfl (zb rfl) Zl aa5 ?_ | refine lA hp rfl (zb rfl) zP aa5 ?_) | ((refine zf _ _ _ rfl ?_); (first | refine sO hp rfl (zb rfl) Zl aa5 ?_ | refine sA hp rfl (zb rfl) (zb rfl) zP aa5 ?_ | refine sG hp rfl (zb rfl) (zb rfl) zP aa5 ?_); clear hp; intro w1 hp; simp only [spl, z0a, z0b] at hp)); simp only [ze, zd, z0b, z0a]))
  obtain ⟨br, rfl⟩ := hp.id0
  obtain ⟨bo, rfl⟩ := hp.id1
  go_wp2_with (first | (go_at_call 151; (with_reducible refine (HAL.out (HWK.out hp)).mono ?_); clear hp; rintro e w1 ⟨rfl, y, hy, RO2, RF2, M2, hR2, hp⟩; replace hp := hp.kp (L' := ⟨br, [.int .i64 0, .int .i64 0], 54, 2⟩ :: ⟨bw, hvL y, 113, 8⟩ :: (RO2 ++ (RF2 ++ (M2 ++ K9)))); have HR2 := z0j hR2; have HY := z0j hy; clear hy hR2; unfold zaQ) | go_skip | ((first | ((refine zh _ rfl ?_); refine lZ hp rfl (by with_reducible first | exact zJ | exact zT) ?_; clear hp; intro b w1 hp) | ((refine zi _ _ rfl ?_); refine lB hp rfl (zb rfl) rfl ?_; clear hp; intro b w1 hp) | ((refine zg _ _ rfl ?_); first | refine lO hp rfl (zb rfl) Zl aa5 ?_ | refine lA hp rfl (zb rfl) zP aa5 ?_) | ((refine zf _ _ _ rfl ?_); (first | refine sO hp rfl (zb rfl) Zl aa5 ?_ | refine sA hp rfl (zb rfl) (zb rfl) zP aa5 ?_ | refine sG hp rfl (zb rfl) (zb rfl) zP aa5 ?_); clear hp; intro w1 hp; simp only [spl, z0a, z0b] at hp)); simp only [ze, zd, z0b, z0a]))
  exact bodyPost_ret (zE (rs := [.cell 4 54]) Tryz.results77 (.cell rfl (hp.loadAgg zU at0 0 _ (by rfl) (by rfl)) .nil)) rfl ⟨rfl, y, HY.out, RO2, RF2, M2, HR2.out, hp.tail⟩
 ·rcases hk with rfl | rfl | rfl | rfl | rfl
  all_goals
   go_enter Tryz.func77, Tryz.ntmps77
   go_wp2_with (first | go_skip | ((first | ((refine zh _ rfl ?_); refine lZ hp rfl (by with_reducible first | exact zJ | exact zT) ?_; clear hp; intro b w1 hp) | ((refine zi _ _ rfl ?_); refine lB hp rfl (zb rfl) rfl ?_; clear hp; intro b w1 hp) | ((refine zg _ _ rfl ?_); first | refine lO hp rfl (zb rfl) Zl aa5 ?_ | refine lA hp rfl (zb rfl) zP aa5 ?_) | ((refine zf _ _ _ rfl ?_); (first | refine sO hp rfl (zb rfl) Zl aa5 ?_ | refine sA hp rfl (zb rfl) (zb rfl) zP aa5 ?_ | refine sG hp rfl (zb rfl) (zb rfl) zP aa5 ?_); clear hp; intro w1 hp; simp only [spl, z0a, z0b] at hp)); simp only [ze, zd, z0b, z0a]))
   obtain ⟨br, rfl⟩ := hp.id0
   obtain ⟨bo, rfl⟩ := hp.id1
   go_wp2_with (first | (go_at_call 152; (with_reducible refine (HAL.out (HWK.out hp)).mono ?_); clear hp; rintro e w1 ⟨rfl, y, hy, RO2, RF2, M2, hR2, hp⟩; replace hp := hp.kp (L' := ⟨br, [.int .i64 0, .int .i64 0], 54, 2⟩ :: ⟨bw, hvL y, 113, 8⟩ :: (RO2 ++ (RF2 ++ (M2 ++ K9)))); have HR2 := z0j hR2; have HY := z0j hy; clear hy hR2; unfold zaQ) | go_skip | ((first | ((refine zh _ rfl ?_); refine lZ hp rfl (by with_reducible first | exact zJ | exact zT) ?_; clear hp; intro b w1 hp) | ((refine zi _ _ rfl ?_); refine lB hp rfl (zb rfl) rfl ?_; clear hp; intro b w1 hp) | ((refine zg _ _ rfl ?_); first | refine lO hp rfl (zb rfl) Zl aa5 ?_ | refine lA hp rfl (zb rfl) zP aa5 ?_) | ((refine zf _ _ _ rfl ?_); (first | refine sO hp rfl (zb rfl) Zl aa5 ?_ | refine sA hp rfl (zb rfl) (zb rfl) zP aa5 ?_ | refine sG hp rfl (zb rfl) (zb rfl) zP aa5 ?_); clear hp; intro w1 hp; simp only [spl, z0a, z0b] at hp)); simp only [ze, zd, z0b, z0a]))
   exact bodyPost_ret (zE (rs := [.cell 4 54]) Tryz.results77 (.cell rfl (hp.loadAgg zU at0 0 _ (by rfl) (by rfl)) .nil)) rfl ⟨rfl, y, HY.out, RO2, RF2, M2, HR2.out, hp.tail⟩
theorem zky {x : Hv} {kk hh ii nn cc vv tt : Int} (hk : kk ≠ 1 ∧ kk ≠ 2 ∧ kk ≠ 3 ∧ kk ≠ 4 ∧ kk ≠ 5 ∧ kk ≠ 6 ∧ kk ≠ 7 ∧ kk ≠ 8) {B bw : Nat} {w0 w : World} {K9 : List Blk} (hW : zZ B w0 w bw x K9) :
  Calls Tryz.prog 77 #[.pointer (some ⟨bw, 0, none⟩), .agg #[.int .i64 kk, .int .i64 hh, .int .i64 ii, .int .i64 nn, .int .i64 cc, .int .i64 vv, .int .i64 tt]] w (zX B w0 bw x 54 0 K9) := by
 obtain ⟨RO, RF, M, hR, hp⟩ := hW
 have HR := z0j hR
 obtain ⟨k1, k2, k3, k4, k5, k6, k7, k8⟩ := hk
 have e1 : (kk == 1) = false := by simp [k1]
 have e2 : (kk == 2) = false := by simp [k2]
 have e3 : (kk == 3) = false := by simp [k3]
 have e4 : (kk == 4) = false := by simp [k4]
 have e5 : (kk == 5) = false := by simp [k5]
 have e6 : (kk == 6) = false := by simp [k6]
 have e7 : (kk == 7) = false := by simp [k7]
 have e8 : (kk == 8) = false := by simp [k8]
 clear hR k1 k2 k3 k4 k5 k6 k7 k8
 go_enter Tryz.func77, Tryz.ntmps77
 go_wp2_with (first | (go_at_call 75; (with_reducible refine (zde _ _).mono ?_); rintro e w1 ⟨rfl, hb⟩; replace hp := hp.call hb; clear hb; unfold zaQ) | go_skip | ((first | ((refine zh _ rfl ?_); refine lZ hp rfl (by with_reducible first | exact zJ | exact zT) ?_; clear hp; intro b w1 hp) | ((refine zi _ _ rfl ?_); refine lB hp rfl (zb rfl) rfl ?_; clear hp; intro b w1 hp) | ((refine zg _ _ rfl ?_); first | refine lO hp rfl (zb rfl) Zl aa5 ?_ | refine lA hp rfl (zb rfl) zP aa5 ?_) | ((refine zf _ _ _ rfl ?_); (first | refine sO hp rfl (zb rfl) Zl aa5 ?_ | refine sA hp rfl (zb rfl) (zb rfl) zP aa5 ?_ | refine sG hp rfl (zb rfl) (zb rfl) zP aa5 ?_); clear hp; intro w1 hp; simp only [spl, z0a, z0b] at hp)); simp only [ze, zd, z0b, z0a]))
 exact bodyPost_ret (zE (rs := [.cell 4 54]) Tryz.results77 (.cell rfl (hp.loadAgg zU at0 0 _ (by rfl) (by rfl)) .nil)) rfl (zZ.sm (zbR HR.out hp) rfl)
theorem zjw {x : Hv} {kk hh ii nn cc vv tt : Int} (hk : kk = 5 ∨ kk = 8) (hi : inB ii 0 3 = false) {B bw : Nat} {w0 w : World} {K9 : List Blk} (hW : zZ B w0 w bw x K9) :
  Calls Tryz.prog 77 #[.pointer (some ⟨bw, 0, none⟩), .agg #[.int .i64 kk, .int .i64 hh, .int .i64 ii, .int .i64 nn, .int .i64 cc, .int .i64 vv, .int .i64 tt]] w (zX B w0 bw x 52 0 K9) := by
 obtain ⟨RO, RF, M, hR, hp⟩ := hW
 have HR := z0j hR
 have HIN := z0j hi
 clear hR hi
 rcases hk with rfl | rfl
 all_goals
  go_enter Tryz.func77, Tryz.ntmps77
  go_wp2_with (first | (go_at_call 140; (with_reducible refine (Zi _ _ _ _).mono ?_); rintro e w' ⟨rfl, rfl⟩; rw [HIN.out]) | (go_at_call 75; (with_reducible refine (zde _ _).mono ?_); rintro e w1 ⟨rfl, hb⟩; replace hp := hp.call hb; clear hb; unfold zaQ) | go_skip | ((first | ((refine zh _ rfl ?_); refine lZ hp rfl (by with_reducible first | exact zJ | exact zT) ?_; clear hp; intro b w1 hp) | ((refine zi _ _ rfl ?_); refine lB hp rfl (zb rfl) rfl ?_; clear hp; intro b w1 hp) | ((refine zg _ _ rfl ?_); first | refine lO hp rfl (zb rfl) Zl aa5 ?_ | refine lA hp rfl (zb rfl) zP aa5 ?_) | ((refine zf _ _ _ rfl ?_); (first | refine sO hp rfl (zb rfl) Zl aa5 ?_ | refine sA hp rfl (zb rfl) (zb rfl) zP aa5 ?_ | refine sG hp rfl (zb rfl) (zb rfl) zP aa5 ?_); clear hp; intro w1 hp; simp only [spl, z0a, z0b] at hp)); simp only [ze, zd, z0b, z0a]))
  exact bodyPost_ret (zE (rs := [.cell 4 54]) Tryz.results77 (.cell rfl (hp.loadAgg zU at0 0 _ (by rfl) (by rfl)) .nil)) rfl (zZ.sm (zbR HR.out hp) rfl)
theorem zlX {x : Hv} {hh nn cc vv tt : Int} {q : Nat} (hq : q = 0 ∨ q = 1 ∨ q = 2 ∨ q = 3) {B bw : Nat} {w0 w : World} {K9 : List Blk} (hW : zZ B w0 w bw x K9) :
  Calls Tryz.prog 77 #[.pointer (some ⟨bw, 0, none⟩), .agg #[.int .i64 8, .int .i64 hh, .int .i64 q, .int .i64 nn, .int .i64 cc, .int .i64 vv, .int .i64 tt]] w (zX B w0 bw x 0 ((tops x).getD q 0) K9) := by
 obtain ⟨RO, RF, M, hR, hp⟩ := hW
 have HR := z0j hR
 clear hR
 obtain ⟨od, oa, os, oc, nx, t0, t1, t2, t3, fa, fs, fc⟩ := x
 simp only [hvL] at hp
 rcases hq with rfl | rfl | rfl | rfl
 ·have HIN : Hid (inB 0 0 3 = true) := z0j (by decide)
  show Calls Tryz.prog 77 #[.pointer (some ⟨bw, 0, none⟩), .agg #[.int .i64 8, .int .i64 hh, .int .i64 0, .int .i64 nn, .int .i64 cc, .int .i64 vv, .int .i64 tt]] w (zX B w0 bw _ 0 t0 K9)
  go_enter Tryz.func77, Tryz.ntmps77
  go_wp2_with (first | (go_at_call 140; (with_reducible refine (Zi _ _ _ _).mono ?_); rintro e w' ⟨rfl, rfl⟩; rw [HIN.out]) | (go_at_call 75; (with_reducible refine (zde _ _).mono ?_); rintro e w1 ⟨rfl, hb⟩; replace hp := hp.call hb; clear hb; unfold zaQ) | go_skip | ((first | ((refine zh _ rfl ?_); refine lZ hp rfl (by with_reducible first | exact zJ | exact zT) ?_; clear hp; intro b w1 hp) | ((refine zi _ _ rfl ?_); refine lB hp rfl (zb rfl) rfl ?_; clear hp; intro b w1 hp) | ((refine zg _ _ rfl ?_); first | refine lO hp rfl (zb rfl) Zl aa5 ?_ | refine lA hp rfl (zb rfl) zP aa5 ?_) | ((refine zf _ _ _ rfl ?_); (first | refine sO hp rfl (zb rfl) Zl aa5 ?_ | refine sA hp rfl (zb rfl) (zb rfl) zP aa5 ?_ | refine sG hp rfl (zb rfl) (zb rfl) zP aa5 ?_); clear hp; intro w1 hp; simp only [spl, z0a, z0b] at hp)); simp only [ze, zd, z0b, z0a]))
  refine zk [_, _] (zA.two hp.drew at1 at2) [9] [(0, true), (1, true), (2, true), (3, true), (4, true), (5, true), (6, true), (7, true), (8, true), (9, false)] (by kernel_rfl) (by kernel_rfl) rfl (by kernel_rfl) (fun _ _ d _ _ h => by cases d <;> exact h) ?_
  replace hp := hp.drew
  repeat' (with_reducible refine zB ?_); first | (with_reducible refine zt ?_) | ((with_reducible refine zI ?_); refine zy rfl ?_; (first | ((with_reducible refine zV _ rfl ?_); refine tM rfl ?_) | ((with_reducible refine zS _ _ rfl ?_); refine tO rfl (zb rfl) zw aa5 ?_) | refine tG (fun w _ => (by go_simp; try rfl)) ?_); try simp only [ze, zd, zn, zj, z0b, z0a, z0d, z0c, zr]) | (refine zF rfl (fun K hK => ?_); go_wp2_with (first | go_skip | (((refine zf _ _ _ rfl ?_); (first | refine sO hp rfl (zb rfl) Zl aa5 ?_ | refine sA hp rfl (zb rfl) (zb rfl) zP aa5 ?_ | refine sG hp rfl (zb rfl) (zb rfl) zP aa5 ?_); clear hp; intro w1 hp; simp only [spl, z0a, z0b] at hp); simp only [ze, zd, z0b, z0a])); (first | refine hK.out _ _ (.inl rfl) ?_ | refine hK.out _ _ (.inr (zA.two hp aa5 aa5)) ?_); clear hK K; try simp only [ze, zd, zn, zj, z0b, z0a, z0d, z0c, zr])
  go_wp2_with (first | go_skip | ((first | ((refine zh _ rfl ?_); refine lZ hp rfl (by with_reducible first | exact zJ | exact zT) ?_; clear hp; intro b w1 hp) | ((refine zi _ _ rfl ?_); refine lB hp rfl (zb rfl) rfl ?_; clear hp; intro b w1 hp) | ((refine zg _ _ rfl ?_); first | refine lO hp rfl (zb rfl) Zl aa5 ?_ | refine lA hp rfl (zb rfl) zP aa5 ?_) | ((refine zf _ _ _ rfl ?_); (first | refine sO hp rfl (zb rfl) Zl aa5 ?_ | refine sA hp rfl (zb rfl) (zb rfl) zP aa5 ?_ | refine sG hp rfl (zb rfl) (zb rfl) zP aa5 ?_); clear hp; intro w1 hp; simp only [spl, z0a, z0b] at hp)); simp only [ze, zd, z0b, z0a]))
  exact bodyPost_ret (zE (rs := [.cell 4 54]) Tryz.results77 (.cell rfl (hp.loadAgg zU at0 0 _ (by rfl) (by rfl)) .nil)) rfl (zZ.sm (zbR HR.out hp) rfl)
 ·have HIN : Hid (inB 1 0 3 = true) := z0j (by decide)
  show Calls Tryz.prog 77 #[.pointer (some ⟨bw, 0, none⟩), .agg #[.int .i64 8, .int .i64 hh, .int .i64 1, .int .i64 nn, .int .i64 cc, .int .i64 vv, .int .i64 tt]] w (zX B w0 bw _ 0 t1 K9)
  go_enter Tryz.func77, Tryz.ntmps77
  go_wp2_with (first | (go_at_call 140; (with_reducible refine (Zi _ _ _ _).mono ?_); rintro e w' ⟨rfl, rfl⟩; rw [HIN.out]) | (go_at_call 75; (with_reducible refine (zde _ _).mono ?_); rintro e w1 ⟨rfl, hb⟩; replace hp := hp.call hb; clear hb; unfold zaQ) | go_skip | ((first | ((refine zh _ rfl ?_); refine lZ hp rfl (by with_reducible first | exact zJ | exact zT) ?_; clear hp; intro b w1 hp) | ((refine zi _ _ rfl ?_); refine lB hp rfl (zb rfl) rfl ?_; clear hp; intro b w1 hp) | ((refine zg _ _ rfl ?_); first | refine lO hp rfl (zb rfl) Zl aa5 ?_ | refine lA hp rfl (zb rfl) zP aa5 ?_) | ((refine zf _ _ _ rfl ?_); (first | refine sO hp rfl (zb rfl) Zl aa5 ?_ | refine sA hp rfl (zb rfl) (zb rfl) zP aa5 ?_ | refine sG hp rfl (zb rfl) (zb rfl) zP aa5 ?_); clear hp; intro w1 hp; simp only [spl, z0a, z0b] at hp)); simp only [ze, zd, z0b, z0a]))
  refine zk [_, _] (zA.two hp.drew at1 at2) [9] [(0, true), (1, true), (2, true), (3, true), (4, true), (5, true), (6, true), (7, true), (8, true), (9, false)] (by kernel_rfl) (by kernel_rfl) rfl (by kernel_rfl) (fun _ _ d _ _ h => by cases d <;> exact h) ?_
  replace hp := hp.drew
  repeat' (with_reducible refine zB ?_); first | (with_reducible refine zt ?_) | ((with_reducible refine zI ?_); refine zy rfl ?_; (first | ((with_reducible refine zV _ rfl ?_); refine tM rfl ?_) | ((with_reducible refine zS _ _ rfl ?_); refine tO rfl (zb rfl) zw aa5 ?_) | refine tG (fun w _ => (by go_simp; try rfl)) ?_); try simp only [ze, zd, zn, zj, z0b, z0a, z0d, z0c, zr]) | (refine zF rfl (fun K hK => ?_); go_wp2_with (first | go_skip | (((refine zf _ _ _ rfl ?_); (first | refine sO hp rfl (zb rfl) Zl aa5 ?_ | refine sA hp rfl (zb rfl) (zb rfl) zP aa5 ?_ | refine sG hp rfl (zb rfl) (zb rfl) zP aa5 ?_); clear hp; intro w1 hp; simp only [spl, z0a, z0b] at hp); simp only [ze, zd, z0b, z0a])); (first | refine hK.out _ _ (.inl rfl) ?_ | refine hK.out _ _ (.inr (zA.two hp aa5 aa5)) ?_); clear hK K; try simp only [ze, zd, zn, zj, z0b, z0a, z0d, z0c, zr])
  go_wp2_with (first | go_skip | ((first | ((refine zh _ rfl ?_); refine lZ hp rfl (by with_reducible first | exact zJ | exact zT) ?_; clear hp; intro b w1 hp) | ((refine zi _ _ rfl ?_); refine lB hp rfl (zb rfl) rfl ?_; clear hp; intro b w1 hp) | ((refine zg _ _ rfl ?_); first | refine lO hp rfl (zb rfl) Zl aa5 ?_ | refine lA hp rfl (zb rfl) zP aa5 ?_) | ((refine zf _ _ _ rfl ?_); (first | refine sO hp rfl (zb rfl) Zl aa5 ?_ | refine sA hp rfl (zb rfl) (zb rfl) zP aa5 ?_ | refine sG hp rfl (zb rfl) (zb rfl) zP aa5 ?_); clear hp; intro w1 hp; simp only [spl, z0a, z0b] at hp)); simp only [ze, zd, z0b, z0a]))
  exact bodyPost_ret (zE (rs := [.cell 4 54]) Tryz.results77 (.cell rfl (hp.loadAgg zU at0 0 _ (by rfl) (by rfl)) .nil)) rfl (zZ.sm (zbR HR.out hp) rfl)
 ·have HIN : Hid (inB 2 0 3 = true) := z0j (by decide)
  show Calls Tryz.prog 77 #[.pointer (some ⟨bw, 0, none⟩), .agg #[.int .i64 8, .int .i64 hh, .int .i64 2, .int .i64 nn, .int .i64 cc, .int .i64 vv, .int .i64 tt]] w (zX B w0 bw _ 0 t2 K9)
  go_enter Tryz.func77, Tryz.ntmps77
  go_wp2_with (first | (go_at_call 140; (with_reducible refine (Zi _ _ _ _).mono ?_); rintro e w' ⟨rfl, rfl⟩; rw [HIN.out]) | (go_at_call 75; (with_reducible refine (zde _ _).mono ?_); rintro e w1 ⟨rfl, hb⟩; replace hp := hp.call hb; clear hb; unfold zaQ) | go_skip | ((first | ((refine zh _ rfl ?_); refine lZ hp rfl (by with_reducible first | exact zJ | exact zT) ?_; clear hp; intro b w1 hp) | ((refine zi _ _ rfl ?_); refine lB hp rfl (zb rfl) rfl ?_; clear hp; intro b w1 hp) | ((refine zg _ _ rfl ?_); first | refine lO hp rfl (zb rfl) Zl aa5 ?_ | refine lA hp rfl (zb rfl) zP aa5 ?_) | ((refine zf _ _ _ rfl ?_); (first | refine sO hp rfl (zb rfl) Zl aa5 ?_ | refine sA hp rfl (zb rfl) (zb rfl) zP aa5 ?_ | refine sG hp rfl (zb rfl) (zb rfl) zP aa5 ?_); clear hp; intro w1 hp; simp only [spl, z0a, z0b] at hp)); simp only [ze, zd, z0b, z0a]))
  refine zk [_, _] (zA.two hp.drew at1 at2) [9] [(0, true), (1, true), (2, true), (3, true), (4, true), (5, true), (6, true), (7, true), (8, true), (9, false)] (by kernel_rfl) (by kernel_rfl) rfl (by kernel_rfl) (fun _ _ d _ _ h => by cases d <;> exact h) ?_
  replace hp := hp.drew
  repeat' (with_reducible refine zB ?_); first | (with_reducible refine zt ?_) | ((with_reducible refine zI ?_); refine zy rfl ?_; (first | ((with_reducible refine zV _ rfl ?_); refine tM rfl ?_) | ((with_reducible refine zS _ _ rfl ?_); refine tO rfl (zb rfl) zw aa5 ?_) | refine tG (fun w _ => (by go_simp; try rfl)) ?_); try simp only [ze, zd, zn, zj, z0b, z0a, z0d, z0c, zr]) | (refine zF rfl (fun K hK => ?_); go_wp2_with (first | go_skip | (((refine zf _ _ _ rfl ?_); (first | refine sO hp rfl (zb rfl) Zl aa5 ?_ | refine sA hp rfl (zb rfl) (zb rfl) zP aa5 ?_ | refine sG hp rfl (zb rfl) (zb rfl) zP aa5 ?_); clear hp; intro w1 hp; simp only [spl, z0a, z0b] at hp); simp only [ze, zd, z0b, z0a])); (first | refine hK.out _ _ (.inl rfl) ?_ | refine hK.out _ _ (.inr (zA.two hp aa5 aa5)) ?_); clear hK K; try simp only [ze, zd, zn, zj, z0b, z0a, z0d, z0c, zr])
  go_wp2_with (first | go_skip | ((first | ((refine zh _ rfl ?_); refine lZ hp rfl (by with_reducible first | exact zJ | exact zT) ?_; clear hp; intro b w1 hp) | ((refine zi _ _ rfl ?_); refine lB hp rfl (zb rfl) rfl ?_; clear hp; intro b w1 hp) | ((refine zg _ _ rfl ?_); first | refine lO hp rfl (zb rfl) Zl aa5 ?_ | refine lA hp rfl (zb rfl) zP aa5 ?_) | ((refine zf _ _ _ rfl ?_); (first | refine sO hp rfl (zb rfl) Zl aa5 ?_ | refine sA hp rfl (zb rfl) (zb rfl) zP aa5 ?_ | refine sG hp rfl (zb rfl) (zb rfl) zP aa5 ?_); clear hp; intro w1 hp; simp only [spl, z0a, z0b] at hp)); simp only [ze, zd, z0b, z0a]))
  exact bodyPost_ret (zE (rs := [.cell 4 54]) Tryz.results77 (.cell rfl (hp.loadAgg zU at0 0 _ (by rfl) (by rfl)) .nil)) rfl (zZ.sm (zbR HR.out hp) rfl)
 ·have HIN : Hid (inB 3 0 3 = true) := z0j (by decide)
  show Calls Tryz.prog 77 #[.pointer (some ⟨bw, 0, none⟩), .agg #[.int .i64 8, .int .i64 hh, .int .i64 3, .int .i64 nn, .int .i64 cc, .int .i64 vv, .int .i64 tt]] w (zX B w0 bw _ 0 t3 K9)
  go_enter Tryz.func77, Tryz.ntmps77
  go_wp2_with (first | (go_at_call 140; (with_reducible refine (Zi _ _ _ _).mono ?_); rintro e w' ⟨rfl, rfl⟩; rw [HIN.out]) | (go_at_call 75; (with_reducible refine (zde _ _).mono ?_); rintro e w1 ⟨rfl, hb⟩; replace hp := hp.call hb; clear hb; unfold zaQ) | go_skip | ((first | ((refine zh _ rfl ?_); refine lZ hp rfl (by with_reducible first | exact zJ | exact zT) ?_; clear hp; intro b w1 hp) | ((refine zi _ _ rfl ?_); refine lB hp rfl (zb rfl) rfl ?_; clear hp; intro b w1 hp) | ((refine zg _ _ rfl ?_); first | refine lO hp rfl (zb rfl) Zl aa5 ?_ | refine lA hp rfl (zb rfl) zP aa5 ?_) | ((refine zf _ _ _ rfl ?_); (first | refine sO hp rfl (zb rfl) Zl aa5 ?_ | refine sA hp rfl (zb rfl) (zb rfl) zP aa5 ?_ | refine sG hp rfl (zb rfl) (zb rfl) zP aa5 ?_); clear hp; intro w1 hp; simp only [spl, z0a, z0b] at hp)); simp only [ze, zd, z0b, z0a]))
  refine zk [_, _] (zA.two hp.drew at1 at2) [9] [(0, true), (1, true), (2, true), (3, true), (4, true), (5, true), (6, true), (7, true), (8, true), (9, false)] (by kernel_rfl) (by kernel_rfl) rfl (by kernel_rfl) (fun _ _ d _ _ h => by cases d <;> exact h) ?_
  replace hp := hp.drew
  repeat' (with_reducible refine zB ?_); first | (with_reducible refine zt ?_) | ((with_reducible refine zI ?_); refine zy rfl ?_; (first | ((with_reducible refine zV _ rfl ?_); refine tM rfl ?_) | ((with_reducible refine zS _ _ rfl ?_); refine tO rfl (zb rfl) zw aa5 ?_) | refine tG (fun w _ => (by go_simp; try rfl)) ?_); try simp only [ze, zd, zn, zj, z0b, z0a, z0d, z0c, zr]) | (refine zF rfl (fun K hK => ?_); go_wp2_with (first | go_skip | (((refine zf _ _ _ rfl ?_); (first | refine sO hp rfl (zb rfl) Zl aa5 ?_ | refine sA hp rfl (zb rfl) (zb rfl) zP aa5 ?_ | refine sG hp rfl (zb rfl) (zb rfl) zP aa5 ?_); clear hp; intro w1 hp; simp only [spl, z0a, z0b] at hp); simp only [ze, zd, z0b, z0a])); (first | refine hK.out _ _ (.inl rfl) ?_ | refine hK.out _ _ (.inr (zA.two hp aa5 aa5)) ?_); clear hK K; try simp only [ze, zd, zn, zj, z0b, z0a, z0d, z0c, zr])
  go_wp2_with (first | go_skip | ((first | ((refine zh _ rfl ?_); refine lZ hp rfl (by with_reducible first | exact zJ | exact zT) ?_; clear hp; intro b w1 hp) | ((refine zi _ _ rfl ?_); refine lB hp rfl (zb rfl) rfl ?_; clear hp; intro b w1 hp) | ((refine zg _ _ rfl ?_); first | refine lO hp rfl (zb rfl) Zl aa5 ?_ | refine lA hp rfl (zb rfl) zP aa5 ?_) | ((refine zf _ _ _ rfl ?_); (first | refine sO hp rfl (zb rfl) Zl aa5 ?_ | refine sA hp rfl (zb rfl) (zb rfl) zP aa5 ?_ | refine sG hp rfl (zb rfl) (zb rfl) zP aa5 ?_); clear hp; intro w1 hp; simp only [spl, z0a, z0b] at hp)); simp only [ze, zd, z0b, z0a]))
  exact bodyPost_ret (zE (rs := [.cell 4 54]) Tryz.results77 (.cell rfl (hp.loadAgg zU at0 0 _ (by rfl) (by rfl)) .nil)) rfl (zZ.sm (zbR HR.out hp) rfl)
theorem zbL {RO A Z : List Blk} {Q : World → Prop} (h : ZC RO Q) : ZC (A ++ (RO ++ Z)) Q := h.mono (fun p hm => by simp [hm]) (fun _ h => h)
theorem zjx {x : Hv} (hx : zQ x) {hh nn cc vv tt : Int} (hto : ZQ x.os tt = true) {B bw : Nat} {w0 w : World} {K9 : List Blk} (hW : zZ B w0 w bw x K9) :
  Calls Tryz.prog 77 #[.pointer (some ⟨bw, 0, none⟩), .agg #[.int .i64 5, .int .i64 hh, .int .i64 0, .int .i64 nn, .int .i64 cc, .int .i64 vv, .int .i64 tt]] w (zX B w0 bw (zmE x 0 tt) 0 0 K9) := by
 obtain ⟨RO, RF, M, hR, hp⟩ := hW
 have HR := z0j hR
 have hs := hx.sorted
 have hol : x.os.length ≤ 1000 := by have := hx.len; omega
 obtain ⟨od, oa, os, oc, nx, t0, t1, t2, t3, fa, fs, fc⟩ := x
 simp only [hvL] at hp
 simp only at hs hol hto
 have hro : ZC RO fun w => zD w oa (os.flatMap obV) := hR.objs.keptS
 have HLD : Hid (∀ (y z : Blk) (w : World), Hp B w0 w (y :: z :: ⟨bw, [.int .i64 od, .slice oa os.length oc, .int .i64 nx, .int .i64 t0, .int .i64 t1, .int .i64 t2, .int .i64 t3, .slice fa fs.length fc], 113, 8⟩ :: (RO ++ (RF ++ (M ++ K9)))) →
   Calls Tryz.prog 153 #[.pointer (some ⟨bw, 0, none⟩), .pointer (some ⟨bw, 3, none⟩), .int .i64 tt] w fun e w' => e = .returned (zaQ 0 0) ∧ Hp B w0 w' (y :: z :: ⟨bw, [.int .i64 od, .slice oa os.length oc, .int .i64 nx, .int .i64 tt, .int .i64 t1, .int .i64 t2, .int .i64 t3, .slice fa fs.length fc], 113, 8⟩ :: (RO ++ (RF ++ (M ++ K9))))) :=
  z0j (fun y z w hp => zbz hol hs hto (j := 2) (i := 2) rfl rfl (zbL (A := [y, z, _]) hro) rfl (by simp) hp)
 have HIN : Hid (inB 0 0 3 = true) := z0j (by decide)
 clear hx hs hol hto hro hR
 go_enter Tryz.func77, Tryz.ntmps77
 go_wp2_with (first | (go_at_call 140; (with_reducible refine (Zi _ _ _ _).mono ?_); rintro e w' ⟨rfl, rfl⟩; rw [HIN.out]) | (go_at_call 75; (with_reducible refine (zde _ _).mono ?_); rintro e w1 ⟨rfl, hb⟩; replace hp := hp.call hb; clear hb; unfold zaQ) | go_skip | ((first | ((refine zh _ rfl ?_); refine lZ hp rfl (by with_reducible first | exact zJ | exact zT) ?_; clear hp; intro b w1 hp) | ((refine zi _ _ rfl ?_); refine lB hp rfl (zb rfl) rfl ?_; clear hp; intro b w1 hp) | ((refine zg _ _ rfl ?_); first | refine lO hp rfl (zb rfl) Zl aa5 ?_ | refine lA hp rfl (zb rfl) zP aa5 ?_) | ((refine zf _ _ _ rfl ?_); (first | refine sO hp rfl (zb rfl) Zl aa5 ?_ | refine sA hp rfl (zb rfl) (zb rfl) zP aa5 ?_ | refine sG hp rfl (zb rfl) (zb rfl) zP aa5 ?_); clear hp; intro w1 hp; simp only [spl, z0a, z0b] at hp)); simp only [ze, zd, z0b, z0a]))
 refine zk [_] (zA.one hp.drew at1) [10, 11] [(0, true), (1, true), (2, true), (3, true), (4, true), (5, true), (6, true), (7, true), (8, true), (9, true), (10, false), (11, false)] (by kernel_rfl) (by kernel_rfl) rfl (by kernel_rfl) (fun _ _ d _ _ h => by cases d <;> exact h) ?_
 replace hp := hp.drew
 repeat' (with_reducible refine zB ?_); first | (with_reducible refine zt ?_) | ((with_reducible refine zI ?_); refine zy rfl ?_; (first | ((with_reducible refine zV _ rfl ?_); refine tM rfl ?_) | ((with_reducible refine zS _ _ rfl ?_); refine tO rfl (zb rfl) zw aa5 ?_) | refine tG (fun w _ => (by go_simp; try rfl)) ?_); try simp only [ze, zd, zn, zj, z0b, z0a, z0d, z0c, zr]) | (refine zF rfl (fun K hK => ?_); go_wp2_with (first | (go_at_call 153; (with_reducible refine (HLD.out _ _ _ hp).mono ?_); clear hp; rintro e w1 ⟨rfl, hp⟩; unfold zaQ) | go_skip | (((refine zf _ _ _ rfl ?_); (first | refine sO hp rfl (zb rfl) Zl aa5 ?_ | refine sA hp rfl (zb rfl) (zb rfl) zP aa5 ?_ | refine sG hp rfl (zb rfl) (zb rfl) zP aa5 ?_); clear hp; intro w1 hp; simp only [spl, z0a, z0b] at hp); simp only [ze, zd, z0b, z0a])); (first | refine hK.out _ _ (.inl rfl) ?_ | refine hK.out _ _ (.inr (zA.one hp aa5)) ?_); clear hK K; try simp only [ze, zd, zn, zj, z0b, z0a, z0d, z0c, zr])
 go_wp2_with (first | go_skip | ((first | ((refine zh _ rfl ?_); refine lZ hp rfl (by with_reducible first | exact zJ | exact zT) ?_; clear hp; intro b w1 hp) | ((refine zi _ _ rfl ?_); refine lB hp rfl (zb rfl) rfl ?_; clear hp; intro b w1 hp) | ((refine zg _ _ rfl ?_); first | refine lO hp rfl (zb rfl) Zl aa5 ?_ | refine lA hp rfl (zb rfl) zP aa5 ?_) | ((refine zf _ _ _ rfl ?_); (first | refine sO hp rfl (zb rfl) Zl aa5 ?_ | refine sA hp rfl (zb rfl) (zb rfl) zP aa5 ?_ | refine sG hp rfl (zb rfl) (zb rfl) zP aa5 ?_); clear hp; intro w1 hp; simp only [spl, z0a, z0b] at hp)); simp only [ze, zd, z0b, z0a]))
 exact bodyPost_ret (zE (rs := [.cell 4 54]) Tryz.results77 (.cell rfl (hp.loadAgg zU at0 0 _ (by rfl) (by rfl)) .nil)) rfl ⟨rfl, _, Hv.Sm.refl _, zbR (x := ⟨od, oa, os, oc, nx, tt, t1, t2, t3, fa, fs, fc⟩) ⟨HR.out.1, HR.out.2, HR.out.3⟩ hp⟩
theorem zhY {x : Hv} (hx : zQ x) {hh nn cc vv tt : Int} (hto : ZQ x.os tt = false) {B bw : Nat} {w0 w : World} {K9 : List Blk} (hW : zZ B w0 w bw x K9) :
  Calls Tryz.prog 77 #[.pointer (some ⟨bw, 0, none⟩), .agg #[.int .i64 5, .int .i64 hh, .int .i64 0, .int .i64 nn, .int .i64 cc, .int .i64 vv, .int .i64 tt]] w (zX B w0 bw x 51 0 K9) := by
 obtain ⟨RO, RF, M, hR, hp⟩ := hW
 have HR := z0j hR
 have hs := hx.sorted
 have hol : x.os.length ≤ 1000 := by have := hx.len; omega
 obtain ⟨od, oa, os, oc, nx, t0, t1, t2, t3, fa, fs, fc⟩ := x
 simp only [hvL] at hp
 simp only at hs hol hto
 have hro : ZC RO fun w => zD w oa (os.flatMap obV) := hR.objs.keptS
 have HLD : Hid (∀ (y z : Blk) (w : World), Hp B w0 w (y :: z :: ⟨bw, [.int .i64 od, .slice oa os.length oc, .int .i64 nx, .int .i64 t0, .int .i64 t1, .int .i64 t2, .int .i64 t3, .slice fa fs.length fc], 113, 8⟩ :: (RO ++ (RF ++ (M ++ K9)))) →
   Calls Tryz.prog 153 #[.pointer (some ⟨bw, 0, none⟩), .pointer (some ⟨bw, 3, none⟩), .int .i64 tt] w fun e w' => e = .returned (zaQ 51 0) ∧ Hp B w0 w' (y :: z :: ⟨bw, [.int .i64 od, .slice oa os.length oc, .int .i64 nx, .int .i64 t0, .int .i64 t1, .int .i64 t2, .int .i64 t3, .slice fa fs.length fc], 113, 8⟩ :: (RO ++ (RF ++ (M ++ K9))))) :=
  z0j (fun y z w hp => zb7 hol hs hto (j := 2) (i := 2) rfl rfl (zbL (A := [y, z, _]) hro) rfl (by simp) hp)
 have HIN : Hid (inB 0 0 3 = true) := z0j (by decide)
 clear hx hs hol hto hro hR
 go_enter Tryz.func77, Tryz.ntmps77
 go_wp2_with (first | (go_at_call 140; (with_reducible refine (Zi _ _ _ _).mono ?_); rintro e w' ⟨rfl, rfl⟩; rw [HIN.out]) | (go_at_call 75; (with_reducible refine (zde _ _).mono ?_); rintro e w1 ⟨rfl, hb⟩; replace hp := hp.call hb; clear hb; unfold zaQ) | go_skip | ((first | ((refine zh _ rfl ?_); refine lZ hp rfl (by with_reducible first | exact zJ | exact zT) ?_; clear hp; intro b w1 hp) | ((refine zi _ _ rfl ?_); refine lB hp rfl (zb rfl) rfl ?_; clear hp; intro b w1 hp) | ((refine zg _ _ rfl ?_); first | refine lO hp rfl (zb rfl) Zl aa5 ?_ | refine lA hp rfl (zb rfl) zP aa5 ?_) | ((refine zf _ _ _ rfl ?_); (first | refine sO hp rfl (zb rfl) Zl aa5 ?_ | refine sA hp rfl (zb rfl) (zb rfl) zP aa5 ?_ | refine sG hp rfl (zb rfl) (zb rfl) zP aa5 ?_); clear hp; intro w1 hp; simp only [spl, z0a, z0b] at hp)); simp only [ze, zd, z0b, z0a]))
 refine zk [_] (zA.one hp.drew at1) [10, 11] [(0, true), (1, true), (2, true), (3, true), (4, true), (5, true), (6, true), (7, true), (8, true), (9, true), (10, false), (11, false)] (by kernel_rfl) (by kernel_rfl) rfl (by kernel_rfl) (fun _ _ d _ _ h => by cases d <;> exact h) ?_
 replace hp := hp.drew
 repeat' (with_reducible refine zB ?_); first | (with_reducible refine zt ?_) | ((with_reducible refine zI ?_); refine zy rfl ?_; (first | ((with_reducible refine zV _ rfl ?_); refine tM rfl ?_) | ((with_reducible refine zS _ _ rfl ?_); refine tO rfl (zb rfl) zw aa5 ?_) | refine tG (fun w _ => (by go_simp; try rfl)) ?_); try simp only [ze, zd, zn, zj, z0b, z0a, z0d, z0c, zr]) | (refine zF rfl (fun K hK => ?_); go_wp2_with (first | (go_at_call 153; (with_reducible refine (HLD.out _ _ _ hp).mono ?_); clear hp; rintro e w1 ⟨rfl, hp⟩; unfold zaQ) | go_skip | (((refine zf _ _ _ rfl ?_); (first | refine sO hp rfl (zb rfl) Zl aa5 ?_ | refine sA hp rfl (zb rfl) (zb rfl) zP aa5 ?_ | refine sG hp rfl (zb rfl) (zb rfl) zP aa5 ?_); clear hp; intro w1 hp; simp only [spl, z0a, z0b] at hp); simp only [ze, zd, z0b, z0a])); (first | refine hK.out _ _ (.inl rfl) ?_ | refine hK.out _ _ (.inr (zA.one hp aa5)) ?_); clear hK K; try simp only [ze, zd, zn, zj, z0b, z0a, z0d, z0c, zr])
 go_wp2_with (first | go_skip | ((first | ((refine zh _ rfl ?_); refine lZ hp rfl (by with_reducible first | exact zJ | exact zT) ?_; clear hp; intro b w1 hp) | ((refine zi _ _ rfl ?_); refine lB hp rfl (zb rfl) rfl ?_; clear hp; intro b w1 hp) | ((refine zg _ _ rfl ?_); first | refine lO hp rfl (zb rfl) Zl aa5 ?_ | refine lA hp rfl (zb rfl) zP aa5 ?_) | ((refine zf _ _ _ rfl ?_); (first | refine sO hp rfl (zb rfl) Zl aa5 ?_ | refine sA hp rfl (zb rfl) (zb rfl) zP aa5 ?_ | refine sG hp rfl (zb rfl) (zb rfl) zP aa5 ?_); clear hp; intro w1 hp; simp only [spl, z0a, z0b] at hp)); simp only [ze, zd, z0b, z0a]))
 exact bodyPost_ret (zE (rs := [.cell 4 54]) Tryz.results77 (.cell rfl (hp.loadAgg zU at0 0 _ (by rfl) (by rfl)) .nil)) rfl (zZ.sm (zbR HR.out hp) rfl)
theorem zjy {x : Hv} (hx : zQ x) {hh nn cc vv tt : Int} (hto : ZQ x.os tt = true) {B bw : Nat} {w0 w : World} {K9 : List Blk} (hW : zZ B w0 w bw x K9) :
  Calls Tryz.prog 77 #[.pointer (some ⟨bw, 0, none⟩), .agg #[.int .i64 5, .int .i64 hh, .int .i64 1, .int .i64 nn, .int .i64 cc, .int .i64 vv, .int .i64 tt]] w (zX B w0 bw (zmE x 1 tt) 0 0 K9) := by
 obtain ⟨RO, RF, M, hR, hp⟩ := hW
 have HR := z0j hR
 have hs := hx.sorted
 have hol : x.os.length ≤ 1000 := by have := hx.len; omega
 obtain ⟨od, oa, os, oc, nx, t0, t1, t2, t3, fa, fs, fc⟩ := x
 simp only [hvL] at hp
 simp only at hs hol hto
 have hro : ZC RO fun w => zD w oa (os.flatMap obV) := hR.objs.keptS
 have HLD : Hid (∀ (y z : Blk) (w : World), Hp B w0 w (y :: z :: ⟨bw, [.int .i64 od, .slice oa os.length oc, .int .i64 nx, .int .i64 t0, .int .i64 t1, .int .i64 t2, .int .i64 t3, .slice fa fs.length fc], 113, 8⟩ :: (RO ++ (RF ++ (M ++ K9)))) →
   Calls Tryz.prog 153 #[.pointer (some ⟨bw, 0, none⟩), .pointer (some ⟨bw, 4, none⟩), .int .i64 tt] w fun e w' => e = .returned (zaQ 0 0) ∧ Hp B w0 w' (y :: z :: ⟨bw, [.int .i64 od, .slice oa os.length oc, .int .i64 nx, .int .i64 t0, .int .i64 tt, .int .i64 t2, .int .i64 t3, .slice fa fs.length fc], 113, 8⟩ :: (RO ++ (RF ++ (M ++ K9))))) :=
  z0j (fun y z w hp => zbz hol hs hto (j := 2) (i := 2) rfl rfl (zbL (A := [y, z, _]) hro) rfl (by simp) hp)
 have HIN : Hid (inB 1 0 3 = true) := z0j (by decide)
 clear hx hs hol hto hro hR
 go_enter Tryz.func77, Tryz.ntmps77
 go_wp2_with (first | (go_at_call 140; (with_reducible refine (Zi _ _ _ _).mono ?_); rintro e w' ⟨rfl, rfl⟩; rw [HIN.out]) | (go_at_call 75; (with_reducible refine (zde _ _).mono ?_); rintro e w1 ⟨rfl, hb⟩; replace hp := hp.call hb; clear hb; unfold zaQ) | go_skip | ((first | ((refine zh _ rfl ?_); refine lZ hp rfl (by with_reducible first | exact zJ | exact zT) ?_; clear hp; intro b w1 hp) | ((refine zi _ _ rfl ?_); refine lB hp rfl (zb rfl) rfl ?_; clear hp; intro b w1 hp) | ((refine zg _ _ rfl ?_); first | refine lO hp rfl (zb rfl) Zl aa5 ?_ | refine lA hp rfl (zb rfl) zP aa5 ?_) | ((refine zf _ _ _ rfl ?_); (first | refine sO hp rfl (zb rfl) Zl aa5 ?_ | refine sA hp rfl (zb rfl) (zb rfl) zP aa5 ?_ | refine sG hp rfl (zb rfl) (zb rfl) zP aa5 ?_); clear hp; intro w1 hp; simp only [spl, z0a, z0b] at hp)); simp only [ze, zd, z0b, z0a]))
 refine zk [_] (zA.one hp.drew at1) [10, 11] [(0, true), (1, true), (2, true), (3, true), (4, true), (5, true), (6, true), (7, true), (8, true), (9, true), (10, false), (11, false)] (by kernel_rfl) (by kernel_rfl) rfl (by kernel_rfl) (fun _ _ d _ _ h => by cases d <;> exact h) ?_
 replace hp := hp.drew
 repeat' (with_reducible refine zB ?_); first | (with_reducible refine zt ?_) | ((with_reducible refine zI ?_); refine zy rfl ?_; (first | ((with_reducible refine zV _ rfl ?_); refine tM rfl ?_) | ((with_reducible refine zS _ _ rfl ?_); refine tO rfl (zb rfl) zw aa5 ?_) | refine tG (fun w _ => (by go_simp; try rfl)) ?_); try simp only [ze, zd, zn, zj, z0b, z0a, z0d, z0c, zr]) | (refine zF rfl (fun K hK => ?_); go_wp2_with (first | (go_at_call 153; (with_reducible refine (HLD.out _ _ _ hp).mono ?_); clear hp; rintro e w1 ⟨rfl, hp⟩; unfold zaQ) | go_skip | (((refine zf _ _ _ rfl ?_); (first | refine sO hp rfl (zb rfl) Zl aa5 ?_ | refine sA hp rfl (zb rfl) (zb rfl) zP aa5 ?_ | refine sG hp rfl (zb rfl) (zb rfl) zP aa5 ?_); clear hp; intro w1 hp; simp only [spl, z0a, z0b] at hp); simp only [ze, zd, z0b, z0a])); (first | refine hK.out _ _ (.inl rfl) ?_ | refine hK.out _ _ (.inr (zA.one hp aa5)) ?_); clear hK K; try simp only [ze, zd, zn, zj, z0b, z0a, z0d, z0c, zr])
 go_wp2_with (first | go_skip | ((first | ((refine zh _ rfl ?_); refine lZ hp rfl (by with_reducible first | exact zJ | exact zT) ?_; clear hp; intro b w1 hp) | ((refine zi _ _ rfl ?_); refine lB hp rfl (zb rfl) rfl ?_; clear hp; intro b w1 hp) | ((refine zg _ _ rfl ?_); first | refine lO hp rfl (zb rfl) Zl aa5 ?_ | refine lA hp rfl (zb rfl) zP aa5 ?_) | ((refine zf _ _ _ rfl ?_); (first | refine sO hp rfl (zb rfl) Zl aa5 ?_ | refine sA hp rfl (zb rfl) (zb rfl) zP aa5 ?_ | refine sG hp rfl (zb rfl) (zb rfl) zP aa5 ?_); clear hp; intro w1 hp; simp only [spl, z0a, z0b] at hp)); simp only [ze, zd, z0b, z0a]))
 exact bodyPost_ret (zE (rs := [.cell 4 54]) Tryz.results77 (.cell rfl (hp.loadAgg zU at0 0 _ (by rfl) (by rfl)) .nil)) rfl ⟨rfl, _, Hv.Sm.refl _, zbR (x := ⟨od, oa, os, oc, nx, t0, tt, t2, t3, fa, fs, fc⟩) ⟨HR.out.1, HR.out.2, HR.out.3⟩ hp⟩
theorem zhZ {x : Hv} (hx : zQ x) {hh nn cc vv tt : Int} (hto : ZQ x.os tt = false) {B bw : Nat} {w0 w : World} {K9 : List Blk} (hW : zZ B w0 w bw x K9) :
  Calls Tryz.prog 77 #[.pointer (some ⟨bw, 0, none⟩), .agg #[.int .i64 5, .int .i64 hh, .int .i64 1, .int .i64 nn, .int .i64 cc, .int .i64 vv, .int .i64 tt]] w (zX B w0 bw x 51 0 K9) := by
 obtain ⟨RO, RF, M, hR, hp⟩ := hW
 have HR := z0j hR
 have hs := hx.sorted
 have hol : x.os.length ≤ 1000 := by have := hx.len; omega
 obtain ⟨od, oa, os, oc, nx, t0, t1, t2, t3, fa, fs, fc⟩ := x
 simp only [hvL] at hp
 simp only at hs hol hto
 have hro : ZC RO fun w => zD w oa (os.flatMap obV) := hR.objs.keptS
 have HLD : Hid (∀ (y z : Blk) (w : World), Hp B w0 w (y :: z :: ⟨bw, [.int .i64 od, .slice oa os.length oc, .int .i64 nx, .int .i64 t0, .int .i64 t1, .int .i64 t2, .int .i64 t3, .slice fa fs.length fc], 113, 8⟩ :: (RO ++ (RF ++ (M ++ K9)))) →
   Calls Tryz.prog 153 #[.pointer (some ⟨bw, 0, none⟩), .pointer (some ⟨bw, 4, none⟩), .int .i64 tt] w fun e w' => e = .returned (zaQ 51 0) ∧ Hp B w0 w' (y :: z :: ⟨bw, [.int .i64 od, .slice oa os.length oc, .int .i64 nx, .int .i64 t0, .int .i64 t1, .int .i64 t2, .int .i64 t3, .slice fa fs.length fc], 113, 8⟩ :: (RO ++ (RF ++ (M ++ K9))))) :=
  z0j (fun y z w hp => zb7 hol hs hto (j := 2) (i := 2) rfl rfl (zbL (A := [y, z, _]) hro) rfl (by simp) hp)
 have HIN : Hid (inB 1 0 3 = true) := z0j (by decide)
 clear hx hs hol hto hro hR
 go_enter Tryz.func77, Tryz.ntmps77
 go_wp2_with (first | (go_at_call 140; (with_reducible refine (Zi _ _ _ _).mono ?_); rintro e w' ⟨rfl, rfl⟩; rw [HIN.out]) | (go_at_call 75; (with_reducible refine (zde _ _).mono ?_); rintro e w1 ⟨rfl, hb⟩; replace hp := hp.call hb; clear hb; unfold zaQ) | go_skip | ((first | ((refine zh _ rfl ?_); refine lZ hp rfl (by with_reducible first | exact zJ | exact zT) ?_; clear hp; intro b w1 hp) | ((refine zi _ _ rfl ?_); refine lB hp rfl (zb rfl) rfl ?_; clear hp; intro b w1 hp) | ((refine zg _ _ rfl ?_); first | refine lO hp rfl (zb rfl) Zl aa5 ?_ | refine lA hp rfl (zb rfl) zP aa5 ?_) | ((refine zf _ _ _ rfl ?_); (first | refine sO hp rfl (zb rfl) Zl aa5 ?_ | refine sA hp rfl (zb rfl) (zb rfl) zP aa5 ?_ | refine sG hp rfl (zb rfl) (zb rfl) zP aa5 ?_); clear hp; intro w1 hp; simp only [spl, z0a, z0b] at hp)); simp only [ze, zd, z0b, z0a]))
 refine zk [_] (zA.one hp.drew at1) [10, 11] [(0, true), (1, true), (2, true), (3, true), (4, true), (5, true), (6, true), (7, true), (8, true), (9, true), (10, false), (11, false)] (by kernel_rfl) (by kernel_rfl) rfl (by kernel_rfl) (fun _ _ d _ _ h => by cases d <;> exact h) ?_
 replace hp := hp.drew
 repeat' (with_reducible refine zB ?_); first | (with_reducible refine zt ?_) | ((with_reducible refine zI ?_); refine zy rfl ?_; (first | ((with_reducible refine zV _ rfl ?_); refine tM rfl ?_) | ((with_reducible refine zS _ _ rfl ?_); refine tO rfl (zb rfl) zw aa5 ?_) | refine tG (fun w _ => (by go_simp; try rfl)) ?_); try simp only [ze, zd, zn, zj, z0b, z0a, z0d, z0c, zr]) | (refine zF rfl (fun K hK => ?_); go_wp2_with (first | (go_at_call 153; (with_reducible refine (HLD.out _ _ _ hp).mono ?_); clear hp; rintro e w1 ⟨rfl, hp⟩; unfold zaQ) | go_skip | (((refine zf _ _ _ rfl ?_); (first | refine sO hp rfl (zb rfl) Zl aa5 ?_ | refine sA hp rfl (zb rfl) (zb rfl) zP aa5 ?_ | refine sG hp rfl (zb rfl) (zb rfl) zP aa5 ?_); clear hp; intro w1 hp; simp only [spl, z0a, z0b] at hp); simp only [ze, zd, z0b, z0a])); (first | refine hK.out _ _ (.inl rfl) ?_ | refine hK.out _ _ (.inr (zA.one hp aa5)) ?_); clear hK K; try simp only [ze, zd, zn, zj, z0b, z0a, z0d, z0c, zr])
 go_wp2_with (first | go_skip | ((first | ((refine zh _ rfl ?_); refine lZ hp rfl (by with_reducible first | exact zJ | exact zT) ?_; clear hp; intro b w1 hp) | ((refine zi _ _ rfl ?_); refine lB hp rfl (zb rfl) rfl ?_; clear hp; intro b w1 hp) | ((refine zg _ _ rfl ?_); first | refine lO hp rfl (zb rfl) Zl aa5 ?_ | refine lA hp rfl (zb rfl) zP aa5 ?_) | ((refine zf _ _ _ rfl ?_); (first | refine sO hp rfl (zb rfl) Zl aa5 ?_ | refine sA hp rfl (zb rfl) (zb rfl) zP aa5 ?_ | refine sG hp rfl (zb rfl) (zb rfl) zP aa5 ?_); clear hp; intro w1 hp; simp only [spl, z0a, z0b] at hp)); simp only [ze, zd, z0b, z0a]))
 exact bodyPost_ret (zE (rs := [.cell 4 54]) Tryz.results77 (.cell rfl (hp.loadAgg zU at0 0 _ (by rfl) (by rfl)) .nil)) rfl (zZ.sm (zbR HR.out hp) rfl)
theorem zjz {x : Hv} (hx : zQ x) {hh nn cc vv tt : Int} (hto : ZQ x.os tt = true) {B bw : Nat} {w0 w : World} {K9 : List Blk} (hW : zZ B w0 w bw x K9) :
  Calls Tryz.prog 77 #[.pointer (some ⟨bw, 0, none⟩), .agg #[.int .i64 5, .int .i64 hh, .int .i64 2, .int .i64 nn, .int .i64 cc, .int .i64 vv, .int .i64 tt]] w (zX B w0 bw (zmE x 2 tt) 0 0 K9) := by
 obtain ⟨RO, RF, M, hR, hp⟩ := hW
 have HR := z0j hR
 have hs := hx.sorted
 have hol : x.os.length ≤ 1000 := by have := hx.len; omega
 obtain ⟨od, oa, os, oc, nx, t0, t1, t2, t3, fa, fs, fc⟩ := x
 simp only [hvL] at hp
 simp only at hs hol hto
 have hro : ZC RO fun w => zD w oa (os.flatMap obV) := hR.objs.keptS
 have HLD : Hid (∀ (y z : Blk) (w : World), Hp B w0 w (y :: z :: ⟨bw, [.int .i64 od, .slice oa os.length oc, .int .i64 nx, .int .i64 t0, .int .i64 t1, .int .i64 t2, .int .i64 t3, .slice fa fs.length fc], 113, 8⟩ :: (RO ++ (RF ++ (M ++ K9)))) →
   Calls Tryz.prog 153 #[.pointer (some ⟨bw, 0, none⟩), .pointer (some ⟨bw, 5, none⟩), .int .i64 tt] w fun e w' => e = .returned (zaQ 0 0) ∧ Hp B w0 w' (y :: z :: ⟨bw, [.int .i64 od, .slice oa os.length oc, .int .i64 nx, .int .i64 t0, .int .i64 t1, .int .i64 tt, .int .i64 t3, .slice fa fs.length fc], 113, 8⟩ :: (RO ++ (RF ++ (M ++ K9))))) :=
  z0j (fun y z w hp => zbz hol hs hto (j := 2) (i := 2) rfl rfl (zbL (A := [y, z, _]) hro) rfl (by simp) hp)
 have HIN : Hid (inB 2 0 3 = true) := z0j (by decide)
 clear hx hs hol hto hro hR
 go_enter Tryz.func77, Tryz.ntmps77
 go_wp2_with (first | (go_at_call 140; (with_reducible refine (Zi _ _ _ _).mono ?_); rintro e w' ⟨rfl, rfl⟩; rw [HIN.out]) | (go_at_call 75; (with_reducible refine (zde _ _).mono ?_); rintro e w1 ⟨rfl, hb⟩; replace hp := hp.call hb; clear hb; unfold zaQ) | go_skip | ((first | ((refine zh _ rfl ?_); refine lZ hp rfl (by with_reducible first | exact zJ | exact zT) ?_; clear hp; intro b w1 hp) | ((refine zi _ _ rfl ?_); refine lB hp rfl (zb rfl) rfl ?_; clear hp; intro b w1 hp) | ((refine zg _ _ rfl ?_); first | refine lO hp rfl (zb rfl) Zl aa5 ?_ | refine lA hp rfl (zb rfl) zP aa5 ?_) | ((refine zf _ _ _ rfl ?_); (first | refine sO hp rfl (zb rfl) Zl aa5 ?_ | refine sA hp rfl (zb rfl) (zb rfl) zP aa5 ?_ | refine sG hp rfl (zb rfl) (zb rfl) zP aa5 ?_); clear hp; intro w1 hp; simp only [spl, z0a, z0b] at hp)); simp only [ze, zd, z0b, z0a]))
 refine zk [_] (zA.one hp.drew at1) [10, 11] [(0, true), (1, true), (2, true), (3, true), (4, true), (5, true), (6, true), (7, true), (8, true), (9, true), (10, false), (11, false)] (by kernel_rfl) (by kernel_rfl) rfl (by kernel_rfl) (fun _ _ d _ _ h => by cases d <;> exact h) ?_
 replace hp := hp.drew
 repeat' (with_reducible refine zB ?_); first | (with_reducible refine zt ?_) | ((with_reducible refine zI ?_); refine zy rfl ?_; (first | ((with_reducible refine zV _ rfl ?_); refine tM rfl ?_) | ((with_reducible refine zS _ _ rfl ?_); refine tO rfl (zb rfl) zw aa5 ?_) | refine tG (fun w _ => (by go_simp; try rfl)) ?_); try simp only [ze, zd, zn, zj, z0b, z0a, z0d, z0c, zr]) | (refine zF rfl (fun K hK => ?_); go_wp2_with (first | (go_at_call 153; (with_reducible refine (HLD.out _ _ _ hp).mono ?_); clear hp; rintro e w1 ⟨rfl, hp⟩; unfold zaQ) | go_skip | (((refine zf _ _ _ rfl ?_); (first | refine sO hp rfl (zb rfl) Zl aa5 ?_ | refine sA hp rfl (zb rfl) (zb rfl) zP aa5 ?_ | refine sG hp rfl (zb rfl) (zb rfl) zP aa5 ?_); clear hp; intro w1 hp; simp only [spl, z0a, z0b] at hp); simp only [ze, zd, z0b, z0a])); (first | refine hK.out _ _ (.inl rfl) ?_ | refine hK.out _ _ (.inr (zA.one hp aa5)) ?_); clear hK K; try simp only [ze, zd, zn, zj, z0b, z0a, z0d, z0c, zr])
 go_wp2_with (first | go_skip | ((first | ((refine zh _ rfl ?_); refine lZ hp rfl (by with_reducible first | exact zJ | exact zT) ?_; clear hp; intro b w1 hp) | ((refine zi _ _ rfl ?_); refine lB hp rfl (zb rfl) rfl ?_; clear hp; intro b w1 hp) | ((refine zg _ _ rfl ?_); first | refine lO hp rfl (zb rfl) Zl aa5 ?_ | refine lA hp rfl (zb rfl) zP aa5 ?_) | ((refine zf _ _ _ rfl ?_); (first | refine sO hp rfl (zb rfl) Zl aa5 ?_ | refine sA hp rfl (zb rfl) (zb rfl) zP aa5 ?_ | refine sG hp rfl (zb rfl) (zb rfl) zP aa5 ?_); clear hp; intro w1 hp; simp only [spl, z0a, z0b] at hp)); simp only [ze, zd, z0b, z0a]))
 exact bodyPost_ret (zE (rs := [.cell 4 54]) Tryz.results77 (.cell rfl (hp.loadAgg zU at0 0 _ (by rfl) (by rfl)) .nil)) rfl ⟨rfl, _, Hv.Sm.refl _, zbR (x := ⟨od, oa, os, oc, nx, t0, t1, tt, t3, fa, fs, fc⟩) ⟨HR.out.1, HR.out.2, HR.out.3⟩ hp⟩
theorem zh0 {x : Hv} (hx : zQ x) {hh nn cc vv tt : Int} (hto : ZQ x.os tt = false) {B bw : Nat} {w0 w : World} {K9 : List Blk} (hW : zZ B w0 w bw x K9) :
  Calls Tryz.prog 77 #[.pointer (some ⟨bw, 0, none⟩), .agg #[.int .i64 5, .int .i64 hh, .int .i64 2, .int .i64 nn, .int .i64 cc, .int .i64 vv, .int .i64 tt]] w (zX B w0 bw x 51 0 K9) := by
 obtain ⟨RO, RF, M, hR, hp⟩ := hW
 have HR := z0j hR
 have hs := hx.sorted
 have hol : x.os.length ≤ 1000 := by have := hx.len; omega
 obtain ⟨od, oa, os, oc, nx, t0, t1, t2, t3, fa, fs, fc⟩ := x
 simp only [hvL] at hp
 simp only at hs hol hto
 have hro : ZC RO fun w => zD w oa (os.flatMap obV) := hR.objs.keptS
 have HLD : Hid (∀ (y z : Blk) (w : World), Hp B w0 w (y :: z :: ⟨bw, [.int .i64 od, .slice oa os.length oc, .int .i64 nx, .int .i64 t0, .int .i64 t1, .int .i64 t2, .int .i64 t3, .slice fa fs.length fc], 113, 8⟩ :: (RO ++ (RF ++ (M ++ K9)))) →
   Calls Tryz.prog 153 #[.pointer (some ⟨bw, 0, none⟩), .pointer (some ⟨bw, 5, none⟩), .int .i64 tt] w fun e w' => e = .returned (zaQ 51 0) ∧ Hp B w0 w' (y :: z :: ⟨bw, [.int .i64 od, .slice oa os.length oc, .int .i64 nx, .int .i64 t0, .int .i64 t1, .int .i64 t2, .int .i64 t3, .slice fa fs.length fc], 113, 8⟩ :: (RO ++ (RF ++ (M ++ K9))))) :=
  z0j (fun y z w hp => zb7 hol hs hto (j := 2) (i := 2) rfl rfl (zbL (A := [y, z, _]) hro) rfl (by simp) hp)
 have HIN : Hid (inB 2 0 3 = true) := z0j (by decide)
 clear hx hs hol hto hro hR
 go_enter Tryz.func77, Tryz.ntmps77
 go_wp2_with (first | (go_at_call 140; (with_reducible refine (Zi _ _ _ _).mono ?_); rintro e w' ⟨rfl, rfl⟩; rw [HIN.out]) | (go_at_call 75; (with_reducible refine (zde _ _).mono ?_); rintro e w1 ⟨rfl, hb⟩; replace hp := hp.call hb; clear hb; unfold zaQ) | go_skip | ((first | ((refine zh _ rfl ?_); refine lZ hp rfl (by with_reducible first | exact zJ | exact zT) ?_; clear hp; intro b w1 hp) | ((refine zi _ _ rfl ?_); refine lB hp rfl (zb rfl) rfl ?_; clear hp; intro b w1 hp) | ((refine zg _ _ rfl ?_); first | refine lO hp rfl (zb rfl) Zl aa5 ?_ | refine lA hp rfl (zb rfl) zP aa5 ?_) | ((refine zf _ _ _ rfl ?_); (first | refine sO hp rfl (zb rfl) Zl aa5 ?_ | refine sA hp rfl (zb rfl) (zb rfl) zP aa5 ?_ | refine sG hp rfl (zb rfl) (zb rfl) zP aa5 ?_); clear hp; intro w1 hp; simp only [spl, z0a, z0b] at hp)); simp only [ze, zd, z0b, z0a]))
 refine zk [_] (zA.one hp.drew at1) [10, 11] [(0, true), (1, true), (2, true), (3, true), (4, true), (5, true), (6, true), (7, true), (8, true), (9, true), (10, false), (11, false)] (by kernel_rfl) (by kernel_rfl) rfl (by kernel_rfl) (fun _ _ d _ _ h => by cases d <;> exact h) ?_
 replace hp := hp.drew
 repeat' (with_reducible refine zB ?_); first | (with_reducible refine zt ?_) | ((with_reducible refine zI ?_); refine zy rfl ?_; (first | ((with_reducible refine zV _ rfl ?_); refine tM rfl ?_) | ((with_reducible refine zS _ _ rfl ?_); refine tO rfl (zb rfl) zw aa5 ?_) | refine tG (fun w _ => (by go_simp; try rfl)) ?_); try simp only [ze, zd, zn, zj, z0b, z0a, z0d, z0c, zr]) | (refine zF rfl (fun K hK => ?_); go_wp2_with (first | (go_at_call 153; (with_reducible refine (HLD.out _ _ _ hp).mono ?_); clear hp; rintro e w1 ⟨rfl, hp⟩; unfold zaQ) | go_skip | (((refine zf _ _ _ rfl ?_); (first | refine sO hp rfl (zb rfl) Zl aa5 ?_ | refine sA hp rfl (zb rfl) (zb rfl) zP aa5 ?_ | refine sG hp rfl (zb rfl) (zb rfl) zP aa5 ?_); clear hp; intro w1 hp; simp only [spl, z0a, z0b] at hp); simp only [ze, zd, z0b, z0a])); (first | refine hK.out _ _ (.inl rfl) ?_ | refine hK.out _ _ (.inr (zA.one hp aa5)) ?_); clear hK K; try simp only [ze, zd, zn, zj, z0b, z0a, z0d, z0c, zr])
 go_wp2_with (first | go_skip | ((first | ((refine zh _ rfl ?_); refine lZ hp rfl (by with_reducible first | exact zJ | exact zT) ?_; clear hp; intro b w1 hp) | ((refine zi _ _ rfl ?_); refine lB hp rfl (zb rfl) rfl ?_; clear hp; intro b w1 hp) | ((refine zg _ _ rfl ?_); first | refine lO hp rfl (zb rfl) Zl aa5 ?_ | refine lA hp rfl (zb rfl) zP aa5 ?_) | ((refine zf _ _ _ rfl ?_); (first | refine sO hp rfl (zb rfl) Zl aa5 ?_ | refine sA hp rfl (zb rfl) (zb rfl) zP aa5 ?_ | refine sG hp rfl (zb rfl) (zb rfl) zP aa5 ?_); clear hp; intro w1 hp; simp only [spl, z0a, z0b] at hp)); simp only [ze, zd, z0b, z0a]))
 exact bodyPost_ret (zE (rs := [.cell 4 54]) Tryz.results77 (.cell rfl (hp.loadAgg zU at0 0 _ (by rfl) (by rfl)) .nil)) rfl (zZ.sm (zbR HR.out hp) rfl)
theorem zjA {x : Hv} (hx : zQ x) {hh nn cc vv tt : Int} (hto : ZQ x.os tt = true) {B bw : Nat} {w0 w : World} {K9 : List Blk} (hW : zZ B w0 w bw x K9) :
  Calls Tryz.prog 77 #[.pointer (some ⟨bw, 0, none⟩), .agg #[.int .i64 5, .int .i64 hh, .int .i64 3, .int .i64 nn, .int .i64 cc, .int .i64 vv, .int .i64 tt]] w (zX B w0 bw (zmE x 3 tt) 0 0 K9) := by
 obtain ⟨RO, RF, M, hR, hp⟩ := hW
 have HR := z0j hR
 have hs := hx.sorted
 have hol : x.os.length ≤ 1000 := by have := hx.len; omega
 obtain ⟨od, oa, os, oc, nx, t0, t1, t2, t3, fa, fs, fc⟩ := x
 simp only [hvL] at hp
 simp only at hs hol hto
 have hro : ZC RO fun w => zD w oa (os.flatMap obV) := hR.objs.keptS
 have HLD : Hid (∀ (y z : Blk) (w : World), Hp B w0 w (y :: z :: ⟨bw, [.int .i64 od, .slice oa os.length oc, .int .i64 nx, .int .i64 t0, .int .i64 t1, .int .i64 t2, .int .i64 t3, .slice fa fs.length fc], 113, 8⟩ :: (RO ++ (RF ++ (M ++ K9)))) →
   Calls Tryz.prog 153 #[.pointer (some ⟨bw, 0, none⟩), .pointer (some ⟨bw, 6, none⟩), .int .i64 tt] w fun e w' => e = .returned (zaQ 0 0) ∧ Hp B w0 w' (y :: z :: ⟨bw, [.int .i64 od, .slice oa os.length oc, .int .i64 nx, .int .i64 t0, .int .i64 t1, .int .i64 t2, .int .i64 tt, .slice fa fs.length fc], 113, 8⟩ :: (RO ++ (RF ++ (M ++ K9))))) :=
  z0j (fun y z w hp => zbz hol hs hto (j := 2) (i := 2) rfl rfl (zbL (A := [y, z, _]) hro) rfl (by simp) hp)
 have HIN : Hid (inB 3 0 3 = true) := z0j (by decide)
 clear hx hs hol hto hro hR
 go_enter Tryz.func77, Tryz.ntmps77
 go_wp2_with (first | (go_at_call 140; (with_reducible refine (Zi _ _ _ _).mono ?_); rintro e w' ⟨rfl, rfl⟩; rw [HIN.out]) | (go_at_call 75; (with_reducible refine (zde _ _).mono ?_); rintro e w1 ⟨rfl, hb⟩; replace hp := hp.call hb; clear hb; unfold zaQ) | go_skip | ((first | ((refine zh _ rfl ?_); refine lZ hp rfl (by with_reducible first | exact zJ | exact zT) ?_; clear hp; intro b w1 hp) | ((refine zi _ _ rfl ?_); refine lB hp rfl (zb rfl) rfl ?_; clear hp; intro b w1 hp) | ((refine zg _ _ rfl ?_); first | refine lO hp rfl (zb rfl) Zl aa5 ?_ | refine lA hp rfl (zb rfl) zP aa5 ?_) | ((refine zf _ _ _ rfl ?_); (first | refine sO hp rfl (zb rfl) Zl aa5 ?_ | refine sA hp rfl (zb rfl) (zb rfl) zP aa5 ?_ | refine sG hp rfl (zb rfl) (zb rfl) zP aa5 ?_); clear hp; intro w1 hp; simp only [spl, z0a, z0b] at hp)); simp only [ze, zd, z0b, z0a]))
 refine zk [_] (zA.one hp.drew at1) [10, 11] [(0, true), (1, true), (2, true), (3, true), (4, true), (5, true), (6, true), (7, true), (8, true), (9, true), (10, false), (11, false)] (by kernel_rfl) (by kernel_rfl) rfl (by kernel_rfl) (fun _ _ d _ _ h => by cases d <;> exact h) ?_
 replace hp := hp.drew
 repeat' (with_reducible refine zB ?_); first | (with_reducible refine zt ?_) | ((with_reducible refine zI ?_); refine zy rfl ?_; (first | ((with_reducible refine zV _ rfl ?_); refine tM rfl ?_) | ((with_reducible refine zS _ _ rfl ?_); refine tO rfl (zb rfl) zw aa5 ?_) | refine tG (fun w _ => (by go_simp; try rfl)) ?_); try simp only [ze, zd, zn, zj, z0b, z0a, z0d, z0c, zr]) | (refine zF rfl (fun K hK => ?_); go_wp2_with (first | (go_at_call 153; (with_reducible refine (HLD.out _ _ _ hp).mono ?_); clear hp; rintro e w1 ⟨rfl, hp⟩; unfold zaQ) | go_skip | (((refine zf _ _ _ rfl ?_); (first | refine sO hp rfl (zb rfl) Zl aa5 ?_ | refine sA hp rfl (zb rfl) (zb rfl) zP aa5 ?_ | refine sG hp rfl (zb rfl) (zb rfl) zP aa5 ?_); clear hp; intro w1 hp; simp only [spl, z0a, z0b] at hp); simp only [ze, zd, z0b, z0a])); (first | refine hK.out _ _ (.inl rfl) ?_ | refine hK.out _ _ (.inr (zA.one hp aa5)) ?_); clear hK K; try simp only [ze, zd, zn, zj, z0b, z0a, z0d, z0c, zr])
 go_wp2_with (first | go_skip | ((first | ((refine zh _ rfl ?_); refine lZ hp rfl (by with_reducible first | exact zJ | exact zT) ?_; clear hp; intro b w1 hp) | ((refine zi _ _ rfl ?_); refine lB hp rfl (zb rfl) rfl ?_; clear hp; intro b w1 hp) | ((refine zg _ _ rfl ?_); first | refine lO hp rfl (zb rfl) Zl aa5 ?_ | refine lA hp rfl (zb rfl) zP aa5 ?_) | ((refine zf _ _ _ rfl ?_); (first | refine sO hp rfl (zb rfl) Zl aa5 ?_ | refine sA hp rfl (zb rfl) (zb rfl) zP aa5 ?_ | refine sG hp rfl (zb rfl) (zb rfl) zP aa5 ?_); clear hp; intro w1 hp; simp only [spl, z0a, z0b] at hp)); simp only [ze, zd, z0b, z0a]))
 exact bodyPost_ret (zE (rs := [.cell 4 54]) Tryz.results77 (.cell rfl (hp.loadAgg zU at0 0 _ (by rfl) (by rfl)) .nil)) rfl ⟨rfl, _, Hv.Sm.refl _, zbR (x := ⟨od, oa, os, oc, nx, t0, t1, t2, tt, fa, fs, fc⟩) ⟨HR.out.1, HR.out.2, HR.out.3⟩ hp⟩
theorem zh1 {x : Hv} (hx : zQ x) {hh nn cc vv tt : Int} (hto : ZQ x.os tt = false) {B bw : Nat} {w0 w : World} {K9 : List Blk} (hW : zZ B w0 w bw x K9) :
  Calls Tryz.prog 77 #[.pointer (some ⟨bw, 0, none⟩), .agg #[.int .i64 5, .int .i64 hh, .int .i64 3, .int .i64 nn, .int .i64 cc, .int .i64 vv, .int .i64 tt]] w (zX B w0 bw x 51 0 K9) := by
 obtain ⟨RO, RF, M, hR, hp⟩ := hW
 have HR := z0j hR
 have hs := hx.sorted
 have hol : x.os.length ≤ 1000 := by have := hx.len; omega
 obtain ⟨od, oa, os, oc, nx, t0, t1, t2, t3, fa, fs, fc⟩ := x
 simp only [hvL] at hp
 simp only at hs hol hto
 have hro : ZC RO fun w => zD w oa (os.flatMap obV) := hR.objs.keptS
 have HLD : Hid (∀ (y z : Blk) (w : World), Hp B w0 w (y :: z :: ⟨bw, [.int .i64 od, .slice oa os.length oc, .int .i64 nx, .int .i64 t0, .int .i64 t1, .int .i64 t2, .int .i64 t3, .slice fa fs.length fc], 113, 8⟩ :: (RO ++ (RF ++ (M ++ K9)))) →
   Calls Tryz.prog 153 #[.pointer (some ⟨bw, 0, none⟩), .pointer (some ⟨bw, 6, none⟩), .int .i64 tt] w fun e w' => e = .returned (zaQ 51 0) ∧ Hp B w0 w' (y :: z :: ⟨bw, [.int .i64 od, .slice oa os.length oc, .int .i64 nx, .int .i64 t0, .int .i64 t1, .int .i64 t2, .int .i64 t3, .slice fa fs.length fc], 113, 8⟩ :: (RO ++ (RF ++ (M ++ K9))))) :=
  z0j (fun y z w hp => zb7 hol hs hto (j := 2) (i := 2) rfl rfl (zbL (A := [y, z, _]) hro) rfl (by simp) hp)
 have HIN : Hid (inB 3 0 3 = true) := z0j (by decide)
 clear hx hs hol hto hro hR
 go_enter Tryz.func77, Tryz.ntmps77
 go_wp2_with (first | (go_at_call 140; (with_reducible refine (Zi _ _ _ _).mono ?_); rintro e w' ⟨rfl, rfl⟩; rw [HIN.out]) | (go_at_call 75; (with_reducible refine (zde _ _).mono ?_); rintro e w1 ⟨rfl, hb⟩; replace hp := hp.call hb; clear hb; unfold zaQ) | go_skip | ((first | ((refine zh _ rfl ?_); refine lZ hp rfl (by with_reducible first | exact zJ | exact zT) ?_; clear hp; intro b w1 hp) | ((refine zi _ _ rfl ?_); refine lB hp rfl (zb rfl) rfl ?_; clear hp; intro b w1 hp) | ((refine zg _ _ rfl ?_); first | refine lO hp rfl (zb rfl) Zl aa5 ?_ | refine lA hp rfl (zb rfl) zP aa5 ?_) | ((refine zf _ _ _ rfl ?_); (first | refine sO hp rfl (zb rfl) Zl aa5 ?_ | refine sA hp rfl (zb rfl) (zb rfl) zP aa5 ?_ | refine sG hp rfl (zb rfl) (zb rfl) zP aa5 ?_); clear hp; intro w1 hp; simp only [spl, z0a, z0b] at hp)); simp only [ze, zd, z0b, z0a]))
 refine zk [_] (zA.one hp.drew at1) [10, 11] [(0, true), (1, true), (2, true), (3, true), (4, true), (5, true), (6, true), (7, true), (8, true), (9, true), (10, false), (11, false)] (by kernel_rfl) (by kernel_rfl) rfl (by kernel_rfl) (fun _ _ d _ _ h => by cases d <;> exact h) ?_
 replace hp := hp.drew
 repeat' (with_reducible refine zB ?_); first | (with_reducible refine zt ?_) | ((with_reducible refine zI ?_); refine zy rfl ?_; (first | ((with_reducible refine zV _ rfl ?_); refine tM rfl ?_) | ((with_reducible refine zS _ _ rfl ?_); refine tO rfl (zb rfl) zw aa5 ?_) | refine tG (fun w _ => (by go_simp; try rfl)) ?_); try simp only [ze, zd, zn, zj, z0b, z0a, z0d, z0c, zr]) | (refine zF rfl (fun K hK => ?_); go_wp2_with (first | (go_at_call 153; (with_reducible refine (HLD.out _ _ _ hp).mono ?_); clear hp; rintro e w1 ⟨rfl, hp⟩; unfold zaQ) | go_skip | (((refine zf _ _ _ rfl ?_); (first | refine sO hp rfl (zb rfl) Zl aa5 ?_ | refine sA hp rfl (zb rfl) (zb rfl) zP aa5 ?_ | refine sG hp rfl (zb rfl) (zb rfl) zP aa5 ?_); clear hp; intro w1 hp; simp only [spl, z0a, z0b] at hp); simp only [ze, zd, z0b, z0a])); (first | refine hK.out _ _ (.inl rfl) ?_ | refine hK.out _ _ (.inr (zA.one hp aa5)) ?_); clear hK K; try simp only [ze, zd, zn, zj, z0b, z0a, z0d, z0c, zr])
 go_wp2_with (first | go_skip | ((first | ((refine zh _ rfl ?_); refine lZ hp rfl (by with_reducible first | exact zJ | exact zT) ?_; clear hp; intro b w1 hp) | ((refine zi _ _ rfl ?_); refine lB hp rfl (zb rfl) rfl ?_; clear hp; intro b w1 hp) | ((refine zg _ _ rfl ?_); first | refine lO hp rfl (zb rfl) Zl aa5 ?_ | refine lA hp rfl (zb rfl) zP aa5 ?_) | ((refine zf _ _ _ rfl ?_); (first | refine sO hp rfl (zb rfl) Zl aa5 ?_ | refine sA hp rfl (zb rfl) (zb rfl) zP aa5 ?_ | refine sG hp rfl (zb rfl) (zb rfl) zP aa5 ?_); clear hp; intro w1 hp; simp only [spl, z0a, z0b] at hp)); simp only [ze, zd, z0b, z0a]))
 exact bodyPost_ret (zE (rs := [.cell 4 54]) Tryz.results77 (.cell rfl (hp.loadAgg zU at0 0 _ (by rfl) (by rfl)) .nil)) rfl (zZ.sm (zbR HR.out hp) rfl)
end Go.Proofs.YtaafajaadfgaoaaGreat
