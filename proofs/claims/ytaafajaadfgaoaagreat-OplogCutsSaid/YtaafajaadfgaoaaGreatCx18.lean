import Derived.Test.YtaafajaadfgaoaaGreatCx16
import Derived.Test.YtaafajaadfgaoaaGreatCx17
set_option linter.unusedSimpArgs false
set_option linter.unusedVariables false
set_option maxRecDepth 100000
set_option maxHeartbeats 60000000
namespace Go.Proofs.YtaafajaadfgaoaaGreat
open Go.RowKit
theorem zcx {ty : TypeId} {k : Nat} (h : ZB Tryz.prog ty k = true := by with_reducible first | exact zW | exact zD | exact zcp | exact Zf | exact ziG) : ZB Tryz.prog ty k = true := h
theorem zc7 {ty : TypeId} (h : zy Tryz.prog ty = true := by with_reducible first | exact zr | exact Ze | exact Zh | exact z7 | exact zmr | exact Zb) : zy Tryz.prog ty = true := h
theorem zov {x : Hv} (hx : zJ x) {kk hh ii nn cc vv tt : Int} {B bw : Nat} {w0 w : World} {K : List Blk} (hW : zQ B w0 w bw x K) :
  Calls Tryz.prog 151 #[.pointer (some ⟨bw, 0, none⟩), .agg #[.int .i64 kk, .int .i64 hh, .int .i64 ii, .int .i64 nn, .int .i64 cc, .int .i64 vv, .int .i64 tt]] w (zO B w0 bw (zdA x ⟨kk, hh, ii, nn, cc, vv, tt⟩).1 (zdA x ⟨kk, hh, ii, nn, cc, vv, tt⟩).2.1 (zdA x ⟨kk, hh, ii, nn, cc, vv, tt⟩).2.2 K) := by
 obtain ⟨RO, RF, M, hR, hp⟩ := hW
 obtain ⟨h3, h8, hcan⟩ := zcJ hx.free
 have hsm := hx.small
 have hlen := hx.len
 have hlo := hx.lo
 have hfree := hx.free
 obtain ⟨od, oa, os, oc, nx, t0, t1, t2, t3, fa, fs, fc⟩ := x
 simp only at h3 h8 hcan hlen hlo hfree
 unfold zdA
 simp only
 by_cases hn : Zk nn cc < 0
 ·rw [if_pos hn]
  exact zfN (z0j rfl) hn (z0j hR) hp
 ·rw [if_neg hn]
  by_cases hl : 1000000 < nx
  ·rw [if_pos hl]
   exact zfO (z0j rfl) (by omega) hl (z0j hR) hp
  ·rw [if_neg hl]
   cases hb : zfP fs (Zk nn cc) with
   | none =>
    have hg := zd0.1 hb
    by_cases ho : od < Zk nn cc
    ·exact zdc (z0j rfl) (by omega) (by omega) (.inl rfl) (z0j fun a k w h => zjD od (Zk nn cc) fs a k hsm.2 w h (.inr (.inr ho))) (z0j hR) hp
    ·exact zdc (z0j rfl) (by omega) (by omega) (.inr rfl) (z0j fun a k w h => zit od (Zk nn cc) fs a k hsm.2 w h hfree (by omega) (by omega) hg) (z0j hR) hp
   | some b =>
    have hlt := ze3 hcan.disj hb
    have hmay := hcan.may b hlt.mem
    have hgr := hlt.great
    obtain ⟨n1, n2, n3, n4⟩ := zc1 (a := nn) (b := cc) (by omega)
    obtain ⟨m, rfl⟩ := Int.eq_ofNat_of_zero_le n1
    obtain ⟨k, rfl⟩ := Int.eq_ofNat_of_zero_le n3
    refine ziI (z0j rfl) (by omega) (by have := hmay.2.1; omega) (by omega) (by omega) (by omega) hlo hlen hsm.2 (z0j hfree) (z0j ?_) (z0j fun b' s hl' ht => ?_) (z0j hR) hp
    ·cases hq : ZW fs (Zk m k) with
     | true => rfl
     | false => rw [zd0.2 hq] at hb; cases hb
    ·have e := hl'.uniq hlt
     subst e
     exact ⟨rfl, zqd hcan.disj hl'.mem (by omega) hl'.great ht⟩
theorem zuq {x : Hv} (hx : zJ x) {kk hh ii nn cc vv tt : Int} (hk : kk = 2 ∨ kk = 3 ∨ kk = 4 ∨ kk = 6 ∨ kk = 7) {B bw : Nat} {w0 w : World} {K : List Blk} (hW : zQ B w0 w bw x K) :
  Calls Tryz.prog 152 #[.pointer (some ⟨bw, 0, none⟩), .agg #[.int .i64 kk, .int .i64 hh, .int .i64 ii, .int .i64 nn, .int .i64 cc, .int .i64 vv, .int .i64 tt]] w (zO B w0 bw (atC x ⟨kk, hh, ii, nn, cc, vv, tt⟩).1 (atC x ⟨kk, hh, ii, nn, cc, vv, tt⟩).2.1 (atC x ⟨kk, hh, ii, nn, cc, vv, tt⟩).2.2 K) := by
 unfold atC
 simp only
 cases hn : Z2 x.os hh with
 | none => exact zkN hx hn hW
 | some i =>
  obtain ⟨g, hg, _⟩ := zee hn
  simp only [hg]
  have hin : ∀ {n : Nat}, (ii < 0 ∨ (n : Int) ≤ ii) → inB ii 0 ((n : Int) - 1) = false := fun h => by simp [inB]; omega
  have hnat : ∀ {n : Nat}, ¬ (ii < 0 ∨ (n : Int) ≤ ii) → ∃ q : Nat, ii = q ∧ q < n := fun h => ⟨ii.toNat, by omega, by omega⟩
  rcases hk with rfl | rfl | rfl | rfl | rfl
  ·exact zkL hx hn hg hW
  ·simp only [zoo, Int.reduceEq, or_self, if_false, if_true]
   by_cases h : ii < 0 ∨ (g.ws.length : Int) ≤ ii
   ·rw [if_pos h]; exact zho hx hn hg (hin h) hW
   ·obtain ⟨q, rfl, hq⟩ := hnat h
    rw [if_neg h]; exact ziM hx hn hg hq hW
  ·simp only [zoo, Int.reduceEq, or_false, false_or, if_false, if_true]
   by_cases h : ii < 0 ∨ (g.ls.length : Int) ≤ ii
   ·rw [if_pos h]; exact zhp hx hn hg (hin h) hW
   ·obtain ⟨q, rfl, hq⟩ := hnat h
    rw [if_neg h]
    cases hto : Z4 x.os tt with
    | true => exact zkM hx hn hg hq hto hW
    | false => exact zhs hx hn hg hq hto hW
  ·simp only [zoo, Int.reduceEq, or_self, if_false, if_true]
   by_cases h : ii < 0 ∨ (g.ws.length : Int) ≤ ii
   ·rw [if_pos h]; exact zhq hx hn hg (hin h) hW
   ·obtain ⟨q, rfl, hq⟩ := hnat h
    rw [if_neg h]
    have hv := List.getElem?_eq_getElem hq
    have he : g.ws.getD q 0 = g.ws[q] := by simp [hq]
    simp only [Int.toNat_natCast, he]
    exact zkO hx hn hg hv hW
  ·simp only [zoo, Int.reduceEq, or_true, if_false, if_true]
   by_cases h : ii < 0 ∨ (g.ls.length : Int) ≤ ii
   ·rw [if_pos h]; exact zhr hx hn hg (hin h) hW
   ·obtain ⟨q, rfl, hq⟩ := hnat h
    rw [if_neg h]
    have hv := List.getElem?_eq_getElem hq
    have he : g.ls.getD q 0 = g.ls[q] := by simp [hq]
    simp only [Int.toNat_natCast, he]
    exact zhn hx hn hg hv hW
theorem zbK {x : Hv} {RO RF M K : List Blk} (hR : HvR x RO RF M) {br bo b : Nat} {c d : List Value} {B : Nat} {w0 w : World} (hp : Hp B w0 w (⟨br, c, 54, 2⟩ :: ⟨bo, d, 29, 7⟩ :: ⟨b, hvL x, 113, 8⟩ :: (RO ++ (RF ++ (M ++ K))))) : zQ B w0 w b x K :=
 ⟨RO, RF, M, hR, hp.tail.tail⟩
theorem zhH {x : Hv} {kk hh ii nn cc vv tt : Int} {s : Hv} {c v : Int} {B bw : Nat} {w0 w : World} {K9 : List Blk} (hW : zQ B w0 w bw x K9)
  (h : (kk = 1 ∧ Hid (∀ {K : List Blk} {w : World}, zQ B w0 w bw x K → Calls Tryz.prog 151 #[.pointer (some ⟨bw, 0, none⟩), .agg #[.int .i64 kk, .int .i64 hh, .int .i64 ii, .int .i64 nn, .int .i64 cc, .int .i64 vv, .int .i64 tt]] w (zO B w0 bw s c v K))) ∨ ((kk = 2 ∨ kk = 3 ∨ kk = 4 ∨ kk = 6 ∨ kk = 7) ∧ Hid (∀ {K : List Blk} {w : World}, zQ B w0 w bw x K → Calls Tryz.prog 152 #[.pointer (some ⟨bw, 0, none⟩), .agg #[.int .i64 kk, .int .i64 hh, .int .i64 ii, .int .i64 nn, .int .i64 cc, .int .i64 vv, .int .i64 tt]] w (zO B w0 bw s c v K)))) :
  Calls Tryz.prog 77 #[.pointer (some ⟨bw, 0, none⟩), .agg #[.int .i64 kk, .int .i64 hh, .int .i64 ii, .int .i64 nn, .int .i64 cc, .int .i64 vv, .int .i64 tt]] w (zO B w0 bw s c v K9) := by
 obtain ⟨RO, RF, M, hR, hp⟩ := hW
 have HWK : Hid (∀ {br bo : Nat} {c d : List Value} {w : World}, Hp B w0 w (⟨br, c, 54, 2⟩ :: ⟨bo, d, 29, 7⟩ :: ⟨bw, hvL x, 113, 8⟩ :: (RO ++ (RF ++ (M ++ K9)))) → zQ B w0 w bw x (K9 ++ [⟨br, c, 54, 2⟩, ⟨bo, d, 29, 7⟩])) := z0j (fun h => ziy hR h)
 clear hR
 rcases h with ⟨rfl, HAL⟩ | ⟨hk, HAL⟩
 ·go_enter Tryz.func77, Tryz.ntmps77
  go_wp2_with (first | ((first | ((refine zi _ rfl ?_); refine lZ hp rfl (by with_reducible first | exact Zi) ?_; clear hp; intro b w1 hp) | ((refine zk _ _ rfl ?_); refine lB hp rfl (za rfl) rfl ?_; clear hp; intro b w1 hp) | ((refine zd _ _ rfl ?_); first | refine lO hp rfl (za rfl) zc7 aa5 ?_ | refine lA hp rfl (za rfl) zcx aa5 ?_)); simp only [zc, zb, z0b, z0a]))
  obtain ⟨br, rfl⟩ := hp.id0
  obtain ⟨bo, rfl⟩ := hp.id1
  go_wp2_with (first | (go_at_call 151; (with_reducible refine (HAL.out (HWK.out hp)).mono ?_); clear hp; rintro e w1 ⟨rfl, y, hy, RO2, RF2, M2, hR2, hp⟩; replace hp := hp.kp (L' := ⟨br, [.int .i64 0, .int .i64 0], 54, 2⟩ :: ⟨bw, hvL y, 113, 8⟩ :: (RO2 ++ (RF2 ++ (M2 ++ K9)))); have HR2 := z0j hR2; have HY := z0j hy; clear hy hR2; unfold zb8) | ((first | ((refine zg _ _ _ rfl ?_); (first | refine sA hp rfl (za rfl) (za rfl) zcx aa5 ?_); clear hp; intro w1 hp; simp only [spl, z0a, z0b] at hp)); simp only [zc, zb, z0b, z0a]))
  exact bodyPost_ret (zu (rs := [.cell 4 54]) Tryz.results77 (.cell rfl (hp.loadAgg Zf at0 0 _ (by rfl) (by rfl)) .nil)) rfl ⟨rfl, y, HY.out, RO2, RF2, M2, HR2.out, hp.tail⟩
 ·rcases hk with rfl | rfl | rfl | rfl | rfl
  all_goals
   go_enter Tryz.func77, Tryz.ntmps77
   go_wp2_with (first | ((first | ((refine zi _ rfl ?_); refine lZ hp rfl (by with_reducible first | exact Zi) ?_; clear hp; intro b w1 hp) | ((refine zk _ _ rfl ?_); refine lB hp rfl (za rfl) rfl ?_; clear hp; intro b w1 hp) | ((refine zd _ _ rfl ?_); first | refine lO hp rfl (za rfl) zc7 aa5 ?_ | refine lA hp rfl (za rfl) zcx aa5 ?_)); simp only [zc, zb, z0b, z0a]))
   obtain ⟨br, rfl⟩ := hp.id0
   obtain ⟨bo, rfl⟩ := hp.id1
   go_wp2_with (first | (go_at_call 152; (with_reducible refine (HAL.out (HWK.out hp)).mono ?_); clear hp; rintro e w1 ⟨rfl, y, hy, RO2, RF2, M2, hR2, hp⟩; replace hp := hp.kp (L' := ⟨br, [.int .i64 0, .int .i64 0], 54, 2⟩ :: ⟨bw, hvL y, 113, 8⟩ :: (RO2 ++ (RF2 ++ (M2 ++ K9)))); have HR2 := z0j hR2; have HY := z0j hy; clear hy hR2; unfold zb8) | ((first | ((refine zg _ _ _ rfl ?_); (first | refine sA hp rfl (za rfl) (za rfl) zcx aa5 ?_); clear hp; intro w1 hp; simp only [spl, z0a, z0b] at hp)); simp only [zc, zb, z0b, z0a]))
   exact bodyPost_ret (zu (rs := [.cell 4 54]) Tryz.results77 (.cell rfl (hp.loadAgg Zf at0 0 _ (by rfl) (by rfl)) .nil)) rfl ⟨rfl, y, HY.out, RO2, RF2, M2, HR2.out, hp.tail⟩
theorem zmA {x : Hv} {kk hh ii nn cc vv tt : Int} (hk : kk ≠ 1 ∧ kk ≠ 2 ∧ kk ≠ 3 ∧ kk ≠ 4 ∧ kk ≠ 5 ∧ kk ≠ 6 ∧ kk ≠ 7 ∧ kk ≠ 8) {B bw : Nat} {w0 w : World} {K9 : List Blk} (hW : zQ B w0 w bw x K9) :
  Calls Tryz.prog 77 #[.pointer (some ⟨bw, 0, none⟩), .agg #[.int .i64 kk, .int .i64 hh, .int .i64 ii, .int .i64 nn, .int .i64 cc, .int .i64 vv, .int .i64 tt]] w (zO B w0 bw x 54 0 K9) := by
 obtain ⟨RO, RF, M, hR, hp⟩ := hW
 have HR := z0j hR
 obtain ⟨k1, k2, k3, k4, k5, k6, k7, k8⟩ := hk
 have e1 : (kk == 1) = false := by simp [k1]
 have e2 : (kk == 2) = false := by simp [k2]
 have e3 : (kk == 3) = false := by simp [k3]
 have e4 : (kk == 4) = false := by simp [k4]
 have e5 : (kk == 5) = false := by simp [k5]
 have e6 : (kk == 6) = false := by simp [k6]
 have e7 : (kk == 7) = false := by simp [k7]
 have e8 : (kk == 8) = false := by simp [k8]
 clear hR k1 k2 k3 k4 k5 k6 k7 k8
 go_enter Tryz.func77, Tryz.ntmps77
 go_wp2_with (first | (go_at_call 75; (with_reducible refine (zlz _ _).mono ?_); rintro e w1 ⟨rfl, hb⟩; replace hp := hp.call hb; clear hb; unfold zb8) | ((first | ((refine zi _ rfl ?_); refine lZ hp rfl (by with_reducible first | exact Zi) ?_; clear hp; intro b w1 hp) | ((refine zk _ _ rfl ?_); refine lB hp rfl (za rfl) rfl ?_; clear hp; intro b w1 hp) | ((refine zd _ _ rfl ?_); first | refine lO hp rfl (za rfl) zc7 aa5 ?_) | ((refine zg _ _ _ rfl ?_); (first | refine sA hp rfl (za rfl) (za rfl) zcx aa5 ?_); clear hp; intro w1 hp; simp only [spl, z0a, z0b] at hp)); simp only [zc, zb, z0b, z0a]))
 exact bodyPost_ret (zu (rs := [.cell 4 54]) Tryz.results77 (.cell rfl (hp.loadAgg Zf at0 0 _ (by rfl) (by rfl)) .nil)) rfl (zQ.sm (zbK HR.out hp) rfl)
theorem zkW {x : Hv} {kk hh ii nn cc vv tt : Int} (hk : kk = 5 ∨ kk = 8) (hi : inB ii 0 3 = false) {B bw : Nat} {w0 w : World} {K9 : List Blk} (hW : zQ B w0 w bw x K9) :
  Calls Tryz.prog 77 #[.pointer (some ⟨bw, 0, none⟩), .agg #[.int .i64 kk, .int .i64 hh, .int .i64 ii, .int .i64 nn, .int .i64 cc, .int .i64 vv, .int .i64 tt]] w (zO B w0 bw x 52 0 K9) := by
 obtain ⟨RO, RF, M, hR, hp⟩ := hW
 have HR := z0j hR
 have HIN := z0j hi
 clear hR hi
 rcases hk with rfl | rfl
 all_goals
  go_enter Tryz.func77, Tryz.ntmps77
  go_wp2_with (first | (go_at_call 140; (with_reducible refine (zX _ _ _ _).mono ?_); rintro e w' ⟨rfl, rfl⟩; rw [HIN.out]) | (go_at_call 75; (with_reducible refine (zlz _ _).mono ?_); rintro e w1 ⟨rfl, hb⟩; replace hp := hp.call hb; clear hb; unfold zb8) | ((first | ((refine zi _ rfl ?_); refine lZ hp rfl (by with_reducible first | exact Zi) ?_; clear hp; intro b w1 hp) | ((refine zk _ _ rfl ?_); refine lB hp rfl (za rfl) rfl ?_; clear hp; intro b w1 hp) | ((refine zd _ _ rfl ?_); first | refine lO hp rfl (za rfl) zc7 aa5 ?_) | ((refine zg _ _ _ rfl ?_); (first | refine sA hp rfl (za rfl) (za rfl) zcx aa5 ?_); clear hp; intro w1 hp; simp only [spl, z0a, z0b] at hp)); simp only [zc, zb, z0b, z0a]))
  exact bodyPost_ret (zu (rs := [.cell 4 54]) Tryz.results77 (.cell rfl (hp.loadAgg Zf at0 0 _ (by rfl) (by rfl)) .nil)) rfl (zQ.sm (zbK HR.out hp) rfl)
theorem zoY {x : Hv} {hh nn cc vv tt : Int} {q : Nat} (hq : q = 0 ∨ q = 1 ∨ q = 2 ∨ q = 3) {B bw : Nat} {w0 w : World} {K9 : List Blk} (hW : zQ B w0 w bw x K9) :
  Calls Tryz.prog 77 #[.pointer (some ⟨bw, 0, none⟩), .agg #[.int .i64 8, .int .i64 hh, .int .i64 q, .int .i64 nn, .int .i64 cc, .int .i64 vv, .int .i64 tt]] w (zO B w0 bw x 0 ((tops x).getD q 0) K9) := by
 obtain ⟨RO, RF, M, hR, hp⟩ := hW
 have HR := z0j hR
 clear hR
 obtain ⟨od, oa, os, oc, nx, t0, t1, t2, t3, fa, fs, fc⟩ := x
 simp only [hvL] at hp
 rcases hq with rfl | rfl | rfl | rfl
 ·have HIN : Hid (inB 0 0 3 = true) := z0j (by decide)
  show Calls Tryz.prog 77 #[.pointer (some ⟨bw, 0, none⟩), .agg #[.int .i64 8, .int .i64 hh, .int .i64 0, .int .i64 nn, .int .i64 cc, .int .i64 vv, .int .i64 tt]] w (zO B w0 bw _ 0 t0 K9)
  go_enter Tryz.func77, Tryz.ntmps77
  go_wp2_with (first | (go_at_call 140; (with_reducible refine (zX _ _ _ _).mono ?_); rintro e w' ⟨rfl, rfl⟩; rw [HIN.out]) | ((first | ((refine zi _ rfl ?_); refine lZ hp rfl (by with_reducible first | exact Zi) ?_; clear hp; intro b w1 hp) | ((refine zk _ _ rfl ?_); refine lB hp rfl (za rfl) rfl ?_; clear hp; intro b w1 hp) | ((refine zd _ _ rfl ?_); first | refine lO hp rfl (za rfl) zc7 aa5 ?_)); simp only [zc, zb, z0b, z0a]))
  refine zf [_, _] (zt.two hp.drew at1 at2) [9] [(0, true), (1, true), (2, true), (3, true), (4, true), (5, true), (6, true), (7, true), (8, true), (9, false)] (by kernel_rfl) (by kernel_rfl) rfl (by kernel_rfl) (fun _ _ d _ _ h => by cases d <;> exact h) ?_
  replace hp := hp.drew
  repeat' (with_reducible refine zq ?_); first | (with_reducible refine zl ?_) | ((with_reducible refine zw ?_); refine zn rfl ?_; (first | ((with_reducible refine zH _ rfl ?_); refine tM rfl ?_) | ((with_reducible refine zI _ _ rfl ?_); refine tO rfl (za rfl) zr aa5 ?_) | refine tG (fun w _ => (by go_simp; try rfl)) ?_); try simp only [zc, zb, zh, ze, z0b, z0a, z0d, z0c, zj]) | (refine zv rfl (fun K hK => ?_); go_wp2_with (first | (((refine zg _ _ _ rfl ?_); (first | refine sA hp rfl (za rfl) (za rfl) zcx aa5 ?_); clear hp; intro w1 hp; simp only [spl, z0a, z0b] at hp); simp only [zc, zb, z0b, z0a])); (first | refine hK.out _ _ (.inl rfl) ?_); clear hK K; try simp only [zc, zb, zh, ze, z0b, z0a, z0d, z0c, zj])
  go_wp2_with (first | fail)
  exact bodyPost_ret (zu (rs := [.cell 4 54]) Tryz.results77 (.cell rfl (hp.loadAgg Zf at0 0 _ (by rfl) (by rfl)) .nil)) rfl (zQ.sm (zbK HR.out hp) rfl)
 ·have HIN : Hid (inB 1 0 3 = true) := z0j (by decide)
  show Calls Tryz.prog 77 #[.pointer (some ⟨bw, 0, none⟩), .agg #[.int .i64 8, .int .i64 hh, .int .i64 1, .int .i64 nn, .int .i64 cc, .int .i64 vv, .int .i64 tt]] w (zO B w0 bw _ 0 t1 K9)
  go_enter Tryz.func77, Tryz.ntmps77
  go_wp2_with (first | (go_at_call 140; (with_reducible refine (zX _ _ _ _).mono ?_); rintro e w' ⟨rfl, rfl⟩; rw [HIN.out]) | ((first | ((refine zi _ rfl ?_); refine lZ hp rfl (by with_reducible first | exact Zi) ?_; clear hp; intro b w1 hp) | ((refine zk _ _ rfl ?_); refine lB hp rfl (za rfl) rfl ?_; clear hp; intro b w1 hp) | ((refine zd _ _ rfl ?_); first | refine lO hp rfl (za rfl) zc7 aa5 ?_)); simp only [zc, zb, z0b, z0a]))
  refine zf [_, _] (zt.two hp.drew at1 at2) [9] [(0, true), (1, true), (2, true), (3, true), (4, true), (5, true), (6, true), (7, true), (8, true), (9, false)] (by kernel_rfl) (by kernel_rfl) rfl (by kernel_rfl) (fun _ _ d _ _ h => by cases d <;> exact h) ?_
  replace hp := hp.drew
  repeat' (with_reducible refine zq ?_); first | (with_reducible refine zl ?_) | ((with_reducible refine zw ?_); refine zn rfl ?_; (first | ((with_reducible refine zH _ rfl ?_); refine tM rfl ?_) | ((with_reducible refine zI _ _ rfl ?_); refine tO rfl (za rfl) zr aa5 ?_) | refine tG (fun w _ => (by go_simp; try rfl)) ?_); try simp only [zc, zb, zh, ze, z0b, z0a, z0d, z0c, zj]) | (refine zv rfl (fun K hK => ?_); go_wp2_with (first | (((refine zg _ _ _ rfl ?_); (first | refine sA hp rfl (za rfl) (za rfl) zcx aa5 ?_); clear hp; intro w1 hp; simp only [spl, z0a, z0b] at hp); simp only [zc, zb, z0b, z0a])); (first | refine hK.out _ _ (.inl rfl) ?_); clear hK K; try simp only [zc, zb, zh, ze, z0b, z0a, z0d, z0c, zj])
  go_wp2_with (first | fail)
  exact bodyPost_ret (zu (rs := [.cell 4 54]) Tryz.results77 (.cell rfl (hp.loadAgg Zf at0 0 _ (by rfl) (by rfl)) .nil)) rfl (zQ.sm (zbK HR.out hp) rfl)
 ·have HIN : Hid (inB 2 0 3 = true) := z0j (by decide)
  show Calls Tryz.prog 77 #[.pointer (some ⟨bw, 0, none⟩), .agg #[.int .i64 8, .int .i64 hh, .int .i64 2, .int .i64 nn, .int .i64 cc, .int .i64 vv, .int .i64 tt]] w (zO B w0 bw _ 0 t2 K9)
  go_enter Tryz.func77, Tryz.ntmps77
  go_wp2_with (first | (go_at_call 140; (with_reducible refine (zX _ _ _ _).mono ?_); rintro e w' ⟨rfl, rfl⟩; rw [HIN.out]) | ((first | ((refine zi _ rfl ?_); refine lZ hp rfl (by with_reducible first | exact Zi) ?_; clear hp; intro b w1 hp) | ((refine zk _ _ rfl ?_); refine lB hp rfl (za rfl) rfl ?_; clear hp; intro b w1 hp) | ((refine zd _ _ rfl ?_); first | refine lO hp rfl (za rfl) zc7 aa5 ?_)); simp only [zc, zb, z0b, z0a]))
  refine zf [_, _] (zt.two hp.drew at1 at2) [9] [(0, true), (1, true), (2, true), (3, true), (4, true), (5, true), (6, true), (7, true), (8, true), (9, false)] (by kernel_rfl) (by kernel_rfl) rfl (by kernel_rfl) (fun _ _ d _ _ h => by cases d <;> exact h) ?_
  replace hp := hp.drew
  repeat' (with_reducible refine zq ?_); first | (with_reducible refine zl ?_) | ((with_reducible refine zw ?_); refine zn rfl ?_; (first | ((with_reducible refine zH _ rfl ?_); refine tM rfl ?_) | ((with_reducible refine zI _ _ rfl ?_); refine tO rfl (za rfl) zr aa5 ?_) | refine tG (fun w _ => (by go_simp; try rfl)) ?_); try simp only [zc, zb, zh, ze, z0b, z0a, z0d, z0c, zj]) | (refine zv rfl (fun K hK => ?_); go_wp2_with (first | (((refine zg _ _ _ rfl ?_); (first | refine sA hp rfl (za rfl) (za rfl) zcx aa5 ?_); clear hp; intro w1 hp; simp only [spl, z0a, z0b] at hp); simp only [zc, zb, z0b, z0a])); (first | refine hK.out _ _ (.inl rfl) ?_); clear hK K; try simp only [zc, zb, zh, ze, z0b, z0a, z0d, z0c, zj])
  go_wp2_with (first | fail)
  exact bodyPost_ret (zu (rs := [.cell 4 54]) Tryz.results77 (.cell rfl (hp.loadAgg Zf at0 0 _ (by rfl) (by rfl)) .nil)) rfl (zQ.sm (zbK HR.out hp) rfl)
 ·have HIN : Hid (inB 3 0 3 = true) := z0j (by decide)
  show Calls Tryz.prog 77 #[.pointer (some ⟨bw, 0, none⟩), .agg #[.int .i64 8, .int .i64 hh, .int .i64 3, .int .i64 nn, .int .i64 cc, .int .i64 vv, .int .i64 tt]] w (zO B w0 bw _ 0 t3 K9)
  go_enter Tryz.func77, Tryz.ntmps77
  go_wp2_with (first | (go_at_call 140; (with_reducible refine (zX _ _ _ _).mono ?_); rintro e w' ⟨rfl, rfl⟩; rw [HIN.out]) | ((first | ((refine zi _ rfl ?_); refine lZ hp rfl (by with_reducible first | exact Zi) ?_; clear hp; intro b w1 hp) | ((refine zk _ _ rfl ?_); refine lB hp rfl (za rfl) rfl ?_; clear hp; intro b w1 hp) | ((refine zd _ _ rfl ?_); first | refine lO hp rfl (za rfl) zc7 aa5 ?_)); simp only [zc, zb, z0b, z0a]))
  refine zf [_, _] (zt.two hp.drew at1 at2) [9] [(0, true), (1, true), (2, true), (3, true), (4, true), (5, true), (6, true), (7, true), (8, true), (9, false)] (by kernel_rfl) (by kernel_rfl) rfl (by kernel_rfl) (fun _ _ d _ _ h => by cases d <;> exact h) ?_
  replace hp := hp.drew
  repeat' (with_reducible refine zq ?_); first | (with_reducible refine zl ?_) | ((with_reducible refine zw ?_); refine zn rfl ?_; (first | ((with_reducible refine zH _ rfl ?_); refine tM rfl ?_) | ((with_reducible refine zI _ _ rfl ?_); refine tO rfl (za rfl) zr aa5 ?_) | refine tG (fun w _ => (by go_simp; try rfl)) ?_); try simp only [zc, zb, zh, ze, z0b, z0a, z0d, z0c, zj]) | (refine zv rfl (fun K hK => ?_); go_wp2_with (first | (((refine zg _ _ _ rfl ?_); (first | refine sA hp rfl (za rfl) (za rfl) zcx aa5 ?_); clear hp; intro w1 hp; simp only [spl, z0a, z0b] at hp); simp only [zc, zb, z0b, z0a])); (first | refine hK.out _ _ (.inl rfl) ?_); clear hK K; try simp only [zc, zb, zh, ze, z0b, z0a, z0d, z0c, zj])
  go_wp2_with (first | fail)
  exact bodyPost_ret (zu (rs := [.cell 4 54]) Tryz.results77 (.cell rfl (hp.loadAgg Zf at0 0 _ (by rfl) (by rfl)) .nil)) rfl (zQ.sm (zbK HR.out hp) rfl)
theorem zbF {RO A Z : List Blk} {Q : World → Prop} (h : ZK RO Q) : ZK (A ++ (RO ++ Z)) Q := h.mono (fun p hm => by simp [hm]) (fun _ h => h)
theorem zkX {x : Hv} (hx : zJ x) {hh nn cc vv tt : Int} (hto : Z4 x.os tt = true) {B bw : Nat} {w0 w : World} {K9 : List Blk} (hW : zQ B w0 w bw x K9) :
  Calls Tryz.prog 77 #[.pointer (some ⟨bw, 0, none⟩), .agg #[.int .i64 5, .int .i64 hh, .int .i64 0, .int .i64 nn, .int .i64 cc, .int .i64 vv, .int .i64 tt]] w (zO B w0 bw (zop x 0 tt) 0 0 K9) := by
 obtain ⟨RO, RF, M, hR, hp⟩ := hW
 have HR := z0j hR
 have hs := hx.sorted
 have hol : x.os.length ≤ 1000 := by have := hx.len; omega
 obtain ⟨od, oa, os, oc, nx, t0, t1, t2, t3, fa, fs, fc⟩ := x
 simp only [hvL] at hp
 simp only at hs hol hto
 have hro : ZK RO fun w => zm w oa (os.flatMap obV) := hR.objs.keptS
 have HLD : Hid (∀ (y z : Blk) (w : World), Hp B w0 w (y :: z :: ⟨bw, [.int .i64 od, .slice oa os.length oc, .int .i64 nx, .int .i64 t0, .int .i64 t1, .int .i64 t2, .int .i64 t3, .slice fa fs.length fc], 113, 8⟩ :: (RO ++ (RF ++ (M ++ K9)))) →
   Calls Tryz.prog 153 #[.pointer (some ⟨bw, 0, none⟩), .pointer (some ⟨bw, 3, none⟩), .int .i64 tt] w fun e w' => e = .returned (zb8 0 0) ∧ Hp B w0 w' (y :: z :: ⟨bw, [.int .i64 od, .slice oa os.length oc, .int .i64 nx, .int .i64 tt, .int .i64 t1, .int .i64 t2, .int .i64 t3, .slice fa fs.length fc], 113, 8⟩ :: (RO ++ (RF ++ (M ++ K9))))) :=
  z0j (fun y z w hp => zbn hol hs hto (j := 2) (i := 2) rfl rfl (zbF (A := [y, z, _]) hro) rfl (by simp) hp)
 have HIN : Hid (inB 0 0 3 = true) := z0j (by decide)
 clear hx hs hol hto hro hR
 go_enter Tryz.func77, Tryz.ntmps77
 go_wp2_with (first | (go_at_call 140; (with_reducible refine (zX _ _ _ _).mono ?_); rintro e w' ⟨rfl, rfl⟩; rw [HIN.out]) | ((first | ((refine zi _ rfl ?_); refine lZ hp rfl (by with_reducible first | exact Zi) ?_; clear hp; intro b w1 hp) | ((refine zk _ _ rfl ?_); refine lB hp rfl (za rfl) rfl ?_; clear hp; intro b w1 hp) | ((refine zd _ _ rfl ?_); first | refine lO hp rfl (za rfl) zc7 aa5 ?_)); simp only [zc, zb, z0b, z0a]))
 refine zf [_] (zt.one hp.drew at1) [10, 11] [(0, true), (1, true), (2, true), (3, true), (4, true), (5, true), (6, true), (7, true), (8, true), (9, true), (10, false), (11, false)] (by kernel_rfl) (by kernel_rfl) rfl (by kernel_rfl) (fun _ _ d _ _ h => by cases d <;> exact h) ?_
 replace hp := hp.drew
 repeat' (with_reducible refine zq ?_); first | (with_reducible refine zl ?_) | ((with_reducible refine zw ?_); refine zn rfl ?_; (first | ((with_reducible refine zH _ rfl ?_); refine tM rfl ?_) | ((with_reducible refine zI _ _ rfl ?_); refine tO rfl (za rfl) zr aa5 ?_) | refine tG (fun w _ => (by go_simp; try rfl)) ?_); try simp only [zc, zb, zh, ze, z0b, z0a, z0d, z0c, zj]) | (refine zv rfl (fun K hK => ?_); go_wp2_with (first | (go_at_call 153; (with_reducible refine (HLD.out _ _ _ hp).mono ?_); clear hp; rintro e w1 ⟨rfl, hp⟩; unfold zb8) | (((refine zg _ _ _ rfl ?_); (first | refine sA hp rfl (za rfl) (za rfl) zcx aa5 ?_); clear hp; intro w1 hp; simp only [spl, z0a, z0b] at hp); simp only [zc, zb, z0b, z0a])); (first | refine hK.out _ _ (.inl rfl) ?_); clear hK K; try simp only [zc, zb, zh, ze, z0b, z0a, z0d, z0c, zj])
 go_wp2_with (first | fail)
 exact bodyPost_ret (zu (rs := [.cell 4 54]) Tryz.results77 (.cell rfl (hp.loadAgg Zf at0 0 _ (by rfl) (by rfl)) .nil)) rfl ⟨rfl, _, Hv.Sm.refl _, zbK (x := ⟨od, oa, os, oc, nx, tt, t1, t2, t3, fa, fs, fc⟩) ⟨HR.out.1, HR.out.2, HR.out.3⟩ hp⟩
theorem ziY {x : Hv} (hx : zJ x) {hh nn cc vv tt : Int} (hto : Z4 x.os tt = false) {B bw : Nat} {w0 w : World} {K9 : List Blk} (hW : zQ B w0 w bw x K9) :
  Calls Tryz.prog 77 #[.pointer (some ⟨bw, 0, none⟩), .agg #[.int .i64 5, .int .i64 hh, .int .i64 0, .int .i64 nn, .int .i64 cc, .int .i64 vv, .int .i64 tt]] w (zO B w0 bw x 51 0 K9) := by
 obtain ⟨RO, RF, M, hR, hp⟩ := hW
 have HR := z0j hR
 have hs := hx.sorted
 have hol : x.os.length ≤ 1000 := by have := hx.len; omega
 obtain ⟨od, oa, os, oc, nx, t0, t1, t2, t3, fa, fs, fc⟩ := x
 simp only [hvL] at hp
 simp only at hs hol hto
 have hro : ZK RO fun w => zm w oa (os.flatMap obV) := hR.objs.keptS
 have HLD : Hid (∀ (y z : Blk) (w : World), Hp B w0 w (y :: z :: ⟨bw, [.int .i64 od, .slice oa os.length oc, .int .i64 nx, .int .i64 t0, .int .i64 t1, .int .i64 t2, .int .i64 t3, .slice fa fs.length fc], 113, 8⟩ :: (RO ++ (RF ++ (M ++ K9)))) →
   Calls Tryz.prog 153 #[.pointer (some ⟨bw, 0, none⟩), .pointer (some ⟨bw, 3, none⟩), .int .i64 tt] w fun e w' => e = .returned (zb8 51 0) ∧ Hp B w0 w' (y :: z :: ⟨bw, [.int .i64 od, .slice oa os.length oc, .int .i64 nx, .int .i64 t0, .int .i64 t1, .int .i64 t2, .int .i64 t3, .slice fa fs.length fc], 113, 8⟩ :: (RO ++ (RF ++ (M ++ K9))))) :=
  z0j (fun y z w hp => zb5 hol hs hto (j := 2) (i := 2) rfl rfl (zbF (A := [y, z, _]) hro) rfl (by simp) hp)
 have HIN : Hid (inB 0 0 3 = true) := z0j (by decide)
 clear hx hs hol hto hro hR
 go_enter Tryz.func77, Tryz.ntmps77
 go_wp2_with (first | (go_at_call 140; (with_reducible refine (zX _ _ _ _).mono ?_); rintro e w' ⟨rfl, rfl⟩; rw [HIN.out]) | ((first | ((refine zi _ rfl ?_); refine lZ hp rfl (by with_reducible first | exact Zi) ?_; clear hp; intro b w1 hp) | ((refine zk _ _ rfl ?_); refine lB hp rfl (za rfl) rfl ?_; clear hp; intro b w1 hp) | ((refine zd _ _ rfl ?_); first | refine lO hp rfl (za rfl) zc7 aa5 ?_)); simp only [zc, zb, z0b, z0a]))
 refine zf [_] (zt.one hp.drew at1) [10, 11] [(0, true), (1, true), (2, true), (3, true), (4, true), (5, true), (6, true), (7, true), (8, true), (9, true), (10, false), (11, false)] (by kernel_rfl) (by kernel_rfl) rfl (by kernel_rfl) (fun _ _ d _ _ h => by cases d <;> exact h) ?_
 replace hp := hp.drew
 repeat' (with_reducible refine zq ?_); first | (with_reducible refine zl ?_) | ((with_reducible refine zw ?_); refine zn rfl ?_; (first | ((with_reducible refine zH _ rfl ?_); refine tM rfl ?_) | ((with_reducible refine zI _ _ rfl ?_); refine tO rfl (za rfl) zr aa5 ?_) | refine tG (fun w _ => (by go_simp; try rfl)) ?_); try simp only [zc, zb, zh, ze, z0b, z0a, z0d, z0c, zj]) | (refine zv rfl (fun K hK => ?_); go_wp2_with (first | (go_at_call 153; (with_reducible refine (HLD.out _ _ _ hp).mono ?_); clear hp; rintro e w1 ⟨rfl, hp⟩; unfold zb8) | (((refine zg _ _ _ rfl ?_); (first | refine sA hp rfl (za rfl) (za rfl) zcx aa5 ?_); clear hp; intro w1 hp; simp only [spl, z0a, z0b] at hp); simp only [zc, zb, z0b, z0a])); (first | refine hK.out _ _ (.inl rfl) ?_); clear hK K; try simp only [zc, zb, zh, ze, z0b, z0a, z0d, z0c, zj])
 go_wp2_with (first | fail)
 exact bodyPost_ret (zu (rs := [.cell 4 54]) Tryz.results77 (.cell rfl (hp.loadAgg Zf at0 0 _ (by rfl) (by rfl)) .nil)) rfl (zQ.sm (zbK HR.out hp) rfl)
theorem zkY {x : Hv} (hx : zJ x) {hh nn cc vv tt : Int} (hto : Z4 x.os tt = true) {B bw : Nat} {w0 w : World} {K9 : List Blk} (hW : zQ B w0 w bw x K9) :
  Calls Tryz.prog 77 #[.pointer (some ⟨bw, 0, none⟩), .agg #[.int .i64 5, .int .i64 hh, .int .i64 1, .int .i64 nn, .int .i64 cc, .int .i64 vv, .int .i64 tt]] w (zO B w0 bw (zop x 1 tt) 0 0 K9) := by
 obtain ⟨RO, RF, M, hR, hp⟩ := hW
 have HR := z0j hR
 have hs := hx.sorted
 have hol : x.os.length ≤ 1000 := by have := hx.len; omega
 obtain ⟨od, oa, os, oc, nx, t0, t1, t2, t3, fa, fs, fc⟩ := x
 simp only [hvL] at hp
 simp only at hs hol hto
 have hro : ZK RO fun w => zm w oa (os.flatMap obV) := hR.objs.keptS
 have HLD : Hid (∀ (y z : Blk) (w : World), Hp B w0 w (y :: z :: ⟨bw, [.int .i64 od, .slice oa os.length oc, .int .i64 nx, .int .i64 t0, .int .i64 t1, .int .i64 t2, .int .i64 t3, .slice fa fs.length fc], 113, 8⟩ :: (RO ++ (RF ++ (M ++ K9)))) →
   Calls Tryz.prog 153 #[.pointer (some ⟨bw, 0, none⟩), .pointer (some ⟨bw, 4, none⟩), .int .i64 tt] w fun e w' => e = .returned (zb8 0 0) ∧ Hp B w0 w' (y :: z :: ⟨bw, [.int .i64 od, .slice oa os.length oc, .int .i64 nx, .int .i64 t0, .int .i64 tt, .int .i64 t2, .int .i64 t3, .slice fa fs.length fc], 113, 8⟩ :: (RO ++ (RF ++ (M ++ K9))))) :=
  z0j (fun y z w hp => zbn hol hs hto (j := 2) (i := 2) rfl rfl (zbF (A := [y, z, _]) hro) rfl (by simp) hp)
 have HIN : Hid (inB 1 0 3 = true) := z0j (by decide)
 clear hx hs hol hto hro hR
 go_enter Tryz.func77, Tryz.ntmps77
 go_wp2_with (first | (go_at_call 140; (with_reducible refine (zX _ _ _ _).mono ?_); rintro e w' ⟨rfl, rfl⟩; rw [HIN.out]) | ((first | ((refine zi _ rfl ?_); refine lZ hp rfl (by with_reducible first | exact Zi) ?_; clear hp; intro b w1 hp) | ((refine zk _ _ rfl ?_); refine lB hp rfl (za rfl) rfl ?_; clear hp; intro b w1 hp) | ((refine zd _ _ rfl ?_); first | refine lO hp rfl (za rfl) zc7 aa5 ?_)); simp only [zc, zb, z0b, z0a]))
 refine zf [_] (zt.one hp.drew at1) [10, 11] [(0, true), (1, true), (2, true), (3, true), (4, true), (5, true), (6, true), (7, true), (8, true), (9, true), (10, false), (11, false)] (by kernel_rfl) (by kernel_rfl) rfl (by kernel_rfl) (fun _ _ d _ _ h => by cases d <;> exact h) ?_
 replace hp := hp.drew
 repeat' (with_reducible refine zq ?_); first | (with_reducible refine zl ?_) | ((with_reducible refine zw ?_); refine zn rfl ?_; (first | ((with_reducible refine zH _ rfl ?_); refine tM rfl ?_) | ((with_reducible refine zI _ _ rfl ?_); refine tO rfl (za rfl) zr aa5 ?_) | refine tG (fun w _ => (by go_simp; try rfl)) ?_); try simp only [zc, zb, zh, ze, z0b, z0a, z0d, z0c, zj]) | (refine zv rfl (fun K hK => ?_); go_wp2_with (first | (go_at_call 153; (with_reducible refine (HLD.out _ _ _ hp).mono ?_); clear hp; rintro e w1 ⟨rfl, hp⟩; unfold zb8) | (((refine zg _ _ _ rfl ?_); (first | refine sA hp rfl (za rfl) (za rfl) zcx aa5 ?_); clear hp; intro w1 hp; simp only [spl, z0a, z0b] at hp); simp only [zc, zb, z0b, z0a])); (first | refine hK.out _ _ (.inl rfl) ?_); clear hK K; try simp only [zc, zb, zh, ze, z0b, z0a, z0d, z0c, zj])
 go_wp2_with (first | fail)
 exact bodyPost_ret (zu (rs := [.cell 4 54]) Tryz.results77 (.cell rfl (hp.loadAgg Zf at0 0 _ (by rfl) (by rfl)) .nil)) rfl ⟨rfl, _, Hv.Sm.refl _, zbK (x := ⟨od, oa, os, oc, nx, t0, tt, t2, t3, fa, fs, fc⟩) ⟨HR.out.1, HR.out.2, HR.out.3⟩ hp⟩
theorem ziZ {x : Hv} (hx : zJ x) {hh nn cc vv tt : Int} (hto : Z4 x.os tt = false) {B bw : Nat} {w0 w : World} {K9 : List Blk} (hW : zQ B w0 w bw x K9) :
  Calls Tryz.prog 77 #[.pointer (some ⟨bw, 0, none⟩), .agg #[.int .i64 5, .int .i64 hh, .int .i64 1, .int .i64 nn, .int .i64 cc, .int .i64 vv, .int .i64 tt]] w (zO B w0 bw x 51 0 K9) := by
 obtain ⟨RO, RF, M, hR, hp⟩ := hW
 have HR := z0j hR
 have hs := hx.sorted
 have hol : x.os.length ≤ 1000 := by have := hx.len; omega
 obtain ⟨od, oa, os, oc, nx, t0, t1, t2, t3, fa, fs, fc⟩ := x
 simp only [hvL] at hp
 simp only at hs hol hto
 have hro : ZK RO fun w => zm w oa (os.flatMap obV) := hR.objs.keptS
 have HLD : Hid (∀ (y z : Blk) (w : World), Hp B w0 w (y :: z :: ⟨bw, [.int .i64 od, .slice oa os.length oc, .int .i64 nx, .int .i64 t0, .int .i64 t1, .int .i64 t2, .int .i64 t3, .slice fa fs.length fc], 113, 8⟩ :: (RO ++ (RF ++ (M ++ K9)))) →
   Calls Tryz.prog 153 #[.pointer (some ⟨bw, 0, none⟩), .pointer (some ⟨bw, 4, none⟩), .int .i64 tt] w fun e w' => e = .returned (zb8 51 0) ∧ Hp B w0 w' (y :: z :: ⟨bw, [.int .i64 od, .slice oa os.length oc, .int .i64 nx, .int .i64 t0, .int .i64 t1, .int .i64 t2, .int .i64 t3, .slice fa fs.length fc], 113, 8⟩ :: (RO ++ (RF ++ (M ++ K9))))) :=
  z0j (fun y z w hp => zb5 hol hs hto (j := 2) (i := 2) rfl rfl (zbF (A := [y, z, _]) hro) rfl (by simp) hp)
 have HIN : Hid (inB 1 0 3 = true) := z0j (by decide)
 clear hx hs hol hto hro hR
 go_enter Tryz.func77, Tryz.ntmps77
 go_wp2_with (first | (go_at_call 140; (with_reducible refine (zX _ _ _ _).mono ?_); rintro e w' ⟨rfl, rfl⟩; rw [HIN.out]) | ((first | ((refine zi _ rfl ?_); refine lZ hp rfl (by with_reducible first | exact Zi) ?_; clear hp; intro b w1 hp) | ((refine zk _ _ rfl ?_); refine lB hp rfl (za rfl) rfl ?_; clear hp; intro b w1 hp) | ((refine zd _ _ rfl ?_); first | refine lO hp rfl (za rfl) zc7 aa5 ?_)); simp only [zc, zb, z0b, z0a]))
 refine zf [_] (zt.one hp.drew at1) [10, 11] [(0, true), (1, true), (2, true), (3, true), (4, true), (5, true), (6, true), (7, true), (8, true), (9, true), (10, false), (11, false)] (by kernel_rfl) (by kernel_rfl) rfl (by kernel_rfl) (fun _ _ d _ _ h => by cases d <;> exact h) ?_
 replace hp := hp.drew
 repeat' (with_reducible refine zq ?_); first | (with_reducible refine zl ?_) | ((with_reducible refine zw ?_); refine zn rfl ?_; (first | ((with_reducible refine zH _ rfl ?_); refine tM rfl ?_) | ((with_reducible refine zI _ _ rfl ?_); refine tO rfl (za rfl) zr aa5 ?_) | refine tG (fun w _ => (by go_simp; try rfl)) ?_); try simp only [zc, zb, zh, ze, z0b, z0a, z0d, z0c, zj]) | (refine zv rfl (fun K hK => ?_); go_wp2_with (first | (go_at_call 153; (with_reducible refine (HLD.out _ _ _ hp).mono ?_); clear hp; rintro e w1 ⟨rfl, hp⟩; unfold zb8) | (((refine zg _ _ _ rfl ?_); (first | refine sA hp rfl (za rfl) (za rfl) zcx aa5 ?_); clear hp; intro w1 hp; simp only [spl, z0a, z0b] at hp); simp only [zc, zb, z0b, z0a])); (first | refine hK.out _ _ (.inl rfl) ?_); clear hK K; try simp only [zc, zb, zh, ze, z0b, z0a, z0d, z0c, zj])
 go_wp2_with (first | fail)
 exact bodyPost_ret (zu (rs := [.cell 4 54]) Tryz.results77 (.cell rfl (hp.loadAgg Zf at0 0 _ (by rfl) (by rfl)) .nil)) rfl (zQ.sm (zbK HR.out hp) rfl)
theorem zkZ {x : Hv} (hx : zJ x) {hh nn cc vv tt : Int} (hto : Z4 x.os tt = true) {B bw : Nat} {w0 w : World} {K9 : List Blk} (hW : zQ B w0 w bw x K9) :
  Calls Tryz.prog 77 #[.pointer (some ⟨bw, 0, none⟩), .agg #[.int .i64 5, .int .i64 hh, .int .i64 2, .int .i64 nn, .int .i64 cc, .int .i64 vv, .int .i64 tt]] w (zO B w0 bw (zop x 2 tt) 0 0 K9) := by
 obtain ⟨RO, RF, M, hR, hp⟩ := hW
 have HR := z0j hR
 have hs := hx.sorted
 have hol : x.os.length ≤ 1000 := by have := hx.len; omega
 obtain ⟨od, oa, os, oc, nx, t0, t1, t2, t3, fa, fs, fc⟩ := x
 simp only [hvL] at hp
 simp only at hs hol hto
 have hro : ZK RO fun w => zm w oa (os.flatMap obV) := hR.objs.keptS
 have HLD : Hid (∀ (y z : Blk) (w : World), Hp B w0 w (y :: z :: ⟨bw, [.int .i64 od, .slice oa os.length oc, .int .i64 nx, .int .i64 t0, .int .i64 t1, .int .i64 t2, .int .i64 t3, .slice fa fs.length fc], 113, 8⟩ :: (RO ++ (RF ++ (M ++ K9)))) →
   Calls Tryz.prog 153 #[.pointer (some ⟨bw, 0, none⟩), .pointer (some ⟨bw, 5, none⟩), .int .i64 tt] w fun e w' => e = .returned (zb8 0 0) ∧ Hp B w0 w' (y :: z :: ⟨bw, [.int .i64 od, .slice oa os.length oc, .int .i64 nx, .int .i64 t0, .int .i64 t1, .int .i64 tt, .int .i64 t3, .slice fa fs.length fc], 113, 8⟩ :: (RO ++ (RF ++ (M ++ K9))))) :=
  z0j (fun y z w hp => zbn hol hs hto (j := 2) (i := 2) rfl rfl (zbF (A := [y, z, _]) hro) rfl (by simp) hp)
 have HIN : Hid (inB 2 0 3 = true) := z0j (by decide)
 clear hx hs hol hto hro hR
 go_enter Tryz.func77, Tryz.ntmps77
 go_wp2_with (first | (go_at_call 140; (with_reducible refine (zX _ _ _ _).mono ?_); rintro e w' ⟨rfl, rfl⟩; rw [HIN.out]) | ((first | ((refine zi _ rfl ?_); refine lZ hp rfl (by with_reducible first | exact Zi) ?_; clear hp; intro b w1 hp) | ((refine zk _ _ rfl ?_); refine lB hp rfl (za rfl) rfl ?_; clear hp; intro b w1 hp) | ((refine zd _ _ rfl ?_); first | refine lO hp rfl (za rfl) zc7 aa5 ?_)); simp only [zc, zb, z0b, z0a]))
 refine zf [_] (zt.one hp.drew at1) [10, 11] [(0, true), (1, true), (2, true), (3, true), (4, true), (5, true), (6, true), (7, true), (8, true), (9, true), (10, false), (11, false)] (by kernel_rfl) (by kernel_rfl) rfl (by kernel_rfl) (fun _ _ d _ _ h => by cases d <;> exact h) ?_
 replace hp := hp.drew
 repeat' (with_reducible refine zq ?_); first | (with_reducible refine zl ?_) | ((with_reducible refine zw ?_); refine zn rfl ?_; (first | ((with_reducible refine zH _ rfl ?_); refine tM rfl ?_) | ((with_reducible refine zI _ _ rfl ?_); refine tO rfl (za rfl) zr aa5 ?_) | refine tG (fun w _ => (by go_simp; try rfl)) ?_); try simp only [zc, zb, zh, ze, z0b, z0a, z0d, z0c, zj]) | (refine zv rfl (fun K hK => ?_); go_wp2_with (first | (go_at_call 153; (with_reducible refine (HLD.out _ _ _ hp).mono ?_); clear hp; rintro e w1 ⟨rfl, hp⟩; unfold zb8) | (((refine zg _ _ _ rfl ?_); (first | refine sA hp rfl (za rfl) (za rfl) zcx aa5 ?_); clear hp; intro w1 hp; simp only [spl, z0a, z0b] at hp); simp only [zc, zb, z0b, z0a])); (first | refine hK.out _ _ (.inl rfl) ?_); clear hK K; try simp only [zc, zb, zh, ze, z0b, z0a, z0d, z0c, zj])
 go_wp2_with (first | fail)
 exact bodyPost_ret (zu (rs := [.cell 4 54]) Tryz.results77 (.cell rfl (hp.loadAgg Zf at0 0 _ (by rfl) (by rfl)) .nil)) rfl ⟨rfl, _, Hv.Sm.refl _, zbK (x := ⟨od, oa, os, oc, nx, t0, t1, tt, t3, fa, fs, fc⟩) ⟨HR.out.1, HR.out.2, HR.out.3⟩ hp⟩
theorem zi0 {x : Hv} (hx : zJ x) {hh nn cc vv tt : Int} (hto : Z4 x.os tt = false) {B bw : Nat} {w0 w : World} {K9 : List Blk} (hW : zQ B w0 w bw x K9) :
  Calls Tryz.prog 77 #[.pointer (some ⟨bw, 0, none⟩), .agg #[.int .i64 5, .int .i64 hh, .int .i64 2, .int .i64 nn, .int .i64 cc, .int .i64 vv, .int .i64 tt]] w (zO B w0 bw x 51 0 K9) := by
 obtain ⟨RO, RF, M, hR, hp⟩ := hW
 have HR := z0j hR
 have hs := hx.sorted
 have hol : x.os.length ≤ 1000 := by have := hx.len; omega
 obtain ⟨od, oa, os, oc, nx, t0, t1, t2, t3, fa, fs, fc⟩ := x
 simp only [hvL] at hp
 simp only at hs hol hto
 have hro : ZK RO fun w => zm w oa (os.flatMap obV) := hR.objs.keptS
 have HLD : Hid (∀ (y z : Blk) (w : World), Hp B w0 w (y :: z :: ⟨bw, [.int .i64 od, .slice oa os.length oc, .int .i64 nx, .int .i64 t0, .int .i64 t1, .int .i64 t2, .int .i64 t3, .slice fa fs.length fc], 113, 8⟩ :: (RO ++ (RF ++ (M ++ K9)))) →
   Calls Tryz.prog 153 #[.pointer (some ⟨bw, 0, none⟩), .pointer (some ⟨bw, 5, none⟩), .int .i64 tt] w fun e w' => e = .returned (zb8 51 0) ∧ Hp B w0 w' (y :: z :: ⟨bw, [.int .i64 od, .slice oa os.length oc, .int .i64 nx, .int .i64 t0, .int .i64 t1, .int .i64 t2, .int .i64 t3, .slice fa fs.length fc], 113, 8⟩ :: (RO ++ (RF ++ (M ++ K9))))) :=
  z0j (fun y z w hp => zb5 hol hs hto (j := 2) (i := 2) rfl rfl (zbF (A := [y, z, _]) hro) rfl (by simp) hp)
 have HIN : Hid (inB 2 0 3 = true) := z0j (by decide)
 clear hx hs hol hto hro hR
 go_enter Tryz.func77, Tryz.ntmps77
 go_wp2_with (first | (go_at_call 140; (with_reducible refine (zX _ _ _ _).mono ?_); rintro e w' ⟨rfl, rfl⟩; rw [HIN.out]) | ((first | ((refine zi _ rfl ?_); refine lZ hp rfl (by with_reducible first | exact Zi) ?_; clear hp; intro b w1 hp) | ((refine zk _ _ rfl ?_); refine lB hp rfl (za rfl) rfl ?_; clear hp; intro b w1 hp) | ((refine zd _ _ rfl ?_); first | refine lO hp rfl (za rfl) zc7 aa5 ?_)); simp only [zc, zb, z0b, z0a]))
 refine zf [_] (zt.one hp.drew at1) [10, 11] [(0, true), (1, true), (2, true), (3, true), (4, true), (5, true), (6, true), (7, true), (8, true), (9, true), (10, false), (11, false)] (by kernel_rfl) (by kernel_rfl) rfl (by kernel_rfl) (fun _ _ d _ _ h => by cases d <;> exact h) ?_
 replace hp := hp.drew
 repeat' (with_reducible refine zq ?_); first | (with_reducible refine zl ?_) | ((with_reducible refine zw ?_); refine zn rfl ?_; (first | ((with_reducible refine zH _ rfl ?_); refine tM rfl ?_) | ((with_reducible refine zI _ _ rfl ?_); refine tO rfl (za rfl) zr aa5 ?_) | refine tG (fun w _ => (by go_simp; try rfl)) ?_); try simp only [zc, zb, zh, ze, z0b, z0a, z0d, z0c, zj]) | (refine zv rfl (fun K hK => ?_); go_wp2_with (first | (go_at_call 153; (with_reducible refine (HLD.out _ _ _ hp).mono ?_); clear hp; rintro e w1 ⟨rfl, hp⟩; unfold zb8) | (((refine zg _ _ _ rfl ?_); (first | refine sA hp rfl (za rfl) (za rfl) zcx aa5 ?_); clear hp; intro w1 hp; simp only [spl, z0a, z0b] at hp); simp only [zc, zb, z0b, z0a])); (first | refine hK.out _ _ (.inl rfl) ?_); clear hK K; try simp only [zc, zb, zh, ze, z0b, z0a, z0d, z0c, zj])
 go_wp2_with (first | fail)
 exact bodyPost_ret (zu (rs := [.cell 4 54]) Tryz.results77 (.cell rfl (hp.loadAgg Zf at0 0 _ (by rfl) (by rfl)) .nil)) rfl (zQ.sm (zbK HR.out hp) rfl)
theorem zk0 {x : Hv} (hx : zJ x) {hh nn cc vv tt : Int} (hto : Z4 x.os tt = true) {B bw : Nat} {w0 w : World} {K9 : List Blk} (hW : zQ B w0 w bw x K9) :
  Calls Tryz.prog 77 #[.pointer (some ⟨bw, 0, none⟩), .agg #[.int .i64 5, .int .i64 hh, .int .i64 3, .int .i64 nn, .int .i64 cc, .int .i64 vv, .int .i64 tt]] w (zO B w0 bw (zop x 3 tt) 0 0 K9) := by
 obtain ⟨RO, RF, M, hR, hp⟩ := hW
 have HR := z0j hR
 have hs := hx.sorted
 have hol : x.os.length ≤ 1000 := by have := hx.len; omega
 obtain ⟨od, oa, os, oc, nx, t0, t1, t2, t3, fa, fs, fc⟩ := x
 simp only [hvL] at hp
 simp only at hs hol hto
 have hro : ZK RO fun w => zm w oa (os.flatMap obV) := hR.objs.keptS
 have HLD : Hid (∀ (y z : Blk) (w : World), Hp B w0 w (y :: z :: ⟨bw, [.int .i64 od, .slice oa os.length oc, .int .i64 nx, .int .i64 t0, .int .i64 t1, .int .i64 t2, .int .i64 t3, .slice fa fs.length fc], 113, 8⟩ :: (RO ++ (RF ++ (M ++ K9)))) →
   Calls Tryz.prog 153 #[.pointer (some ⟨bw, 0, none⟩), .pointer (some ⟨bw, 6, none⟩), .int .i64 tt] w fun e w' => e = .returned (zb8 0 0) ∧ Hp B w0 w' (y :: z :: ⟨bw, [.int .i64 od, .slice oa os.length oc, .int .i64 nx, .int .i64 t0, .int .i64 t1, .int .i64 t2, .int .i64 tt, .slice fa fs.length fc], 113, 8⟩ :: (RO ++ (RF ++ (M ++ K9))))) :=
  z0j (fun y z w hp => zbn hol hs hto (j := 2) (i := 2) rfl rfl (zbF (A := [y, z, _]) hro) rfl (by simp) hp)
 have HIN : Hid (inB 3 0 3 = true) := z0j (by decide)
 clear hx hs hol hto hro hR
 go_enter Tryz.func77, Tryz.ntmps77
 go_wp2_with (first | (go_at_call 140; (with_reducible refine (zX _ _ _ _).mono ?_); rintro e w' ⟨rfl, rfl⟩; rw [HIN.out]) | ((first | ((refine zi _ rfl ?_); refine lZ hp rfl (by with_reducible first | exact Zi) ?_; clear hp; intro b w1 hp) | ((refine zk _ _ rfl ?_); refine lB hp rfl (za rfl) rfl ?_; clear hp; intro b w1 hp) | ((refine zd _ _ rfl ?_); first | refine lO hp rfl (za rfl) zc7 aa5 ?_)); simp only [zc, zb, z0b, z0a]))
 refine zf [_] (zt.one hp.drew at1) [10, 11] [(0, true), (1, true), (2, true), (3, true), (4, true), (5, true), (6, true), (7, true), (8, true), (9, true), (10, false), (11, false)] (by kernel_rfl) (by kernel_rfl) rfl (by kernel_rfl) (fun _ _ d _ _ h => by cases d <;> exact h) ?_
 replace hp := hp.drew
 repeat' (with_reducible refine zq ?_); first | (with_reducible refine zl ?_) | ((with_reducible refine zw ?_); refine zn rfl ?_; (first | ((with_reducible refine zH _ rfl ?_); refine tM rfl ?_) | ((with_reducible refine zI _ _ rfl ?_); refine tO rfl (za rfl) zr aa5 ?_) | refine tG (fun w _ => (by go_simp; try rfl)) ?_); try simp only [zc, zb, zh, ze, z0b, z0a, z0d, z0c, zj]) | (refine zv rfl (fun K hK => ?_); go_wp2_with (first | (go_at_call 153; (with_reducible refine (HLD.out _ _ _ hp).mono ?_); clear hp; rintro e w1 ⟨rfl, hp⟩; unfold zb8) | (((refine zg _ _ _ rfl ?_); (first | refine sA hp rfl (za rfl) (za rfl) zcx aa5 ?_); clear hp; intro w1 hp; simp only [spl, z0a, z0b] at hp); simp only [zc, zb, z0b, z0a])); (first | refine hK.out _ _ (.inl rfl) ?_); clear hK K; try simp only [zc, zb, zh, ze, z0b, z0a, z0d, z0c, zj])
 go_wp2_with (first | fail)
 exact bodyPost_ret (zu (rs := [.cell 4 54]) Tryz.results77 (.cell rfl (hp.loadAgg Zf at0 0 _ (by rfl) (by rfl)) .nil)) rfl ⟨rfl, _, Hv.Sm.refl _, zbK (x := ⟨od, oa, os, oc, nx, t0, t1, t2, tt, fa, fs, fc⟩) ⟨HR.out.1, HR.out.2, HR.out.3⟩ hp⟩
theorem zi1 {x : Hv} (hx : zJ x) {hh nn cc vv tt : Int} (hto : Z4 x.os tt = false) {B bw : Nat} {w0 w : World} {K9 : List Blk} (hW : zQ B w0 w bw x K9) :
  Calls Tryz.prog 77 #[.pointer (some ⟨bw, 0, none⟩), .agg #[.int .i64 5, .int .i64 hh, .int .i64 3, .int .i64 nn, .int .i64 cc, .int .i64 vv, .int .i64 tt]] w (zO B w0 bw x 51 0 K9) := by
 obtain ⟨RO, RF, M, hR, hp⟩ := hW
 have HR := z0j hR
 have hs := hx.sorted
 have hol : x.os.length ≤ 1000 := by have := hx.len; omega
 obtain ⟨od, oa, os, oc, nx, t0, t1, t2, t3, fa, fs, fc⟩ := x
 simp only [hvL] at hp
 simp only at hs hol hto
 have hro : ZK RO fun w => zm w oa (os.flatMap obV) := hR.objs.keptS
 have HLD : Hid (∀ (y z : Blk) (w : World), Hp B w0 w (y :: z :: ⟨bw, [.int .i64 od, .slice oa os.length oc, .int .i64 nx, .int .i64 t0, .int .i64 t1, .int .i64 t2, .int .i64 t3, .slice fa fs.length fc], 113, 8⟩ :: (RO ++ (RF ++ (M ++ K9)))) →
   Calls Tryz.prog 153 #[.pointer (some ⟨bw, 0, none⟩), .pointer (some ⟨bw, 6, none⟩), .int .i64 tt] w fun e w' => e = .returned (zb8 51 0) ∧ Hp B w0 w' (y :: z :: ⟨bw, [.int .i64 od, .slice oa os.length oc, .int .i64 nx, .int .i64 t0, .int .i64 t1, .int .i64 t2, .int .i64 t3, .slice fa fs.length fc], 113, 8⟩ :: (RO ++ (RF ++ (M ++ K9))))) :=
  z0j (fun y z w hp => zb5 hol hs hto (j := 2) (i := 2) rfl rfl (zbF (A := [y, z, _]) hro) rfl (by simp) hp)
 have HIN : Hid (inB 3 0 3 = true) := z0j (by decide)
 clear hx hs hol hto hro hR
 go_enter Tryz.func77, Tryz.ntmps77
 go_wp2_with (first | (go_at_call 140; (with_reducible refine (zX _ _ _ _).mono ?_); rintro e w' ⟨rfl, rfl⟩; rw [HIN.out]) | ((first | ((refine zi _ rfl ?_); refine lZ hp rfl (by with_reducible first | exact Zi) ?_; clear hp; intro b w1 hp) | ((refine zk _ _ rfl ?_); refine lB hp rfl (za rfl) rfl ?_; clear hp; intro b w1 hp) | ((refine zd _ _ rfl ?_); first | refine lO hp rfl (za rfl) zc7 aa5 ?_)); simp only [zc, zb, z0b, z0a]))
 refine zf [_] (zt.one hp.drew at1) [10, 11] [(0, true), (1, true), (2, true), (3, true), (4, true), (5, true), (6, true), (7, true), (8, true), (9, true), (10, false), (11, false)] (by kernel_rfl) (by kernel_rfl) rfl (by kernel_rfl) (fun _ _ d _ _ h => by cases d <;> exact h) ?_
 replace hp := hp.drew
 repeat' (with_reducible refine zq ?_); first | (with_reducible refine zl ?_) | ((with_reducible refine zw ?_); refine zn rfl ?_; (first | ((with_reducible refine zH _ rfl ?_); refine tM rfl ?_) | ((with_reducible refine zI _ _ rfl ?_); refine tO rfl (za rfl) zr aa5 ?_) | refine tG (fun w _ => (by go_simp; try rfl)) ?_); try simp only [zc, zb, zh, ze, z0b, z0a, z0d, z0c, zj]) | (refine zv rfl (fun K hK => ?_); go_wp2_with (first | (go_at_call 153; (with_reducible refine (HLD.out _ _ _ hp).mono ?_); clear hp; rintro e w1 ⟨rfl, hp⟩; unfold zb8) | (((refine zg _ _ _ rfl ?_); (first | refine sA hp rfl (za rfl) (za rfl) zcx aa5 ?_); clear hp; intro w1 hp; simp only [spl, z0a, z0b] at hp); simp only [zc, zb, z0b, z0a])); (first | refine hK.out _ _ (.inl rfl) ?_); clear hK K; try simp only [zc, zb, zh, ze, z0b, z0a, z0d, z0c, zj])
 go_wp2_with (first | fail)
 exact bodyPost_ret (zu (rs := [.cell 4 54]) Tryz.results77 (.cell rfl (hp.loadAgg Zf at0 0 _ (by rfl) (by rfl)) .nil)) rfl (zQ.sm (zbK HR.out hp) rfl)
end Go.Proofs.YtaafajaadfgaoaaGreat
