import Derived.Test.YtjcbpfbifbfkcaaGreatTq15
import Derived.Test.YtjcbpfbifbfkcaaGreatTq16
set_option linter.unusedSimpArgs false
set_option linter.unusedVariables false
set_option maxRecDepth 100000
set_option maxHeartbeats 60000000
namespace Go.Proofs.YtjcbpfbifbfkcaaGreat
open Go.RowKit
theorem zui {ty : TypeId} {k : Nat} (h : ZM Tryz.prog ty k = true := by with_reducible first | exact zP | exact zG | exact zf8 | exact zt | exact zac) : ZM Tryz.prog ty k = true := h
theorem zaK {ty : TypeId} (h : zF Tryz.prog ty = true := by with_reducible first | exact zm | exact Zt | exact Zi | exact Zd | exact zl5 | exact Za) : zF Tryz.prog ty = true := h
theorem znZ {x : Hv} (hx : zQ x) {kk hh ii nn cc vv tt : Int} {B bw : Nat} {w0 w : World} {K : List Blk} (hW : zY B w0 w bw x K) :
  Calls Tryz.prog 152 #[.pointer (some ⟨bw, 0, none⟩), .agg #[.int .i64 kk, .int .i64 hh, .int .i64 ii, .int .i64 nn, .int .i64 cc, .int .i64 vv, .int .i64 tt]] w (zU B w0 bw (zeL x ⟨kk, hh, ii, nn, cc, vv, tt⟩).1 (zeL x ⟨kk, hh, ii, nn, cc, vv, tt⟩).2.1 (zeL x ⟨kk, hh, ii, nn, cc, vv, tt⟩).2.2 K) := by
 obtain ⟨RO, RF, M, hR, hp⟩ := hW
 obtain ⟨h3, h8, hcan⟩ := zc3 hx.free
 have hsm := hx.small
 have hlen := hx.len
 have hlo := hx.lo
 have hfree := hx.free
 obtain ⟨od, oa, os, oc, nx, t0, t1, t2, t3, fa, fs, fc⟩ := x
 simp only at h3 h8 hcan hlen hlo hfree
 unfold zeL
 simp only
 by_cases hn : ZC nn cc < 0
 ·rw [if_pos hn]
  exact zf0 (z0j rfl) hn (z0j hR) hp
 ·rw [if_neg hn]
  by_cases hl : 1000000 < nx
  ·rw [if_pos hl]
   exact zfW (z0j rfl) (by omega) hl (z0j hR) hp
  ·rw [if_neg hl]
   cases hb : zf3 fs (ZC nn cc) with
   | none =>
    have hg := zez.1 hb
    by_cases ho : od < ZC nn cc
    ·exact zdo (z0j rfl) (by omega) (by omega) (.inl rfl) (z0j fun a k w h => zi8 od (ZC nn cc) fs a k hsm.2 w h (.inr (.inr ho))) (z0j hR) hp
    ·exact zdo (z0j rfl) (by omega) (by omega) (.inr rfl) (z0j fun a k w h => zid od (ZC nn cc) fs a k hsm.2 w h hfree (by omega) (by omega) hg) (z0j hR) hp
   | some b =>
    have hlt := zfH hcan.disj hb
    have hmay := hcan.may b hlt.mem
    have hgr := hlt.great
    obtain ⟨n1, n2, n3, n4⟩ := zc9 (a := nn) (b := cc) (by omega)
    obtain ⟨m, rfl⟩ := Int.eq_ofNat_of_zero_le n1
    obtain ⟨k, rfl⟩ := Int.eq_ofNat_of_zero_le n3
    refine zjy (z0j rfl) (by omega) (by have := hmay.2.1; omega) (by omega) (by omega) (by omega) hlo hlen hsm.2 (z0j hfree) (z0j ?_) (z0j fun b' s hl' ht => ?_) (z0j hR) hp
    ·cases hq : Z0 fs (ZC m k) with
     | true => rfl
     | false => rw [zez.2 hq] at hb; cases hb
    ·have e := hl'.uniq hlt
     subst e
     exact ⟨rfl, zn0 hcan.disj hl'.mem (by omega) hl'.great ht⟩
theorem ztl {x : Hv} (hx : zQ x) {kk hh ii nn cc vv tt : Int} (hk : kk = 2 ∨ kk = 3 ∨ kk = 4 ∨ kk = 6 ∨ kk = 7) {B bw : Nat} {w0 w : World} {K : List Blk} (hW : zY B w0 w bw x K) :
  Calls Tryz.prog 153 #[.pointer (some ⟨bw, 0, none⟩), .agg #[.int .i64 kk, .int .i64 hh, .int .i64 ii, .int .i64 nn, .int .i64 cc, .int .i64 vv, .int .i64 tt]] w (zU B w0 bw (atC x ⟨kk, hh, ii, nn, cc, vv, tt⟩).1 (atC x ⟨kk, hh, ii, nn, cc, vv, tt⟩).2.1 (atC x ⟨kk, hh, ii, nn, cc, vv, tt⟩).2.2 K) := by
 unfold atC
 simp only
 cases hn : Z3 x.os hh with
 | none => exact zli hx hn hW
 | some i =>
  obtain ⟨g, hg, _⟩ := zef hn
  simp only [hg]
  have hin : ∀ {n : Nat}, (ii < 0 ∨ (n : Int) ≤ ii) → inB ii 0 ((n : Int) - 1) = false := fun h => by simp [inB]; omega
  have hnat : ∀ {n : Nat}, ¬ (ii < 0 ∨ (n : Int) ≤ ii) → ∃ q : Nat, ii = q ∧ q < n := fun h => ⟨ii.toNat, by omega, by omega⟩
  rcases hk with rfl | rfl | rfl | rfl | rfl
  ·exact zkM hx hn hg hW
  ·simp only [zow, Int.reduceEq, or_self, if_false, if_true]
   by_cases h : ii < 0 ∨ (g.ws.length : Int) ≤ ii
   ·rw [if_pos h]; exact zhz hx hn hg (hin h) hW
   ·obtain ⟨q, rfl, hq⟩ := hnat h
    rw [if_neg h]; exact zjp hx hn hg hq hW
  ·simp only [zow, Int.reduceEq, or_false, false_or, if_false, if_true]
   by_cases h : ii < 0 ∨ (g.ls.length : Int) ≤ ii
   ·rw [if_pos h]; exact zhl hx hn hg (hin h) hW
   ·obtain ⟨q, rfl, hq⟩ := hnat h
    rw [if_neg h]
    cases hto : zaa x.os tt with
    | true => exact zkV hx hn hg hq hto hW
    | false => exact zhq hx hn hg hq hto hW
  ·simp only [zow, Int.reduceEq, or_self, if_false, if_true]
   by_cases h : ii < 0 ∨ (g.ws.length : Int) ≤ ii
   ·rw [if_pos h]; exact zix hx hn hg (hin h) hW
   ·obtain ⟨q, rfl, hq⟩ := hnat h
    rw [if_neg h]
    have hv := List.getElem?_eq_getElem hq
    have he : g.ws.getD q 0 = g.ws[q] := by simp [hq]
    simp only [Int.toNat_natCast, he]
    exact zkG hx hn hg hv hW
  ·simp only [zow, Int.reduceEq, or_true, if_false, if_true]
   by_cases h : ii < 0 ∨ (g.ls.length : Int) ≤ ii
   ·rw [if_pos h]; exact zh9 hx hn hg (hin h) hW
   ·obtain ⟨q, rfl, hq⟩ := hnat h
    rw [if_neg h]
    have hv := List.getElem?_eq_getElem hq
    have he : g.ls.getD q 0 = g.ls[q] := by simp [hq]
    simp only [Int.toNat_natCast, he]
    exact ziq hx hn hg hv hW
theorem zbO {x : Hv} {RO RF M K : List Blk} (hR : HvR x RO RF M) {br bo b : Nat} {c d : List Value} {B : Nat} {w0 w : World} (hp : Hp B w0 w (⟨br, c, 71, 2⟩ :: ⟨bo, d, 36, 7⟩ :: ⟨b, hvL x, 133, 8⟩ :: (RO ++ (RF ++ (M ++ K))))) : zY B w0 w b x K :=
 ⟨RO, RF, M, hR, hp.tail.tail⟩
theorem zie {x : Hv} {kk hh ii nn cc vv tt : Int} {s : Hv} {c v : Int} {B bw : Nat} {w0 w : World} {K9 : List Blk} (hW : zY B w0 w bw x K9)
  (h : (kk = 1 ∧ Hid (∀ {K : List Blk} {w : World}, zY B w0 w bw x K → Calls Tryz.prog 152 #[.pointer (some ⟨bw, 0, none⟩), .agg #[.int .i64 kk, .int .i64 hh, .int .i64 ii, .int .i64 nn, .int .i64 cc, .int .i64 vv, .int .i64 tt]] w (zU B w0 bw s c v K))) ∨ ((kk = 2 ∨ kk = 3 ∨ kk = 4 ∨ kk = 6 ∨ kk = 7) ∧ Hid (∀ {K : List Blk} {w : World}, zY B w0 w bw x K → Calls Tryz.prog 153 #[.pointer (some ⟨bw, 0, none⟩), .agg #[.int .i64 kk, .int .i64 hh, .int .i64 ii, .int .i64 nn, .int .i64 cc, .int .i64 vv, .int .i64 tt]] w (zU B w0 bw s c v K)))) :
  Calls Tryz.prog 88 #[.pointer (some ⟨bw, 0, none⟩), .agg #[.int .i64 kk, .int .i64 hh, .int .i64 ii, .int .i64 nn, .int .i64 cc, .int .i64 vv, .int .i64 tt]] w (zU B w0 bw s c v K9) := by
 obtain ⟨RO, RF, M, hR, hp⟩ := hW
 have HWK : Hid (∀ {br bo : Nat} {c d : List Value} {w : World}, Hp B w0 w (⟨br, c, 71, 2⟩ :: ⟨bo, d, 36, 7⟩ :: ⟨bw, hvL x, 133, 8⟩ :: (RO ++ (RF ++ (M ++ K9)))) → zY B w0 w bw x (K9 ++ [⟨br, c, 71, 2⟩, ⟨bo, d, 36, 7⟩])) := z0j (fun h => zhI hR h)
 clear hR
 rcases h with ⟨rfl, HAL⟩ | ⟨hk, HAL⟩
 ·go_enter Tryz.func88, Tryz.ntmps88
  go_wp2_with (first | go_skip | ((first | ((refine zf _ rfl ?_); refine lZ hp rfl (by with_reducible first | exact zL | exact zX) ?_; clear hp; intro b w1 hp) | ((refine zi _ _ rfl ?_); refine lB hp rfl (za rfl) rfl ?_; clear hp; intro b w1 hp) | ((refine ze _ _ rfl ?_); first | refine lO hp rfl (za rfl) zaK aa5 ?_ | refine lA hp rfl (za rfl) zac aa5 ?_) | ((refine zd _ _ _ rfl ?_); (first | refine sA hp rfl (za rfl) (za rfl) zt aa5 ?_ | refine sG hp rfl (za rfl) (za rfl) zt aa5 ?_); clear hp; intro w1 hp; simp only [spl, z0a, z0b] at hp)); simp only [zc, zb, z0b, z0a]))
  obtain ⟨br, rfl⟩ := hp.id0
  obtain ⟨bo, rfl⟩ := hp.id1
  go_wp2_with (first | (go_at_call 152; (with_reducible refine (HAL.out (HWK.out hp)).mono ?_); clear hp; rintro e w1 ⟨rfl, y, hy, RO2, RF2, M2, hR2, hp⟩; replace hp := hp.kp (L' := ⟨br, [.int .i64 0, .int .i64 0], 71, 2⟩ :: ⟨bw, hvL y, 133, 8⟩ :: (RO2 ++ (RF2 ++ (M2 ++ K9)))); have HR2 := z0j hR2; have HY := z0j hy; clear hy hR2; unfold zaP) | go_skip | ((first | ((refine zf _ rfl ?_); refine lZ hp rfl (by with_reducible first | exact zL | exact zX) ?_; clear hp; intro b w1 hp) | ((refine zi _ _ rfl ?_); refine lB hp rfl (za rfl) rfl ?_; clear hp; intro b w1 hp) | ((refine ze _ _ rfl ?_); first | refine lO hp rfl (za rfl) zaK aa5 ?_ | refine lA hp rfl (za rfl) zac aa5 ?_) | ((refine zd _ _ _ rfl ?_); (first | refine sA hp rfl (za rfl) (za rfl) zt aa5 ?_ | refine sG hp rfl (za rfl) (za rfl) zt aa5 ?_); clear hp; intro w1 hp; simp only [spl, z0a, z0b] at hp)); simp only [zc, zb, z0b, z0a]))
  exact bodyPost_ret (zA (rs := [.cell 4 71]) Tryz.results88 (.cell rfl (hp.loadAgg zt at0 0 _ (by rfl) (by rfl)) .nil)) rfl ⟨rfl, y, HY.out, RO2, RF2, M2, HR2.out, hp.tail⟩
 ·rcases hk with rfl | rfl | rfl | rfl | rfl
  all_goals
   go_enter Tryz.func88, Tryz.ntmps88
   go_wp2_with (first | go_skip | ((first | ((refine zf _ rfl ?_); refine lZ hp rfl (by with_reducible first | exact zL | exact zX) ?_; clear hp; intro b w1 hp) | ((refine zi _ _ rfl ?_); refine lB hp rfl (za rfl) rfl ?_; clear hp; intro b w1 hp) | ((refine ze _ _ rfl ?_); first | refine lO hp rfl (za rfl) zaK aa5 ?_ | refine lA hp rfl (za rfl) zac aa5 ?_) | ((refine zd _ _ _ rfl ?_); (first | refine sA hp rfl (za rfl) (za rfl) zt aa5 ?_ | refine sG hp rfl (za rfl) (za rfl) zt aa5 ?_); clear hp; intro w1 hp; simp only [spl, z0a, z0b] at hp)); simp only [zc, zb, z0b, z0a]))
   obtain ⟨br, rfl⟩ := hp.id0
   obtain ⟨bo, rfl⟩ := hp.id1
   go_wp2_with (first | (go_at_call 153; (with_reducible refine (HAL.out (HWK.out hp)).mono ?_); clear hp; rintro e w1 ⟨rfl, y, hy, RO2, RF2, M2, hR2, hp⟩; replace hp := hp.kp (L' := ⟨br, [.int .i64 0, .int .i64 0], 71, 2⟩ :: ⟨bw, hvL y, 133, 8⟩ :: (RO2 ++ (RF2 ++ (M2 ++ K9)))); have HR2 := z0j hR2; have HY := z0j hy; clear hy hR2; unfold zaP) | go_skip | ((first | ((refine zf _ rfl ?_); refine lZ hp rfl (by with_reducible first | exact zL | exact zX) ?_; clear hp; intro b w1 hp) | ((refine zi _ _ rfl ?_); refine lB hp rfl (za rfl) rfl ?_; clear hp; intro b w1 hp) | ((refine ze _ _ rfl ?_); first | refine lO hp rfl (za rfl) zaK aa5 ?_ | refine lA hp rfl (za rfl) zac aa5 ?_) | ((refine zd _ _ _ rfl ?_); (first | refine sA hp rfl (za rfl) (za rfl) zt aa5 ?_ | refine sG hp rfl (za rfl) (za rfl) zt aa5 ?_); clear hp; intro w1 hp; simp only [spl, z0a, z0b] at hp)); simp only [zc, zb, z0b, z0a]))
   exact bodyPost_ret (zA (rs := [.cell 4 71]) Tryz.results88 (.cell rfl (hp.loadAgg zt at0 0 _ (by rfl) (by rfl)) .nil)) rfl ⟨rfl, y, HY.out, RO2, RF2, M2, HR2.out, hp.tail⟩
theorem zmE {x : Hv} {kk hh ii nn cc vv tt : Int} (hk : kk ≠ 1 ∧ kk ≠ 2 ∧ kk ≠ 3 ∧ kk ≠ 4 ∧ kk ≠ 5 ∧ kk ≠ 6 ∧ kk ≠ 7 ∧ kk ≠ 8) {B bw : Nat} {w0 w : World} {K9 : List Blk} (hW : zY B w0 w bw x K9) :
  Calls Tryz.prog 88 #[.pointer (some ⟨bw, 0, none⟩), .agg #[.int .i64 kk, .int .i64 hh, .int .i64 ii, .int .i64 nn, .int .i64 cc, .int .i64 vv, .int .i64 tt]] w (zU B w0 bw x 54 0 K9) := by
 obtain ⟨RO, RF, M, hR, hp⟩ := hW
 have HR := z0j hR
 obtain ⟨k1, k2, k3, k4, k5, k6, k7, k8⟩ := hk
 have e1 : (kk == 1) = false := by simp [k1]
 have e2 : (kk == 2) = false := by simp [k2]
 have e3 : (kk == 3) = false := by simp [k3]
 have e4 : (kk == 4) = false := by simp [k4]
 have e5 : (kk == 5) = false := by simp [k5]
 have e6 : (kk == 6) = false := by simp [k6]
 have e7 : (kk == 7) = false := by simp [k7]
 have e8 : (kk == 8) = false := by simp [k8]
 clear hR k1 k2 k3 k4 k5 k6 k7 k8
 go_enter Tryz.func88, Tryz.ntmps88
 go_wp2_with (first | (go_at_call 86; (with_reducible refine (zds _ _).mono ?_); rintro e w1 ⟨rfl, hb⟩; replace hp := hp.call hb; clear hb; unfold zaP) | go_skip | ((first | ((refine zf _ rfl ?_); refine lZ hp rfl (by with_reducible first | exact zL | exact zX) ?_; clear hp; intro b w1 hp) | ((refine zi _ _ rfl ?_); refine lB hp rfl (za rfl) rfl ?_; clear hp; intro b w1 hp) | ((refine ze _ _ rfl ?_); first | refine lO hp rfl (za rfl) zaK aa5 ?_ | refine lA hp rfl (za rfl) zac aa5 ?_) | ((refine zd _ _ _ rfl ?_); (first | refine sA hp rfl (za rfl) (za rfl) zt aa5 ?_ | refine sG hp rfl (za rfl) (za rfl) zt aa5 ?_); clear hp; intro w1 hp; simp only [spl, z0a, z0b] at hp)); simp only [zc, zb, z0b, z0a]))
 exact bodyPost_ret (zA (rs := [.cell 4 71]) Tryz.results88 (.cell rfl (hp.loadAgg zt at0 0 _ (by rfl) (by rfl)) .nil)) rfl (zY.sm (zbO HR.out hp) rfl)
theorem zle {x : Hv} {kk hh ii nn cc vv tt : Int} (hk : kk = 5 ∨ kk = 8) (hi : inB ii 0 3 = false) {B bw : Nat} {w0 w : World} {K9 : List Blk} (hW : zY B w0 w bw x K9) :
  Calls Tryz.prog 88 #[.pointer (some ⟨bw, 0, none⟩), .agg #[.int .i64 kk, .int .i64 hh, .int .i64 ii, .int .i64 nn, .int .i64 cc, .int .i64 vv, .int .i64 tt]] w (zU B w0 bw x 52 0 K9) := by
 obtain ⟨RO, RF, M, hR, hp⟩ := hW
 have HR := z0j hR
 have HIN := z0j hi
 clear hR hi
 rcases hk with rfl | rfl
 all_goals
  go_enter Tryz.func88, Tryz.ntmps88
  go_wp2_with (first | (go_at_call 141; (with_reducible refine (Zb _ _ _ _).mono ?_); rintro e w' ⟨rfl, rfl⟩; rw [HIN.out]) | (go_at_call 86; (with_reducible refine (zds _ _).mono ?_); rintro e w1 ⟨rfl, hb⟩; replace hp := hp.call hb; clear hb; unfold zaP) | go_skip | ((first | ((refine zf _ rfl ?_); refine lZ hp rfl (by with_reducible first | exact zL | exact zX) ?_; clear hp; intro b w1 hp) | ((refine zi _ _ rfl ?_); refine lB hp rfl (za rfl) rfl ?_; clear hp; intro b w1 hp) | ((refine ze _ _ rfl ?_); first | refine lO hp rfl (za rfl) zaK aa5 ?_ | refine lA hp rfl (za rfl) zac aa5 ?_) | ((refine zd _ _ _ rfl ?_); (first | refine sA hp rfl (za rfl) (za rfl) zt aa5 ?_ | refine sG hp rfl (za rfl) (za rfl) zt aa5 ?_); clear hp; intro w1 hp; simp only [spl, z0a, z0b] at hp)); simp only [zc, zb, z0b, z0a]))
  exact bodyPost_ret (zA (rs := [.cell 4 71]) Tryz.results88 (.cell rfl (hp.loadAgg zt at0 0 _ (by rfl) (by rfl)) .nil)) rfl (zY.sm (zbO HR.out hp) rfl)
theorem zpd {x : Hv} {hh nn cc vv tt : Int} {q : Nat} (hq : q = 0 ∨ q = 1 ∨ q = 2 ∨ q = 3) {B bw : Nat} {w0 w : World} {K9 : List Blk} (hW : zY B w0 w bw x K9) :
  Calls Tryz.prog 88 #[.pointer (some ⟨bw, 0, none⟩), .agg #[.int .i64 8, .int .i64 hh, .int .i64 q, .int .i64 nn, .int .i64 cc, .int .i64 vv, .int .i64 tt]] w (zU B w0 bw x 0 ((tops x).getD q 0) K9) := by
 obtain ⟨RO, RF, M, hR, hp⟩ := hW
 have HR := z0j hR
 clear hR
 obtain ⟨od, oa, os, oc, nx, t0, t1, t2, t3, fa, fs, fc⟩ := x
 simp only [hvL] at hp
 rcases hq with rfl | rfl | rfl | rfl
 ·have HIN : Hid (inB 0 0 3 = true) := z0j (by decide)
  show Calls Tryz.prog 88 #[.pointer (some ⟨bw, 0, none⟩), .agg #[.int .i64 8, .int .i64 hh, .int .i64 0, .int .i64 nn, .int .i64 cc, .int .i64 vv, .int .i64 tt]] w (zU B w0 bw _ 0 t0 K9)
  go_enter Tryz.func88, Tryz.ntmps88
  go_wp2_with (first | (go_at_call 141; (with_reducible refine (Zb _ _ _ _).mono ?_); rintro e w' ⟨rfl, rfl⟩; rw [HIN.out]) | (go_at_call 86; (with_reducible refine (zds _ _).mono ?_); rintro e w1 ⟨rfl, hb⟩; replace hp := hp.call hb; clear hb; unfold zaP) | go_skip | ((first | ((refine zf _ rfl ?_); refine lZ hp rfl (by with_reducible first | exact zL | exact zX) ?_; clear hp; intro b w1 hp) | ((refine zi _ _ rfl ?_); refine lB hp rfl (za rfl) rfl ?_; clear hp; intro b w1 hp) | ((refine ze _ _ rfl ?_); first | refine lO hp rfl (za rfl) zaK aa5 ?_ | refine lA hp rfl (za rfl) zac aa5 ?_) | ((refine zd _ _ _ rfl ?_); (first | refine sA hp rfl (za rfl) (za rfl) zt aa5 ?_ | refine sG hp rfl (za rfl) (za rfl) zt aa5 ?_); clear hp; intro w1 hp; simp only [spl, z0a, z0b] at hp)); simp only [zc, zb, z0b, z0a]))
  refine zh [_, _] (zv.two hp.drew at1 at2) [9] [(0, true), (1, true), (2, true), (3, true), (4, true), (5, true), (6, true), (7, true), (8, true), (9, false)] (by kernel_rfl) (by kernel_rfl) rfl (by kernel_rfl) (fun _ _ d _ _ h => by cases d <;> exact h) ?_
  replace hp := hp.drew
  repeat' (with_reducible refine zx ?_); first | (with_reducible refine zq ?_) | ((with_reducible refine zE ?_); refine zu rfl ?_; (first | ((with_reducible refine zT _ rfl ?_); refine tM rfl ?_) | ((with_reducible refine zW _ _ rfl ?_); refine tO rfl (za rfl) zm aa5 ?_) | refine tG (fun w _ => (by go_simp; try rfl)) ?_); try simp only [zc, zb, zj, zg, z0b, z0a, z0d, z0c, zl]) | (refine zC rfl (fun K hK => ?_); go_wp2_with (first | go_skip | (((refine zd _ _ _ rfl ?_); (first | refine sA hp rfl (za rfl) (za rfl) zt aa5 ?_ | refine sG hp rfl (za rfl) (za rfl) zt aa5 ?_); clear hp; intro w1 hp; simp only [spl, z0a, z0b] at hp); simp only [zc, zb, z0b, z0a])); (first | refine hK.out _ _ (.inl rfl) ?_ | refine hK.out _ _ (.inr (zv.two hp aa5 aa5)) ?_); clear hK K; try simp only [zc, zb, zj, zg, z0b, z0a, z0d, z0c, zl])
  go_wp2_with (first | go_skip | ((first | ((refine zf _ rfl ?_); refine lZ hp rfl (by with_reducible first | exact zL | exact zX) ?_; clear hp; intro b w1 hp) | ((refine zi _ _ rfl ?_); refine lB hp rfl (za rfl) rfl ?_; clear hp; intro b w1 hp) | ((refine ze _ _ rfl ?_); first | refine lO hp rfl (za rfl) zaK aa5 ?_ | refine lA hp rfl (za rfl) zac aa5 ?_) | ((refine zd _ _ _ rfl ?_); (first | refine sA hp rfl (za rfl) (za rfl) zt aa5 ?_ | refine sG hp rfl (za rfl) (za rfl) zt aa5 ?_); clear hp; intro w1 hp; simp only [spl, z0a, z0b] at hp)); simp only [zc, zb, z0b, z0a]))
  exact bodyPost_ret (zA (rs := [.cell 4 71]) Tryz.results88 (.cell rfl (hp.loadAgg zt at0 0 _ (by rfl) (by rfl)) .nil)) rfl (zY.sm (zbO HR.out hp) rfl)
 ·have HIN : Hid (inB 1 0 3 = true) := z0j (by decide)
  show Calls Tryz.prog 88 #[.pointer (some ⟨bw, 0, none⟩), .agg #[.int .i64 8, .int .i64 hh, .int .i64 1, .int .i64 nn, .int .i64 cc, .int .i64 vv, .int .i64 tt]] w (zU B w0 bw _ 0 t1 K9)
  go_enter Tryz.func88, Tryz.ntmps88
  go_wp2_with (first | (go_at_call 141; (with_reducible refine (Zb _ _ _ _).mono ?_); rintro e w' ⟨rfl, rfl⟩; rw [HIN.out]) | (go_at_call 86; (with_reducible refine (zds _ _).mono ?_); rintro e w1 ⟨rfl, hb⟩; replace hp := hp.call hb; clear hb; unfold zaP) | go_skip | ((first | ((refine zf _ rfl ?_); refine lZ hp rfl (by with_reducible first | exact zL | exact zX) ?_; clear hp; intro b w1 hp) | ((refine zi _ _ rfl ?_); refine lB hp rfl (za rfl) rfl ?_; clear hp; intro b w1 hp) | ((refine ze _ _ rfl ?_); first | refine lO hp rfl (za rfl) zaK aa5 ?_ | refine lA hp rfl (za rfl) zac aa5 ?_) | ((refine zd _ _ _ rfl ?_); (first | refine sA hp rfl (za rfl) (za rfl) zt aa5 ?_ | refine sG hp rfl (za rfl) (za rfl) zt aa5 ?_); clear hp; intro w1 hp; simp only [spl, z0a, z0b] at hp)); simp only [zc, zb, z0b, z0a]))
  refine zh [_, _] (zv.two hp.drew at1 at2) [9] [(0, true), (1, true), (2, true), (3, true), (4, true), (5, true), (6, true), (7, true), (8, true), (9, false)] (by kernel_rfl) (by kernel_rfl) rfl (by kernel_rfl) (fun _ _ d _ _ h => by cases d <;> exact h) ?_
  replace hp := hp.drew
  repeat' (with_reducible refine zx ?_); first | (with_reducible refine zq ?_) | ((with_reducible refine zE ?_); refine zu rfl ?_; (first | ((with_reducible refine zT _ rfl ?_); refine tM rfl ?_) | ((with_reducible refine zW _ _ rfl ?_); refine tO rfl (za rfl) zm aa5 ?_) | refine tG (fun w _ => (by go_simp; try rfl)) ?_); try simp only [zc, zb, zj, zg, z0b, z0a, z0d, z0c, zl]) | (refine zC rfl (fun K hK => ?_); go_wp2_with (first | go_skip | (((refine zd _ _ _ rfl ?_); (first | refine sA hp rfl (za rfl) (za rfl) zt aa5 ?_ | refine sG hp rfl (za rfl) (za rfl) zt aa5 ?_); clear hp; intro w1 hp; simp only [spl, z0a, z0b] at hp); simp only [zc, zb, z0b, z0a])); (first | refine hK.out _ _ (.inl rfl) ?_ | refine hK.out _ _ (.inr (zv.two hp aa5 aa5)) ?_); clear hK K; try simp only [zc, zb, zj, zg, z0b, z0a, z0d, z0c, zl])
  go_wp2_with (first | go_skip | ((first | ((refine zf _ rfl ?_); refine lZ hp rfl (by with_reducible first | exact zL | exact zX) ?_; clear hp; intro b w1 hp) | ((refine zi _ _ rfl ?_); refine lB hp rfl (za rfl) rfl ?_; clear hp; intro b w1 hp) | ((refine ze _ _ rfl ?_); first | refine lO hp rfl (za rfl) zaK aa5 ?_ | refine lA hp rfl (za rfl) zac aa5 ?_) | ((refine zd _ _ _ rfl ?_); (first | refine sA hp rfl (za rfl) (za rfl) zt aa5 ?_ | refine sG hp rfl (za rfl) (za rfl) zt aa5 ?_); clear hp; intro w1 hp; simp only [spl, z0a, z0b] at hp)); simp only [zc, zb, z0b, z0a]))
  exact bodyPost_ret (zA (rs := [.cell 4 71]) Tryz.results88 (.cell rfl (hp.loadAgg zt at0 0 _ (by rfl) (by rfl)) .nil)) rfl (zY.sm (zbO HR.out hp) rfl)
 ·have HIN : Hid (inB 2 0 3 = true) := z0j (by decide)
  show Calls Tryz.prog 88 #[.pointer (some ⟨bw, 0, none⟩), .agg #[.int .i64 8, .int .i64 hh, .int .i64 2, .int .i64 nn, .int .i64 cc, .int .i64 vv, .int .i64 tt]] w (zU B w0 bw _ 0 t2 K9)
  go_enter Tryz.func88, Tryz.ntmps88
  go_wp2_with (first | (go_at_call 141; (with_reducible refine (Zb _ _ _ _).mono ?_); rintro e w' ⟨rfl, rfl⟩; rw [HIN.out]) | (go_at_call 86; (with_reducible refine (zds _ _).mono ?_); rintro e w1 ⟨rfl, hb⟩; replace hp := hp.call hb; clear hb; unfold zaP) | go_skip | ((first | ((refine zf _ rfl ?_); refine lZ hp rfl (by with_reducible first | exact zL | exact zX) ?_; clear hp; intro b w1 hp) | ((refine zi _ _ rfl ?_); refine lB hp rfl (za rfl) rfl ?_; clear hp; intro b w1 hp) | ((refine ze _ _ rfl ?_); first | refine lO hp rfl (za rfl) zaK aa5 ?_ | refine lA hp rfl (za rfl) zac aa5 ?_) | ((refine zd _ _ _ rfl ?_); (first | refine sA hp rfl (za rfl) (za rfl) zt aa5 ?_ | refine sG hp rfl (za rfl) (za rfl) zt aa5 ?_); clear hp; intro w1 hp; simp only [spl, z0a, z0b] at hp)); simp only [zc, zb, z0b, z0a]))
  refine zh [_, _] (zv.two hp.drew at1 at2) [9] [(0, true), (1, true), (2, true), (3, true), (4, true), (5, true), (6, true), (7, true), (8, true), (9, false)] (by kernel_rfl) (by kernel_rfl) rfl (by kernel_rfl) (fun _ _ d _ _ h => by cases d <;> exact h) ?_
  replace hp := hp.drew
  repeat' (with_reducible refine zx ?_); first | (with_reducible refine zq ?_) | ((with_reducible refine zE ?_); refine zu rfl ?_; (first | ((with_reducible refine zT _ rfl ?_); refine tM rfl ?_) | ((with_reducible refine zW _ _ rfl ?_); refine tO rfl (za rfl) zm aa5 ?_) | refine tG (fun w _ => (by go_simp; try rfl)) ?_); try simp only [zc, zb, zj, zg, z0b, z0a, z0d, z0c, zl]) | (refine zC rfl (fun K hK => ?_); go_wp2_with (first | go_skip | (((refine zd _ _ _ rfl ?_); (first | refine sA hp rfl (za rfl) (za rfl) zt aa5 ?_ | refine sG hp rfl (za rfl) (za rfl) zt aa5 ?_); clear hp; intro w1 hp; simp only [spl, z0a, z0b] at hp); simp only [zc, zb, z0b, z0a])); (first | refine hK.out _ _ (.inl rfl) ?_ | refine hK.out _ _ (.inr (zv.two hp aa5 aa5)) ?_); clear hK K; try simp only [zc, zb, zj, zg, z0b, z0a, z0d, z0c, zl])
  go_wp2_with (first | go_skip | ((first | ((refine zf _ rfl ?_); refine lZ hp rfl (by with_reducible first | exact zL | exact zX) ?_; clear hp; intro b w1 hp) | ((refine zi _ _ rfl ?_); refine lB hp rfl (za rfl) rfl ?_; clear hp; intro b w1 hp) | ((refine ze _ _ rfl ?_); first | refine lO hp rfl (za rfl) zaK aa5 ?_ | refine lA hp rfl (za rfl) zac aa5 ?_) | ((refine zd _ _ _ rfl ?_); (first | refine sA hp rfl (za rfl) (za rfl) zt aa5 ?_ | refine sG hp rfl (za rfl) (za rfl) zt aa5 ?_); clear hp; intro w1 hp; simp only [spl, z0a, z0b] at hp)); simp only [zc, zb, z0b, z0a]))
  exact bodyPost_ret (zA (rs := [.cell 4 71]) Tryz.results88 (.cell rfl (hp.loadAgg zt at0 0 _ (by rfl) (by rfl)) .nil)) rfl (zY.sm (zbO HR.out hp) rfl)
 ·have HIN : Hid (inB 3 0 3 = true) := z0j (by decide)
  show Calls Tryz.prog 88 #[.pointer (some ⟨bw, 0, none⟩), .agg #[.int .i64 8, .int .i64 hh, .int .i64 3, .int .i64 nn, .int .i64 cc, .int .i64 vv, .int .i64 tt]] w (zU B w0 bw _ 0 t3 K9)
  go_enter Tryz.func88, Tryz.ntmps88
  go_wp2_with (first | (go_at_call 141; (with_reducible refine (Zb _ _ _ _).mono ?_); rintro e w' ⟨rfl, rfl⟩; rw [HIN.out]) | (go_at_call 86; (with_reducible refine (zds _ _).mono ?_); rintro e w1 ⟨rfl, hb⟩; replace hp := hp.call hb; clear hb; unfold zaP) | go_skip | ((first | ((refine zf _ rfl ?_); refine lZ hp rfl (by with_reducible first | exact zL | exact zX) ?_; clear hp; intro b w1 hp) | ((refine zi _ _ rfl ?_); refine lB hp rfl (za rfl) rfl ?_; clear hp; intro b w1 hp) | ((refine ze _ _ rfl ?_); first | refine lO hp rfl (za rfl) zaK aa5 ?_ | refine lA hp rfl (za rfl) zac aa5 ?_) | ((refine zd _ _ _ rfl ?_); (first | refine sA hp rfl (za rfl) (za rfl) zt aa5 ?_ | refine sG hp rfl (za rfl) (za rfl) zt aa5 ?_); clear hp; intro w1 hp; simp only [spl, z0a, z0b] at hp)); simp only [zc, zb, z0b, z0a]))
  refine zh [_, _] (zv.two hp.drew at1 at2) [9] [(0, true), (1, true), (2, true), (3, true), (4, true), (5, true), (6, true), (7, true), (8, true), (9, false)] (by kernel_rfl) (by kernel_rfl) rfl (by kernel_rfl) (fun _ _ d _ _ h => by cases d <;> exact h) ?_
  replace hp := hp.drew
  repeat' (with_reducible refine zx ?_); first | (with_reducible refine zq ?_) | ((with_reducible refine zE ?_); refine zu rfl ?_; (first | ((with_reducible refine zT _ rfl ?_); refine tM rfl ?_) | ((with_reducible refine zW _ _ rfl ?_); refine tO rfl (za rfl) zm aa5 ?_) | refine tG (fun w _ => (by go_simp; try rfl)) ?_); try simp only [zc, zb, zj, zg, z0b, z0a, z0d, z0c, zl]) | (refine zC rfl (fun K hK => ?_); go_wp2_with (first | go_skip | (((refine zd _ _ _ rfl ?_); (first | refine sA hp rfl (za rfl) (za rfl) zt aa5 ?_ | refine sG hp rfl (za rfl) (za rfl) zt aa5 ?_); clear hp; intro w1 hp; simp only [spl, z0a, z0b] at hp); simp only [zc, zb, z0b, z0a])); (first | refine hK.out _ _ (.inl rfl) ?_ | refine hK.out _ _ (.inr (zv.two hp aa5 aa5)) ?_); clear hK K; try simp only [zc, zb, zj, zg, z0b, z0a, z0d, z0c, zl])
  go_wp2_with (first | go_skip | ((first | ((refine zf _ rfl ?_); refine lZ hp rfl (by with_reducible first | exact zL | exact zX) ?_; clear hp; intro b w1 hp) | ((refine zi _ _ rfl ?_); refine lB hp rfl (za rfl) rfl ?_; clear hp; intro b w1 hp) | ((refine ze _ _ rfl ?_); first | refine lO hp rfl (za rfl) zaK aa5 ?_ | refine lA hp rfl (za rfl) zac aa5 ?_) | ((refine zd _ _ _ rfl ?_); (first | refine sA hp rfl (za rfl) (za rfl) zt aa5 ?_ | refine sG hp rfl (za rfl) (za rfl) zt aa5 ?_); clear hp; intro w1 hp; simp only [spl, z0a, z0b] at hp)); simp only [zc, zb, z0b, z0a]))
  exact bodyPost_ret (zA (rs := [.cell 4 71]) Tryz.results88 (.cell rfl (hp.loadAgg zt at0 0 _ (by rfl) (by rfl)) .nil)) rfl (zY.sm (zbO HR.out hp) rfl)
theorem zbM {RO A Z : List Blk} {Q : World → Prop} (h : ZD RO Q) : ZD (A ++ (RO ++ Z)) Q := h.mono (fun p hm => by simp [hm]) (fun _ h => h)
theorem zlv {x : Hv} (hx : zQ x) {hh nn cc vv tt : Int} (hto : zaa x.os tt = true) {B bw : Nat} {w0 w : World} {K9 : List Blk} (hW : zY B w0 w bw x K9) :
  Calls Tryz.prog 88 #[.pointer (some ⟨bw, 0, none⟩), .agg #[.int .i64 5, .int .i64 hh, .int .i64 0, .int .i64 nn, .int .i64 cc, .int .i64 vv, .int .i64 tt]] w (zU B w0 bw (zpM x 0 tt) 0 0 K9) := by
 obtain ⟨RO, RF, M, hR, hp⟩ := hW
 have HR := z0j hR
 have hs := hx.sorted
 have hol : x.os.length ≤ 1000 := by have := hx.len; omega
 obtain ⟨od, oa, os, oc, nx, t0, t1, t2, t3, fa, fs, fc⟩ := x
 simp only [hvL] at hp
 simp only at hs hol hto
 have hro : ZD RO fun w => zr w oa (os.flatMap obV) := hR.objs.keptS
 have HLD : Hid (∀ (y z : Blk) (w : World), Hp B w0 w (y :: z :: ⟨bw, [.int .i64 od, .slice oa os.length oc, .int .i64 nx, .int .i64 t0, .int .i64 t1, .int .i64 t2, .int .i64 t3, .slice fa fs.length fc], 133, 8⟩ :: (RO ++ (RF ++ (M ++ K9)))) →
   Calls Tryz.prog 154 #[.pointer (some ⟨bw, 0, none⟩), .pointer (some ⟨bw, 3, none⟩), .int .i64 tt] w fun e w' => e = .returned (zaP 0 0) ∧ Hp B w0 w' (y :: z :: ⟨bw, [.int .i64 od, .slice oa os.length oc, .int .i64 nx, .int .i64 tt, .int .i64 t1, .int .i64 t2, .int .i64 t3, .slice fa fs.length fc], 133, 8⟩ :: (RO ++ (RF ++ (M ++ K9))))) :=
  z0j (fun y z w hp => zbx hol hs hto (j := 2) (i := 2) rfl rfl (zbM (A := [y, z, _]) hro) rfl (by simp) hp)
 have HIN : Hid (inB 0 0 3 = true) := z0j (by decide)
 clear hx hs hol hto hro hR
 go_enter Tryz.func88, Tryz.ntmps88
 go_wp2_with (first | (go_at_call 141; (with_reducible refine (Zb _ _ _ _).mono ?_); rintro e w' ⟨rfl, rfl⟩; rw [HIN.out]) | (go_at_call 86; (with_reducible refine (zds _ _).mono ?_); rintro e w1 ⟨rfl, hb⟩; replace hp := hp.call hb; clear hb; unfold zaP) | go_skip | ((first | ((refine zf _ rfl ?_); refine lZ hp rfl (by with_reducible first | exact zL | exact zX) ?_; clear hp; intro b w1 hp) | ((refine zi _ _ rfl ?_); refine lB hp rfl (za rfl) rfl ?_; clear hp; intro b w1 hp) | ((refine ze _ _ rfl ?_); first | refine lO hp rfl (za rfl) zaK aa5 ?_ | refine lA hp rfl (za rfl) zac aa5 ?_) | ((refine zd _ _ _ rfl ?_); (first | refine sA hp rfl (za rfl) (za rfl) zt aa5 ?_ | refine sG hp rfl (za rfl) (za rfl) zt aa5 ?_); clear hp; intro w1 hp; simp only [spl, z0a, z0b] at hp)); simp only [zc, zb, z0b, z0a]))
 refine zh [_] (zv.one hp.drew at1) [10, 11] [(0, true), (1, true), (2, true), (3, true), (4, true), (5, true), (6, true), (7, true), (8, true), (9, true), (10, false), (11, false)] (by kernel_rfl) (by kernel_rfl) rfl (by kernel_rfl) (fun _ _ d _ _ h => by cases d <;> exact h) ?_
 replace hp := hp.drew
 repeat' (with_reducible refine zx ?_); first | (with_reducible refine zq ?_) | ((with_reducible refine zE ?_); refine zu rfl ?_; (first | ((with_reducible refine zT _ rfl ?_); refine tM rfl ?_) | ((with_reducible refine zW _ _ rfl ?_); refine tO rfl (za rfl) zm aa5 ?_) | refine tG (fun w _ => (by go_simp; try rfl)) ?_); try simp only [zc, zb, zj, zg, z0b, z0a, z0d, z0c, zl]) | (refine zC rfl (fun K hK => ?_); go_wp2_with (first | (go_at_call 154; (with_reducible refine (HLD.out _ _ _ hp).mono ?_); clear hp; rintro e w1 ⟨rfl, hp⟩; unfold zaP) | go_skip | (((refine zd _ _ _ rfl ?_); (first | refine sA hp rfl (za rfl) (za rfl) zt aa5 ?_ | refine sG hp rfl (za rfl) (za rfl) zt aa5 ?_); clear hp; intro w1 hp; simp only [spl, z0a, z0b] at hp); simp only [zc, zb, z0b, z0a])); (first | refine hK.out _ _ (.inl rfl) ?_ | refine hK.out _ _ (.inr (zv.one hp aa5)) ?_); clear hK K; try simp only [zc, zb, zj, zg, z0b, z0a, z0d, z0c, zl])
 go_wp2_with (first | go_skip | ((first | ((refine zf _ rfl ?_); refine lZ hp rfl (by with_reducible first | exact zL | exact zX) ?_; clear hp; intro b w1 hp) | ((refine zi _ _ rfl ?_); refine lB hp rfl (za rfl) rfl ?_; clear hp; intro b w1 hp) | ((refine ze _ _ rfl ?_); first | refine lO hp rfl (za rfl) zaK aa5 ?_ | refine lA hp rfl (za rfl) zac aa5 ?_) | ((refine zd _ _ _ rfl ?_); (first | refine sA hp rfl (za rfl) (za rfl) zt aa5 ?_ | refine sG hp rfl (za rfl) (za rfl) zt aa5 ?_); clear hp; intro w1 hp; simp only [spl, z0a, z0b] at hp)); simp only [zc, zb, z0b, z0a]))
 exact bodyPost_ret (zA (rs := [.cell 4 71]) Tryz.results88 (.cell rfl (hp.loadAgg zt at0 0 _ (by rfl) (by rfl)) .nil)) rfl ⟨rfl, _, Hv.Sm.refl _, zbO (x := ⟨od, oa, os, oc, nx, tt, t1, t2, t3, fa, fs, fc⟩) ⟨HR.out.1, HR.out.2, HR.out.3⟩ hp⟩
theorem ziJ {x : Hv} (hx : zQ x) {hh nn cc vv tt : Int} (hto : zaa x.os tt = false) {B bw : Nat} {w0 w : World} {K9 : List Blk} (hW : zY B w0 w bw x K9) :
  Calls Tryz.prog 88 #[.pointer (some ⟨bw, 0, none⟩), .agg #[.int .i64 5, .int .i64 hh, .int .i64 0, .int .i64 nn, .int .i64 cc, .int .i64 vv, .int .i64 tt]] w (zU B w0 bw x 51 0 K9) := by
 obtain ⟨RO, RF, M, hR, hp⟩ := hW
 have HR := z0j hR
 have hs := hx.sorted
 have hol : x.os.length ≤ 1000 := by have := hx.len; omega
 obtain ⟨od, oa, os, oc, nx, t0, t1, t2, t3, fa, fs, fc⟩ := x
 simp only [hvL] at hp
 simp only at hs hol hto
 have hro : ZD RO fun w => zr w oa (os.flatMap obV) := hR.objs.keptS
 have HLD : Hid (∀ (y z : Blk) (w : World), Hp B w0 w (y :: z :: ⟨bw, [.int .i64 od, .slice oa os.length oc, .int .i64 nx, .int .i64 t0, .int .i64 t1, .int .i64 t2, .int .i64 t3, .slice fa fs.length fc], 133, 8⟩ :: (RO ++ (RF ++ (M ++ K9)))) →
   Calls Tryz.prog 154 #[.pointer (some ⟨bw, 0, none⟩), .pointer (some ⟨bw, 3, none⟩), .int .i64 tt] w fun e w' => e = .returned (zaP 51 0) ∧ Hp B w0 w' (y :: z :: ⟨bw, [.int .i64 od, .slice oa os.length oc, .int .i64 nx, .int .i64 t0, .int .i64 t1, .int .i64 t2, .int .i64 t3, .slice fa fs.length fc], 133, 8⟩ :: (RO ++ (RF ++ (M ++ K9))))) :=
  z0j (fun y z w hp => zb4 hol hs hto (j := 2) (i := 2) rfl rfl (zbM (A := [y, z, _]) hro) rfl (by simp) hp)
 have HIN : Hid (inB 0 0 3 = true) := z0j (by decide)
 clear hx hs hol hto hro hR
 go_enter Tryz.func88, Tryz.ntmps88
 go_wp2_with (first | (go_at_call 141; (with_reducible refine (Zb _ _ _ _).mono ?_); rintro e w' ⟨rfl, rfl⟩; rw [HIN.out]) | (go_at_call 86; (with_reducible refine (zds _ _).mono ?_); rintro e w1 ⟨rfl, hb⟩; replace hp := hp.call hb; clear hb; unfold zaP) | go_skip | ((first | ((refine zf _ rfl ?_); refine lZ hp rfl (by with_reducible first | exact zL | exact zX) ?_; clear hp; intro b w1 hp) | ((refine zi _ _ rfl ?_); refine lB hp rfl (za rfl) rfl ?_; clear hp; intro b w1 hp) | ((refine ze _ _ rfl ?_); first | refine lO hp rfl (za rfl) zaK aa5 ?_ | refine lA hp rfl (za rfl) zac aa5 ?_) | ((refine zd _ _ _ rfl ?_); (first | refine sA hp rfl (za rfl) (za rfl) zt aa5 ?_ | refine sG hp rfl (za rfl) (za rfl) zt aa5 ?_); clear hp; intro w1 hp; simp only [spl, z0a, z0b] at hp)); simp only [zc, zb, z0b, z0a]))
 refine zh [_] (zv.one hp.drew at1) [10, 11] [(0, true), (1, true), (2, true), (3, true), (4, true), (5, true), (6, true), (7, true), (8, true), (9, true), (10, false), (11, false)] (by kernel_rfl) (by kernel_rfl) rfl (by kernel_rfl) (fun _ _ d _ _ h => by cases d <;> exact h) ?_
 replace hp := hp.drew
 repeat' (with_reducible refine zx ?_); first | (with_reducible refine zq ?_) | ((with_reducible refine zE ?_); refine zu rfl ?_; (first | ((with_reducible refine zT _ rfl ?_); refine tM rfl ?_) | ((with_reducible refine zW _ _ rfl ?_); refine tO rfl (za rfl) zm aa5 ?_) | refine tG (fun w _ => (by go_simp; try rfl)) ?_); try simp only [zc, zb, zj, zg, z0b, z0a, z0d, z0c, zl]) | (refine zC rfl (fun K hK => ?_); go_wp2_with (first | (go_at_call 154; (with_reducible refine (HLD.out _ _ _ hp).mono ?_); clear hp; rintro e w1 ⟨rfl, hp⟩; unfold zaP) | go_skip | (((refine zd _ _ _ rfl ?_); (first | refine sA hp rfl (za rfl) (za rfl) zt aa5 ?_ | refine sG hp rfl (za rfl) (za rfl) zt aa5 ?_); clear hp; intro w1 hp; simp only [spl, z0a, z0b] at hp); simp only [zc, zb, z0b, z0a])); (first | refine hK.out _ _ (.inl rfl) ?_ | refine hK.out _ _ (.inr (zv.one hp aa5)) ?_); clear hK K; try simp only [zc, zb, zj, zg, z0b, z0a, z0d, z0c, zl])
 go_wp2_with (first | go_skip | ((first | ((refine zf _ rfl ?_); refine lZ hp rfl (by with_reducible first | exact zL | exact zX) ?_; clear hp; intro b w1 hp) | ((refine zi _ _ rfl ?_); refine lB hp rfl (za rfl) rfl ?_; clear hp; intro b w1 hp) | ((refine ze _ _ rfl ?_); first | refine lO hp rfl (za rfl) zaK aa5 ?_ | refine lA hp rfl (za rfl) zac aa5 ?_) | ((refine zd _ _ _ rfl ?_); (first | refine sA hp rfl (za rfl) (za rfl) zt aa5 ?_ | refine sG hp rfl (za rfl) (za rfl) zt aa5 ?_); clear hp; intro w1 hp; simp only [spl, z0a, z0b] at hp)); simp only [zc, zb, z0b, z0a]))
 exact bodyPost_ret (zA (rs := [.cell 4 71]) Tryz.results88 (.cell rfl (hp.loadAgg zt at0 0 _ (by rfl) (by rfl)) .nil)) rfl (zY.sm (zbO HR.out hp) rfl)
theorem zkY {x : Hv} (hx : zQ x) {hh nn cc vv tt : Int} (hto : zaa x.os tt = true) {B bw : Nat} {w0 w : World} {K9 : List Blk} (hW : zY B w0 w bw x K9) :
  Calls Tryz.prog 88 #[.pointer (some ⟨bw, 0, none⟩), .agg #[.int .i64 5, .int .i64 hh, .int .i64 1, .int .i64 nn, .int .i64 cc, .int .i64 vv, .int .i64 tt]] w (zU B w0 bw (zpM x 1 tt) 0 0 K9) := by
 obtain ⟨RO, RF, M, hR, hp⟩ := hW
 have HR := z0j hR
 have hs := hx.sorted
 have hol : x.os.length ≤ 1000 := by have := hx.len; omega
 obtain ⟨od, oa, os, oc, nx, t0, t1, t2, t3, fa, fs, fc⟩ := x
 simp only [hvL] at hp
 simp only at hs hol hto
 have hro : ZD RO fun w => zr w oa (os.flatMap obV) := hR.objs.keptS
 have HLD : Hid (∀ (y z : Blk) (w : World), Hp B w0 w (y :: z :: ⟨bw, [.int .i64 od, .slice oa os.length oc, .int .i64 nx, .int .i64 t0, .int .i64 t1, .int .i64 t2, .int .i64 t3, .slice fa fs.length fc], 133, 8⟩ :: (RO ++ (RF ++ (M ++ K9)))) →
   Calls Tryz.prog 154 #[.pointer (some ⟨bw, 0, none⟩), .pointer (some ⟨bw, 4, none⟩), .int .i64 tt] w fun e w' => e = .returned (zaP 0 0) ∧ Hp B w0 w' (y :: z :: ⟨bw, [.int .i64 od, .slice oa os.length oc, .int .i64 nx, .int .i64 t0, .int .i64 tt, .int .i64 t2, .int .i64 t3, .slice fa fs.length fc], 133, 8⟩ :: (RO ++ (RF ++ (M ++ K9))))) :=
  z0j (fun y z w hp => zbx hol hs hto (j := 2) (i := 2) rfl rfl (zbM (A := [y, z, _]) hro) rfl (by simp) hp)
 have HIN : Hid (inB 1 0 3 = true) := z0j (by decide)
 clear hx hs hol hto hro hR
 go_enter Tryz.func88, Tryz.ntmps88
 go_wp2_with (first | (go_at_call 141; (with_reducible refine (Zb _ _ _ _).mono ?_); rintro e w' ⟨rfl, rfl⟩; rw [HIN.out]) | (go_at_call 86; (with_reducible refine (zds _ _).mono ?_); rintro e w1 ⟨rfl, hb⟩; replace hp := hp.call hb; clear hb; unfold zaP) | go_skip | ((first | ((refine zf _ rfl ?_); refine lZ hp rfl (by with_reducible first | exact zL | exact zX) ?_; clear hp; intro b w1 hp) | ((refine zi _ _ rfl ?_); refine lB hp rfl (za rfl) rfl ?_; clear hp; intro b w1 hp) | ((refine ze _ _ rfl ?_); first | refine lO hp rfl (za rfl) zaK aa5 ?_ | refine lA hp rfl (za rfl) zac aa5 ?_) | ((refine zd _ _ _ rfl ?_); (first | refine sA hp rfl (za rfl) (za rfl) zt aa5 ?_ | refine sG hp rfl (za rfl) (za rfl) zt aa5 ?_); clear hp; intro w1 hp; simp only [spl, z0a, z0b] at hp)); simp only [zc, zb, z0b, z0a]))
 refine zh [_] (zv.one hp.drew at1) [10, 11] [(0, true), (1, true), (2, true), (3, true), (4, true), (5, true), (6, true), (7, true), (8, true), (9, true), (10, false), (11, false)] (by kernel_rfl) (by kernel_rfl) rfl (by kernel_rfl) (fun _ _ d _ _ h => by cases d <;> exact h) ?_
 replace hp := hp.drew
 repeat' (with_reducible refine zx ?_); first | (with_reducible refine zq ?_) | ((with_reducible refine zE ?_); refine zu rfl ?_; (first | ((with_reducible refine zT _ rfl ?_); refine tM rfl ?_) | ((with_reducible refine zW _ _ rfl ?_); refine tO rfl (za rfl) zm aa5 ?_) | refine tG (fun w _ => (by go_simp; try rfl)) ?_); try simp only [zc, zb, zj, zg, z0b, z0a, z0d, z0c, zl]) | (refine zC rfl (fun K hK => ?_); go_wp2_with (first | (go_at_call 154; (with_reducible refine (HLD.out _ _ _ hp).mono ?_); clear hp; rintro e w1 ⟨rfl, hp⟩; unfold zaP) | go_skip | (((refine zd _ _ _ rfl ?_); (first | refine sA hp rfl (za rfl) (za rfl) zt aa5 ?_ | refine sG hp rfl (za rfl) (za rfl) zt aa5 ?_); clear hp; intro w1 hp; simp only [spl, z0a, z0b] at hp); simp only [zc, zb, z0b, z0a])); (first | refine hK.out _ _ (.inl rfl) ?_ | refine hK.out _ _ (.inr (zv.one hp aa5)) ?_); clear hK K; try simp only [zc, zb, zj, zg, z0b, z0a, z0d, z0c, zl])
 go_wp2_with (first | go_skip | ((first | ((refine zf _ rfl ?_); refine lZ hp rfl (by with_reducible first | exact zL | exact zX) ?_; clear hp; intro b w1 hp) | ((refine zi _ _ rfl ?_); refine lB hp rfl (za rfl) rfl ?_; clear hp; intro b w1 hp) | ((refine ze _ _ rfl ?_); first | refine lO hp rfl (za rfl) zaK aa5 ?_ | refine lA hp rfl (za rfl) zac aa5 ?_) | ((refine zd _ _ _ rfl ?_); (first | refine sA hp rfl (za rfl) (za rfl) zt aa5 ?_ | refine sG hp rfl (za rfl) (za rfl) zt aa5 ?_); clear hp; intro w1 hp; simp only [spl, z0a, z0b] at hp)); simp only [zc, zb, z0b, z0a]))
 exact bodyPost_ret (zA (rs := [.cell 4 71]) Tryz.results88 (.cell rfl (hp.loadAgg zt at0 0 _ (by rfl) (by rfl)) .nil)) rfl ⟨rfl, _, Hv.Sm.refl _, zbO (x := ⟨od, oa, os, oc, nx, t0, tt, t2, t3, fa, fs, fc⟩) ⟨HR.out.1, HR.out.2, HR.out.3⟩ hp⟩
theorem zjH {x : Hv} (hx : zQ x) {hh nn cc vv tt : Int} (hto : zaa x.os tt = false) {B bw : Nat} {w0 w : World} {K9 : List Blk} (hW : zY B w0 w bw x K9) :
  Calls Tryz.prog 88 #[.pointer (some ⟨bw, 0, none⟩), .agg #[.int .i64 5, .int .i64 hh, .int .i64 1, .int .i64 nn, .int .i64 cc, .int .i64 vv, .int .i64 tt]] w (zU B w0 bw x 51 0 K9) := by
 obtain ⟨RO, RF, M, hR, hp⟩ := hW
 have HR := z0j hR
 have hs := hx.sorted
 have hol : x.os.length ≤ 1000 := by have := hx.len; omega
 obtain ⟨od, oa, os, oc, nx, t0, t1, t2, t3, fa, fs, fc⟩ := x
 simp only [hvL] at hp
 simp only at hs hol hto
 have hro : ZD RO fun w => zr w oa (os.flatMap obV) := hR.objs.keptS
 have HLD : Hid (∀ (y z : Blk) (w : World), Hp B w0 w (y :: z :: ⟨bw, [.int .i64 od, .slice oa os.length oc, .int .i64 nx, .int .i64 t0, .int .i64 t1, .int .i64 t2, .int .i64 t3, .slice fa fs.length fc], 133, 8⟩ :: (RO ++ (RF ++ (M ++ K9)))) →
   Calls Tryz.prog 154 #[.pointer (some ⟨bw, 0, none⟩), .pointer (some ⟨bw, 4, none⟩), .int .i64 tt] w fun e w' => e = .returned (zaP 51 0) ∧ Hp B w0 w' (y :: z :: ⟨bw, [.int .i64 od, .slice oa os.length oc, .int .i64 nx, .int .i64 t0, .int .i64 t1, .int .i64 t2, .int .i64 t3, .slice fa fs.length fc], 133, 8⟩ :: (RO ++ (RF ++ (M ++ K9))))) :=
  z0j (fun y z w hp => zb4 hol hs hto (j := 2) (i := 2) rfl rfl (zbM (A := [y, z, _]) hro) rfl (by simp) hp)
 have HIN : Hid (inB 1 0 3 = true) := z0j (by decide)
 clear hx hs hol hto hro hR
 go_enter Tryz.func88, Tryz.ntmps88
 go_wp2_with (first | (go_at_call 141; (with_reducible refine (Zb _ _ _ _).mono ?_); rintro e w' ⟨rfl, rfl⟩; rw [HIN.out]) | (go_at_call 86; (with_reducible refine (zds _ _).mono ?_); rintro e w1 ⟨rfl, hb⟩; replace hp := hp.call hb; clear hb; unfold zaP) | go_skip | ((first | ((refine zf _ rfl ?_); refine lZ hp rfl (by with_reducible first | exact zL | exact zX) ?_; clear hp; intro b w1 hp) | ((refine zi _ _ rfl ?_); refine lB hp rfl (za rfl) rfl ?_; clear hp; intro b w1 hp) | ((refine ze _ _ rfl ?_); first | refine lO hp rfl (za rfl) zaK aa5 ?_ | refine lA hp rfl (za rfl) zac aa5 ?_) | ((refine zd _ _ _ rfl ?_); (first | refine sA hp rfl (za rfl) (za rfl) zt aa5 ?_ | refine sG hp rfl (za rfl) (za rfl) zt aa5 ?_); clear hp; intro w1 hp; simp only [spl, z0a, z0b] at hp)); simp only [zc, zb, z0b, z0a]))
 refine zh [_] (zv.one hp.drew at1) [10, 11] [(0, true), (1, true), (2, true), (3, true), (4, true), (5, true), (6, true), (7, true), (8, true), (9, true), (10, false), (11, false)] (by kernel_rfl) (by kernel_rfl) rfl (by kernel_rfl) (fun _ _ d _ _ h => by cases d <;> exact h) ?_
 replace hp := hp.drew
 repeat' (with_reducible refine zx ?_); first | (with_reducible refine zq ?_) | ((with_reducible refine zE ?_); refine zu rfl ?_; (first | ((with_reducible refine zT _ rfl ?_); refine tM rfl ?_) | ((with_reducible refine zW _ _ rfl ?_); refine tO rfl (za rfl) zm aa5 ?_) | refine tG (fun w _ => (by go_simp; try rfl)) ?_); try simp only [zc, zb, zj, zg, z0b, z0a, z0d, z0c, zl]) | (refine zC rfl (fun K hK => ?_); go_wp2_with (first | (go_at_call 154; (with_reducible refine (HLD.out _ _ _ hp).mono ?_); clear hp; rintro e w1 ⟨rfl, hp⟩; unfold zaP) | go_skip | (((refine zd _ _ _ rfl ?_); (first | refine sA hp rfl (za rfl) (za rfl) zt aa5 ?_ | refine sG hp rfl (za rfl) (za rfl) zt aa5 ?_); clear hp; intro w1 hp; simp only [spl, z0a, z0b] at hp); simp only [zc, zb, z0b, z0a])); (first | refine hK.out _ _ (.inl rfl) ?_ | refine hK.out _ _ (.inr (zv.one hp aa5)) ?_); clear hK K; try simp only [zc, zb, zj, zg, z0b, z0a, z0d, z0c, zl])
 go_wp2_with (first | go_skip | ((first | ((refine zf _ rfl ?_); refine lZ hp rfl (by with_reducible first | exact zL | exact zX) ?_; clear hp; intro b w1 hp) | ((refine zi _ _ rfl ?_); refine lB hp rfl (za rfl) rfl ?_; clear hp; intro b w1 hp) | ((refine ze _ _ rfl ?_); first | refine lO hp rfl (za rfl) zaK aa5 ?_ | refine lA hp rfl (za rfl) zac aa5 ?_) | ((refine zd _ _ _ rfl ?_); (first | refine sA hp rfl (za rfl) (za rfl) zt aa5 ?_ | refine sG hp rfl (za rfl) (za rfl) zt aa5 ?_); clear hp; intro w1 hp; simp only [spl, z0a, z0b] at hp)); simp only [zc, zb, z0b, z0a]))
 exact bodyPost_ret (zA (rs := [.cell 4 71]) Tryz.results88 (.cell rfl (hp.loadAgg zt at0 0 _ (by rfl) (by rfl)) .nil)) rfl (zY.sm (zbO HR.out hp) rfl)
theorem zly {x : Hv} (hx : zQ x) {hh nn cc vv tt : Int} (hto : zaa x.os tt = true) {B bw : Nat} {w0 w : World} {K9 : List Blk} (hW : zY B w0 w bw x K9) :
  Calls Tryz.prog 88 #[.pointer (some ⟨bw, 0, none⟩), .agg #[.int .i64 5, .int .i64 hh, .int .i64 2, .int .i64 nn, .int .i64 cc, .int .i64 vv, .int .i64 tt]] w (zU B w0 bw (zpM x 2 tt) 0 0 K9) := by
 obtain ⟨RO, RF, M, hR, hp⟩ := hW
 have HR := z0j hR
 have hs := hx.sorted
 have hol : x.os.length ≤ 1000 := by have := hx.len; omega
 obtain ⟨od, oa, os, oc, nx, t0, t1, t2, t3, fa, fs, fc⟩ := x
 simp only [hvL] at hp
 simp only at hs hol hto
 have hro : ZD RO fun w => zr w oa (os.flatMap obV) := hR.objs.keptS
 have HLD : Hid (∀ (y z : Blk) (w : World), Hp B w0 w (y :: z :: ⟨bw, [.int .i64 od, .slice oa os.length oc, .int .i64 nx, .int .i64 t0, .int .i64 t1, .int .i64 t2, .int .i64 t3, .slice fa fs.length fc], 133, 8⟩ :: (RO ++ (RF ++ (M ++ K9)))) →
   Calls Tryz.prog 154 #[.pointer (some ⟨bw, 0, none⟩), .pointer (some ⟨bw, 5, none⟩), .int .i64 tt] w fun e w' => e = .returned (zaP 0 0) ∧ Hp B w0 w' (y :: z :: ⟨bw, [.int .i64 od, .slice oa os.length oc, .int .i64 nx, .int .i64 t0, .int .i64 t1, .int .i64 tt, .int .i64 t3, .slice fa fs.length fc], 133, 8⟩ :: (RO ++ (RF ++ (M ++ K9))))) :=
  z0j (fun y z w hp => zbx hol hs hto (j := 2) (i := 2) rfl rfl (zbM (A := [y, z, _]) hro) rfl (by simp) hp)
 have HIN : Hid (inB 2 0 3 = true) := z0j (by decide)
 clear hx hs hol hto hro hR
 go_enter Tryz.func88, Tryz.ntmps88
 go_wp2_with (first | (go_at_call 141; (with_reducible refine (Zb _ _ _ _).mono ?_); rintro e w' ⟨rfl, rfl⟩; rw [HIN.out]) | (go_at_call 86; (with_reducible refine (zds _ _).mono ?_); rintro e w1 ⟨rfl, hb⟩; replace hp := hp.call hb; clear hb; unfold zaP) | go_skip | ((first | ((refine zf _ rfl ?_); refine lZ hp rfl (by with_reducible first | exact zL | exact zX) ?_; clear hp; intro b w1 hp) | ((refine zi _ _ rfl ?_); refine lB hp rfl (za rfl) rfl ?_; clear hp; intro b w1 hp) | ((refine ze _ _ rfl ?_); first | refine lO hp rfl (za rfl) zaK aa5 ?_ | refine lA hp rfl (za rfl) zac aa5 ?_) | ((refine zd _ _ _ rfl ?_); (first | refine sA hp rfl (za rfl) (za rfl) zt aa5 ?_ | refine sG hp rfl (za rfl) (za rfl) zt aa5 ?_); clear hp; intro w1 hp; simp only [spl, z0a, z0b] at hp)); simp only [zc, zb, z0b, z0a]))
 refine zh [_] (zv.one hp.drew at1) [10, 11] [(0, true), (1, true), (2, true), (3, true), (4, true), (5, true), (6, true), (7, true), (8, true), (9, true), (10, false), (11, false)] (by kernel_rfl) (by kernel_rfl) rfl (by kernel_rfl) (fun _ _ d _ _ h => by cases d <;> exact h) ?_
 replace hp := hp.drew
 repeat' (with_reducible refine zx ?_); first | (with_reducible refine zq ?_) | ((with_reducible refine zE ?_); refine zu rfl ?_; (first | ((with_reducible refine zT _ rfl ?_); refine tM rfl ?_) | ((with_reducible refine zW _ _ rfl ?_); refine tO rfl (za rfl) zm aa5 ?_) | refine tG (fun w _ => (by go_simp; try rfl)) ?_); try simp only [zc, zb, zj, zg, z0b, z0a, z0d, z0c, zl]) | (refine zC rfl (fun K hK => ?_); go_wp2_with (first | (go_at_call 154; (with_reducible refine (HLD.out _ _ _ hp).mono ?_); clear hp; rintro e w1 ⟨rfl, hp⟩; unfold zaP) | go_skip | (((refine zd _ _ _ rfl ?_); (first | refine sA hp rfl (za rfl) (za rfl) zt aa5 ?_ | refine sG hp rfl (za rfl) (za rfl) zt aa5 ?_); clear hp; intro w1 hp; simp only [spl, z0a, z0b] at hp); simp only [zc, zb, z0b, z0a])); (first | refine hK.out _ _ (.inl rfl) ?_ | refine hK.out _ _ (.inr (zv.one hp aa5)) ?_); clear hK K; try simp only [zc, zb, zj, zg, z0b, z0a, z0d, z0c, zl])
 go_wp2_with (first | go_skip | ((first | ((refine zf _ rfl ?_); refine lZ hp rfl (by with_reducible first | exact zL | exact zX) ?_; clear hp; intro b w1 hp) | ((refine zi _ _ rfl ?_); refine lB hp rfl (za rfl) rfl ?_; clear hp; intro b w1 hp) | ((refine ze _ _ rfl ?_); first | refine lO hp rfl (za rfl) zaK aa5 ?_ | refine lA hp rfl (za rfl) zac aa5 ?_) | ((refine zd _ _ _ rfl ?_); (first | refine sA hp rfl (za rfl) (za rfl) zt aa5 ?_ | refine sG hp rfl (za rfl) (za rfl) zt aa5 ?_); clear hp; intro w1 hp; simp only [spl, z0a, z0b] at hp)); simp only [zc, zb, z0b, z0a]))
 exact bodyPost_ret (zA (rs := [.cell 4 71]) Tryz.results88 (.cell rfl (hp.loadAgg zt at0 0 _ (by rfl) (by rfl)) .nil)) rfl ⟨rfl, _, Hv.Sm.refl _, zbO (x := ⟨od, oa, os, oc, nx, t0, t1, tt, t3, fa, fs, fc⟩) ⟨HR.out.1, HR.out.2, HR.out.3⟩ hp⟩
theorem ziX {x : Hv} (hx : zQ x) {hh nn cc vv tt : Int} (hto : zaa x.os tt = false) {B bw : Nat} {w0 w : World} {K9 : List Blk} (hW : zY B w0 w bw x K9) :
  Calls Tryz.prog 88 #[.pointer (some ⟨bw, 0, none⟩), .agg #[.int .i64 5, .int .i64 hh, .int .i64 2, .int .i64 nn, .int .i64 cc, .int .i64 vv, .int .i64 tt]] w (zU B w0 bw x 51 0 K9) := by
 obtain ⟨RO, RF, M, hR, hp⟩ := hW
 have HR := z0j hR
 have hs := hx.sorted
 have hol : x.os.length ≤ 1000 := by have := hx.len; omega
 obtain ⟨od, oa, os, oc, nx, t0, t1, t2, t3, fa, fs, fc⟩ := x
 simp only [hvL] at hp
 simp only at hs hol hto
 have hro : ZD RO fun w => zr w oa (os.flatMap obV) := hR.objs.keptS
 have HLD : Hid (∀ (y z : Blk) (w : World), Hp B w0 w (y :: z :: ⟨bw, [.int .i64 od, .slice oa os.length oc, .int .i64 nx, .int .i64 t0, .int .i64 t1, .int .i64 t2, .int .i64 t3, .slice fa fs.length fc], 133, 8⟩ :: (RO ++ (RF ++ (M ++ K9)))) →
   Calls Tryz.prog 154 #[.pointer (some ⟨bw, 0, none⟩), .pointer (some ⟨bw, 5, none⟩), .int .i64 tt] w fun e w' => e = .returned (zaP 51 0) ∧ Hp B w0 w' (y :: z :: ⟨bw, [.int .i64 od, .slice oa os.length oc, .int .i64 nx, .int .i64 t0, .int .i64 t1, .int .i64 t2, .int .i64 t3, .slice fa fs.length fc], 133, 8⟩ :: (RO ++ (RF ++ (M ++ K9))))) :=
  z0j (fun y z w hp => zb4 hol hs hto (j := 2) (i := 2) rfl rfl (zbM (A := [y, z, _]) hro) rfl (by simp) hp)
 have HIN : Hid (inB 2 0 3 = true) := z0j (by decide)
 clear hx hs hol hto hro hR
 go_enter Tryz.func88, Tryz.ntmps88
 go_wp2_with (first | (go_at_call 141; (with_reducible refine (Zb _ _ _ _).mono ?_); rintro e w' ⟨rfl, rfl⟩; rw [HIN.out]) | (go_at_call 86; (with_reducible refine (zds _ _).mono ?_); rintro e w1 ⟨rfl, hb⟩; replace hp := hp.call hb; clear hb; unfold zaP) | go_skip | ((first | ((refine zf _ rfl ?_); refine lZ hp rfl (by with_reducible first | exact zL | exact zX) ?_; clear hp; intro b w1 hp) | ((refine zi _ _ rfl ?_); refine lB hp rfl (za rfl) rfl ?_; clear hp; intro b w1 hp) | ((refine ze _ _ rfl ?_); first | refine lO hp rfl (za rfl) zaK aa5 ?_ | refine lA hp rfl (za rfl) zac aa5 ?_) | ((refine zd _ _ _ rfl ?_); (first | refine sA hp rfl (za rfl) (za rfl) zt aa5 ?_ | refine sG hp rfl (za rfl) (za rfl) zt aa5 ?_); clear hp; intro w1 hp; simp only [spl, z0a, z0b] at hp)); simp only [zc, zb, z0b, z0a]))
 refine zh [_] (zv.one hp.drew at1) [10, 11] [(0, true), (1, true), (2, true), (3, true), (4, true), (5, true), (6, true), (7, true), (8, true), (9, true), (10, false), (11, false)] (by kernel_rfl) (by kernel_rfl) rfl (by kernel_rfl) (fun _ _ d _ _ h => by cases d <;> exact h) ?_
 replace hp := hp.drew
 repeat' (with_reducible refine zx ?_); first | (with_reducible refine zq ?_) | ((with_reducible refine zE ?_); refine zu rfl ?_; (first | ((with_reducible refine zT _ rfl ?_); refine tM rfl ?_) | ((with_reducible refine zW _ _ rfl ?_); refine tO rfl (za rfl) zm aa5 ?_) | refine tG (fun w _ => (by go_simp; try rfl)) ?_); try simp only [zc, zb, zj, zg, z0b, z0a, z0d, z0c, zl]) | (refine zC rfl (fun K hK => ?_); go_wp2_with (first | (go_at_call 154; (with_reducible refine (HLD.out _ _ _ hp).mono ?_); clear hp; rintro e w1 ⟨rfl, hp⟩; unfold zaP) | go_skip | (((refine zd _ _ _ rfl ?_); (first | refine sA hp rfl (za rfl) (za rfl) zt aa5 ?_ | refine sG hp rfl (za rfl) (za rfl) zt aa5 ?_); clear hp; intro w1 hp; simp only [spl, z0a, z0b] at hp); simp only [zc, zb, z0b, z0a])); (first | refine hK.out _ _ (.inl rfl) ?_ | refine hK.out _ _ (.inr (zv.one hp aa5)) ?_); clear hK K; try simp only [zc, zb, zj, zg, z0b, z0a, z0d, z0c, zl])
 go_wp2_with (first | go_skip | ((first | ((refine zf _ rfl ?_); refine lZ hp rfl (by with_reducible first | exact zL | exact zX) ?_; clear hp; intro b w1 hp) | ((refine zi _ _ rfl ?_); refine lB hp rfl (za rfl) rfl ?_; clear hp; intro b w1 hp) | ((refine ze _ _ rfl ?_); first | refine lO hp rfl (za rfl) zaK aa5 ?_ | refine lA hp rfl (za rfl) zac aa5 ?_) | ((refine zd _ _ _ rfl ?_); (first | refine sA hp rfl (za rfl) (za rfl) zt aa5 ?_ | refine sG hp rfl (za rfl) (za rfl) zt aa5 ?_); clear hp; intro w1 hp; simp only [spl, z0a, z0b] at hp)); simp only [zc, zb, z0b, z0a]))
 exact bodyPost_ret (zA (rs := [.cell 4 71]) Tryz.results88 (.cell rfl (hp.loadAgg zt at0 0 _ (by rfl) (by rfl)) .nil)) rfl (zY.sm (zbO HR.out hp) rfl)
theorem zkZ {x : Hv} (hx : zQ x) {hh nn cc vv tt : Int} (hto : zaa x.os tt = true) {B bw : Nat} {w0 w : World} {K9 : List Blk} (hW : zY B w0 w bw x K9) :
  Calls Tryz.prog 88 #[.pointer (some ⟨bw, 0, none⟩), .agg #[.int .i64 5, .int .i64 hh, .int .i64 3, .int .i64 nn, .int .i64 cc, .int .i64 vv, .int .i64 tt]] w (zU B w0 bw (zpM x 3 tt) 0 0 K9) := by
 obtain ⟨RO, RF, M, hR, hp⟩ := hW
 have HR := z0j hR
 have hs := hx.sorted
 have hol : x.os.length ≤ 1000 := by have := hx.len; omega
 obtain ⟨od, oa, os, oc, nx, t0, t1, t2, t3, fa, fs, fc⟩ := x
 simp only [hvL] at hp
 simp only at hs hol hto
 have hro : ZD RO fun w => zr w oa (os.flatMap obV) := hR.objs.keptS
 have HLD : Hid (∀ (y z : Blk) (w : World), Hp B w0 w (y :: z :: ⟨bw, [.int .i64 od, .slice oa os.length oc, .int .i64 nx, .int .i64 t0, .int .i64 t1, .int .i64 t2, .int .i64 t3, .slice fa fs.length fc], 133, 8⟩ :: (RO ++ (RF ++ (M ++ K9)))) →
   Calls Tryz.prog 154 #[.pointer (some ⟨bw, 0, none⟩), .pointer (some ⟨bw, 6, none⟩), .int .i64 tt] w fun e w' => e = .returned (zaP 0 0) ∧ Hp B w0 w' (y :: z :: ⟨bw, [.int .i64 od, .slice oa os.length oc, .int .i64 nx, .int .i64 t0, .int .i64 t1, .int .i64 t2, .int .i64 tt, .slice fa fs.length fc], 133, 8⟩ :: (RO ++ (RF ++ (M ++ K9))))) :=
  z0j (fun y z w hp => zbx hol hs hto (j := 2) (i := 2) rfl rfl (zbM (A := [y, z, _]) hro) rfl (by simp) hp)
 have HIN : Hid (inB 3 0 3 = true) := z0j (by decide)
 clear hx hs hol hto hro hR
 go_enter Tryz.func88, Tryz.ntmps88
 go_wp2_with (first | (go_at_call 141; (with_reducible refine (Zb _ _ _ _).mono ?_); rintro e w' ⟨rfl, rfl⟩; rw [HIN.out]) | (go_at_call 86; (with_reducible refine (zds _ _).mono ?_); rintro e w1 ⟨rfl, hb⟩; replace hp := hp.call hb; clear hb; unfold zaP) | go_skip | ((first | ((refine zf _ rfl ?_); refine lZ hp rfl (by with_reducible first | exact zL | exact zX) ?_; clear hp; intro b w1 hp) | ((refine zi _ _ rfl ?_); refine lB hp rfl (za rfl) rfl ?_; clear hp; intro b w1 hp) | ((refine ze _ _ rfl ?_); first | refine lO hp rfl (za rfl) zaK aa5 ?_ | refine lA hp rfl (za rfl) zac aa5 ?_) | ((refine zd _ _ _ rfl ?_); (first | refine sA hp rfl (za rfl) (za rfl) zt aa5 ?_ | refine sG hp rfl (za rfl) (za rfl) zt aa5 ?_); clear hp; intro w1 hp; simp only [spl, z0a, z0b] at hp)); simp only [zc, zb, z0b, z0a]))
 refine zh [_] (zv.one hp.drew at1) [10, 11] [(0, true), (1, true), (2, true), (3, true), (4, true), (5, true), (6, true), (7, true), (8, true), (9, true), (10, false), (11, false)] (by kernel_rfl) (by kernel_rfl) rfl (by kernel_rfl) (fun _ _ d _ _ h => by cases d <;> exact h) ?_
 replace hp := hp.drew
 repeat' (with_reducible refine zx ?_); first | (with_reducible refine zq ?_) | ((with_reducible refine zE ?_); refine zu rfl ?_; (first | ((with_reducible refine zT _ rfl ?_); refine tM rfl ?_) | ((with_reducible refine zW _ _ rfl ?_); refine tO rfl (za rfl) zm aa5 ?_) | refine tG (fun w _ => (by go_simp; try rfl)) ?_); try simp only [zc, zb, zj, zg, z0b, z0a, z0d, z0c, zl]) | (refine zC rfl (fun K hK => ?_); go_wp2_with (first | (go_at_call 154; (with_reducible refine (HLD.out _ _ _ hp).mono ?_); clear hp; rintro e w1 ⟨rfl, hp⟩; unfold zaP) | go_skip | (((refine zd _ _ _ rfl ?_); (first | refine sA hp rfl (za rfl) (za rfl) zt aa5 ?_ | refine sG hp rfl (za rfl) (za rfl) zt aa5 ?_); clear hp; intro w1 hp; simp only [spl, z0a, z0b] at hp); simp only [zc, zb, z0b, z0a])); (first | refine hK.out _ _ (.inl rfl) ?_ | refine hK.out _ _ (.inr (zv.one hp aa5)) ?_); clear hK K; try simp only [zc, zb, zj, zg, z0b, z0a, z0d, z0c, zl])
 go_wp2_with (first | go_skip | ((first | ((refine zf _ rfl ?_); refine lZ hp rfl (by with_reducible first | exact zL | exact zX) ?_; clear hp; intro b w1 hp) | ((refine zi _ _ rfl ?_); refine lB hp rfl (za rfl) rfl ?_; clear hp; intro b w1 hp) | ((refine ze _ _ rfl ?_); first | refine lO hp rfl (za rfl) zaK aa5 ?_ | refine lA hp rfl (za rfl) zac aa5 ?_) | ((refine zd _ _ _ rfl ?_); (first | refine sA hp rfl (za rfl) (za rfl) zt aa5 ?_ | refine sG hp rfl (za rfl) (za rfl) zt aa5 ?_); clear hp; intro w1 hp; simp only [spl, z0a, z0b] at hp)); simp only [zc, zb, z0b, z0a]))
 exact bodyPost_ret (zA (rs := [.cell 4 71]) Tryz.results88 (.cell rfl (hp.loadAgg zt at0 0 _ (by rfl) (by rfl)) .nil)) rfl ⟨rfl, _, Hv.Sm.refl _, zbO (x := ⟨od, oa, os, oc, nx, t0, t1, t2, tt, fa, fs, fc⟩) ⟨HR.out.1, HR.out.2, HR.out.3⟩ hp⟩
theorem ziR {x : Hv} (hx : zQ x) {hh nn cc vv tt : Int} (hto : zaa x.os tt = false) {B bw : Nat} {w0 w : World} {K9 : List Blk} (hW : zY B w0 w bw x K9) :
  Calls Tryz.prog 88 #[.pointer (some ⟨bw, 0, none⟩), .agg #[.int .i64 5, .int .i64 hh, .int .i64 3, .int .i64 nn, .int .i64 cc, .int .i64 vv, .int .i64 tt]] w (zU B w0 bw x 51 0 K9) := by
 obtain ⟨RO, RF, M, hR, hp⟩ := hW
 have HR := z0j hR
 have hs := hx.sorted
 have hol : x.os.length ≤ 1000 := by have := hx.len; omega
 obtain ⟨od, oa, os, oc, nx, t0, t1, t2, t3, fa, fs, fc⟩ := x
 simp only [hvL] at hp
 simp only at hs hol hto
 have hro : ZD RO fun w => zr w oa (os.flatMap obV) := hR.objs.keptS
 have HLD : Hid (∀ (y z : Blk) (w : World), Hp B w0 w (y :: z :: ⟨bw, [.int .i64 od, .slice oa os.length oc, .int .i64 nx, .int .i64 t0, .int .i64 t1, .int .i64 t2, .int .i64 t3, .slice fa fs.length fc], 133, 8⟩ :: (RO ++ (RF ++ (M ++ K9)))) →
   Calls Tryz.prog 154 #[.pointer (some ⟨bw, 0, none⟩), .pointer (some ⟨bw, 6, none⟩), .int .i64 tt] w fun e w' => e = .returned (zaP 51 0) ∧ Hp B w0 w' (y :: z :: ⟨bw, [.int .i64 od, .slice oa os.length oc, .int .i64 nx, .int .i64 t0, .int .i64 t1, .int .i64 t2, .int .i64 t3, .slice fa fs.length fc], 133, 8⟩ :: (RO ++ (RF ++ (M ++ K9))))) :=
  z0j (fun y z w hp => zb4 hol hs hto (j := 2) (i := 2) rfl rfl (zbM (A := [y, z, _]) hro) rfl (by simp) hp)
 have HIN : Hid (inB 3 0 3 = true) := z0j (by decide)
 clear hx hs hol hto hro hR
 go_enter Tryz.func88, Tryz.ntmps88
 go_wp2_with (first | (go_at_call 141; (with_reducible refine (Zb _ _ _ _).mono ?_); rintro e w' ⟨rfl, rfl⟩; rw [HIN.out]) | (go_at_call 86; (with_reducible refine (zds _ _).mono ?_); rintro e w1 ⟨rfl, hb⟩; replace hp := hp.call hb; clear hb; unfold zaP) | go_skip | ((first | ((refine zf _ rfl ?_); refine lZ hp rfl (by with_reducible first | exact zL | exact zX) ?_; clear hp; intro b w1 hp) | ((refine zi _ _ rfl ?_); refine lB hp rfl (za rfl) rfl ?_; clear hp; intro b w1 hp) | ((refine ze _ _ rfl ?_); first | refine lO hp rfl (za rfl) zaK aa5 ?_ | refine lA hp rfl (za rfl) zac aa5 ?_) | ((refine zd _ _ _ rfl ?_); (first | refine sA hp rfl (za rfl) (za rfl) zt aa5 ?_ | refine sG hp rfl (za rfl) (za rfl) zt aa5 ?_); clear hp; intro w1 hp; simp only [spl, z0a, z0b] at hp)); simp only [zc, zb, z0b, z0a]))
 refine zh [_] (zv.one hp.drew at1) [10, 11] [(0, true), (1, true), (2, true), (3, true), (4, true), (5, true), (6, true), (7, true), (8, true), (9, true), (10, false), (11, false)] (by kernel_rfl) (by kernel_rfl) rfl (by kernel_rfl) (fun _ _ d _ _ h => by cases d <;> exact h) ?_
 replace hp := hp.drew
 repeat' (with_reducible refine zx ?_); first | (with_reducible refine zq ?_) | ((with_reducible refine zE ?_); refine zu rfl ?_; (first | ((with_reducible refine zT _ rfl ?_); refine tM rfl ?_) | ((with_reducible refine zW _ _ rfl ?_); refine tO rfl (za rfl) zm aa5 ?_) | refine tG (fun w _ => (by go_simp; try rfl)) ?_); try simp only [zc, zb, zj, zg, z0b, z0a, z0d, z0c, zl]) | (refine zC rfl (fun K hK => ?_); go_wp2_with (first | (go_at_call 154; (with_reducible refine (HLD.out _ _ _ hp).mono ?_); clear hp; rintro e w1 ⟨rfl, hp⟩; unfold zaP) | go_skip | (((refine zd _ _ _ rfl ?_); (first | refine sA hp rfl (za rfl) (za rfl) zt aa5 ?_ | refine sG hp rfl (za rfl) (za rfl) zt aa5 ?_); clear hp; intro w1 hp; simp only [spl, z0a, z0b] at hp); simp only [zc, zb, z0b, z0a])); (first | refine hK.out _ _ (.inl rfl) ?_ | refine hK.out _ _ (.inr (zv.one hp aa5)) ?_); clear hK K; try simp only [zc, zb, zj, zg, z0b, z0a, z0d, z0c, zl])
 go_wp2_with (first | go_skip | ((first | ((refine zf _ rfl ?_); refine lZ hp rfl (by with_reducible first | exact zL | exact zX) ?_; clear hp; intro b w1 hp) | ((refine zi _ _ rfl ?_); refine lB hp rfl (za rfl) rfl ?_; clear hp; intro b w1 hp) | ((refine ze _ _ rfl ?_); first | refine lO hp rfl (za rfl) zaK aa5 ?_ | refine lA hp rfl (za rfl) zac aa5 ?_) | ((refine zd _ _ _ rfl ?_); (first | refine sA hp rfl (za rfl) (za rfl) zt aa5 ?_ | refine sG hp rfl (za rfl) (za rfl) zt aa5 ?_); clear hp; intro w1 hp; simp only [spl, z0a, z0b] at hp)); simp only [zc, zb, z0b, z0a]))
 exact bodyPost_ret (zA (rs := [.cell 4 71]) Tryz.results88 (.cell rfl (hp.loadAgg zt at0 0 _ (by rfl) (by rfl)) .nil)) rfl (zY.sm (zbO HR.out hp) rfl)
end Go.Proofs.YtjcbpfbifbfkcaaGreat
