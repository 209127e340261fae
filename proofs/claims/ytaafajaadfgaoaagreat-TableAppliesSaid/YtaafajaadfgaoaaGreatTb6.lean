import Derived.Test.YtaafajaadfgaoaaGreatTb1
import Derived.Test.YtaafajaadfgaoaaGreatTb0
import Derived.Test.YtaafajaadfgaoaaGreatTb4
import Derived.Test.YtaafajaadfgaoaaGreatTb2
set_option linter.unusedSimpArgs false
set_option linter.unusedVariables false
set_option maxRecDepth 100000
set_option maxHeartbeats 60000000
namespace Go.Proofs.YtaafajaadfgaoaaGreat
open Go.RowKit
theorem zcx {ty : TypeId} (h : zN Tryz.prog ty = true := by with_reducible first | exact zw | exact Zd | exact zaa) : zN Tryz.prog ty = true := h
theorem znE (p o q r : Int) (h0 : 0 ≤ p) (h1 : p ≤ 256) (h2 : 0 ≤ q) (h3 : q ≤ 256) (g4 : 0 ≤ o) (h4 : o ≤ 8) (g5 : 0 ≤ r) (h5 : r ≤ 8) (w : World) :
  Calls Tryz.prog 252 #[.agg #[.int .i64 p, .int .i64 o], .agg #[.int .i64 q, .int .i64 r]] w fun e w' => e = .returned (.bool (za7 p o q r)) ∧ Below w.heap.size w w' := by
 have hp := Hp.start w
 have W9 := z0j (zo2 p o q r h0 h1 h2 h3 h4 h5)
 go_enter Tryz.func252, Tryz.ntmps252
 go_wp2_with (first | go_skip | ((first | ((refine zh _ rfl ?_); refine lZ hp rfl zu ?_; clear hp; intro b w1 hp) | ((refine zi _ _ rfl ?_); refine lB hp rfl (zb rfl) rfl ?_; clear hp; intro b w1 hp) | ((refine zg _ _ rfl ?_); first | refine lO hp rfl (zb rfl) zcx aa5 ?_ | refine lA hp rfl (zb rfl) zl aa5 ?_) | ((refine zf _ _ _ rfl ?_); (first | refine sO hp rfl (zb rfl) zcx aa5 ?_ | refine sA hp rfl (zb rfl) (zb rfl) zl aa5 ?_ | refine sG hp rfl (zb rfl) (zb rfl) zl aa5 ?_); clear hp; intro w1 hp; simp only [spl, z0a, z0b] at hp)); simp only [ze, zd, z0b, z0a]))
 refine zk _ (zA.all hp.drew) [] [(0, true), (1, true), (2, true), (3, true), (4, true), (5, true), (6, false), (7, true), (8, true), (9, true), (10, true), (11, true), (12, true), (13, true), (14, true), (15, true), (16, false), (17, true), (18, true), (19, true), (20, false)] (by kernel_rfl) (by kernel_rfl) rfl (by kernel_rfl) (fun _ _ d _ _ h => by cases d <;> exact h) ?_
 replace hp := hp.drew
 obtain ⟨w1, w2, W⟩ := W9.out
 rcases W with ⟨d1, r⟩ | ⟨d1, r⟩
 all_goals have R := z0j r
 all_goals clear r W9
 all_goals
  repeat' (with_reducible refine zB ?_); first | (with_reducible refine zt ?_) | ((with_reducible refine zI ?_); refine zy rfl ?_; (first | ((with_reducible refine zcn _ _ rfl ?_); refine tS (by first | exact ZA rfl rfl rfl rfl | exact zab rfl rfl rfl rfl) ?_) | ((with_reducible refine zV _ rfl ?_); refine tM rfl ?_) | ((with_reducible refine zS _ _ rfl ?_); refine tO rfl (zb rfl) zw aa5 ?_) | refine tG (fun w _ => (by go_simp; try rfl)) ?_); try simp only [ze, zd, zn, zj, z0b, z0a, z0d, z0c, zr]) | (refine zF rfl (fun K hK => ?_); go_wp2_with (first | (go_at_call 141; (with_reducible refine (zaX _ (by assumption) (by assumption) _).mono ?_); rintro e w' ⟨rfl, rfl⟩) | go_skip); (refine hK.out _ _ (.inr (zd2 hp)) ?_); clear hK K; try simp only [ze, zd, zn, zj, z0b, z0a, z0d, z0c, zr])
 all_goals (go_wp2_with fail; go_ret; exact ⟨Ze (by rw [R.out]; try rfl), hp.below⟩)
def zgO (w : World) (b : Nat) (q r : Int) : Prop := ∀ (j : Nat) v, [Value.int .i64 q, .int .i64 r][j]? = some v → w.cell? ⟨b, 0 + j, none⟩ = some v
theorem zgO.below {w w' : World} {b : Nat} {q r : Int} (h : zgO w b q r) (hb : b < w.heap.size) (hw : Below w.heap.size w w') : zgO w' b q r := fun j v hj => (hw.cell (p := ⟨b, 0 + j, none⟩) hb).trans (h j v hj)
def zan (l : List Bl) (q r : Int) : Bool := l.any fun x => za7 x.p x.o q r
theorem zfS {l : List Bl} {q r : Int} {j : Nat} {x : Bl} (h : l[j]? = some x) : zan (l.take (j + 1)) q r = (zan (l.take j) q r || za7 x.p x.o q r) := by
 unfold zan
 rw [List.take_add_one, h]
 simp [List.any_append]
theorem zhn {l : List Bl} {q r : Int} {j : Nat} {x : Bl} (h : l[j]? = some x) (hw : za7 x.p x.o q r = true) : zan l q r = true := by
 unfold zan
 exact List.any_eq_true.2 ⟨x, List.mem_of_getElem? h, hw⟩
def InB (p o : Int) : Prop := 0 ≤ p ∧ p ≤ 256 ∧ 0 ≤ o ∧ o ≤ 8
theorem zi0 (p o q r : Int) (hx : InB p o) (hb : InB q r) (b : Nat) (w : World) (hbw : b < w.heap.size) (hc : zgO w b q r) :
  Calls Tryz.prog 251 #[.agg #[.int .i64 p, .int .i64 o], .pointer (some ⟨b, 0, none⟩)] w fun e w' => e = .returned (.bool (za7 p o q r)) ∧ Below w.heap.size w w' := by
 have hp := Hp.start w
 have HX := z0j hc
 unfold zgO at HX
 obtain ⟨x1, x2, x3, x4⟩ := hx
 obtain ⟨y1, y2, y3, y4⟩ := hb
 clear hc
 go_enter Tryz.func251, Tryz.ntmps251
 go_wp2_with (first | (go_at_call 252; (with_reducible refine (znE _ _ _ _ x1 x2 y1 y2 x3 x4 y3 y4 _).mono ?_); rintro e w1 ⟨rfl, hb1⟩; replace hp := hp.call hb1; clear hb1) | go_skip | ((first | ((refine zh _ rfl ?_); refine lZ hp rfl zu ?_; clear hp; intro b w1 hp) | ((refine zi _ _ rfl ?_); refine lB hp rfl (zb rfl) rfl ?_; clear hp; intro b w1 hp) | ((refine zg _ _ rfl ?_); first | refine lO hp rfl (zb rfl) zcx aa5 ?_ | refine lA hp rfl (zb rfl) zl aa5 ?_ | refine lR hp rfl (zb rfl) zl HX.out ?_) | ((refine zf _ _ _ rfl ?_); (first | refine sO hp rfl (zb rfl) zcx aa5 ?_ | refine sA hp rfl (zb rfl) (zb rfl) zl aa5 ?_ | refine sG hp rfl (zb rfl) (zb rfl) zl aa5 ?_); clear hp; intro w1 hp; simp only [spl, z0a, z0b] at hp)); simp only [ze, zd, z0b, z0a]))
 go_ret
 exact ⟨rfl, hp.below⟩
theorem zkP (l : List Bl) (a : Option Addr) (c : Nat) (hl : l.length ≤ 600) (q r : Int) (hl8 : ∀ x ∈ l, InB x.p x.o) (hb : InB q r) (bc : Nat) (w : World) (ha : zD w a (l.flatMap blV)) (hbc : bc < w.heap.size) (hcc : zgO w bc q r) :
  Calls Tryz.prog 263 #[.slice a l.length c, .func (.func 251) #[] #[.pointer (some ⟨bc, 0, none⟩)]] w (zkf w (zan l q r)) := by
 have hp := Hp.start w
 have HA := z0j ha
 have HC := z0j hcc
 have HIN := z0j hl8
 clear ha hcc hl8
 go_enter Tryz.func263, Tryz.ntmps263
 go_wp2_with (first | go_skip | ((first | ((refine zh _ rfl ?_); refine lZ hp rfl zu ?_; clear hp; intro b w1 hp) | ((refine zi _ _ rfl ?_); refine lB hp rfl (zb rfl) rfl ?_; clear hp; intro b w1 hp) | ((refine zg _ _ rfl ?_); first | refine lO hp rfl (zb rfl) zcx aa5 ?_ | refine lA hp rfl (zb rfl) zl aa5 ?_) | ((refine zf _ _ _ rfl ?_); (first | refine sO hp rfl (zb rfl) zcx aa5 ?_ | refine sA hp rfl (zb rfl) (zb rfl) zl aa5 ?_ | refine sG hp rfl (zb rfl) (zb rfl) zl aa5 ?_); clear hp; intro w1 hp; simp only [spl, z0a, z0b] at hp)); simp only [ze, zd, z0b, z0a]))
 go_loopg [8] l.length (fun k i wr => ∃ j : Nat, k + j = l.length ∧ i = .int .i64 j ∧ Hid (zan (l.take j) q r = false) ∧ Hp w.heap.size w wr [])
 case atStart => exact ⟨0, by omega, rfl, z0j (by simp [zan]), hp⟩
 case round =>
  clear hp
  obtain ⟨j, hkj, rfl, HG, hp⟩ := hrel
  by_cases hlt : j < l.length
  ·obtain ⟨bq, off, rfl, hx⟩ := HA.out.elems 2 Zk (by omega) (by omega)
   have hj := List.getElem?_eq_getElem hlt
   replace hx := hx j _ hj
   have hin := HIN.out _ (List.getElem_mem hlt)
   generalize l[j] = x at hx hj hin
   obtain ⟨p, o⟩ := x
   simp only [blV] at hx
   simp only at hin
   have HX := z0j hx
   have HJ := z0j hj
   clear hx hj
   have e1 : (0 : Int) ≤ (j : Int) := by omega
   have e2 : (j : Int) < (l.length : Int) := by omega
   cases hm : za7 p o q r
   ·have HM := z0j hm
    clear hm
    go_wp2_with (first | (go_at_call 251; (with_reducible refine (zi0 _ _ q r hin hb bc _ (Nat.lt_of_lt_of_le hbc hp.below.size) (HC.out.below hbc hp.below)).mono ?_); rintro e w1 ⟨rfl, hb1⟩; replace hp := hp.call hb1; clear hb1; rw [HM.out]) | go_skip | ((first | ((refine zh _ rfl ?_); refine lZ hp rfl zu ?_; clear hp; intro b w1 hp) | ((refine zi _ _ rfl ?_); refine lB hp rfl (zb rfl) rfl ?_; clear hp; intro b w1 hp) | ((refine zg _ _ rfl ?_); first | refine lO hp rfl (zb rfl) zcx aa5 ?_ | refine lA hp rfl (zb rfl) zl aa5 ?_ | refine lR hp rfl (zb rfl) zl HX.out ?_) | ((refine zf _ _ _ rfl ?_); (first | refine sO hp rfl (zb rfl) zcx aa5 ?_ | refine sA hp rfl (zb rfl) (zb rfl) zl aa5 ?_ | refine sG hp rfl (zb rfl) (zb rfl) zl aa5 ?_); clear hp; intro w1 hp; simp only [spl, z0a, z0b] at hp)); simp only [ze, zd, z0b, z0a]))
    go_roundg (gk - 1)
    case measure => omega
    case rel => exact ⟨j + 1, by omega, by go_num, z0j (by rw [zfS HJ.out, HG.out, HM.out]; rfl), hp⟩
   ·have HM := z0j hm
    clear hm
    go_wp2_with (first | (go_at_call 251; (with_reducible refine (zi0 _ _ q r hin hb bc _ (Nat.lt_of_lt_of_le hbc hp.below.size) (HC.out.below hbc hp.below)).mono ?_); rintro e w1 ⟨rfl, hb1⟩; replace hp := hp.call hb1; clear hb1; rw [HM.out]) | go_skip | ((first | ((refine zh _ rfl ?_); refine lZ hp rfl zu ?_; clear hp; intro b w1 hp) | ((refine zi _ _ rfl ?_); refine lB hp rfl (zb rfl) rfl ?_; clear hp; intro b w1 hp) | ((refine zg _ _ rfl ?_); first | refine lO hp rfl (zb rfl) zcx aa5 ?_ | refine lA hp rfl (zb rfl) zl aa5 ?_ | refine lR hp rfl (zb rfl) zl HX.out ?_) | ((refine zf _ _ _ rfl ?_); (first | refine sO hp rfl (zb rfl) zcx aa5 ?_ | refine sA hp rfl (zb rfl) (zb rfl) zl aa5 ?_ | refine sG hp rfl (zb rfl) (zb rfl) zl aa5 ?_); clear hp; intro w1 hp; simp only [spl, z0a, z0b] at hp)); simp only [ze, zd, z0b, z0a]))
    go_ret
    exact ⟨j, rfl, by rw [zhn HJ.out HM.out]; simp, hp.below⟩
  ·have e2 : decide ((j : Int) < (l.length : Int)) = false := by simp; omega
   go_wp2_with fail
   go_ret
   exact ⟨-1, rfl, by have := HG.out; rw [List.take_of_length_le (by omega)] at this; rw [this]; decide, hp.below⟩
theorem zg8 (l : List Bl) (a : Option Addr) (c : Nat) (hl : l.length ≤ 600) (q r : Int) (hl8 : ∀ x ∈ l, InB x.p x.o) (hb : InB q r) (bc : Nat) (w : World) (ha : zD w a (l.flatMap blV)) (hbc : bc < w.heap.size) (hcc : zgO w bc q r) :
  Calls Tryz.prog 245 #[.slice a l.length c, .func (.func 251) #[] #[.pointer (some ⟨bc, 0, none⟩)]] w fun e w' => e = .returned (.bool (zan l q r)) ∧ Below w.heap.size w w' := by
 have hp := Hp.start w
 have K := z0j (zkP l a c hl q r hl8 hb bc w ha hbc hcc)
 clear ha hcc hl8
 go_enter Tryz.func245, Tryz.ntmps245
 go_wp2_with (go_at_call 263; refine K.out.mono ?_; rintro e w1 ⟨i, rfl, hi, hb⟩; replace hp := hp.call hb; have HI := z0j hi; clear hi hb)
 go_ret
 exact ⟨Ze HI.out, hp.below⟩
def zgR (l : List Bl) (v : Bl) (r : Int) : Prop := (r = -1 ∧ v ∉ l) ∨ ∃ j : Nat, r = j ∧ l[j]? = some v
def zkg (w : World) (l : List Bl) (v : Bl) (e : Ending) (w' : World) : Prop := ∃ r : Int, e = .returned (.int .i64 r) ∧ zgR l v r ∧ Below w.heap.size w w'
theorem zmO (l : List Bl) (a : Option Addr) (c : Nat) (hl : l.length ≤ 1000) (q r : Int) (w : World) (ha : zD w a (l.flatMap blV)) :
  Calls Tryz.prog 253 #[.slice a l.length c, .agg #[.int .i64 q, .int .i64 r]] w (zkg w l ⟨q, r⟩) := by
 have hp := Hp.start w
 have HA := z0j ha
 clear ha
 go_enter Tryz.func253, Tryz.ntmps253
 go_wp2_with (first | go_skip | ((first | ((refine zh _ rfl ?_); refine lZ hp rfl zu ?_; clear hp; intro b w1 hp) | ((refine zi _ _ rfl ?_); refine lB hp rfl (zb rfl) rfl ?_; clear hp; intro b w1 hp) | ((refine zg _ _ rfl ?_); first | refine lO hp rfl (zb rfl) zcx aa5 ?_ | refine lA hp rfl (zb rfl) zl aa5 ?_) | ((refine zf _ _ _ rfl ?_); (first | refine sO hp rfl (zb rfl) zcx aa5 ?_ | refine sA hp rfl (zb rfl) (zb rfl) zl aa5 ?_ | refine sG hp rfl (zb rfl) (zb rfl) zl aa5 ?_); clear hp; intro w1 hp; simp only [spl, z0a, z0b] at hp)); simp only [ze, zd, z0b, z0a]))
 obtain ⟨b1, rfl⟩ := hp.id0
 go_loopg [8] l.length (fun k i wr => ∃ j : Nat, k + j = l.length ∧ i = .int .i64 j ∧ Hid (∀ x ∈ l.take j, x ≠ ⟨q, r⟩) ∧ Hp w.heap.size w wr [⟨b1, [.int .i64 q, .int .i64 r], 124, 2⟩])
 case atStart => exact ⟨0, by omega, rfl, z0j (by simp), hp⟩
 case round =>
  clear hp
  obtain ⟨j, hkj, rfl, HG, hp⟩ := hrel
  by_cases hlt : j < l.length
  ·obtain ⟨bq, off, rfl, hx⟩ := HA.out.elems 2 Zk (by omega) (by omega)
   have hj := List.getElem?_eq_getElem hlt
   replace hx := hx j _ hj
   generalize l[j] = x at hx hj
   obtain ⟨p, o⟩ := x
   simp only [blV] at hx
   have HX := z0j hx
   have HJ := z0j hj
   clear hx hj
   have e1 : (0 : Int) ≤ (j : Int) := by omega
   have e2 : (j : Int) < (l.length : Int) := by omega
   by_cases hpq : q = p
   ·subst hpq
    by_cases hor : r = o
    ·subst hor
     go_wp2_with (first | go_skip | ((first | ((refine zh _ rfl ?_); refine lZ hp rfl zu ?_; clear hp; intro b w1 hp) | ((refine zi _ _ rfl ?_); refine lB hp rfl (zb rfl) rfl ?_; clear hp; intro b w1 hp) | ((refine zg _ _ rfl ?_); first | refine lO hp rfl (zb rfl) zcx aa5 ?_ | refine lA hp rfl (zb rfl) zl aa5 ?_ | refine lR hp rfl (zb rfl) zl HX.out ?_) | ((refine zf _ _ _ rfl ?_); (first | refine sO hp rfl (zb rfl) zcx aa5 ?_ | refine sA hp rfl (zb rfl) (zb rfl) zl aa5 ?_ | refine sG hp rfl (zb rfl) (zb rfl) zl aa5 ?_); clear hp; intro w1 hp; simp only [spl, z0a, z0b] at hp)); simp only [ze, zd, z0b, z0a]))
     refine zk _ (zA.all hp.drew) [] [(0, true), (1, true), (2, true), (3, true), (4, true), (5, true)] (by kernel_rfl) (by kernel_rfl) rfl (by kernel_rfl) (fun _ _ d _ _ h => by cases d <;> exact h) ?_
     replace hp := hp.drew
     repeat' (with_reducible refine zB ?_); first | (with_reducible refine zt ?_) | ((with_reducible refine zI ?_); refine zy rfl ?_; (first | ((with_reducible refine zV _ rfl ?_); refine tM rfl ?_) | ((with_reducible refine zS _ _ rfl ?_); first | refine tA rfl (zb rfl) zl aa5 ?_ | refine tR rfl (zb rfl) zl HX.out ?_) | refine tG (fun w _ => (by go_simp; try rfl)) ?_); try simp only [ze, zd, zn, zj, z0b, z0a, z0d, z0c, zr])
     go_wp2_with fail
     go_ret
     exact ⟨j, rfl, .inr ⟨j, rfl, HJ.out⟩, hp.below⟩
    ·have HOR := z0j hor
     have e3 : (r == o) = false := by simpa using hor
     clear hor
     go_wp2_with (first | go_skip | ((first | ((refine zh _ rfl ?_); refine lZ hp rfl zu ?_; clear hp; intro b w1 hp) | ((refine zi _ _ rfl ?_); refine lB hp rfl (zb rfl) rfl ?_; clear hp; intro b w1 hp) | ((refine zg _ _ rfl ?_); first | refine lO hp rfl (zb rfl) zcx aa5 ?_ | refine lA hp rfl (zb rfl) zl aa5 ?_ | refine lR hp rfl (zb rfl) zl HX.out ?_) | ((refine zf _ _ _ rfl ?_); (first | refine sO hp rfl (zb rfl) zcx aa5 ?_ | refine sA hp rfl (zb rfl) (zb rfl) zl aa5 ?_ | refine sG hp rfl (zb rfl) (zb rfl) zl aa5 ?_); clear hp; intro w1 hp; simp only [spl, z0a, z0b] at hp)); simp only [ze, zd, z0b, z0a]))
     refine zk _ (zA.all hp.drew) [] [(0, true), (1, true), (2, true), (3, true), (4, true), (5, true)] (by kernel_rfl) (by kernel_rfl) rfl (by kernel_rfl) (fun _ _ d _ _ h => by cases d <;> exact h) ?_
     replace hp := hp.drew
     repeat' (with_reducible refine zB ?_); first | (with_reducible refine zt ?_) | ((with_reducible refine zI ?_); refine zy rfl ?_; (first | ((with_reducible refine zV _ rfl ?_); refine tM rfl ?_) | ((with_reducible refine zS _ _ rfl ?_); first | refine tA rfl (zb rfl) zl aa5 ?_ | refine tR rfl (zb rfl) zl HX.out ?_) | refine tG (fun w _ => (by go_simp; try rfl)) ?_); try simp only [ze, zd, zn, zj, z0b, z0a, z0d, z0c, zr])
     go_wp2_with fail
     go_roundg (gk - 1)
     case measure => omega
     case rel =>
      refine ⟨j + 1, by omega, by go_num, z0j (fun x hx => ?_), hp⟩
      rw [List.take_add_one, HJ.out] at hx
      rcases List.mem_append.1 hx with hx | hx
      ·exact HG.out x hx
      ·simp at hx; subst hx; intro h; injection h with h1 h2; exact HOR.out h2.symm
   ·have HPQ := z0j hpq
    have e3 : (q == p) = false := by simpa using hpq
    clear hpq
    go_wp2_with (first | go_skip | ((first | ((refine zh _ rfl ?_); refine lZ hp rfl zu ?_; clear hp; intro b w1 hp) | ((refine zi _ _ rfl ?_); refine lB hp rfl (zb rfl) rfl ?_; clear hp; intro b w1 hp) | ((refine zg _ _ rfl ?_); first | refine lO hp rfl (zb rfl) zcx aa5 ?_ | refine lA hp rfl (zb rfl) zl aa5 ?_ | refine lR hp rfl (zb rfl) zl HX.out ?_) | ((refine zf _ _ _ rfl ?_); (first | refine sO hp rfl (zb rfl) zcx aa5 ?_ | refine sA hp rfl (zb rfl) (zb rfl) zl aa5 ?_ | refine sG hp rfl (zb rfl) (zb rfl) zl aa5 ?_); clear hp; intro w1 hp; simp only [spl, z0a, z0b] at hp)); simp only [ze, zd, z0b, z0a]))
    refine zk _ (zA.all hp.drew) [] [(0, true), (1, true), (2, true), (3, true), (4, true), (5, true)] (by kernel_rfl) (by kernel_rfl) rfl (by kernel_rfl) (fun _ _ d _ _ h => by cases d <;> exact h) ?_
    replace hp := hp.drew
    repeat' (with_reducible refine zB ?_); first | (with_reducible refine zt ?_) | ((with_reducible refine zI ?_); refine zy rfl ?_; (first | ((with_reducible refine zV _ rfl ?_); refine tM rfl ?_) | ((with_reducible refine zS _ _ rfl ?_); first | refine tA rfl (zb rfl) zl aa5 ?_ | refine tR rfl (zb rfl) zl HX.out ?_) | refine tG (fun w _ => (by go_simp; try rfl)) ?_); try simp only [ze, zd, zn, zj, z0b, z0a, z0d, z0c, zr])
    go_wp2_with fail
    go_roundg (gk - 1)
    case measure => omega
    case rel =>
     refine ⟨j + 1, by omega, by go_num, z0j (fun x hx => ?_), hp⟩
     rw [List.take_add_one, HJ.out] at hx
     rcases List.mem_append.1 hx with hx | hx
     ·exact HG.out x hx
     ·simp at hx; subst hx; intro h; injection h with h1 h2; exact HPQ.out h1.symm
  ·have e2 : decide ((j : Int) < (l.length : Int)) = false := by simp; omega
   go_wp2_with fail
   go_ret
   exact ⟨-1, rfl, .inl ⟨rfl, fun hm => HG.out _ (by rw [List.take_of_length_le (by omega)]; exact hm) rfl⟩, hp.below⟩
def zdW (l : List Bl) : Prop := l.Pairwise fun x y => x.p + pw x.o ≤ y.p
theorem zcv.disj {od : Int} {l : List Bl} (h : zcv od l) : zdW l := by
 unfold zdW
 rw [List.pairwise_iff_getElem]
 intro i j hi hj hij
 exact ((h j _ (List.getElem?_eq_getElem hj)).2 i _ hij (List.getElem?_eq_getElem hi)).1
theorem zdW.sorted {l : List Bl} (h : zdW l) : zgd l := by
 intro i j x y hij hx hy
 unfold zdW at h
 rw [List.pairwise_iff_getElem] at h
 obtain ⟨hi, rfl⟩ := List.getElem?_eq_some_iff.1 hx
 obtain ⟨hj, rfl⟩ := List.getElem?_eq_some_iff.1 hy
 have := h i j hi hj hij
 have := z7 l[i].o
 omega
theorem zdW.apart {l : List Bl} (h : zdW l) {x y : Bl} (hx : x ∈ l) (hy : y ∈ l) (hne : x ≠ y) : ¬ zaw x y := by
 obtain ⟨i, hi, rfl⟩ := List.getElem_of_mem hx
 obtain ⟨j, hj, rfl⟩ := List.getElem_of_mem hy
 unfold zdW at h
 rw [List.pairwise_iff_getElem] at h
 rintro ⟨m1, m2⟩
 rcases Nat.lt_trichotomy i j with hij | hij | hij
 ·have := h i j hi hj hij; omega
 ·subst hij; exact hne rfl
 ·have := h j i hj hi hij; omega
theorem zdW.sub {l k : List Bl} (h : zdW l) (hs : k.Sublist l) : zdW k := List.Pairwise.sublist hs h
def Zo (l : List Bl) (v : Bl) : List Bl := l.filter fun x => decide (x ≠ v)
theorem zaJ (l : List Bl) (v : Bl) : (Zo l v).Sublist l := List.filter_sublist
theorem zgd.nodup {l : List Bl} (h : zgd l) : l.Nodup := by
 unfold List.Nodup
 rw [List.pairwise_iff_getElem]
 intro i j hi hj hij he
 have := h i j _ _ hij (List.getElem?_eq_getElem hi) (List.getElem?_eq_getElem hj)
 rw [he] at this; omega
theorem zch {l : List Bl} {v : Bl} {j : Nat} (hn : l.Nodup) (hj : l[j]? = some v) : l.eraseIdx j = Zo l v := by
 induction l generalizing j with
 | nil => simp at hj
 | cons x l ih =>
  obtain ⟨h1, h2⟩ := List.nodup_cons.1 hn
  cases j with
  | zero =>
   simp at hj; subst hj
   rw [List.eraseIdx_cons_zero]
   unfold Zo
   rw [List.filter_cons_of_neg (by simp)]
   exact (List.filter_eq_self.2 (fun a ha => by simp; intro h; subst h; exact h1 ha)).symm
  | succ j =>
   rw [List.getElem?_cons_succ] at hj
   rw [List.eraseIdx_cons_succ, ih h2 hj]
   unfold Zo
   rw [List.filter_cons_of_pos (by simp; intro h; subst h; exact h1 (List.mem_of_getElem? hj))]
def zaP : List Bl → Bl → List Bl
 | [], b => [b]
 | x :: r, b => if b.p < x.p then b :: x :: r else x :: zaP r b
theorem zlD (l : List Bl) (b : Bl) : (zaP l b).length = l.length + 1 := by
 induction l with
 | nil => rfl
 | cons x r ih => unfold zaP; split <;> simp [ih]
theorem zas (l : List Bl) (b : Bl) : (zaP l b).Perm (b :: l) := by
 induction l with
 | nil => exact List.Perm.refl _
 | cons x r ih =>
  unfold zaP
  split
  ·exact List.Perm.refl _
  ·exact (ih.cons x).trans (List.Perm.swap _ _ _)
theorem zmF {l : List Bl} {b : Bl} {k : Nat} (hk : AtB l b.p k) (hne : ∀ y ∈ l, y.p ≠ b.p) : l.take k ++ b :: l.drop k = zaP l b := by
 induction l generalizing k with
 | nil =>
  have : k = 0 := by have := hk.1; simpa using this
  subst this; rfl
 | cons x r ih =>
  unfold zaP
  cases k with
  | zero =>
   have h1 := hk.2.2 0 x rfl (Nat.le_refl _)
   have h2 := hne x (by simp)
   rw [if_pos (by omega)]; rfl
  | succ k =>
   have h1 := hk.2.1 0 x rfl (by omega)
   rw [if_neg (by omega), List.take_succ_cons, List.drop_succ_cons, List.cons_append, ih (k := k) ⟨by have := hk.1; simpa using this, fun j y hj hjk => hk.2.1 (j + 1) y (by simpa using hj) (by omega), fun j y hj hjk => hk.2.2 (j + 1) y (by simpa using hj) (by omega)⟩ (fun y hy => hne y (by simp [hy]))]
def zaC (b : Bl) : Bl := ⟨min b.p (ZW b).p, b.o + 1⟩
def zcL (od : Int) : Nat → List Bl → Bl → List Bl × Bl
 | 0, l, b => (l, b)
 | n + 1, l, b => if b.o < od ∧ ZW b ∈ l then zcL od n (Zo l (ZW b)) (zaC b) else (l, b)
theorem zmY {o od : Int} (h0 : 0 ≤ o) (h1 : o ≤ od) (h8 : od ≤ 8) : pw od % pw o = 0 := by
 rcases zck h0 (by omega) with rfl | rfl | rfl | rfl | rfl | rfl | rfl | rfl | rfl <;>
 rcases zck (o := od) (by omega) h8 with rfl | rfl | rfl | rfl | rfl | rfl | rfl | rfl | rfl <;> first | decide | omega
theorem zc3 {od : Int} {b : Bl} (h : zcd od b) (h8 : od ≤ 8) (ho : b.o < od) : (ZW b = ⟨b.p + pw b.o, b.o⟩ ∧ b.p % (2 * pw b.o) = 0 ∧ b.p + 2 * pw b.o ≤ pw od) ∨ (ZW b = ⟨b.p - pw b.o, b.o⟩ ∧ 0 ≤ b.p - pw b.o ∧ (b.p - pw b.o) % (2 * pw b.o) = 0) := by
 obtain ⟨h1, h2, h3, h4, h5⟩ := h
 have hd := zmY (o := b.o + 1) (by omega) (by omega) h8
 rw [zbB h1] at hd
 generalize pw od = E at h4 hd ⊢
 obtain ⟨p, o⟩ := b
 simp only at *
 unfold ZW
 simp only
 by_cases hc : p % (2 * pw o) = 0
 ·left
  rw [if_pos hc]
  refine ⟨rfl, hc, ?_⟩
  rcases zck h1 (by omega) with rfl | rfl | rfl | rfl | rfl | rfl | rfl | rfl | rfl
  all_goals
   simp only [pw, Int.reduceToNat, Int.reducePow, Int.reduceMul] at h4 h5 hd hc ⊢
   omega
 ·right
  rw [if_neg hc]
  refine ⟨rfl, ?_, ?_⟩
  all_goals
   rcases zck h1 (by omega) with rfl | rfl | rfl | rfl | rfl | rfl | rfl | rfl | rfl
   all_goals
    simp only [pw, Int.reduceToNat, Int.reducePow, Int.reduceMul] at h4 h5 hd hc ⊢
    omega
theorem zk2 {od : Int} {b : Bl} (h : zcd od b) (h8 : od ≤ 8) (ho : b.o < od) : zcd od (zaC b) := by
 have hp := z7 b.o
 have hs := zbB h.1
 unfold zaC zcd
 simp only
 rw [hs]
 rcases zc3 h h8 ho with ⟨ht, h1, h2⟩ | ⟨ht, h1, h2⟩
 ·rw [ht]; simp only
  rw [show min b.p (b.p + pw b.o) = b.p by omega]
  exact ⟨by have := h.1; omega, by omega, h.2.2.1, by omega, h1⟩
 ·rw [ht]; simp only
  rw [show min b.p (b.p - pw b.o) = b.p - pw b.o by omega]
  have := h.end_le
  exact ⟨by have := h.1; omega, by omega, h1, by omega, h2⟩
theorem zio {od : Int} {b x : Bl} (h : zcd od b) (h8 : od ≤ 8) (ho : b.o < od) (hm : zaw x (zaC b)) : zaw x b ∨ zaw x (ZW b) := by
 have hp := z7 b.o
 have hs := zbB h.1
 have hx := z7 x.o
 obtain ⟨m1, m2⟩ := hm
 unfold zaC at m1 m2
 simp only at m1 m2
 rw [hs] at m1
 unfold zaw
 rcases zc3 h h8 ho with ⟨ht, h1, h2⟩ | ⟨ht, h1, h2⟩
 ·rw [ht] at m1 m2 ⊢; simp only at m1 m2 ⊢; omega
 ·rw [ht] at m1 m2 ⊢; simp only at m1 m2 ⊢; omega
structure zda (od : Int) (l : List Bl) (b : Bl) : Prop where
 disj : zdW l
 may : zcd od b
 free : ∀ x ∈ l, ¬ zaw x b
theorem zda.step {od : Int} {l : List Bl} {b : Bl} (h : zda od l b) (h8 : od ≤ 8) (ho : b.o < od) (hm : ZW b ∈ l) : zda od (Zo l (ZW b)) (zaC b) := by
 refine ⟨h.disj.sub (zaJ _ _), zk2 h.may h8 ho, fun x hx hmm => ?_⟩
 obtain ⟨h1, h2⟩ := List.mem_filter.1 hx
 rcases zio h.may h8 ho hmm with h3 | h3
 ·exact h.free x h1 h3
 ·exact h.disj.apart h1 hm (by simpa using h2) h3
theorem zda.ne {od : Int} {l : List Bl} {b : Bl} (h : zda od l b) : ∀ y ∈ l, y.p ≠ b.p := fun y hy he => h.free y hy ⟨by have := z7 b.o; omega, by have := z7 y.o; omega⟩
theorem zi1 {od : Int} {n : Nat} {l : List Bl} {b : Bl} (h1 : b.o < od) (h2 : ZW b ∈ l) : zcL od (n + 1) l b = zcL od n (Zo l (ZW b)) (zaC b) := by rw [zcL, if_pos ⟨h1, h2⟩]
theorem zgr {od : Int} {n : Nat} {l : List Bl} {b : Bl} (h : ¬ (b.o < od ∧ ZW b ∈ l)) : zcL od n l b = (l, b) := by
 cases n with
 | zero => rfl
 | succ n => rw [zcL, if_neg h]
def zal (od : Int) (fs : List Bl) (b : Bl) : List Bl := zaP (zcL od (od - b.o).toNat fs b).1 (zcL od (od - b.o).toNat fs b).2
open Go.RowKit
theorem zgE : (Tryz.prog.info? 124).map (·.size) = some 2 := by kernel_rfl
def zhJ (c : Nat) (xs news : List Value) (i : Nat) : List Value := xs.take (i * c) ++ (news ++ xs.drop (i * c))
def zgb (B : Nat) (w0 : World) (n : Nat) (xs : List Value) (M : List Blk) (e : Ending) (w' : World) : Prop := ∃ v' R', e = .returned v' ∧ zH 124 2 v' n xs R' ∧ Hp B w0 w' (R' ++ M)
theorem zjP (n : Nat) (hn : n ≤ 1000) (xs : List Value) (v : Value) {B : Nat} {w0 w : World} {R M : List Blk} (news : List Value) (hnl : news.length = 2) (hn1 : news.all (·.oneCell') = true) (bv : Nat) (ev : TypeId) (mv : Nat) (hR : zH 124 2 v n xs R) (hp : Hp B w0 w (⟨bv, news, ev, mv⟩ :: (R ++ M))) :
  Calls Tryz.prog 212 #[v, .int .i64 n, .slice (some ⟨bv, 0, none⟩) 1 1] w (zgb B w0 (n + 1) (zhJ 2 xs news n) M) := by
 obtain ⟨i0, hi0, hz0, hz1, hz2⟩ := info_parts za6
 have HNL : Hid (news.length = 1 * 2) := z0j (by rw [hnl])
 have HN1 := z0j hn1
 have HR := z0j hR
 have hxl := hR.1
 have HI : Hid (zhJ 2 xs news n = xs ++ news) := z0j (by unfold zhJ; rw [List.take_of_length_le (by omega), List.drop_eq_nil_of_le (by omega), List.append_nil])
 have sm1 : n + 1 ≤ maxLen := by unfold maxLen; omega
 have sm2 : (n + 1) * 16 ≤ 140737488355328 := by omega
 rcases hR with ⟨_, ⟨h0, hv, hx, hr⟩ | ⟨g, cap, hv, hnc, hcm, hr⟩⟩
 ·subst h0 hv hx hr
  clear hnl hn1 hxl
  go_enter Tryz.func212, Tryz.ntmps212
  go_wp2_with (first | ((refine zM _ _ 45 rfl ?_); refine zG (K := []) hp _ _ _ rfl wy i0 _ 16 Tryz.underlying45 hi0 hz0 hz1 hz2 rfl (by decide) (zb rfl) HR.out 1 1 (zb rfl) HNL.out (by decide) HN1.out sm1 sm2 ?_; clear hp; intro v' R' w1 hR' hp; have HR' := z0j hR'; clear hR'; simp only [ze, zd, z0b, z0a]) | go_skip)
  go_ret
  exact ⟨v', R', rfl, by rw [HI.out]; exact HR'.out, hp⟩
 ·subst hv hr
  clear hnl hn1 hxl
  go_enter Tryz.func212, Tryz.ntmps212
  go_wp2_with (first | ((refine zM _ _ 45 rfl ?_); refine zG (K := []) hp _ _ _ rfl wy i0 _ 16 Tryz.underlying45 hi0 hz0 hz1 hz2 rfl (by decide) (zb rfl) HR.out 1 1 (zb rfl) HNL.out (by decide) HN1.out sm1 sm2 ?_; clear hp; intro v' R' w1 hR' hp; have HR' := z0j hR'; clear hR'; simp only [ze, zd, z0b, z0a]) | go_skip)
  all_goals
   go_ret
   exact ⟨v', R', rfl, by rw [HI.out]; exact HR'.out, hp⟩
theorem zkR (n i : Nat) (hi : i ≤ n) (xs news : List Value) (hx : xs.length = n * 2) (hn : news.length = 1 * 2) : (zhJ 2 xs news i).length = (n + 1) * 2 := by
 unfold zhJ; rw [List.length_append, List.length_append, List.length_take, List.length_drop]; omega
theorem Hp.sub2 {B : Nat} {w0 w : World} {L : List Blk} {p q r : Blk} (hp : Hp B w0 w (p :: q :: r :: L)) : Hp B w0 w ([p] ++ L) := by
 have hs : List.Sublist (p :: L) (p :: q :: r :: L) := List.Sublist.cons_cons p ((List.sublist_cons_self r L).trans (List.sublist_cons_self q _))
 exact ⟨hp.below, hp.size, (hs.map _).nodup hp.nodup, fun x hx => hp.own x (hs.subset hx)⟩
theorem zpo (i : Nat) (xs zs news : List Value) (h : (xs.take (i * 2)).length = i * 2) : (xs.take (i * 2) ++ zs).take (i * 2) ++ (news ++ (xs.take (i * 2) ++ zs).drop (i * 2 + 1 * 2)) = xs.take (i * 2) ++ (news ++ zs.drop 2) := by
 generalize xs.take (i * 2) = ys at h ⊢
 rw [List.take_append_of_le_length (by omega), List.take_of_length_le (by omega), List.drop_append, List.drop_eq_nil_of_le (by omega), List.nil_append, h]
 congr 3; omega
theorem zpp (n i : Nat) (hi : i < n) (xs zs news : List Value) (hx : xs.length = n * 2) (hz : zs.length = (n + 1 - i) * 2) (hn : news.length = 1 * 2) :
  (xs.take (i * 2) ++ (news ++ zs.drop 2)).take ((i + 1) * 2) ++ (xs.drop (i * 2) ++ (xs.take (i * 2) ++ (news ++ zs.drop 2)).drop ((i + 1) * 2 + (n - i) * 2)) = zhJ 2 xs news i := by
 have h : (xs.take (i * 2)).length = i * 2 := by rw [List.length_take]; omega
 unfold zhJ
 generalize xs.take (i * 2) = ys at h ⊢
 have hl : (ys ++ (news ++ zs.drop 2)).length ≤ (i + 1) * 2 + (n - i) * 2 := by rw [List.length_append, List.length_append, List.length_drop]; omega
 rw [List.drop_eq_nil_of_le hl, List.append_nil, ← List.append_assoc, ← List.append_assoc, List.take_append_of_le_length (by rw [List.length_append]; omega), List.take_of_length_le (by rw [List.length_append]; omega)]
theorem zih (n i : Nat) (hn : n ≤ 1000) (hi : i < n) (xs : List Value) (hxl : xs.length = n * 2) (g cap : Nat) (hnc : n ≤ cap) (hcap : cap < n + 1) {B : Nat} {w0 w : World} {M : List Blk} (news : List Value) (hnl : news.length = 2) (hn1 : news.all (·.oneCell') = true) (hx1 : xs.all (·.oneCell') = true) (bv : Nat) (ev : TypeId) (mv : Nat) (hp : Hp B w0 w (⟨bv, news, ev, mv⟩ :: ⟨g, xs, 124, cap * 2⟩ :: M)) :
  Calls Tryz.prog 212 #[.slice (some ⟨g, 0, none⟩) n cap, .int .i64 i, .slice (some ⟨bv, 0, none⟩) 1 1] w (zgb B w0 (n + 1) (zhJ 2 xs news i) M) := by
 obtain ⟨i0, hi0, hz0, hz1, hz2⟩ := info_parts za6
 have HNL : Hid (news.length = 1 * 2) := z0j (by rw [hnl])
 have HN1 := z0j hn1
 have HX1 := z0j hx1
 have HTL : Hid ((xs.take (i * 2)).length = i * 2) := z0j (by rw [List.length_take]; omega)
 have HTK : Hid (∀ (j : Nat) u, (xs.take (i * 2))[j]? = some u → xs[j]? = some u) := z0j (fun j u hj => by
  rw [List.getElem?_take] at hj
  split at hj
  ·exact hj
  ·cases hj)
 have HKZ : Hid (((n : Int) + 1 - (i : Int)) = ((n + 1 - i : Nat) : Int)) := z0j (by omega)
 have HSUM : Hid (i + (n + 1 - i) = n + 1) := z0j (by omega)
 have HMIN : Hid (Nat.min 1 (n + 1 - i) = 1) := z0j (Nat.min_eq_left (by omega))
 have k0 : 0 < n + 1 - i := by omega
 have kg : cap < i + (n + 1 - i) := by omega
 have k63 : i + (n + 1 - i) ≤ maxLen := by unfold maxLen; omega
 have kby : (i + (n + 1 - i)) * 16 ≤ 100000000 := by omega
 have f1 : (0 : Int) ≤ (i : Int) := by omega
 have f2 : (i : Int) ≤ (n : Int) := by omega
 have f3 : (i : Int) ≤ (cap : Int) := by omega
 have f4 : ((i : Int) == (n : Int)) = false := by simp; omega
 have f5 : (cap : Int) < (n : Int) + 1 := by omega
 have f6 : ¬ (cap = i) := by omega
 have HXL := z0j hxl
 have HIL := z0j (zkR n i (by omega) xs news hxl (by rw [hnl]))
 clear hnl hn1 hx1 hxl
 go_enter Tryz.func212, Tryz.ntmps212
 go_wp2_with (first | (at_builtin; refine zbT hp _ _ 124 _ _ rfl wy Tryz.underlying45 .i64 Tryz.underlying3 i0 _ hi0 hz0 2 16 hz1 hz2 rfl (by decide) g i cap (zb rfl) (xs.take (i * 2)) HTL.out (fun j u hj => hp.cell at1 (HTK.out j u hj)) _ (n + 1 - i) HKZ.out (zb rfl) k0 kg k63 kby ?_; clear hp; intro g2 cap2 w1 hc2 hcm2 hp; rw [HSUM.out] at hc2 ⊢; generalize hzs : (Builtin.zeroCells _ (n + 1 - i)).toList = zs at hp; have HZL := z0j (show zs.length = (n + 1 - i) * 2 by rw [← hzs, Array.length_toList, size_zeroCells]; rfl); clear hzs; have f7 : ¬ (cap2 = i) := (by omega); have f8 : ¬ (cap2 = i + 1) := (by omega); have f9 : (i : Int) ≤ (cap2 : Int) := (by omega); have HFIT : Hid (i * 2 + 1 * 2 ≤ (xs.take (i * 2) ++ zs).length) := z0j (by rw [List.length_append, HTL.out, HZL.out]; omega); simp only [ze, zd, z0b, z0a]) | ((refine zbN _ _ _ _ rfl ?_); refine Z2 hp _ _ 124 _ _ rfl wy Tryz.underlying45 2 zgE g2 (i * 2) (n + 1 - i) (cap2 - i) (zb rfl) bv 0 1 1 (zb rfl) 0 _ _ at0 1 HMIN.out news HNL.out HFIT.out (fun j u hj => hp.cell at1 (by rw [Nat.zero_add]; exact hj)) HN1.out ?_; clear hp; intro v2 w1 hp; simp only [z0a] at hp; simp only [ze, zd, z0b, z0a]) | go_skip)
 have HL1 : Hid ((xs.take (i * 2) ++ zs).take (i * 2) ++ (news ++ (xs.take (i * 2) ++ zs).drop (i * 2 + 1 * 2)) = xs.take (i * 2) ++ (news ++ zs.drop 2)) := z0j (zpo i xs zs news HTL.out)
 rw [HL1.out] at hp
 have HMIN2 : Hid (Nat.min (n - i) (n - i) = n - i) := z0j (Nat.min_self _)
 have HDL : Hid ((xs.drop (i * 2)).length = (n - i) * 2) := z0j (by rw [List.length_drop, HXL.out]; omega)
 have HFIT2 : Hid ((i + 1) * 2 + (n - i) * 2 ≤ (xs.take (i * 2) ++ (news ++ zs.drop 2)).length) := z0j (by rw [List.length_append, List.length_append, List.length_drop, HTL.out, HNL.out, HZL.out]; omega)
 have HD1 : Hid ((xs.drop (i * 2)).all (·.oneCell') = true) := z0j (by rw [List.all_eq_true]; intro u hu; exact List.all_eq_true.1 HX1.out u (List.mem_of_mem_drop hu))
 have HDK : Hid (∀ (j : Nat) u, (xs.drop (i * 2))[j]? = some u → xs[i * 2 + j]? = some u) := z0j (fun j u hj => by rw [List.getElem?_drop] at hj; exact hj)
 have HW1 : Hid (wrap64 ((i : Int) + 1) = (i : Int) + 1) := z0j (by unfold wrap64; omega)
 have f10 : ((i : Int) + 1).toNat = i + 1 := by omega
 have f11 : (0 : Int) ≤ (i : Int) + 1 := by omega
 have f12 : (i : Int) + 1 ≤ (n : Int) + 1 := by omega
 refine zk _ (zA.all hp.drew) [8] [(0, true), (1, true), (2, true), (3, true), (4, true), (5, true), (6, true), (7, true), (8, false)] (by kernel_rfl) (by kernel_rfl) rfl (by kernel_rfl) (fun _ _ d _ _ h => by cases d <;> exact h) ?_
 replace hp := hp.drew
 repeat' (with_reducible refine zB ?_); first | (with_reducible refine zt ?_) | ((with_reducible refine zI ?_); refine zy rfl ?_; (first | ((with_reducible refine zV _ rfl ?_); refine tM rfl ?_) | refine tG (fun w _ => (by go_simp; try rfl)) ?_); try simp only [ze, zd, zn, zj, z0b, z0a, z0d, z0c, zr, HW1.out]) | (refine zF rfl (fun K hK => ?_); go_wp2_with (((refine zbN _ _ _ _ rfl ?_); refine Z2 hp _ _ 124 _ _ rfl wy Tryz.underlying45 2 zgE g2 ((i + 1) * 2) (n - i) (cap2 - (i + 1)) (zb rfl) g (i * 2) (n - i) (cap - i) (zb rfl) 0 _ _ at0 (n - i) HMIN2.out (xs.drop (i * 2)) HDL.out HFIT2.out (fun j u hj => hp.cell at2 (HDK.out j u hj)) HD1.out ?_; clear hp; intro v2 w1 hp; simp only [z0a] at hp; simp only [ze, zd, z0b, z0a])); (first | refine hK.out _ _ (.inl rfl) ?_ | refine hK.out _ _ (.inr (zd2 hp)) ?_); clear hK K; try simp only [ze, zd, zn, zj, z0b, z0a, z0d, z0c, zr, HW1.out])
 go_wp2_with fail
 go_ret
 refine ⟨_, [⟨g2, zhJ 2 xs news i, 124, cap2 * 2⟩], rfl, ⟨HIL.out, .inr ⟨g2, cap2, rfl, hc2, hcm2, rfl⟩⟩, ?_⟩
 rw [zpp n i hi xs zs news HXL.out HZL.out HNL.out] at hp
 exact hp.sub2
theorem znK {B : Nat} {w0 w : World} {L : List Blk} {bv g ev mv nv cap od : Nat} {news l : List Value} {eg : TypeId} (hp : Hp B w0 w (⟨bv, news, ev, mv⟩ :: ⟨g, l, eg, nv⟩ :: L)) (hnv : nv ≠ 0) (lb cb : Nat) :
  (callFunc 237 #[.slice (some ⟨bv, 0, none⟩) 1 1, .slice (some ⟨g, od, none⟩) lb cb]).run Tryz.prog w = .ok (.value (.bool false)) w := by
 have hne : bv ≠ g := by
  have := hp.nodup
  simp only [List.map_cons, List.nodup_cons, List.mem_cons] at this
  exact fun h => this.1 (.inl h)
 rw [run_callFunc_extern Tryz.func237 (by kernel_rfl) (by kernel_rfl) (by kernel_rfl) (e := Extern.SlicesOverlaps.overlaps #[45, 45] #[4]) (by kernel_rfl),
  Lib.run_overlaps_apart w 45 4 124 Tryz.underlying45 2 (fun w => (zaW zl w).2) ⟨bv, 0, none⟩ ⟨g, od, none⟩ 1 1 lb cb hne ev eg mv nv (hp.shape at0) (hp.shape at1) hnv (hp.free at0 0) (hp.free at0 mv)]
 rfl
theorem zpq (n i : Nat) (hi : i < n) (xs l2 : List Value) (hx : xs.length = n * 2) (h2 : l2.length = 2) :
  (xs ++ l2).take ((i + 1) * 2) ++ (xs.drop (i * 2) ++ (xs ++ l2).drop ((i + 1) * 2 + (n - i) * 2)) = xs.take ((i + 1) * 2) ++ xs.drop (i * 2) := by
 generalize xs.drop (i * 2) = ds
 rw [List.take_append_of_le_length (by omega), List.drop_eq_nil_of_le (by rw [List.length_append]; omega), List.append_nil]
theorem zpr (n i : Nat) (hi : i < n) (xs news : List Value) (hx : xs.length = n * 2) :
  (xs.take ((i + 1) * 2) ++ xs.drop (i * 2)).take (i * 2) ++ (news ++ (xs.take ((i + 1) * 2) ++ xs.drop (i * 2)).drop (i * 2 + 1 * 2)) = zhJ 2 xs news i := by
 unfold zhJ
 rw [List.take_append_of_le_length (by rw [List.length_take]; omega), List.take_take, Nat.min_eq_left (by omega), List.drop_append, List.drop_eq_nil_of_le (by rw [List.length_take]; omega), List.nil_append, List.length_take, Nat.min_eq_left (by omega), show i * 2 + 1 * 2 - (i + 1) * 2 = 0 by omega, List.drop_zero]
theorem zii (n i : Nat) (hn : n ≤ 1000) (hi : i < n) (xs : List Value) (hxl : xs.length = n * 2) (g cap : Nat) (hcm : cap ≤ maxLen) (hcap : n + 1 ≤ cap) {B : Nat} {w0 w : World} {M : List Blk} (news : List Value) (hnl : news.length = 2) (hn1 : news.all (·.oneCell') = true) (hx1 : xs.all (·.oneCell') = true) (bv : Nat) (ev : TypeId) (mv : Nat) (hp : Hp B w0 w (⟨bv, news, ev, mv⟩ :: ⟨g, xs, 124, cap * 2⟩ :: M)) :
  Calls Tryz.prog 212 #[.slice (some ⟨g, 0, none⟩) n cap, .int .i64 i, .slice (some ⟨bv, 0, none⟩) 1 1] w (zgb B w0 (n + 1) (zhJ 2 xs news i) M) := by
 obtain ⟨l2, hl2, hp2⟩ := (hp.reorder (List.Perm.swap _ _ _)).more 2 (by omega)
 replace hp := hp2.reorder (List.Perm.swap _ _ _)
 clear hp2
 have HNL : Hid (news.length = 1 * 2) := z0j (by rw [hnl])
 have HN1 := z0j hn1
 have HMIN : Hid (Nat.min 1 (n + 1 - i) = 1) := z0j (Nat.min_eq_left (by omega))
 have HMIN3 : Hid (Nat.min (n + 1 - i) (n - i) = n - i) := z0j (Nat.min_eq_right (by omega))
 have HDL : Hid ((xs.drop (i * 2)).length = (n - i) * 2) := z0j (by rw [List.length_drop, hxl]; omega)
 have HD1 : Hid ((xs.drop (i * 2)).all (·.oneCell') = true) := z0j (by rw [List.all_eq_true]; intro u hu; exact List.all_eq_true.1 hx1 u (List.mem_of_mem_drop hu))
 have HDK : Hid (∀ (j : Nat) u, (xs.drop (i * 2))[j]? = some u → (xs ++ l2)[i * 2 + j]? = some u) := z0j (fun j u hj => by
  rw [List.getElem?_drop] at hj
  rw [List.getElem?_append_left (List.getElem?_eq_some_iff.1 hj).1]; exact hj)
 have HFIT3 : Hid ((i + 1) * 2 + (n - i) * 2 ≤ (xs ++ l2).length) := z0j (by rw [List.length_append, hxl, hl2]; omega)
 have HFIT4 : Hid (i * 2 + 1 * 2 ≤ (xs.take ((i + 1) * 2) ++ xs.drop (i * 2)).length) := z0j (by rw [List.length_append, List.length_take, List.length_drop, hxl]; omega)
 have HC := z0j (zpq n i hi xs l2 hxl hl2)
 have HDD := z0j (zpr n i hi xs news hxl)
 have HIL := z0j (zkR n i (by omega) xs news hxl (by rw [hnl]))
 have hov : ∀ od lb cb, (callFunc 237 #[.slice (some ⟨bv, 0, none⟩) 1 1, .slice (some ⟨g, od, none⟩) lb cb]).run Tryz.prog w = .ok (.value (.bool false)) w := fun od lb cb => znK (od := od) (cap := 0) hp (by omega) lb cb
 have f1 : (0 : Int) ≤ (i : Int) := by omega
 have f2 : (i : Int) ≤ (n : Int) := by omega
 have f3 : (i : Int) ≤ (cap : Int) := by omega
 have f4 : ((i : Int) == (n : Int)) = false := by simp; omega
 have f5 : decide ((cap : Int) < (n : Int) + 1) = false := by simp; omega
 have f6 : ¬ (cap = i) := by omega
 have f7 : ¬ (cap = i + 1) := by omega
 have HW1 : Hid (wrap64 ((i : Int) + 1) = (i : Int) + 1) := z0j (by unfold wrap64; omega)
 have f10 : ((i : Int) + 1).toNat = i + 1 := by omega
 have f11 : (0 : Int) ≤ (i : Int) + 1 := by omega
 have f12 : (i : Int) + 1 ≤ (n : Int) + 1 := by omega
 have f13 : (n : Int) + 1 ≤ (cap : Int) := by omega
 have f14 : (0 : Int) ≤ (n : Int) + 1 := by omega
 have f15 : ((n : Int) + 1).toNat = n + 1 := by omega
 have f16 : (i : Int) ≤ (n : Int) + 1 := by omega
 clear hnl hn1 hx1 hxl hl2
 go_enter Tryz.func212, Tryz.ntmps212
 go_wp2_with (first | (simp only [hov]; done) | go_skip)
 refine zk _ (zA.all hp.drew) [8] [(0, true), (1, true), (2, true), (3, true), (4, true), (5, true), (6, true), (7, true), (8, false)] (by kernel_rfl) (by kernel_rfl) rfl (by kernel_rfl) (fun _ _ d _ _ h => by cases d <;> exact h) ?_
 replace hp := hp.drew
 repeat' (with_reducible refine zB ?_); first | (with_reducible refine zt ?_) | ((with_reducible refine zI ?_); refine zy rfl ?_; (first | ((with_reducible refine zV _ rfl ?_); refine tM rfl ?_) | refine tG (fun w _ => (by go_simp; try rfl)) ?_); try simp only [ze, zd, zn, zj, z0b, z0a, z0d, z0c, zr, HW1.out]) | (refine zF rfl (fun K hK => ?_); go_wp2_with (((refine zbN _ _ _ _ rfl ?_); refine Z2 hp _ _ 124 _ _ rfl wy Tryz.underlying45 2 zgE g ((i + 1) * 2) (n - i) (cap - (i + 1)) (zb rfl) g (i * 2) (n + 1 - i) (cap - i) (zb rfl) 1 _ _ at1 (n - i) HMIN3.out (xs.drop (i * 2)) HDL.out HFIT3.out (fun j u hj => hp.cell at1 (HDK.out j u hj)) HD1.out ?_; clear hp; intro v2 w1 hp; simp only [z0b, z0a] at hp; simp only [ze, zd, z0b, z0a])); (first | refine hK.out _ _ (.inl rfl) ?_ | refine hK.out _ _ (.inr (zd2 hp)) ?_); clear hK K; try simp only [ze, zd, zn, zj, z0b, z0a, z0d, z0c, zr, HW1.out])
 rw [HC.out] at hp
 go_wp2_with (first | ((refine zbN _ _ _ _ rfl ?_); refine Z2 hp _ _ 124 _ _ rfl wy Tryz.underlying45 2 zgE g (i * 2) (n + 1 - i) (cap - i) (zb rfl) bv 0 1 1 (zb rfl) 1 _ _ at1 1 HMIN.out news HNL.out HFIT4.out (fun j u hj => hp.cell at0 (by rw [Nat.zero_add]; exact hj)) HN1.out ?_; clear hp; intro v3 w1 hp; simp only [z0b, z0a] at hp; simp only [ze, zd, z0b, z0a]) | go_skip)
 rw [HDD.out] at hp
 go_ret
 refine ⟨_, [⟨g, zhJ 2 xs news i, 124, cap * 2⟩], rfl, ⟨HIL.out, .inr ⟨g, cap, rfl, by omega, hcm, rfl⟩⟩, hp.tail⟩
theorem zmQ (n i : Nat) (hn : n ≤ 1000) (hi : i ≤ n) (xs : List Value) (v : Value) {B : Nat} {w0 w : World} {R M : List Blk} (news : List Value) (hnl : news.length = 2) (hn1 : news.all (·.oneCell') = true) (hx1 : xs.all (·.oneCell') = true) (bv : Nat) (ev : TypeId) (mv : Nat) (hR : zH 124 2 v n xs R) (hp : Hp B w0 w (⟨bv, news, ev, mv⟩ :: (R ++ M))) :
  Calls Tryz.prog 212 #[v, .int .i64 i, .slice (some ⟨bv, 0, none⟩) 1 1] w (zgb B w0 (n + 1) (zhJ 2 xs news i) M) := by
 rcases Nat.eq_or_lt_of_le hi with h | h
 ·subst h
  exact zjP i hn xs v news hnl hn1 bv ev mv hR hp
 ·obtain ⟨hxl, ⟨h0, _⟩ | ⟨g, cap, hv, hnc, hcm, hr⟩⟩ := hR
  ·omega
  ·subst hv hr
   rcases Nat.lt_or_ge cap (n + 1) with h2 | h2
   ·exact zih n i hn h xs hxl g cap hnc h2 news hnl hn1 hx1 bv ev mv hp
   ·exact zii n i hn h xs hxl g cap hcm h2 news hnl hn1 hx1 bv ev mv hp
open Go.RowKit Go.Lib
theorem zo6 (w : World) : (zeroValue 124).run Tryz.prog w = .ok (.agg #[.int .i64 0, .int .i64 0]) w := by kernel_rfl
theorem zo4 : (Builtin.zeroCells (Value.agg #[.int .i64 0, .int .i64 0]).cells 1).toList = [.int .i64 0, .int .i64 0] := by kernel_rfl
theorem zD.part {B : Nat} {w0 w : World} {g t n j : Nat} {xs : List Value} {M : List Blk} (hp : Hp B w0 w (⟨g, xs, t, n⟩ :: M)) : zD w (some ⟨g, j, none⟩) (xs.drop j) := fun q v hq => ⟨g, j, rfl, hp.cell at0 (by rw [List.getElem?_drop] at hq; exact hq)⟩
def zpF (B : Nat) (w0 : World) (g m cap : Nat) (xs : List Value) (M : List Blk) (e : Ending) (w' : World) : Prop := e = .returned (.slice (some ⟨g, 0, none⟩) m cap) ∧ Hp B w0 w' (⟨g, xs, 124, cap * 2⟩ :: M)
theorem zor {B : Nat} {w0 w : World} {g cap : Nat} {l : List Bl} {M : List Blk} (hp : Hp B w0 w (⟨g, l.flatMap blV, 124, cap * 2⟩ :: M)) (hl : l.length ≤ 1000) (hcap : l.length ≤ cap) {i j m n : Nat} (hj : j = i + 1) (hn : n = l.length) (hm : n = m + 1) (hi : i < n) :
  Calls Tryz.prog 254 #[.slice (some ⟨g, 0, none⟩) n cap, .int .i64 i, .int .i64 j] w (zpF B w0 g m cap ((l.eraseIdx i).flatMap blV) M) := by
 obtain ⟨i0, hi0, hz0, hz1, hz2⟩ := info_parts za6
 have hxl := zaI l
 have hx1 := zeg l
 have HER : Hid ((l.flatMap blV).take (i * 2) ++ (l.flatMap blV).drop (j * 2) = (l.eraseIdx i).flatMap blV) := z0j (by
  rw [zb4 2 Zk, hj, List.eraseIdx_eq_take_drop_succ, List.flatMap_append]
  congr 1
  have h := zb4 2 Zk l i
  have h2 : l.flatMap blV = (l.take i).flatMap blV ++ (l.drop i).flatMap blV := by rw [← List.flatMap_append, List.take_append_drop]
  have h3 : ((l.take i).flatMap blV).length = i * 2 := by rw [zaI, List.length_take, Nat.min_eq_left (by omega)]
  rw [h2, ← h3, List.take_left])
 generalize l.flatMap blV = xs at hp hxl hx1 HER
 rw [← hn] at hxl hcap hl
 clear hn
 have HYL : Hid ((xs.drop (j * 2)).length = (n - j) * 2) := z0j (by rw [List.length_drop, hxl]; omega)
 have HY1 : Hid ((xs.drop (j * 2)).all (·.oneCell') = true) := z0j (by rw [List.all_eq_true]; intro u hu; exact List.all_eq_true.1 hx1 u (List.mem_of_mem_drop hu))
 have HFI : Hid (i + (n - j) ≤ cap) := z0j (by omega)
 have HLE : Hid ((i + (n - j)) * 2 ≤ xs.length) := z0j (by rw [hxl]; omega)
 have HSUM : Hid (i + (n - j) = m) := z0j (by omega)
 have HSPL : Hid (spl xs (i * 2) (xs.drop (j * 2)) = (xs.take (i * 2) ++ xs.drop (j * 2)) ++ xs.drop (i * 2 + (xs.drop (j * 2)).length)) := z0j (by
  rw [zgF _ _ _ (by rw [List.length_drop, hxl]; omega), List.append_assoc])
 have HOFF : Hid (m * 2 = (xs.take (i * 2) ++ xs.drop (j * 2)).length) := z0j (by rw [List.length_append, List.length_take, List.length_drop, hxl]; omega)
 have HFC : Hid ((xs.take (i * 2) ++ xs.drop (j * 2)).length + 2 ≤ cap * 2) := z0j (by rw [← HOFF.out]; omega)
 have HNM : Hid (n - m = 1) := z0j (by omega)
 have f1 : (0 : Int) ≤ (i : Int) := by omega
 have f2 : (i : Int) ≤ (j : Int) := by omega
 have f3 : (j : Int) ≤ (n : Int) := by omega
 have f4 : (n : Int) ≤ (cap : Int) := by omega
 have f5 : ((i : Int) == (j : Int)) = false := by simp; omega
 have f5' : (i == j) = false := by simp; omega
 have f6 : (i : Int) ≤ (cap : Int) := by omega
 have f7 : (0 : Int) ≤ (j : Int) := by omega
 have f8 : (m : Int) ≤ (n : Int) := by omega
 have f9 : ¬ (cap = m) := by omega
 have f10 : (0 : Int) ≤ (m : Int) := by omega
 have f11 : ¬ (cap = i) := by omega
 have f12 : ¬ (n = i) := by omega
 by_cases hcj : j = cap
 ·subst hcj
  have HNL : Hid (∀ w a, zD w a (xs.drop (j * 2))) := z0j (fun w a => by rw [List.drop_eq_nil_of_le (by omega)]; exact zD.nil _ _)
  clear hxl hx1 hm hj hi hl hcap
  go_enter Tryz.func254, Tryz.ntmps254
  go_wp2_with fail
  refine zk [] (zA.zero hp.drew) [] [(0, true), (1, true), (2, true), (3, true), (4, true), (5, true), (6, false), (7, false)] (by kernel_rfl) (by kernel_rfl) rfl (by kernel_rfl) (fun _ _ d _ _ h => by cases d <;> exact h) ?_
  replace hp := hp.drew
  repeat' (with_reducible refine zB ?_); first | (with_reducible refine zt ?_) | ((with_reducible refine zI ?_); refine zy rfl ?_; (first | ((with_reducible refine zV _ rfl ?_); refine tM rfl ?_) | refine tG (fun w _ => (by go_simp; try rfl)) ?_); try simp only [ze, zd, zn, zj, z0b, z0a, z0d, z0c, zr]) | (refine zF rfl (fun K hK => ?_); go_wp2_with (first | ((refine zM _ _ 45 rfl ?_); first | (refine zaH hp _ _ _ rfl wy Tryz.underlying45 i0 hi0 hz1 (by decide) (zb rfl) _ (n - j) _ (zb rfl) (xs.drop (j * 2)) HYL.out (by first | exact zD.part hp | exact HNL.out _ _) HY1.out HFI.out HLE.out ?_); clear hp; intro w1 hp; rw [HSPL.out] at hp; replace hp := hp.less; rw [HSUM.out]; simp only [ze, zd, z0b, z0a])); (refine hK.out _ _ (.inr (zA.zero hp)) ?_); clear hK K; try simp only [ze, zd, zn, zj, z0b, z0a, z0d, z0c, zr])
  go_wp2_with (first | ((refine zdM _ _ rfl ?_); refine zaY hp _ _ rfl wy Tryz.underlying45 _ zo6 _ _ (zb rfl) HNM.out _ zo4 rfl rfl HOFF.out HFC.out ?_; clear hp; intro v1 w1 hp; simp only [ze, zd, z0b, z0a]))
  go_ret
  exact ⟨rfl, by rw [← HER.out]; exact hp⟩
 ·have f13 : ¬ (cap = j) := fun h => hcj h.symm
  have HNL : Hid True := z0j trivial
  clear hxl hx1 hm hj hi hl hcap
  go_enter Tryz.func254, Tryz.ntmps254
  go_wp2_with fail
  refine zk [] (zA.zero hp.drew) [] [(0, true), (1, true), (2, true), (3, true), (4, true), (5, true), (6, false), (7, false)] (by kernel_rfl) (by kernel_rfl) rfl (by kernel_rfl) (fun _ _ d _ _ h => by cases d <;> exact h) ?_
  replace hp := hp.drew
  repeat' (with_reducible refine zB ?_); first | (with_reducible refine zt ?_) | ((with_reducible refine zI ?_); refine zy rfl ?_; (first | ((with_reducible refine zV _ rfl ?_); refine tM rfl ?_) | refine tG (fun w _ => (by go_simp; try rfl)) ?_); try simp only [ze, zd, zn, zj, z0b, z0a, z0d, z0c, zr]) | (refine zF rfl (fun K hK => ?_); go_wp2_with (first | ((refine zM _ _ 45 rfl ?_); first | (refine zaH hp _ _ _ rfl wy Tryz.underlying45 i0 hi0 hz1 (by decide) (zb rfl) _ (n - j) _ (zb rfl) (xs.drop (j * 2)) HYL.out (by first | exact zD.part hp | exact HNL.out _ _) HY1.out HFI.out HLE.out ?_); clear hp; intro w1 hp; rw [HSPL.out] at hp; replace hp := hp.less; rw [HSUM.out]; simp only [ze, zd, z0b, z0a])); (refine hK.out _ _ (.inr (zA.zero hp)) ?_); clear hK K; try simp only [ze, zd, zn, zj, z0b, z0a, z0d, z0c, zr])
  go_wp2_with (first | ((refine zdM _ _ rfl ?_); refine zaY hp _ _ rfl wy Tryz.underlying45 _ zo6 _ _ (zb rfl) HNM.out _ zo4 rfl rfl HOFF.out HFC.out ?_; clear hp; intro v1 w1 hp; simp only [ze, zd, z0b, z0a]))
  go_ret
  exact ⟨rfl, by rw [← HER.out]; exact hp⟩
end Go.Proofs.YtaafajaadfgaoaaGreat
