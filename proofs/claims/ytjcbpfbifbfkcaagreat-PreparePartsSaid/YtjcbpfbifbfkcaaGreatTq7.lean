import Derived.Test.YtjcbpfbifbfkcaaGreatTq1
import Derived.Test.YtjcbpfbifbfkcaaGreatTq0
import Derived.Test.YtjcbpfbifbfkcaaGreatTq5
import Derived.Test.YtjcbpfbifbfkcaaGreatTq2
set_option linter.unusedSimpArgs false
set_option linter.unusedVariables false
set_option maxRecDepth 100000
set_option maxHeartbeats 60000000
namespace Go.Proofs.YtjcbpfbifbfkcaaGreat
open Go.RowKit
theorem ztV {ty : TypeId} (h : zF Tryz.prog ty = true := by with_reducible first | exact zm | exact Zt | exact Za) : zF Tryz.prog ty = true := h
theorem zrt (p o q r : Int) (h0 : 0 ≤ p) (h1 : p ≤ 256) (h2 : 0 ≤ q) (h3 : q ≤ 256) (g4 : 0 ≤ o) (h4 : o ≤ 8) (g5 : 0 ≤ r) (h5 : r ≤ 8) (w : World) :
  Calls Tryz.prog 265 #[.agg #[.int .i64 p, .int .i64 o], .agg #[.int .i64 q, .int .i64 r]] w fun e w' => e = .returned (.bool (zeo p o q r)) ∧ Below w.heap.size w w' := by
 have hp := Hp.start w
 have W9 := z0j (ztG p o q r h0 h1 h2 h3 h4 h5)
 go_enter Tryz.func265, Tryz.ntmps265
 go_wp2_with (first | go_skip | ((first | ((refine zi _ _ rfl ?_); refine lB hp rfl (za rfl) rfl ?_; clear hp; intro b w1 hp) | ((refine ze _ _ rfl ?_); refine lO hp rfl (za rfl) zm aa5 ?_)); simp only [zc, zb, z0b, z0a]))
 refine zh _ (zv.all hp.drew) [] [(0, true), (1, true), (2, true), (3, true), (4, true), (5, true), (6, false), (7, true), (8, true), (9, true), (10, true), (11, true), (12, true), (13, true), (14, true), (15, true), (16, false), (17, true), (18, true), (19, true), (20, false)] (by kernel_rfl) (by kernel_rfl) rfl (by kernel_rfl) (fun _ _ d _ _ h => by cases d <;> exact h) ?_
 replace hp := hp.drew
 obtain ⟨w1, w2, W⟩ := W9.out
 rcases W with ⟨d1, r⟩ | ⟨d1, r⟩
 all_goals have R := z0j r
 all_goals clear r W9
 all_goals
  repeat' (with_reducible refine zx ?_); first | (with_reducible refine zq ?_) | ((with_reducible refine zE ?_); refine zu rfl ?_; (first | ((with_reducible refine zev _ _ rfl ?_); refine tS (by first | exact Z6 rfl rfl rfl rfl | exact Z7 rfl rfl rfl rfl) ?_) | ((with_reducible refine zT _ rfl ?_); refine tM rfl ?_) | ((with_reducible refine zW _ _ rfl ?_); refine tO rfl (za rfl) zm aa5 ?_) | refine tG (fun w _ => (by go_simp; try rfl)) ?_); try simp only [zc, zb, zj, zg, z0b, z0a, z0d, z0c, zl]) | (refine zC rfl (fun K hK => ?_); go_wp2_with (first | (go_at_call 142; (with_reducible refine (ZR _ (by assumption) (by assumption) _).mono ?_); rintro e w' ⟨rfl, rfl⟩) | go_skip); (refine hK.out _ _ (.inr (zgJ hp)) ?_); clear hK K; try simp only [zc, zb, zj, zg, z0b, z0a, z0d, z0c, zl])
 all_goals (go_wp2_with fail; go_ret; exact ⟨Zk (by rw [R.out]; try rfl), hp.below⟩)
def zhB (w : World) (b : Nat) (q r : Int) : Prop := ∀ (j : Nat) v, [Value.int .i64 q, .int .i64 r][j]? = some v → w.cell? ⟨b, 0 + j, none⟩ = some v
theorem zhB.below {w w' : World} {b : Nat} {q r : Int} (h : zhB w b q r) (hb : b < w.heap.size) (hw : Below w.heap.size w w') : zhB w' b q r := fun j v hj => (hw.cell (p := ⟨b, 0 + j, none⟩) hb).trans (h j v hj)
def zbh (l : List Bl) (q r : Int) : Bool := l.any fun x => zeo x.p x.o q r
theorem zlp {l : List Bl} {q r : Int} {j : Nat} {x : Bl} (h : l[j]? = some x) : zbh (l.take (j + 1)) q r = (zbh (l.take j) q r || zeo x.p x.o q r) := by
 unfold zbh
 rw [List.take_add_one, h]
 simp [List.any_append]
theorem zlV {l : List Bl} {q r : Int} {j : Nat} {x : Bl} (h : l[j]? = some x) (hw : zeo x.p x.o q r = true) : zbh l q r = true := by
 unfold zbh
 exact List.any_eq_true.2 ⟨x, List.mem_of_getElem? h, hw⟩
def InB (p o : Int) : Prop := 0 ≤ p ∧ p ≤ 256 ∧ 0 ≤ o ∧ o ≤ 8
theorem zjP (p o q r : Int) (hx : InB p o) (hb : InB q r) (b : Nat) (w : World) (hbw : b < w.heap.size) (hc : zhB w b q r) :
  Calls Tryz.prog 264 #[.agg #[.int .i64 p, .int .i64 o], .pointer (some ⟨b, 0, none⟩)] w fun e w' => e = .returned (.bool (zeo p o q r)) ∧ Below w.heap.size w w' := by
 have hp := Hp.start w
 have HX := z0j hc
 unfold zhB at HX
 obtain ⟨x1, x2, x3, x4⟩ := hx
 obtain ⟨y1, y2, y3, y4⟩ := hb
 clear hc
 go_enter Tryz.func264, Tryz.ntmps264
 go_wp2_with (first | (go_at_call 265; (with_reducible refine (zrt _ _ _ _ x1 x2 y1 y2 x3 x4 y3 y4 _).mono ?_); rintro e w1 ⟨rfl, hb1⟩; replace hp := hp.call hb1; clear hb1) | go_skip | ((first | ((refine zi _ _ rfl ?_); refine lB hp rfl (za rfl) rfl ?_; clear hp; intro b w1 hp) | ((refine ze _ _ rfl ?_); first | refine lA hp rfl (za rfl) zw aa5 ?_ | refine lR hp rfl (za rfl) zw HX.out ?_)); simp only [zc, zb, z0b, z0a]))
 go_ret
 exact ⟨rfl, hp.below⟩
theorem zmt (l : List Bl) (a : Option Addr) (c : Nat) (hl : l.length ≤ 600) (q r : Int) (hl8 : ∀ x ∈ l, InB x.p x.o) (hb : InB q r) (bc : Nat) (w : World) (ha : zr w a (l.flatMap blV)) (hbc : bc < w.heap.size) (hcc : zhB w bc q r) :
  Calls Tryz.prog 278 #[.slice a l.length c, .func (.func 264) #[] #[.pointer (some ⟨bc, 0, none⟩)]] w (zl0 w (zbh l q r)) := by
 have hp := Hp.start w
 have HA := z0j ha
 have HC := z0j hcc
 have HIN := z0j hl8
 clear ha hcc hl8
 go_enter Tryz.func278, Tryz.ntmps278
 go_wp2_with (first | go_skip | (((refine ze _ _ rfl ?_); refine lA hp rfl (za rfl) zw aa5 ?_); simp only [zc, zb, z0b, z0a]))
 go_loopg [8] l.length (fun k i wr => ∃ j : Nat, k + j = l.length ∧ i = .int .i64 j ∧ Hid (zbh (l.take j) q r = false) ∧ Hp w.heap.size w wr [])
 case atStart => exact ⟨0, by omega, rfl, z0j (by simp [zbh]), hp⟩
 case round =>
  clear hp
  obtain ⟨j, hkj, rfl, HG, hp⟩ := hrel
  by_cases hlt : j < l.length
  ·obtain ⟨bq, off, rfl, hx⟩ := HA.out.elems 2 Zp (by omega) (by omega)
   have hj := List.getElem?_eq_getElem hlt
   replace hx := hx j _ hj
   have hin := HIN.out _ (List.getElem_mem hlt)
   generalize l[j] = x at hx hj hin
   obtain ⟨p, o⟩ := x
   simp only [blV] at hx
   simp only at hin
   have HX := z0j hx
   have HJ := z0j hj
   clear hx hj
   have e1 : (0 : Int) ≤ (j : Int) := by omega
   have e2 : (j : Int) < (l.length : Int) := by omega
   cases hm : zeo p o q r
   ·have HM := z0j hm
    clear hm
    go_wp2_with (first | (go_at_call 264; (with_reducible refine (zjP _ _ q r hin hb bc _ (Nat.lt_of_lt_of_le hbc hp.below.size) (HC.out.below hbc hp.below)).mono ?_); rintro e w1 ⟨rfl, hb1⟩; replace hp := hp.call hb1; clear hb1; rw [HM.out]) | go_skip | (((refine ze _ _ rfl ?_); first | refine lA hp rfl (za rfl) zw aa5 ?_ | refine lR hp rfl (za rfl) zw HX.out ?_); simp only [zc, zb, z0b, z0a]))
    go_roundg (gk - 1)
    case measure => omega
    case rel => exact ⟨j + 1, by omega, by go_num, z0j (by rw [zlp HJ.out, HG.out, HM.out]; rfl), hp⟩
   ·have HM := z0j hm
    clear hm
    go_wp2_with (first | (go_at_call 264; (with_reducible refine (zjP _ _ q r hin hb bc _ (Nat.lt_of_lt_of_le hbc hp.below.size) (HC.out.below hbc hp.below)).mono ?_); rintro e w1 ⟨rfl, hb1⟩; replace hp := hp.call hb1; clear hb1; rw [HM.out]) | go_skip | (((refine ze _ _ rfl ?_); first | refine lA hp rfl (za rfl) zw aa5 ?_ | refine lR hp rfl (za rfl) zw HX.out ?_); simp only [zc, zb, z0b, z0a]))
    go_ret
    exact ⟨j, rfl, by rw [zlV HJ.out HM.out]; simp, hp.below⟩
  ·have e2 : decide ((j : Int) < (l.length : Int)) = false := by simp; omega
   go_wp2_with fail
   go_ret
   exact ⟨-1, rfl, by have := HG.out; rw [List.take_of_length_le (by omega)] at this; rw [this]; decide, hp.below⟩
theorem zhO (l : List Bl) (a : Option Addr) (c : Nat) (hl : l.length ≤ 600) (q r : Int) (hl8 : ∀ x ∈ l, InB x.p x.o) (hb : InB q r) (bc : Nat) (w : World) (ha : zr w a (l.flatMap blV)) (hbc : bc < w.heap.size) (hcc : zhB w bc q r) :
  Calls Tryz.prog 258 #[.slice a l.length c, .func (.func 264) #[] #[.pointer (some ⟨bc, 0, none⟩)]] w fun e w' => e = .returned (.bool (zbh l q r)) ∧ Below w.heap.size w w' := by
 have hp := Hp.start w
 have K := z0j (zmt l a c hl q r hl8 hb bc w ha hbc hcc)
 clear ha hcc hl8
 go_enter Tryz.func258, Tryz.ntmps258
 go_wp2_with (go_at_call 278; refine K.out.mono ?_; rintro e w1 ⟨i, rfl, hi, hb⟩; replace hp := hp.call hb; have HI := z0j hi; clear hi hb)
 go_ret
 exact ⟨Zk HI.out, hp.below⟩
def zik (l : List Bl) (v : Bl) (r : Int) : Prop := (r = -1 ∧ v ∉ l) ∨ ∃ j : Nat, r = j ∧ l[j]? = some v
def zmr (w : World) (l : List Bl) (v : Bl) (e : Ending) (w' : World) : Prop := ∃ r : Int, e = .returned (.int .i64 r) ∧ zik l v r ∧ Below w.heap.size w w'
theorem zpT (l : List Bl) (a : Option Addr) (c : Nat) (hl : l.length ≤ 1000) (q r : Int) (w : World) (ha : zr w a (l.flatMap blV)) :
  Calls Tryz.prog 266 #[.slice a l.length c, .agg #[.int .i64 q, .int .i64 r]] w (zmr w l ⟨q, r⟩) := by
 have hp := Hp.start w
 have HA := z0j ha
 clear ha
 go_enter Tryz.func266, Tryz.ntmps266
 go_wp2_with (first | go_skip | ((first | ((refine zi _ _ rfl ?_); refine lB hp rfl (za rfl) rfl ?_; clear hp; intro b w1 hp) | ((refine ze _ _ rfl ?_); refine lA hp rfl (za rfl) zw aa5 ?_)); simp only [zc, zb, z0b, z0a]))
 obtain ⟨b1, rfl⟩ := hp.id0
 go_loopg [8] l.length (fun k i wr => ∃ j : Nat, k + j = l.length ∧ i = .int .i64 j ∧ Hid (∀ x ∈ l.take j, x ≠ ⟨q, r⟩) ∧ Hp w.heap.size w wr [⟨b1, [.int .i64 q, .int .i64 r], 146, 2⟩])
 case atStart => exact ⟨0, by omega, rfl, z0j (by simp), hp⟩
 case round =>
  clear hp
  obtain ⟨j, hkj, rfl, HG, hp⟩ := hrel
  by_cases hlt : j < l.length
  ·obtain ⟨bq, off, rfl, hx⟩ := HA.out.elems 2 Zp (by omega) (by omega)
   have hj := List.getElem?_eq_getElem hlt
   replace hx := hx j _ hj
   generalize l[j] = x at hx hj
   obtain ⟨p, o⟩ := x
   simp only [blV] at hx
   have HX := z0j hx
   have HJ := z0j hj
   clear hx hj
   have e1 : (0 : Int) ≤ (j : Int) := by omega
   have e2 : (j : Int) < (l.length : Int) := by omega
   by_cases hpq : q = p
   ·subst hpq
    by_cases hor : r = o
    ·subst hor
     go_wp2_with (first | go_skip | ((first | ((refine zi _ _ rfl ?_); refine lB hp rfl (za rfl) rfl ?_; clear hp; intro b w1 hp) | ((refine ze _ _ rfl ?_); first | refine lA hp rfl (za rfl) zw aa5 ?_ | refine lR hp rfl (za rfl) zw HX.out ?_)); simp only [zc, zb, z0b, z0a]))
     refine zh _ (zv.all hp.drew) [] [(0, true), (1, true), (2, true), (3, true), (4, true), (5, true)] (by kernel_rfl) (by kernel_rfl) rfl (by kernel_rfl) (fun _ _ d _ _ h => by cases d <;> exact h) ?_
     replace hp := hp.drew
     repeat' (with_reducible refine zx ?_); first | (with_reducible refine zq ?_) | ((with_reducible refine zE ?_); refine zu rfl ?_; (first | ((with_reducible refine zT _ rfl ?_); refine tM rfl ?_) | ((with_reducible refine zW _ _ rfl ?_); first | refine tA rfl (za rfl) zw aa5 ?_ | refine tR rfl (za rfl) zw HX.out ?_) | refine tG (fun w _ => (by go_simp; try rfl)) ?_); try simp only [zc, zb, zj, zg, z0b, z0a, z0d, z0c, zl])
     go_wp2_with fail
     go_ret
     exact ⟨j, rfl, .inr ⟨j, rfl, HJ.out⟩, hp.below⟩
    ·have HOR := z0j hor
     have e3 : (r == o) = false := by simpa using hor
     clear hor
     go_wp2_with (first | go_skip | ((first | ((refine zi _ _ rfl ?_); refine lB hp rfl (za rfl) rfl ?_; clear hp; intro b w1 hp) | ((refine ze _ _ rfl ?_); first | refine lA hp rfl (za rfl) zw aa5 ?_ | refine lR hp rfl (za rfl) zw HX.out ?_)); simp only [zc, zb, z0b, z0a]))
     refine zh _ (zv.all hp.drew) [] [(0, true), (1, true), (2, true), (3, true), (4, true), (5, true)] (by kernel_rfl) (by kernel_rfl) rfl (by kernel_rfl) (fun _ _ d _ _ h => by cases d <;> exact h) ?_
     replace hp := hp.drew
     repeat' (with_reducible refine zx ?_); first | (with_reducible refine zq ?_) | ((with_reducible refine zE ?_); refine zu rfl ?_; (first | ((with_reducible refine zT _ rfl ?_); refine tM rfl ?_) | ((with_reducible refine zW _ _ rfl ?_); first | refine tA rfl (za rfl) zw aa5 ?_ | refine tR rfl (za rfl) zw HX.out ?_) | refine tG (fun w _ => (by go_simp; try rfl)) ?_); try simp only [zc, zb, zj, zg, z0b, z0a, z0d, z0c, zl])
     go_wp2_with fail
     go_roundg (gk - 1)
     case measure => omega
     case rel =>
      refine ⟨j + 1, by omega, by go_num, z0j (fun x hx => ?_), hp⟩
      rw [List.take_add_one, HJ.out] at hx
      rcases List.mem_append.1 hx with hx | hx
      ·exact HG.out x hx
      ·simp at hx; subst hx; intro h; injection h with h1 h2; exact HOR.out h2.symm
   ·have HPQ := z0j hpq
    have e3 : (q == p) = false := by simpa using hpq
    clear hpq
    go_wp2_with (first | go_skip | ((first | ((refine zi _ _ rfl ?_); refine lB hp rfl (za rfl) rfl ?_; clear hp; intro b w1 hp) | ((refine ze _ _ rfl ?_); first | refine lA hp rfl (za rfl) zw aa5 ?_ | refine lR hp rfl (za rfl) zw HX.out ?_)); simp only [zc, zb, z0b, z0a]))
    refine zh _ (zv.all hp.drew) [] [(0, true), (1, true), (2, true), (3, true), (4, true), (5, true)] (by kernel_rfl) (by kernel_rfl) rfl (by kernel_rfl) (fun _ _ d _ _ h => by cases d <;> exact h) ?_
    replace hp := hp.drew
    repeat' (with_reducible refine zx ?_); first | (with_reducible refine zq ?_) | ((with_reducible refine zE ?_); refine zu rfl ?_; (first | ((with_reducible refine zT _ rfl ?_); refine tM rfl ?_) | ((with_reducible refine zW _ _ rfl ?_); first | refine tA rfl (za rfl) zw aa5 ?_ | refine tR rfl (za rfl) zw HX.out ?_) | refine tG (fun w _ => (by go_simp; try rfl)) ?_); try simp only [zc, zb, zj, zg, z0b, z0a, z0d, z0c, zl])
    go_wp2_with fail
    go_roundg (gk - 1)
    case measure => omega
    case rel =>
     refine ⟨j + 1, by omega, by go_num, z0j (fun x hx => ?_), hp⟩
     rw [List.take_add_one, HJ.out] at hx
     rcases List.mem_append.1 hx with hx | hx
     ·exact HG.out x hx
     ·simp at hx; subst hx; intro h; injection h with h1 h2; exact HPQ.out h1.symm
  ·have e2 : decide ((j : Int) < (l.length : Int)) = false := by simp; omega
   go_wp2_with fail
   go_ret
   exact ⟨-1, rfl, .inl ⟨rfl, fun hm => HG.out _ (by rw [List.take_of_length_le (by omega)]; exact hm) rfl⟩, hp.below⟩
def zeg (l : List Bl) : Prop := l.Pairwise fun x y => x.p + pw x.o ≤ y.p
theorem zcZ.disj {od : Int} {l : List Bl} (h : zcZ od l) : zeg l := by
 unfold zeg
 rw [List.pairwise_iff_getElem]
 intro i j hi hj hij
 exact ((h j _ (List.getElem?_eq_getElem hj)).2 i _ hij (List.getElem?_eq_getElem hi)).1
theorem zeg.sorted {l : List Bl} (h : zeg l) : zhd l := by
 intro i j x y hij hx hy
 unfold zeg at h
 rw [List.pairwise_iff_getElem] at h
 obtain ⟨hi, rfl⟩ := List.getElem?_eq_some_iff.1 hx
 obtain ⟨hj, rfl⟩ := List.getElem?_eq_some_iff.1 hy
 have := h i j hi hj hij
 have := zV l[i].o
 omega
theorem zeg.apart {l : List Bl} (h : zeg l) {x y : Bl} (hx : x ∈ l) (hy : y ∈ l) (hne : x ≠ y) : ¬ zbf x y := by
 obtain ⟨i, hi, rfl⟩ := List.getElem_of_mem hx
 obtain ⟨j, hj, rfl⟩ := List.getElem_of_mem hy
 unfold zeg at h
 rw [List.pairwise_iff_getElem] at h
 rintro ⟨m1, m2⟩
 rcases Nat.lt_trichotomy i j with hij | hij | hij
 ·have := h i j hi hj hij; omega
 ·subst hij; exact hne rfl
 ·have := h j i hj hi hij; omega
theorem zeg.sub {l k : List Bl} (h : zeg l) (hs : k.Sublist l) : zeg k := List.Pairwise.sublist hs h
def zaQ (l : List Bl) (v : Bl) : List Bl := l.filter fun x => decide (x ≠ v)
theorem zbB (l : List Bl) (v : Bl) : (zaQ l v).Sublist l := List.filter_sublist
theorem zhd.nodup {l : List Bl} (h : zhd l) : l.Nodup := by
 unfold List.Nodup
 rw [List.pairwise_iff_getElem]
 intro i j hi hj hij he
 have := h i j _ _ hij (List.getElem?_eq_getElem hi) (List.getElem?_eq_getElem hj)
 rw [he] at this; omega
theorem zd5 {l : List Bl} {v : Bl} {j : Nat} (hn : l.Nodup) (hj : l[j]? = some v) : l.eraseIdx j = zaQ l v := by
 induction l generalizing j with
 | nil => simp at hj
 | cons x l ih =>
  obtain ⟨h1, h2⟩ := List.nodup_cons.1 hn
  cases j with
  | zero =>
   simp at hj; subst hj
   rw [List.eraseIdx_cons_zero]
   unfold zaQ
   rw [List.filter_cons_of_neg (by simp)]
   exact (List.filter_eq_self.2 (fun a ha => by simp; intro h; subst h; exact h1 ha)).symm
  | succ j =>
   rw [List.getElem?_cons_succ] at hj
   rw [List.eraseIdx_cons_succ, ih h2 hj]
   unfold zaQ
   rw [List.filter_cons_of_pos (by simp; intro h; subst h; exact h1 (List.mem_of_getElem? hj))]
def zdv : List Bl → Bl → List Bl
 | [], b => [b]
 | x :: r, b => if b.p < x.p then b :: x :: r else x :: zdv r b
theorem zap (l : List Bl) (b : Bl) : (zdv l b).Perm (b :: l) := by
 induction l with
 | nil => exact List.Perm.refl _
 | cons x r ih =>
  unfold zdv
  split
  ·exact List.Perm.refl _
  ·exact (ih.cons x).trans (List.Perm.swap _ _ _)
theorem znY {l : List Bl} {b : Bl} {k : Nat} (hk : AtB l b.p k) (hne : ∀ y ∈ l, y.p ≠ b.p) : l.take k ++ b :: l.drop k = zdv l b := by
 induction l generalizing k with
 | nil =>
  have : k = 0 := by have := hk.1; simpa using this
  subst this; rfl
 | cons x r ih =>
  unfold zdv
  cases k with
  | zero =>
   have h1 := hk.2.2 0 x rfl (Nat.le_refl _)
   have h2 := hne x (by simp)
   rw [if_pos (by omega)]; rfl
  | succ k =>
   have h1 := hk.2.1 0 x rfl (by omega)
   rw [if_neg (by omega), List.take_succ_cons, List.drop_succ_cons, List.cons_append, ih (k := k) ⟨by have := hk.1; simpa using this, fun j y hj hjk => hk.2.1 (j + 1) y (by simpa using hj) (by omega), fun j y hj hjk => hk.2.2 (j + 1) y (by simpa using hj) (by omega)⟩ (fun y hy => hne y (by simp [hy]))]
def zau (b : Bl) : Bl := ⟨min b.p (Z2 b).p, b.o + 1⟩
def zcQ (od : Int) : Nat → List Bl → Bl → List Bl × Bl
 | 0, l, b => (l, b)
 | n + 1, l, b => if b.o < od ∧ Z2 b ∈ l then zcQ od n (zaQ l (Z2 b)) (zau b) else (l, b)
theorem zp0 {o od : Int} (h0 : 0 ≤ o) (h1 : o ≤ od) (h8 : od ≤ 8) : pw od % pw o = 0 := by
 rcases zcq h0 (by omega) with rfl | rfl | rfl | rfl | rfl | rfl | rfl | rfl | rfl <;>
 rcases zcq (o := od) (by omega) h8 with rfl | rfl | rfl | rfl | rfl | rfl | rfl | rfl | rfl <;> first | decide | omega
theorem zcg {od : Int} {b : Bl} (h : zcm od b) (h8 : od ≤ 8) (ho : b.o < od) : (Z2 b = ⟨b.p + pw b.o, b.o⟩ ∧ b.p % (2 * pw b.o) = 0 ∧ b.p + 2 * pw b.o ≤ pw od) ∨ (Z2 b = ⟨b.p - pw b.o, b.o⟩ ∧ 0 ≤ b.p - pw b.o ∧ (b.p - pw b.o) % (2 * pw b.o) = 0) := by
 obtain ⟨h1, h2, h3, h4, h5⟩ := h
 have hd := zp0 (o := b.o + 1) (by omega) (by omega) h8
 rw [zbk h1] at hd
 generalize pw od = E at h4 hd ⊢
 obtain ⟨p, o⟩ := b
 simp only at *
 unfold Z2
 simp only
 by_cases hc : p % (2 * pw o) = 0
 ·left
  rw [if_pos hc]
  refine ⟨rfl, hc, ?_⟩
  rcases zcq h1 (by omega) with rfl | rfl | rfl | rfl | rfl | rfl | rfl | rfl | rfl
  all_goals
   simp only [pw, Int.reduceToNat, Int.reducePow, Int.reduceMul] at h4 h5 hd hc ⊢
   omega
 ·right
  rw [if_neg hc]
  refine ⟨rfl, ?_, ?_⟩
  all_goals
   rcases zcq h1 (by omega) with rfl | rfl | rfl | rfl | rfl | rfl | rfl | rfl | rfl
   all_goals
    simp only [pw, Int.reduceToNat, Int.reducePow, Int.reduceMul] at h4 h5 hd hc ⊢
    omega
theorem zh6 {od : Int} {b : Bl} (h : zcm od b) (h8 : od ≤ 8) (ho : b.o < od) : zcm od (zau b) := by
 have hp := zV b.o
 have hs := zbk h.1
 unfold zau zcm
 simp only
 rw [hs]
 rcases zcg h h8 ho with ⟨ht, h1, h2⟩ | ⟨ht, h1, h2⟩
 ·rw [ht]; simp only
  rw [show min b.p (b.p + pw b.o) = b.p by omega]
  exact ⟨by have := h.1; omega, by omega, h.2.2.1, by omega, h1⟩
 ·rw [ht]; simp only
  rw [show min b.p (b.p - pw b.o) = b.p - pw b.o by omega]
  have := h.end_le
  exact ⟨by have := h.1; omega, by omega, h1, by omega, h2⟩
theorem zjG {od : Int} {b x : Bl} (h : zcm od b) (h8 : od ≤ 8) (ho : b.o < od) (hm : zbf x (zau b)) : zbf x b ∨ zbf x (Z2 b) := by
 have hp := zV b.o
 have hs := zbk h.1
 have hx := zV x.o
 obtain ⟨m1, m2⟩ := hm
 unfold zau at m1 m2
 simp only at m1 m2
 rw [hs] at m1
 unfold zbf
 rcases zcg h h8 ho with ⟨ht, h1, h2⟩ | ⟨ht, h1, h2⟩
 ·rw [ht] at m1 m2 ⊢; simp only at m1 m2 ⊢; omega
 ·rw [ht] at m1 m2 ⊢; simp only at m1 m2 ⊢; omega
structure zdl (od : Int) (l : List Bl) (b : Bl) : Prop where
 disj : zeg l
 may : zcm od b
 free : ∀ x ∈ l, ¬ zbf x b
theorem zdl.step {od : Int} {l : List Bl} {b : Bl} (h : zdl od l b) (h8 : od ≤ 8) (ho : b.o < od) (hm : Z2 b ∈ l) : zdl od (zaQ l (Z2 b)) (zau b) := by
 refine ⟨h.disj.sub (zbB _ _), zh6 h.may h8 ho, fun x hx hmm => ?_⟩
 obtain ⟨h1, h2⟩ := List.mem_filter.1 hx
 rcases zjG h.may h8 ho hmm with h3 | h3
 ·exact h.free x h1 h3
 ·exact h.disj.apart h1 hm (by simpa using h2) h3
theorem zdl.ne {od : Int} {l : List Bl} {b : Bl} (h : zdl od l b) : ∀ y ∈ l, y.p ≠ b.p := fun y hy he => h.free y hy ⟨by have := zV b.o; omega, by have := zV y.o; omega⟩
theorem zkC {od : Int} {n : Nat} {l : List Bl} {b : Bl} (h1 : b.o < od) (h2 : Z2 b ∈ l) : zcQ od (n + 1) l b = zcQ od n (zaQ l (Z2 b)) (zau b) := by rw [zcQ, if_pos ⟨h1, h2⟩]
theorem zjO {od : Int} {n : Nat} {l : List Bl} {b : Bl} (h : ¬ (b.o < od ∧ Z2 b ∈ l)) : zcQ od n l b = (l, b) := by
 cases n with
 | zero => rfl
 | succ n => rw [zcQ, if_neg h]
def zaG (od : Int) (fs : List Bl) (b : Bl) : List Bl := zdv (zcQ od (od - b.o).toNat fs b).1 (zcQ od (od - b.o).toNat fs b).2
open Go.RowKit
theorem zcN : (Tryz.prog.info? 146).map (·.size) = some 2 := by kernel_rfl
def ziF (c : Nat) (xs news : List Value) (i : Nat) : List Value := xs.take (i * c) ++ (news ++ xs.drop (i * c))
def zgE (B : Nat) (w0 : World) (n : Nat) (xs : List Value) (M : List Blk) (e : Ending) (w' : World) : Prop := ∃ v' R', e = .returned v' ∧ zB 146 2 v' n xs R' ∧ Hp B w0 w' (R' ++ M)
theorem zkW (n : Nat) (hn : n ≤ 1000) (xs : List Value) (v : Value) {B : Nat} {w0 w : World} {R M : List Blk} (news : List Value) (hnl : news.length = 2) (hn1 : news.all (·.oneCell') = true) (bv : Nat) (ev : TypeId) (mv : Nat) (hR : zB 146 2 v n xs R) (hp : Hp B w0 w (⟨bv, news, ev, mv⟩ :: (R ++ M))) :
  Calls Tryz.prog 247 #[v, .int .i64 n, .slice (some ⟨bv, 0, none⟩) 1 1] w (zgE B w0 (n + 1) (ziF 2 xs news n) M) := by
 obtain ⟨i0, hi0, hz0, hz1, hz2⟩ := info_parts zbD
 have HNL : Hid (news.length = 1 * 2) := z0j (by rw [hnl])
 have HN1 := z0j hn1
 have HR := z0j hR
 have hxl := hR.1
 have HI : Hid (ziF 2 xs news n = xs ++ news) := z0j (by unfold ziF; rw [List.take_of_length_le (by omega), List.drop_eq_nil_of_le (by omega), List.append_nil])
 have sm1 : n + 1 ≤ maxLen := by unfold maxLen; omega
 have sm2 : (n + 1) * 16 ≤ 140737488355328 := by omega
 rcases hR with ⟨_, ⟨h0, hv, hx, hr⟩ | ⟨g, cap, hv, hnc, hcm, hr⟩⟩
 ·subst h0 hv hx hr
  clear hnl hn1 hxl
  go_enter Tryz.func247, Tryz.ntmps247
  go_wp2_with (first | ((refine zJ _ _ 62 rfl ?_); refine zK (K := []) hp _ _ _ rfl wy i0 _ 16 Tryz.underlying62 hi0 hz0 hz1 hz2 rfl (by decide) (za rfl) HR.out 1 1 (za rfl) HNL.out (by decide) HN1.out sm1 sm2 ?_; clear hp; intro v' R' w1 hR' hp; have HR' := z0j hR'; clear hR'; simp only [zc, zb, z0b, z0a]) | go_skip)
  go_ret
  exact ⟨v', R', rfl, by rw [HI.out]; exact HR'.out, hp⟩
 ·subst hv hr
  clear hnl hn1 hxl
  go_enter Tryz.func247, Tryz.ntmps247
  go_wp2_with (first | ((refine zJ _ _ 62 rfl ?_); refine zK (K := []) hp _ _ _ rfl wy i0 _ 16 Tryz.underlying62 hi0 hz0 hz1 hz2 rfl (by decide) (za rfl) HR.out 1 1 (za rfl) HNL.out (by decide) HN1.out sm1 sm2 ?_; clear hp; intro v' R' w1 hR' hp; have HR' := z0j hR'; clear hR'; simp only [zc, zb, z0b, z0a]) | go_skip)
  all_goals
   go_ret
   exact ⟨v', R', rfl, by rw [HI.out]; exact HR'.out, hp⟩
theorem znD (n i : Nat) (hi : i ≤ n) (xs news : List Value) (hx : xs.length = n * 2) (hn : news.length = 1 * 2) : (ziF 2 xs news i).length = (n + 1) * 2 := by
 unfold ziF; rw [List.length_append, List.length_append, List.length_take, List.length_drop]; omega
theorem Hp.sub2 {B : Nat} {w0 w : World} {L : List Blk} {p q r : Blk} (hp : Hp B w0 w (p :: q :: r :: L)) : Hp B w0 w ([p] ++ L) := by
 have hs : List.Sublist (p :: L) (p :: q :: r :: L) := List.Sublist.cons_cons p ((List.sublist_cons_self r L).trans (List.sublist_cons_self q _))
 exact ⟨hp.below, hp.size, (hs.map _).nodup hp.nodup, fun x hx => hp.own x (hs.subset hx)⟩
theorem ztL (i : Nat) (xs zs news : List Value) (h : (xs.take (i * 2)).length = i * 2) : (xs.take (i * 2) ++ zs).take (i * 2) ++ (news ++ (xs.take (i * 2) ++ zs).drop (i * 2 + 1 * 2)) = xs.take (i * 2) ++ (news ++ zs.drop 2) := by
 generalize xs.take (i * 2) = ys at h ⊢
 rw [List.take_append_of_le_length (by omega), List.take_of_length_le (by omega), List.drop_append, List.drop_eq_nil_of_le (by omega), List.nil_append, h]
 congr 3; omega
theorem zte (n i : Nat) (hi : i < n) (xs zs news : List Value) (hx : xs.length = n * 2) (hz : zs.length = (n + 1 - i) * 2) (hn : news.length = 1 * 2) :
  (xs.take (i * 2) ++ (news ++ zs.drop 2)).take ((i + 1) * 2) ++ (xs.drop (i * 2) ++ (xs.take (i * 2) ++ (news ++ zs.drop 2)).drop ((i + 1) * 2 + (n - i) * 2)) = ziF 2 xs news i := by
 have h : (xs.take (i * 2)).length = i * 2 := by rw [List.length_take]; omega
 unfold ziF
 generalize xs.take (i * 2) = ys at h ⊢
 have hl : (ys ++ (news ++ zs.drop 2)).length ≤ (i + 1) * 2 + (n - i) * 2 := by rw [List.length_append, List.length_append, List.length_drop]; omega
 rw [List.drop_eq_nil_of_le hl, List.append_nil, ← List.append_assoc, ← List.append_assoc, List.take_append_of_le_length (by rw [List.length_append]; omega), List.take_of_length_le (by rw [List.length_append]; omega)]
theorem zi4 (n i : Nat) (hn : n ≤ 1000) (hi : i < n) (xs : List Value) (hxl : xs.length = n * 2) (g cap : Nat) (hnc : n ≤ cap) (hcap : cap < n + 1) {B : Nat} {w0 w : World} {M : List Blk} (news : List Value) (hnl : news.length = 2) (hn1 : news.all (·.oneCell') = true) (hx1 : xs.all (·.oneCell') = true) (bv : Nat) (ev : TypeId) (mv : Nat) (hp : Hp B w0 w (⟨bv, news, ev, mv⟩ :: ⟨g, xs, 146, cap * 2⟩ :: M)) :
  Calls Tryz.prog 247 #[.slice (some ⟨g, 0, none⟩) n cap, .int .i64 i, .slice (some ⟨bv, 0, none⟩) 1 1] w (zgE B w0 (n + 1) (ziF 2 xs news i) M) := by
 obtain ⟨i0, hi0, hz0, hz1, hz2⟩ := info_parts zbD
 have HNL : Hid (news.length = 1 * 2) := z0j (by rw [hnl])
 have HN1 := z0j hn1
 have HX1 := z0j hx1
 have HTL : Hid ((xs.take (i * 2)).length = i * 2) := z0j (by rw [List.length_take]; omega)
 have HTK : Hid (∀ (j : Nat) u, (xs.take (i * 2))[j]? = some u → xs[j]? = some u) := z0j (fun j u hj => by
  rw [List.getElem?_take] at hj
  split at hj
  ·exact hj
  ·cases hj)
 have HKZ : Hid (((n : Int) + 1 - (i : Int)) = ((n + 1 - i : Nat) : Int)) := z0j (by omega)
 have HSUM : Hid (i + (n + 1 - i) = n + 1) := z0j (by omega)
 have HMIN : Hid (Nat.min 1 (n + 1 - i) = 1) := z0j (Nat.min_eq_left (by omega))
 have k0 : 0 < n + 1 - i := by omega
 have kg : cap < i + (n + 1 - i) := by omega
 have k63 : i + (n + 1 - i) ≤ maxLen := by unfold maxLen; omega
 have kby : (i + (n + 1 - i)) * 16 ≤ 100000000 := by omega
 have f1 : (0 : Int) ≤ (i : Int) := by omega
 have f2 : (i : Int) ≤ (n : Int) := by omega
 have f3 : (i : Int) ≤ (cap : Int) := by omega
 have f4 : ((i : Int) == (n : Int)) = false := by simp; omega
 have f5 : (cap : Int) < (n : Int) + 1 := by omega
 have f6 : ¬ (cap = i) := by omega
 have HXL := z0j hxl
 have HIL := z0j (znD n i (by omega) xs news hxl (by rw [hnl]))
 clear hnl hn1 hx1 hxl
 go_enter Tryz.func247, Tryz.ntmps247
 go_wp2_with (first | (at_builtin; refine zbQ hp _ _ 146 _ _ rfl wy Tryz.underlying62 .i64 Tryz.underlying3 i0 _ hi0 hz0 2 16 hz1 hz2 rfl (by decide) g i cap (za rfl) (xs.take (i * 2)) HTL.out (fun j u hj => hp.cell at1 (HTK.out j u hj)) _ (n + 1 - i) HKZ.out (za rfl) k0 kg k63 kby ?_; clear hp; intro g2 cap2 w1 hc2 hcm2 hp; rw [HSUM.out] at hc2 ⊢; generalize hzs : (Builtin.zeroCells _ (n + 1 - i)).toList = zs at hp; have HZL := z0j (show zs.length = (n + 1 - i) * 2 by rw [← hzs, Array.length_toList, size_zeroCells]; rfl); clear hzs; have f7 : ¬ (cap2 = i) := (by omega); have f8 : ¬ (cap2 = i + 1) := (by omega); have f9 : (i : Int) ≤ (cap2 : Int) := (by omega); have HFIT : Hid (i * 2 + 1 * 2 ≤ (xs.take (i * 2) ++ zs).length) := z0j (by rw [List.length_append, HTL.out, HZL.out]; omega); simp only [zc, zb, z0b, z0a]) | ((refine zaB _ _ _ _ rfl ?_); refine Zg hp _ _ 146 _ _ rfl wy Tryz.underlying62 2 zcN g2 (i * 2) (n + 1 - i) (cap2 - i) (za rfl) bv 0 1 1 (za rfl) 0 _ _ at0 1 HMIN.out news HNL.out HFIT.out (fun j u hj => hp.cell at1 (by rw [Nat.zero_add]; exact hj)) HN1.out ?_; clear hp; intro v2 w1 hp; simp only [z0a] at hp; simp only [zc, zb, z0b, z0a]) | go_skip)
 have HL1 : Hid ((xs.take (i * 2) ++ zs).take (i * 2) ++ (news ++ (xs.take (i * 2) ++ zs).drop (i * 2 + 1 * 2)) = xs.take (i * 2) ++ (news ++ zs.drop 2)) := z0j (ztL i xs zs news HTL.out)
 rw [HL1.out] at hp
 have HMIN2 : Hid (Nat.min (n - i) (n - i) = n - i) := z0j (Nat.min_self _)
 have HDL : Hid ((xs.drop (i * 2)).length = (n - i) * 2) := z0j (by rw [List.length_drop, HXL.out]; omega)
 have HFIT2 : Hid ((i + 1) * 2 + (n - i) * 2 ≤ (xs.take (i * 2) ++ (news ++ zs.drop 2)).length) := z0j (by rw [List.length_append, List.length_append, List.length_drop, HTL.out, HNL.out, HZL.out]; omega)
 have HD1 : Hid ((xs.drop (i * 2)).all (·.oneCell') = true) := z0j (by rw [List.all_eq_true]; intro u hu; exact List.all_eq_true.1 HX1.out u (List.mem_of_mem_drop hu))
 have HDK : Hid (∀ (j : Nat) u, (xs.drop (i * 2))[j]? = some u → xs[i * 2 + j]? = some u) := z0j (fun j u hj => by rw [List.getElem?_drop] at hj; exact hj)
 have HW1 : Hid (wrap64 ((i : Int) + 1) = (i : Int) + 1) := z0j (by unfold wrap64; omega)
 have f10 : ((i : Int) + 1).toNat = i + 1 := by omega
 have f11 : (0 : Int) ≤ (i : Int) + 1 := by omega
 have f12 : (i : Int) + 1 ≤ (n : Int) + 1 := by omega
 refine zh _ (zv.all hp.drew) [8] [(0, true), (1, true), (2, true), (3, true), (4, true), (5, true), (6, true), (7, true), (8, false)] (by kernel_rfl) (by kernel_rfl) rfl (by kernel_rfl) (fun _ _ d _ _ h => by cases d <;> exact h) ?_
 replace hp := hp.drew
 repeat' (with_reducible refine zx ?_); first | (with_reducible refine zq ?_) | ((with_reducible refine zE ?_); refine zu rfl ?_; (first | ((with_reducible refine zT _ rfl ?_); refine tM rfl ?_) | refine tG (fun w _ => (by go_simp; try rfl)) ?_); try simp only [zc, zb, zj, zg, z0b, z0a, z0d, z0c, zl, HW1.out]) | (refine zC rfl (fun K hK => ?_); go_wp2_with (((refine zaB _ _ _ _ rfl ?_); refine Zg hp _ _ 146 _ _ rfl wy Tryz.underlying62 2 zcN g2 ((i + 1) * 2) (n - i) (cap2 - (i + 1)) (za rfl) g (i * 2) (n - i) (cap - i) (za rfl) 0 _ _ at0 (n - i) HMIN2.out (xs.drop (i * 2)) HDL.out HFIT2.out (fun j u hj => hp.cell at2 (HDK.out j u hj)) HD1.out ?_; clear hp; intro v2 w1 hp; simp only [z0a] at hp; simp only [zc, zb, z0b, z0a])); (first | refine hK.out _ _ (.inl rfl) ?_ | refine hK.out _ _ (.inr (zgJ hp)) ?_); clear hK K; try simp only [zc, zb, zj, zg, z0b, z0a, z0d, z0c, zl, HW1.out])
 go_wp2_with fail
 go_ret
 refine ⟨_, [⟨g2, ziF 2 xs news i, 146, cap2 * 2⟩], rfl, ⟨HIL.out, .inr ⟨g2, cap2, rfl, hc2, hcm2, rfl⟩⟩, ?_⟩
 rw [zte n i hi xs zs news HXL.out HZL.out HNL.out] at hp
 exact hp.sub2
theorem zqM {B : Nat} {w0 w : World} {L : List Blk} {bv g ev mv nv cap od : Nat} {news l : List Value} {eg : TypeId} (hp : Hp B w0 w (⟨bv, news, ev, mv⟩ :: ⟨g, l, eg, nv⟩ :: L)) (hnv : nv ≠ 0) (lb cb : Nat) :
  (callFunc 271 #[.slice (some ⟨bv, 0, none⟩) 1 1, .slice (some ⟨g, od, none⟩) lb cb]).run Tryz.prog w = .ok (.value (.bool false)) w := by
 have hne : bv ≠ g := by
  have := hp.nodup
  simp only [List.map_cons, List.nodup_cons, List.mem_cons] at this
  exact fun h => this.1 (.inl h)
 rw [run_callFunc_extern Tryz.func271 (by kernel_rfl) (by kernel_rfl) (by kernel_rfl) (e := Extern.SlicesOverlaps.overlaps #[62, 62] #[4]) (by kernel_rfl),
  Lib.run_overlaps_apart w 62 4 146 Tryz.underlying62 2 (fun w => (zaq zw w).2) ⟨bv, 0, none⟩ ⟨g, od, none⟩ 1 1 lb cb hne ev eg mv nv (hp.shape at0) (hp.shape at1) hnv (hp.free at0 0) (hp.free at0 mv)]
 rfl
theorem ztv (n i : Nat) (hi : i < n) (xs l2 : List Value) (hx : xs.length = n * 2) (h2 : l2.length = 2) :
  (xs ++ l2).take ((i + 1) * 2) ++ (xs.drop (i * 2) ++ (xs ++ l2).drop ((i + 1) * 2 + (n - i) * 2)) = xs.take ((i + 1) * 2) ++ xs.drop (i * 2) := by
 generalize xs.drop (i * 2) = ds
 rw [List.take_append_of_le_length (by omega), List.drop_eq_nil_of_le (by rw [List.length_append]; omega), List.append_nil]
theorem ztt (n i : Nat) (hi : i < n) (xs news : List Value) (hx : xs.length = n * 2) :
  (xs.take ((i + 1) * 2) ++ xs.drop (i * 2)).take (i * 2) ++ (news ++ (xs.take ((i + 1) * 2) ++ xs.drop (i * 2)).drop (i * 2 + 1 * 2)) = ziF 2 xs news i := by
 unfold ziF
 rw [List.take_append_of_le_length (by rw [List.length_take]; omega), List.take_take, Nat.min_eq_left (by omega), List.drop_append, List.drop_eq_nil_of_le (by rw [List.length_take]; omega), List.nil_append, List.length_take, Nat.min_eq_left (by omega), show i * 2 + 1 * 2 - (i + 1) * 2 = 0 by omega, List.drop_zero]
theorem ziM (n i : Nat) (hn : n ≤ 1000) (hi : i < n) (xs : List Value) (hxl : xs.length = n * 2) (g cap : Nat) (hcm : cap ≤ maxLen) (hcap : n + 1 ≤ cap) {B : Nat} {w0 w : World} {M : List Blk} (news : List Value) (hnl : news.length = 2) (hn1 : news.all (·.oneCell') = true) (hx1 : xs.all (·.oneCell') = true) (bv : Nat) (ev : TypeId) (mv : Nat) (hp : Hp B w0 w (⟨bv, news, ev, mv⟩ :: ⟨g, xs, 146, cap * 2⟩ :: M)) :
  Calls Tryz.prog 247 #[.slice (some ⟨g, 0, none⟩) n cap, .int .i64 i, .slice (some ⟨bv, 0, none⟩) 1 1] w (zgE B w0 (n + 1) (ziF 2 xs news i) M) := by
 obtain ⟨l2, hl2, hp2⟩ := (hp.reorder (List.Perm.swap _ _ _)).more 2 (by omega)
 replace hp := hp2.reorder (List.Perm.swap _ _ _)
 clear hp2
 have HNL : Hid (news.length = 1 * 2) := z0j (by rw [hnl])
 have HN1 := z0j hn1
 have HMIN : Hid (Nat.min 1 (n + 1 - i) = 1) := z0j (Nat.min_eq_left (by omega))
 have HMIN3 : Hid (Nat.min (n + 1 - i) (n - i) = n - i) := z0j (Nat.min_eq_right (by omega))
 have HDL : Hid ((xs.drop (i * 2)).length = (n - i) * 2) := z0j (by rw [List.length_drop, hxl]; omega)
 have HD1 : Hid ((xs.drop (i * 2)).all (·.oneCell') = true) := z0j (by rw [List.all_eq_true]; intro u hu; exact List.all_eq_true.1 hx1 u (List.mem_of_mem_drop hu))
 have HDK : Hid (∀ (j : Nat) u, (xs.drop (i * 2))[j]? = some u → (xs ++ l2)[i * 2 + j]? = some u) := z0j (fun j u hj => by
  rw [List.getElem?_drop] at hj
  rw [List.getElem?_append_left (List.getElem?_eq_some_iff.1 hj).1]; exact hj)
 have HFIT3 : Hid ((i + 1) * 2 + (n - i) * 2 ≤ (xs ++ l2).length) := z0j (by rw [List.length_append, hxl, hl2]; omega)
 have HFIT4 : Hid (i * 2 + 1 * 2 ≤ (xs.take ((i + 1) * 2) ++ xs.drop (i * 2)).length) := z0j (by rw [List.length_append, List.length_take, List.length_drop, hxl]; omega)
 have HC := z0j (ztv n i hi xs l2 hxl hl2)
 have HDD := z0j (ztt n i hi xs news hxl)
 have HIL := z0j (znD n i (by omega) xs news hxl (by rw [hnl]))
 have hov : ∀ od lb cb, (callFunc 271 #[.slice (some ⟨bv, 0, none⟩) 1 1, .slice (some ⟨g, od, none⟩) lb cb]).run Tryz.prog w = .ok (.value (.bool false)) w := fun od lb cb => zqM (od := od) (cap := 0) hp (by omega) lb cb
 have f1 : (0 : Int) ≤ (i : Int) := by omega
 have f2 : (i : Int) ≤ (n : Int) := by omega
 have f3 : (i : Int) ≤ (cap : Int) := by omega
 have f4 : ((i : Int) == (n : Int)) = false := by simp; omega
 have f5 : decide ((cap : Int) < (n : Int) + 1) = false := by simp; omega
 have f6 : ¬ (cap = i) := by omega
 have f7 : ¬ (cap = i + 1) := by omega
 have HW1 : Hid (wrap64 ((i : Int) + 1) = (i : Int) + 1) := z0j (by unfold wrap64; omega)
 have f10 : ((i : Int) + 1).toNat = i + 1 := by omega
 have f11 : (0 : Int) ≤ (i : Int) + 1 := by omega
 have f12 : (i : Int) + 1 ≤ (n : Int) + 1 := by omega
 have f13 : (n : Int) + 1 ≤ (cap : Int) := by omega
 have f14 : (0 : Int) ≤ (n : Int) + 1 := by omega
 have f15 : ((n : Int) + 1).toNat = n + 1 := by omega
 have f16 : (i : Int) ≤ (n : Int) + 1 := by omega
 clear hnl hn1 hx1 hxl hl2
 go_enter Tryz.func247, Tryz.ntmps247
 go_wp2_with (first | (simp only [hov]; done) | go_skip)
 refine zh _ (zv.all hp.drew) [8] [(0, true), (1, true), (2, true), (3, true), (4, true), (5, true), (6, true), (7, true), (8, false)] (by kernel_rfl) (by kernel_rfl) rfl (by kernel_rfl) (fun _ _ d _ _ h => by cases d <;> exact h) ?_
 replace hp := hp.drew
 repeat' (with_reducible refine zx ?_); first | (with_reducible refine zq ?_) | ((with_reducible refine zE ?_); refine zu rfl ?_; (first | ((with_reducible refine zT _ rfl ?_); refine tM rfl ?_) | refine tG (fun w _ => (by go_simp; try rfl)) ?_); try simp only [zc, zb, zj, zg, z0b, z0a, z0d, z0c, zl, HW1.out]) | (refine zC rfl (fun K hK => ?_); go_wp2_with (((refine zaB _ _ _ _ rfl ?_); refine Zg hp _ _ 146 _ _ rfl wy Tryz.underlying62 2 zcN g ((i + 1) * 2) (n - i) (cap - (i + 1)) (za rfl) g (i * 2) (n + 1 - i) (cap - i) (za rfl) 1 _ _ at1 (n - i) HMIN3.out (xs.drop (i * 2)) HDL.out HFIT3.out (fun j u hj => hp.cell at1 (HDK.out j u hj)) HD1.out ?_; clear hp; intro v2 w1 hp; simp only [z0b, z0a] at hp; simp only [zc, zb, z0b, z0a])); (first | refine hK.out _ _ (.inl rfl) ?_ | refine hK.out _ _ (.inr (zgJ hp)) ?_); clear hK K; try simp only [zc, zb, zj, zg, z0b, z0a, z0d, z0c, zl, HW1.out])
 rw [HC.out] at hp
 go_wp2_with (first | ((refine zaB _ _ _ _ rfl ?_); refine Zg hp _ _ 146 _ _ rfl wy Tryz.underlying62 2 zcN g (i * 2) (n + 1 - i) (cap - i) (za rfl) bv 0 1 1 (za rfl) 1 _ _ at1 1 HMIN.out news HNL.out HFIT4.out (fun j u hj => hp.cell at0 (by rw [Nat.zero_add]; exact hj)) HN1.out ?_; clear hp; intro v3 w1 hp; simp only [z0b, z0a] at hp; simp only [zc, zb, z0b, z0a]) | go_skip)
 rw [HDD.out] at hp
 go_ret
 refine ⟨_, [⟨g, ziF 2 xs news i, 146, cap * 2⟩], rfl, ⟨HIL.out, .inr ⟨g, cap, rfl, by omega, hcm, rfl⟩⟩, hp.tail⟩
theorem zpD (n i : Nat) (hn : n ≤ 1000) (hi : i ≤ n) (xs : List Value) (v : Value) {B : Nat} {w0 w : World} {R M : List Blk} (news : List Value) (hnl : news.length = 2) (hn1 : news.all (·.oneCell') = true) (hx1 : xs.all (·.oneCell') = true) (bv : Nat) (ev : TypeId) (mv : Nat) (hR : zB 146 2 v n xs R) (hp : Hp B w0 w (⟨bv, news, ev, mv⟩ :: (R ++ M))) :
  Calls Tryz.prog 247 #[v, .int .i64 i, .slice (some ⟨bv, 0, none⟩) 1 1] w (zgE B w0 (n + 1) (ziF 2 xs news i) M) := by
 rcases Nat.eq_or_lt_of_le hi with h | h
 ·subst h
  exact zkW i hn xs v news hnl hn1 bv ev mv hR hp
 ·obtain ⟨hxl, ⟨h0, _⟩ | ⟨g, cap, hv, hnc, hcm, hr⟩⟩ := hR
  ·omega
  ·subst hv hr
   rcases Nat.lt_or_ge cap (n + 1) with h2 | h2
   ·exact zi4 n i hn h xs hxl g cap hnc h2 news hnl hn1 hx1 bv ev mv hp
   ·exact ziM n i hn h xs hxl g cap hcm h2 news hnl hn1 hx1 bv ev mv hp
open Go.RowKit Go.Lib
theorem zsA (w : World) : (zeroValue 146).run Tryz.prog w = .ok (.agg #[.int .i64 0, .int .i64 0]) w := by kernel_rfl
theorem zsU : (Builtin.zeroCells (Value.agg #[.int .i64 0, .int .i64 0]).cells 1).toList = [.int .i64 0, .int .i64 0] := by kernel_rfl
theorem zr.part {B : Nat} {w0 w : World} {g t n j : Nat} {xs : List Value} {M : List Blk} (hp : Hp B w0 w (⟨g, xs, t, n⟩ :: M)) : zr w (some ⟨g, j, none⟩) (xs.drop j) := fun q v hq => ⟨g, j, rfl, hp.cell at0 (by rw [List.getElem?_drop] at hq; exact hq)⟩
def ztU (B : Nat) (w0 : World) (g m cap : Nat) (xs : List Value) (M : List Blk) (e : Ending) (w' : World) : Prop := e = .returned (.slice (some ⟨g, 0, none⟩) m cap) ∧ Hp B w0 w' (⟨g, xs, 146, cap * 2⟩ :: M)
theorem zsV {B : Nat} {w0 w : World} {g cap : Nat} {l : List Bl} {M : List Blk} (hp : Hp B w0 w (⟨g, l.flatMap blV, 146, cap * 2⟩ :: M)) (hl : l.length ≤ 1000) (hcap : l.length ≤ cap) {i j m n : Nat} (hj : j = i + 1) (hn : n = l.length) (hm : n = m + 1) (hi : i < n) :
  Calls Tryz.prog 267 #[.slice (some ⟨g, 0, none⟩) n cap, .int .i64 i, .int .i64 j] w (ztU B w0 g m cap ((l.eraseIdx i).flatMap blV) M) := by
 obtain ⟨i0, hi0, hz0, hz1, hz2⟩ := info_parts zbD
 have hxl := zbb l
 have hx1 := zfy l
 have HER : Hid ((l.flatMap blV).take (i * 2) ++ (l.flatMap blV).drop (j * 2) = (l.eraseIdx i).flatMap blV) := z0j (by
  rw [zb3 2 Zp, hj, List.eraseIdx_eq_take_drop_succ, List.flatMap_append]
  congr 1
  have h := zb3 2 Zp l i
  have h2 : l.flatMap blV = (l.take i).flatMap blV ++ (l.drop i).flatMap blV := by rw [← List.flatMap_append, List.take_append_drop]
  have h3 : ((l.take i).flatMap blV).length = i * 2 := by rw [zbb, List.length_take, Nat.min_eq_left (by omega)]
  rw [h2, ← h3, List.take_left])
 generalize l.flatMap blV = xs at hp hxl hx1 HER
 rw [← hn] at hxl hcap hl
 clear hn
 have HYL : Hid ((xs.drop (j * 2)).length = (n - j) * 2) := z0j (by rw [List.length_drop, hxl]; omega)
 have HY1 : Hid ((xs.drop (j * 2)).all (·.oneCell') = true) := z0j (by rw [List.all_eq_true]; intro u hu; exact List.all_eq_true.1 hx1 u (List.mem_of_mem_drop hu))
 have HFI : Hid (i + (n - j) ≤ cap) := z0j (by omega)
 have HLE : Hid ((i + (n - j)) * 2 ≤ xs.length) := z0j (by rw [hxl]; omega)
 have HSUM : Hid (i + (n - j) = m) := z0j (by omega)
 have HSPL : Hid (spl xs (i * 2) (xs.drop (j * 2)) = (xs.take (i * 2) ++ xs.drop (j * 2)) ++ xs.drop (i * 2 + (xs.drop (j * 2)).length)) := z0j (by
  rw [zgQ _ _ _ (by rw [List.length_drop, hxl]; omega), List.append_assoc])
 have HOFF : Hid (m * 2 = (xs.take (i * 2) ++ xs.drop (j * 2)).length) := z0j (by rw [List.length_append, List.length_take, List.length_drop, hxl]; omega)
 have HFC : Hid ((xs.take (i * 2) ++ xs.drop (j * 2)).length + 2 ≤ cap * 2) := z0j (by rw [← HOFF.out]; omega)
 have HNM : Hid (n - m = 1) := z0j (by omega)
 have f1 : (0 : Int) ≤ (i : Int) := by omega
 have f2 : (i : Int) ≤ (j : Int) := by omega
 have f3 : (j : Int) ≤ (n : Int) := by omega
 have f4 : (n : Int) ≤ (cap : Int) := by omega
 have f5 : ((i : Int) == (j : Int)) = false := by simp; omega
 have f5' : (i == j) = false := by simp; omega
 have f6 : (i : Int) ≤ (cap : Int) := by omega
 have f7 : (0 : Int) ≤ (j : Int) := by omega
 have f8 : (m : Int) ≤ (n : Int) := by omega
 have f9 : ¬ (cap = m) := by omega
 have f10 : (0 : Int) ≤ (m : Int) := by omega
 have f11 : ¬ (cap = i) := by omega
 have f12 : ¬ (n = i) := by omega
 by_cases hcj : j = cap
 ·subst hcj
  have HNL : Hid (∀ w a, zr w a (xs.drop (j * 2))) := z0j (fun w a => by rw [List.drop_eq_nil_of_le (by omega)]; exact zr.nil _ _)
  clear hxl hx1 hm hj hi hl hcap
  go_enter Tryz.func267, Tryz.ntmps267
  go_wp2_with fail
  refine zh [] (zv.zero hp.drew) [] [(0, true), (1, true), (2, true), (3, true), (4, true), (5, true), (6, false), (7, false)] (by kernel_rfl) (by kernel_rfl) rfl (by kernel_rfl) (fun _ _ d _ _ h => by cases d <;> exact h) ?_
  replace hp := hp.drew
  repeat' (with_reducible refine zx ?_); first | (with_reducible refine zq ?_) | ((with_reducible refine zE ?_); refine zu rfl ?_; (first | ((with_reducible refine zT _ rfl ?_); refine tM rfl ?_) | refine tG (fun w _ => (by go_simp; try rfl)) ?_); try simp only [zc, zb, zj, zg, z0b, z0a, z0d, z0c, zl]) | (refine zC rfl (fun K hK => ?_); go_wp2_with (((refine zJ _ _ 62 rfl ?_); first | (refine zaD hp _ _ _ rfl wy Tryz.underlying62 i0 hi0 hz1 (by decide) (za rfl) _ (n - j) _ (za rfl) (xs.drop (j * 2)) HYL.out (by first | exact zr.part hp | exact HNL.out _ _) HY1.out HFI.out HLE.out ?_); clear hp; intro w1 hp; rw [HSPL.out] at hp; replace hp := hp.less; rw [HSUM.out]; simp only [zc, zb, z0b, z0a])); (refine hK.out _ _ (.inr (zv.zero hp)) ?_); clear hK K; try simp only [zc, zb, zj, zg, z0b, z0a, z0d, z0c, zl])
  go_wp2_with (((refine zdT _ _ rfl ?_); refine zaT hp _ _ rfl wy Tryz.underlying62 _ zsA _ _ (za rfl) HNM.out _ zsU rfl rfl HOFF.out HFC.out ?_; clear hp; intro v1 w1 hp; simp only [zc, zb, z0b, z0a]))
  go_ret
  exact ⟨rfl, by rw [← HER.out]; exact hp⟩
 ·have f13 : ¬ (cap = j) := fun h => hcj h.symm
  have HNL : Hid True := z0j trivial
  clear hxl hx1 hm hj hi hl hcap
  go_enter Tryz.func267, Tryz.ntmps267
  go_wp2_with fail
  refine zh [] (zv.zero hp.drew) [] [(0, true), (1, true), (2, true), (3, true), (4, true), (5, true), (6, false), (7, false)] (by kernel_rfl) (by kernel_rfl) rfl (by kernel_rfl) (fun _ _ d _ _ h => by cases d <;> exact h) ?_
  replace hp := hp.drew
  repeat' (with_reducible refine zx ?_); first | (with_reducible refine zq ?_) | ((with_reducible refine zE ?_); refine zu rfl ?_; (first | ((with_reducible refine zT _ rfl ?_); refine tM rfl ?_) | refine tG (fun w _ => (by go_simp; try rfl)) ?_); try simp only [zc, zb, zj, zg, z0b, z0a, z0d, z0c, zl]) | (refine zC rfl (fun K hK => ?_); go_wp2_with (((refine zJ _ _ 62 rfl ?_); first | (refine zaD hp _ _ _ rfl wy Tryz.underlying62 i0 hi0 hz1 (by decide) (za rfl) _ (n - j) _ (za rfl) (xs.drop (j * 2)) HYL.out (by first | exact zr.part hp | exact HNL.out _ _) HY1.out HFI.out HLE.out ?_); clear hp; intro w1 hp; rw [HSPL.out] at hp; replace hp := hp.less; rw [HSUM.out]; simp only [zc, zb, z0b, z0a])); (refine hK.out _ _ (.inr (zv.zero hp)) ?_); clear hK K; try simp only [zc, zb, zj, zg, z0b, z0a, z0d, z0c, zl])
  go_wp2_with (((refine zdT _ _ rfl ?_); refine zaT hp _ _ rfl wy Tryz.underlying62 _ zsA _ _ (za rfl) HNM.out _ zsU rfl rfl HOFF.out HFC.out ?_; clear hp; intro v1 w1 hp; simp only [zc, zb, z0b, z0a]))
  go_ret
  exact ⟨rfl, by rw [← HER.out]; exact hp⟩
end Go.Proofs.YtjcbpfbifbfkcaaGreat
