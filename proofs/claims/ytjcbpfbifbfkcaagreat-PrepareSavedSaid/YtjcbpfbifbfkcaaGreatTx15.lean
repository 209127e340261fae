import Derived.Test.YtjcbpfbifbfkcaaGreatTx14
import Derived.Test.YtjcbpfbifbfkcaaGreatTx2
set_option linter.unusedSimpArgs false
set_option linter.unusedVariables false
set_option maxRecDepth 100000
set_option maxHeartbeats 60000000
namespace Go.Proofs.YtjcbpfbifbfkcaaGreat
open Go.RowKit
theorem zmU {ty : TypeId} (h : zx Tryz.prog ty = true := by with_reducible first | exact zn | exact Zy | exact zdd | exact zba) : zx Tryz.prog ty = true := h
def ZJ (w : World) (b : Nat) (v : Value) : Prop := ∀ j u, [v][j]? = some u → w.cell? ⟨b, 0 + j, none⟩ = some u
theorem ZJ.of {w : World} {b : Nat} {v : Value} (h : w.cell? ⟨b, 0, none⟩ = some v) : ZJ w b v := fun j u hj => by
 match j, hj with
 | 0, hj => simp at hj; subst hj; exact h
theorem ZJ.below {w w' : World} {b : Nat} {v : Value} (h : ZJ w b v) (hb : Below w.heap.size w w') : ZJ w' b v := fun j u hj => by
 have := h j u hj
 exact (hb.cell (World.block_lt_of_cell? w _ this)).trans this
theorem zi4 (sz p en : Int) (x : Ob) : (decide (x.p ≤ sz) = false ∧ (decide (x.p ≤ sz) && (decide (p < x.p + pw x.o) && decide (x.p < en))) = false) ∨
  (decide (x.p ≤ sz) = true ∧ decide (p < x.p + pw x.o) = false ∧ (decide (x.p ≤ sz) && (decide (p < x.p + pw x.o) && decide (x.p < en))) = false) ∨
  (decide (x.p ≤ sz) = true ∧ decide (p < x.p + pw x.o) = true ∧ (decide (x.p ≤ sz) && (decide (p < x.p + pw x.o) && decide (x.p < en))) = decide (x.p < en)) := by
 cases decide (x.p ≤ sz) <;> cases decide (p < x.p + pw x.o) <;> simp
def zdp (x : Ob) : Prop := 0 ≤ x.p ∧ x.p ≤ 2147483647 ∧ 0 ≤ x.o ∧ x.o ≤ 8
theorem ziS (sz p en : Int) (x : Ob) (hx : zdp x) (bs bb be : Nat) (w : World) (hs : ZJ w bs (.int .i64 sz)) (hb : ZJ w bb (.int .i64 p)) (he : ZJ w be (.int .i64 en)) :
  Calls Tryz.prog 246 #[.agg (obV x).toArray, .pointer (some ⟨bs, 0, none⟩), .pointer (some ⟨bb, 0, none⟩), .pointer (some ⟨be, 0, none⟩)] w fun e w' => e = .returned (.bool (decide (x.p ≤ sz) && (decide (p < x.p + pw x.o) && decide (x.p < en)))) ∧ Below w.heap.size w w' := by
 have hp := Hp.start w
 have W9 := z0j (zi4 sz p en x)
 obtain ⟨h1, h2, h3, h4⟩ := hx
 have HO0 := z0j h3
 have HO8 := z0j h4
 have HS := z0j hs
 have HB := z0j hb
 have HE := z0j he
 have hpw := zde h4
 have hpw1 := zK x.o
 have HW : Hid (wrap64 (x.p + pw x.o) = x.p + pw x.o) := z0j (by unfold wrap64; omega)
 obtain ⟨xh, xp, xo, xwa, xws, xwc, xla, xls, xlc⟩ := x
 simp only at W9 HW HO0 HO8
 simp only [obV]
 clear hs hb he h1 h2 h3 h4 hpw hpw1
 go_enter Tryz.func246, Tryz.ntmps246
 go_wp2_with (first | go_skip | ((first | ((refine zg _ _ rfl ?_); refine lB hp rfl (za rfl) rfl ?_; clear hp; intro b w1 hp) | ((refine ze _ _ rfl ?_); refine lO hp rfl (za rfl) zn aa5 ?_)); simp only [zc, zb, z0b, z0a]))
 refine zi _ (zC.all hp.drew) [] [(0, true), (1, true), (2, true), (3, true), (4, true), (5, true), (6, true), (7, true), (8, true), (9, true), (10, true), (11, true), (12, true), (13, true), (14, false), (15, true), (16, true), (17, true), (18, true), (19, true), (20, true), (21, true), (22, true), (23, true), (24, true), (25, false)] (by kernel_rfl) (by kernel_rfl) rfl (by kernel_rfl) (fun _ _ d _ _ h => by cases d <;> exact h) ?_
 replace hp := hp.drew
 rcases W9.out with ⟨d1, r⟩ | ⟨d1, d2, r⟩ | ⟨d1, d2, r⟩
 all_goals have R := z0j r
 all_goals clear r W9
 all_goals
  repeat' (with_reducible refine zD ?_); first | (with_reducible refine zv ?_) | ((with_reducible refine zM ?_); refine zA rfl ?_; (first | ((with_reducible refine zad _ _ rfl ?_); refine tS (by first | exact zI rfl rfl rfl rfl | exact zJ rfl rfl rfl rfl) ?_) | ((with_reducible refine Zk _ rfl ?_); refine tM rfl ?_) | ((with_reducible refine Zg _ _ rfl ?_); first | refine tO rfl (za rfl) zn aa5 ?_ | refine tRO rfl (za rfl) zn (HS.out 0 _ rfl) ?_ | refine tRO rfl (za rfl) zn (HB.out 0 _ rfl) ?_ | refine tRO rfl (za rfl) zn (HE.out 0 _ rfl) ?_) | refine tG (fun w _ => (by go_simp; try rfl)) ?_); try simp only [zc, zb, zl, zh, z0b, z0a, z0d, z0c, zq, HW.out]) | (refine zT rfl (fun K hK => ?_); go_wp2_with (first | (go_at_call 142; (with_reducible refine (ZB _ (by first | exact HO0.out | omega) (by first | exact HO8.out | omega) _).mono ?_); rintro e w' ⟨rfl, rfl⟩) | go_skip); (refine hK.out _ _ (.inr (zdM hp)) ?_); clear hK K; try simp only [zc, zb, zl, zh, z0b, z0a, z0d, z0c, zq, HW.out])
 all_goals (go_wp2_with fail; go_ret; exact ⟨ZP (by rw [R.out]; try rfl), hp.below⟩)
def zlr (sz p en : Int) (x : Ob) : Bool := decide (x.p ≤ sz) && (decide (p < x.p + pw x.o) && decide (x.p < en))
theorem ziK {l : List Ob} {f : Ob → Bool} {j : Nat} {x : Ob} (h : l[j]? = some x) : (l.take (j + 1)).any f = ((l.take j).any f || f x) := by
 rw [List.take_add_one, h]; simp [List.any_append]
theorem zkC {l : List Ob} {f : Ob → Bool} {j : Nat} {x : Ob} (h : l[j]? = some x) (hw : f x = true) : l.any f = true := List.any_eq_true.2 ⟨x, List.mem_of_getElem? h, hw⟩
def zjo (w : World) (g : Bool) (e : Ending) (w' : World) : Prop := ∃ i : Int, e = .returned (.int .i64 i) ∧ decide (0 ≤ i) = g ∧ Below w.heap.size w w'
theorem ziC (sz p en : Int) (l : List Ob) (a : Option Addr) (c : Nat) (hl : l.length ≤ 600) (hob : ∀ x ∈ l, zdp x) (bs bb be : Nat) (w : World) (ha : zm w a (l.flatMap obV)) (hs : ZJ w bs (.int .i64 sz)) (hb : ZJ w bb (.int .i64 p)) (he : ZJ w be (.int .i64 en)) :
  Calls Tryz.prog 270 #[.slice a l.length c, .func (.func 246) #[] #[.pointer (some ⟨bs, 0, none⟩), .pointer (some ⟨bb, 0, none⟩), .pointer (some ⟨be, 0, none⟩)]] w (zjo w (l.any (zlr sz p en))) := by
 have hp := Hp.start w
 have HA := z0j ha
 have HS := z0j hs
 have HB := z0j hb
 have HE := z0j he
 have HOB := z0j hob
 clear ha hs hb he hob
 go_enter Tryz.func270, Tryz.ntmps270
 go_wp2_with (first | go_skip | (((refine ze _ _ rfl ?_); refine lA hp rfl (za rfl) zG aa5 ?_); simp only [zc, zb, z0b, z0a]))
 go_loopg [8] l.length (fun k i wr => ∃ j : Nat, k + j = l.length ∧ i = .int .i64 j ∧ Hid ((l.take j).any (zlr sz p en) = false) ∧ Hp w.heap.size w wr [])
 case atStart => exact ⟨0, by omega, rfl, z0j (by simp), hp⟩
 case round =>
  clear hp
  obtain ⟨j, hkj, rfl, HG, hp⟩ := hrel
  by_cases hlt : j < l.length
  ·obtain ⟨bq, off, rfl, hx⟩ := HA.out.elems 5 zcy (by omega) (by omega)
   have hj := List.getElem?_eq_getElem hlt
   replace hx := hx j _ hj
   have hfit := HOB.out _ (List.getElem_mem hlt)
   generalize l[j] = x at hx hj hfit
   have HJ := z0j hj
   have HFIT := z0j hfit
   obtain ⟨r, hr⟩ : ∃ r, zlr sz p en x = r := ⟨_, rfl⟩
   have HR := z0j hr
   have HK : Hid (∀ w1, Below w.heap.size w w1 → Calls Tryz.prog 246 #[.agg (obV x).toArray, .pointer (some ⟨bs, 0, none⟩), .pointer (some ⟨bb, 0, none⟩), .pointer (some ⟨be, 0, none⟩)] w1 fun e w' => e = .returned (.bool r) ∧ Below w1.heap.size w1 w') := z0j (fun w1 hw => by
    have h := ziS sz p en x HFIT.out bs bb be w1 (HS.out.below hw) (HB.out.below hw) (HE.out.below hw)
    rw [show (decide (x.p ≤ sz) && (decide (p < x.p + pw x.o) && decide (x.p < en))) = r from HR.out] at h
    exact h)
   obtain ⟨xh, xp, xo, xwa, xws, xwc, xla, xls, xlc⟩ := x
   simp only [obV] at hx HK
   have HX := z0j hx
   clear hx hj hfit hr
   have e1 : (0 : Int) ≤ (j : Int) := by omega
   have e2 : (j : Int) < (l.length : Int) := by omega
   cases r with
   | true =>
    go_wp2_with (first | (go_at_call 246; (with_reducible refine (HK.out _ hp.below).mono ?_); rintro e w1 ⟨rfl, hb⟩; replace hp := hp.call hb; clear hb) | go_skip | (((refine ze _ _ rfl ?_); first | refine lA hp rfl (za rfl) zG aa5 ?_ | refine lR hp rfl (za rfl) zG HX.out ?_); simp only [zc, zb, z0b, z0a]))
    go_ret
    exact ⟨j, rfl, by rw [zkC HJ.out HR.out]; simp, hp.below⟩
   | false =>
    go_wp2_with (first | (go_at_call 246; (with_reducible refine (HK.out _ hp.below).mono ?_); rintro e w1 ⟨rfl, hb⟩; replace hp := hp.call hb; clear hb) | go_skip | (((refine ze _ _ rfl ?_); first | refine lA hp rfl (za rfl) zG aa5 ?_ | refine lR hp rfl (za rfl) zG HX.out ?_); simp only [zc, zb, z0b, z0a]))
    go_roundg (gk - 1)
    case measure => omega
    case rel => exact ⟨j + 1, by omega, by go_num, z0j (by rw [ziK HJ.out, HG.out, HR.out]; rfl), hp⟩
  ·have e2 : decide ((j : Int) < (l.length : Int)) = false := by simp; omega
   go_wp2_with fail
   go_ret
   exact ⟨-1, rfl, by have := HG.out; rw [List.take_of_length_le (by omega)] at this; rw [this]; decide, hp.below⟩
theorem zbQ (sz p en : Int) (l : List Ob) (a : Option Addr) (c : Nat) (hl : l.length ≤ 600) (hob : ∀ x ∈ l, zdp x) (bs bb be : Nat) (w : World) (ha : zm w a (l.flatMap obV)) (hs : ZJ w bs (.int .i64 sz)) (hb : ZJ w bb (.int .i64 p)) (he : ZJ w be (.int .i64 en)) :
  Calls Tryz.prog 245 #[.slice a l.length c, .func (.func 246) #[] #[.pointer (some ⟨bs, 0, none⟩), .pointer (some ⟨bb, 0, none⟩), .pointer (some ⟨be, 0, none⟩)]] w fun e w' => e = .returned (.bool (l.any (zlr sz p en))) ∧ Below w.heap.size w w' := by
 have hp := Hp.start w
 have K := z0j (ziC sz p en l a c hl hob bs bb be w ha hs hb he)
 clear ha hs hb he
 go_enter Tryz.func245, Tryz.ntmps245
 go_wp2_with (go_at_call 270; refine K.out.mono ?_; rintro e w1 ⟨i, rfl, hi, hb⟩; replace hp := hp.call hb; have HI := z0j hi; clear hi hb)
 go_ret
 exact ⟨ZP HI.out, hp.below⟩
def lfB (sz : Int) (os : List Ob) (b : Bl) : List Bl := lfN sz os b.o.toNat b.p
def wtB (b : Bl) : Nat := 2 * 2 ^ b.o.toNat - 1
def wtL (l : List Bl) : Nat := (l.map wtB).sum
theorem zbv (b : Bl) (l : List Bl) : wtL (b :: l) = wtB b + wtL l := by simp [wtL]
theorem zhh (b : Bl) : 1 ≤ wtB b := by unfold wtB; have := Nat.two_pow_pos b.o.toNat; omega
theorem zka (l : List Bl) : l.length ≤ wtL l := by
 induction l with
 | nil => simp [wtL]
 | cons b l ih => rw [zbv, List.length_cons]; have := zhh b; omega
def zdz (b : Bl) : Prop := 0 ≤ b.o ∧ b.o ≤ 8 ∧ 0 ≤ b.p ∧ b.p + pw b.o ≤ 256
theorem zml {sz : Int} {os : List Ob} {b : Bl} (h0 : 0 ≤ b.o) (h : zhI sz os b = false) : lfB sz os b = [b] := by
 obtain ⟨p, o⟩ := b
 unfold lfB
 simp only at h0 ⊢
 cases hk : o.toNat with
 | zero =>
  have : o = 0 := by omega
  subst this
  unfold lfN; rw [if_neg (by rw [h]; decide)]
 | succ k =>
  have : o = ((k + 1 : Nat) : Int) := by omega
  subst this
  unfold lfN; rw [if_neg (by rw [h]; decide)]
theorem zkX {sz : Int} {os : List Ob} {b : Bl} (h0 : b.o = 0) (h : zhI sz os b = true) : lfB sz os b = [] := by
 obtain ⟨p, o⟩ := b
 simp only at h0
 subst h0
 show lfN sz os 0 p = []
 unfold lfN; rw [if_pos h]
theorem ziV {sz : Int} {os : List Ob} {b : Bl} (h0 : 0 < b.o) (h : zhI sz os b = true) : lfB sz os b = lfB sz os ⟨b.p, b.o - 1⟩ ++ lfB sz os ⟨b.p + pw (b.o - 1), b.o - 1⟩ := by
 obtain ⟨p, o⟩ := b
 simp only at h0 h ⊢
 obtain ⟨k, rfl⟩ : ∃ k : Nat, o = ((k + 1 : Nat) : Int) := ⟨o.toNat - 1, by omega⟩
 unfold lfB
 simp only
 have e1 : ((k + 1 : Nat) : Int).toNat = k + 1 := by omega
 have e2 : (((k + 1 : Nat) : Int) - 1) = (k : Int) := by omega
 rw [e1, e2, Int.toNat_natCast]
 conv => lhs; unfold lfN
 rw [if_pos h]
theorem zjg {b : Bl} (h0 : 0 < b.o) (q : Int) : wtB ⟨b.p, b.o - 1⟩ + wtB ⟨q, b.o - 1⟩ + 1 = wtB b := by
 obtain ⟨p, o⟩ := b
 unfold wtB
 simp only at h0 ⊢
 have e : o.toNat = (o - 1).toNat + 1 := by omega
 rw [e, Nat.pow_succ]
 have := Nat.two_pow_pos (o - 1).toNat
 omega
theorem zw.head {e : TypeId} {c n : Nat} {v : Value} {xs ys : List Value} {R : List Blk} (h : zw e c v (n + 1) (xs ++ ys) R) (hx : xs.length = c) (h0 : 0 < c) : ∃ g off cap pre, v = .slice (some ⟨g, off, none⟩) (n + 1) cap ∧ n + 1 ≤ cap ∧ cap ≤ maxLen ∧ R = [⟨g, pre ++ (xs ++ ys), e, off + cap * c⟩] ∧ pre.length = off ∧
  (cap ≠ 1 → zw e c (.slice (some ⟨g, off + c, none⟩) n (cap - 1)) n ys R) ∧ (cap = 1 → n = 0 ∧ ys = []) := by
 obtain ⟨hl, ⟨h0, _⟩ | ⟨g, off, cap, pre, hv, h1, h2, h3, hr⟩⟩ := h
 ·omega
 ·rw [List.length_append, hx, Nat.succ_mul] at hl
  refine ⟨g, off, cap, pre, hv, h1, h2, hr, h3, fun hc => ⟨by omega, .inr ⟨g, off + c, cap - 1, pre ++ xs, rfl, by omega, by omega, by rw [List.length_append, h3, hx], ?_⟩⟩, fun hc => ?_⟩
  ·rw [hr, List.append_assoc]
   congr 2
   have : cap * c = (cap - 1) * c + c := by
    obtain ⟨m, rfl⟩ : ∃ m, cap = m + 1 := ⟨cap - 1, by omega⟩
    rw [Nat.succ_mul, Nat.add_sub_cancel]
   omega
  ·have hn : n = 0 := by omega
   subst hn
   exact ⟨rfl, List.eq_nil_of_length_eq_zero (by simpa using hl)⟩
def zi3 (B : Nat) (w0 : World) (l : List Bl) (L : List Blk) (e : Ending) (w' : World) : Prop := ∃ v R, e = .returned v ∧ zy 146 2 v l.length (l.flatMap blV) R ∧ Hp B w0 w' (R ++ L)
end Go.Proofs.YtjcbpfbifbfkcaaGreat
