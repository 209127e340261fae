import Derived.Test.YtaafajaadfgaoaaGreatFp2
import Derived.Test.YtaafajaadfgaoaaGreatFp1
import Derived.Test.YtaafajaadfgaoaaGreatFp0
set_option linter.unusedSimpArgs false
set_option linter.unusedVariables false
set_option maxRecDepth 100000
set_option maxHeartbeats 60000000
namespace Go.Proofs.YtaafajaadfgaoaaGreat
open Go.RowKit
theorem ZU {ty : TypeId} {k : Nat} (h : zac Tryz.prog ty k = true := by with_reducible first | exact zN | exact zv | exact zt) : zac Tryz.prog ty k = true := h
theorem zad {ty : TypeId} (h : zB Tryz.prog ty = true := by with_reducible first | exact zq | exact zA | exact za8 | exact zcq) : zB Tryz.prog ty = true := h
def zi2 (os : List Ob) (t : Int) (r : Int) : Prop := (r = -1 ∧ ∀ o ∈ os, o.h ≠ t) ∨ ∃ (j : Nat) (o : Ob), r = j ∧ os[j]? = some o ∧ o.h = t ∧ ∀ (i : Nat) q, i < j → os[i]? = some q → q.h ≠ t
theorem zi2.leads {os : List Ob} {t r : Int} (h : zi2 os t r) (h0 : t ≠ 0) : decide (0 ≤ r) = zaO os t := by
 rw [Bool.eq_iff_iff, decide_eq_true_eq, zaZ]
 rcases h with ⟨rfl, h⟩ | ⟨j, o, rfl, hj, ho, _⟩
 ·constructor
  ·intro h; omega
  ·rintro (h1 | ⟨o, ho, h1⟩)
   ·exact absurd h1 h0
   ·exact absurd h1 (h o ho)
 ·exact ⟨fun _ => .inr ⟨o, List.mem_of_getElem? hj, ho⟩, fun _ => by omega⟩
def zi3 (w : World) (os : List Ob) (t : Int) (e : Ending) (w' : World) : Prop := ∃ r : Int, e = .returned (.int .i64 r) ∧ zi2 os t r ∧ Below w.heap.size w w'
theorem zlv (od : Int) (oa : Option Addr) (os : List Ob) (oc : Nat) (nx t0 t1 t2 t3 : Int) (fa : Option Addr) (fl fc : Nat) (hol : os.length ≤ 1000) (t : Int) (w : World) (ha : zr w oa (os.flatMap obV)) :
  Calls Tryz.prog 206 #[.agg #[.int .i64 od, .slice oa os.length oc, .int .i64 nx, .int .i64 t0, .int .i64 t1, .int .i64 t2, .int .i64 t3, .slice fa fl fc], .int .i64 t] w (zi3 w os t) := by
 have hp := Hp.start w
 have HA := z0j ha
 clear ha
 go_enter Tryz.func206, Tryz.ntmps206
 go_wp2_with (first | go_skip | ((first | ((refine zh _ _ rfl ?_); refine lB hp rfl (za rfl) rfl ?_; clear hp; intro b w1 hp) | ((refine zf _ _ rfl ?_); first | refine lO hp rfl (za rfl) zad aa5 ?_ | refine lRO hp rfl (za rfl) zad (by first | exact HX.out 0 _ rfl | exact HX.out 1 _ rfl | exact HX.out 2 _ rfl) ?_ | refine lA hp rfl (za rfl) ZU aa5 ?_ | refine lR hp rfl (za rfl) ZU HX.out ?_) | ((refine zd _ _ _ rfl ?_); (first | refine sO hp rfl (za rfl) zad aa5 ?_ | refine sA hp rfl (za rfl) (za rfl) ZU aa5 ?_ | refine sG hp rfl (za rfl) (za rfl) ZU aa5 ?_); clear hp; intro w1 hp; simp only [spl, z0a, z0b] at hp) | ((refine zi _ _ _ rfl ?_); refine lS hp rfl (by intro w; go_simp; rfl) ?_; clear hp; intro b w1 hp; simp only [z0g, z0h, Nat.reduceAdd] at hp)); simp only [zc, zb, z0b, z0a]))
 obtain ⟨b1, rfl⟩ := hp.id0
 go_loopg [5] os.length (fun k i wr => ∃ j : Nat, k + j = os.length ∧ i = .int .i64 j ∧ Hid (∀ (i : Nat) q, i < j → os[i]? = some q → q.h ≠ t) ∧ Hp w.heap.size w wr [⟨b1, [.int .i64 od, .slice oa os.length oc, .int .i64 nx, .int .i64 t0, .int .i64 t1, .int .i64 t2, .int .i64 t3, .slice fa fl fc], 47, 8⟩])
 case atStart => exact ⟨0, by omega, rfl, z0j (fun i y h => by omega), hp⟩
 case round =>
  clear hp
  obtain ⟨j, hkj, rfl, HY, hp⟩ := hrel
  by_cases hlt : j < os.length
  ·obtain ⟨bq, off, rfl, hx⟩ := HA.out.elems 5 zbP (by omega) (by omega)
   have hj := List.getElem?_eq_getElem hlt
   replace hx := hx j _ hj
   have HJ := z0j hj
   clear hj
   generalize os[j] = x at hx HJ
   obtain ⟨xh, xp, xo, wa, ws, wc, la, ls, lc⟩ := x
   simp only [obV] at hx
   have HX := z0j hx
   clear hx
   have e1 : (0 : Int) ≤ (j : Int) := by omega
   have e2 : (j : Int) < (os.length : Int) := by omega
   by_cases hne : xh = t
   ·have HNE := z0j hne
    have e3 : (xh == t) = true := by simpa using hne
    clear hne
    go_wp2_with (first | go_skip | ((first | ((refine zh _ _ rfl ?_); refine lB hp rfl (za rfl) rfl ?_; clear hp; intro b w1 hp) | ((refine zf _ _ rfl ?_); first | refine lO hp rfl (za rfl) zad aa5 ?_ | refine lRO hp rfl (za rfl) zad (by first | exact HX.out 0 _ rfl | exact HX.out 1 _ rfl | exact HX.out 2 _ rfl) ?_ | refine lA hp rfl (za rfl) ZU aa5 ?_ | refine lR hp rfl (za rfl) ZU HX.out ?_) | ((refine zd _ _ _ rfl ?_); (first | refine sO hp rfl (za rfl) zad aa5 ?_ | refine sA hp rfl (za rfl) (za rfl) ZU aa5 ?_ | refine sG hp rfl (za rfl) (za rfl) ZU aa5 ?_); clear hp; intro w1 hp; simp only [spl, z0a, z0b] at hp) | ((refine zi _ _ _ rfl ?_); refine lS hp rfl (by intro w; go_simp; rfl) ?_; clear hp; intro b w1 hp; simp only [z0g, z0h, Nat.reduceAdd] at hp)); simp only [zc, zb, z0b, z0a]))
    go_ret
    exact ⟨j, rfl, .inr ⟨j, _, rfl, HJ.out, HNE.out, HY.out⟩, hp.below⟩
   ·have HNE := z0j hne
    have e3 : (xh == t) = false := by simpa using hne
    clear hne
    go_wp2_with (first | go_skip | ((first | ((refine zh _ _ rfl ?_); refine lB hp rfl (za rfl) rfl ?_; clear hp; intro b w1 hp) | ((refine zf _ _ rfl ?_); first | refine lO hp rfl (za rfl) zad aa5 ?_ | refine lRO hp rfl (za rfl) zad (by first | exact HX.out 0 _ rfl | exact HX.out 1 _ rfl | exact HX.out 2 _ rfl) ?_ | refine lA hp rfl (za rfl) ZU aa5 ?_ | refine lR hp rfl (za rfl) ZU HX.out ?_) | ((refine zd _ _ _ rfl ?_); (first | refine sO hp rfl (za rfl) zad aa5 ?_ | refine sA hp rfl (za rfl) (za rfl) ZU aa5 ?_ | refine sG hp rfl (za rfl) (za rfl) ZU aa5 ?_); clear hp; intro w1 hp; simp only [spl, z0a, z0b] at hp) | ((refine zi _ _ _ rfl ?_); refine lS hp rfl (by intro w; go_simp; rfl) ?_; clear hp; intro b w1 hp; simp only [z0g, z0h, Nat.reduceAdd] at hp)); simp only [zc, zb, z0b, z0a]))
    go_roundg (gk - 1)
    case measure => omega
    case rel =>
     refine ⟨j + 1, by omega, by go_num, z0j (fun i y hi hy => ?_), hp⟩
     rcases Nat.lt_or_ge i j with h | h
     ·exact HY.out i y h hy
     ·have : i = j := by omega
      subst this
      rw [HJ.out] at hy; injection hy with hy; subst hy; exact HNE.out
  ·have e2 : decide ((j : Int) < (os.length : Int)) = false := by simp; omega
   go_wp2_with (first | go_skip | ((first | ((refine zh _ _ rfl ?_); refine lB hp rfl (za rfl) rfl ?_; clear hp; intro b w1 hp) | ((refine zf _ _ rfl ?_); first | refine lO hp rfl (za rfl) zad aa5 ?_ | refine lRO hp rfl (za rfl) zad (by first | exact HX.out 0 _ rfl | exact HX.out 1 _ rfl | exact HX.out 2 _ rfl) ?_ | refine lA hp rfl (za rfl) ZU aa5 ?_ | refine lR hp rfl (za rfl) ZU HX.out ?_) | ((refine zd _ _ _ rfl ?_); (first | refine sO hp rfl (za rfl) zad aa5 ?_ | refine sA hp rfl (za rfl) (za rfl) ZU aa5 ?_ | refine sG hp rfl (za rfl) (za rfl) ZU aa5 ?_); clear hp; intro w1 hp; simp only [spl, z0a, z0b] at hp) | ((refine zi _ _ _ rfl ?_); refine lS hp rfl (by intro w; go_simp; rfl) ?_; clear hp; intro b w1 hp; simp only [z0g, z0h, Nat.reduceAdd] at hp)); simp only [zc, zb, z0b, z0a]))
   go_ret
   refine ⟨-1, rfl, .inl ⟨rfl, fun o ho => ?_⟩, hp.below⟩
   obtain ⟨i, hi, rfl⟩ := List.getElem_of_mem ho
   exact HY.out i _ (by omega) (List.getElem?_eq_getElem hi)
theorem zr.fix0 {w : World} {b off : Nat} {xs : List Value} (h : zr w (some ⟨b, off, none⟩) xs) : ∀ j v, xs[j]? = some v → w.cell? ⟨b, off + j, none⟩ = some v := fun j v hj => by
 obtain ⟨b', off', he, hc⟩ := h j v hj
 injection he with he; injection he with e1 e2; subst e1; subst e2; exact hc
open Go.RowKit
theorem Zd {ty : TypeId} {k : Nat} (h : zac Tryz.prog ty k = true := by with_reducible first | exact zN | exact zv | exact zt) : zac Tryz.prog ty k = true := h
theorem ZF {ty : TypeId} (h : zB Tryz.prog ty = true := by with_reducible first | exact zq | exact zA | exact za8 | exact zcq) : zB Tryz.prog ty = true := h
theorem zem (od : Int) (oa : Option Addr) (os : List Ob) (oc : Nat) (nx t0 t1 t2 t3 : Int) (fa : Option Addr) (fl fc : Nat) (hol : os.length ≤ 1000) (t : Int) (w : World) (ha : zr w oa (os.flatMap obV)) :
  Calls Tryz.prog 166 #[.agg #[.int .i64 od, .slice oa os.length oc, .int .i64 nx, .int .i64 t0, .int .i64 t1, .int .i64 t2, .int .i64 t3, .slice fa fl fc], .int .i64 t] w fun e w' => e = .returned (.bool (zaO os t)) ∧ Below w.heap.size w w' := by
 have hp := Hp.start w
 have HA := z0j ha
 clear ha
 by_cases h0 : t = 0
 ·subst h0
  go_enter Tryz.func166, Tryz.ntmps166
  go_wp2_with (first | go_skip | ((first | ((refine zh _ _ rfl ?_); refine lB hp rfl (za rfl) rfl ?_; clear hp; intro b w1 hp) | ((refine zf _ _ rfl ?_); first | refine lO hp rfl (za rfl) ZF aa5 ?_ | refine lRO hp rfl (za rfl) ZF (by first | exact HX.out 0 _ rfl | exact HX.out 1 _ rfl | exact HX.out 2 _ rfl) ?_ | refine lA hp rfl (za rfl) Zd aa5 ?_ | refine lR hp rfl (za rfl) Zd HX.out ?_) | ((refine zd _ _ _ rfl ?_); (first | refine sO hp rfl (za rfl) ZF aa5 ?_ | refine sA hp rfl (za rfl) (za rfl) Zd aa5 ?_ | refine sG hp rfl (za rfl) (za rfl) Zd aa5 ?_); clear hp; intro w1 hp; simp only [spl, z0a, z0b] at hp) | ((refine zi _ _ _ rfl ?_); refine lS hp rfl (by intro w; go_simp; rfl) ?_; clear hp; intro b w1 hp; simp only [z0g, z0h, Nat.reduceAdd] at hp)); simp only [zc, zb, z0b, z0a]))
  go_ret
  exact ⟨zL (zfi os).symm, hp.below⟩
 ·have HN := z0j h0
  have e0 : (t == 0) = false := by simpa using h0
  clear h0
  go_enter Tryz.func166, Tryz.ntmps166
  go_wp2_with (first | (go_at_call 206; (with_reducible refine (zlv od oa os oc nx t0 t1 t2 t3 fa fl fc hol t _ (HA.out.below hp.below)).mono ?_); rintro e w1 ⟨pr, rfl, hpr, hb⟩; replace hp := hp.call hb; have HPR := z0j hpr; clear hb hpr) | go_skip | ((first | ((refine zh _ _ rfl ?_); refine lB hp rfl (za rfl) rfl ?_; clear hp; intro b w1 hp) | ((refine zf _ _ rfl ?_); first | refine lO hp rfl (za rfl) ZF aa5 ?_ | refine lRO hp rfl (za rfl) ZF (by first | exact HX.out 0 _ rfl | exact HX.out 1 _ rfl | exact HX.out 2 _ rfl) ?_ | refine lA hp rfl (za rfl) Zd aa5 ?_ | refine lR hp rfl (za rfl) Zd HX.out ?_) | ((refine zd _ _ _ rfl ?_); (first | refine sO hp rfl (za rfl) ZF aa5 ?_ | refine sA hp rfl (za rfl) (za rfl) Zd aa5 ?_ | refine sG hp rfl (za rfl) (za rfl) Zd aa5 ?_); clear hp; intro w1 hp; simp only [spl, z0a, z0b] at hp) | ((refine zi _ _ _ rfl ?_); refine lS hp rfl (by intro w; go_simp; rfl) ?_; clear hp; intro b w1 hp; simp only [z0g, z0h, Nat.reduceAdd] at hp)); simp only [zc, zb, z0b, z0a]))
  go_ret
  exact ⟨zL (HPR.out.leads HN.out), hp.below⟩
def znb (w : World) (n : Nat) (xs : List Value) (e : Ending) (w' : World) : Prop := ∃ v R, e = .returned v ∧ zJ 124 2 v n xs R ∧ Hp w.heap.size w w' R
theorem zmR (l : List Bl) (a : Option Addr) (c : Nat) (hl : l.length ≤ 2000) (w : World) (ha : zr w a (l.flatMap blV)) : Calls Tryz.prog 138 #[.slice a l.length c] w (znb w l.length (l.flatMap blV)) := by
 obtain ⟨i0, hi0, hz0, hz1, hz2⟩ := info_parts zcD
 have hp := Hp.start w
 have HA := z0j ha
 have sm1 : 0 + l.length ≤ maxLen := by unfold maxLen; omega
 have sm2 : (0 + l.length) * 16 ≤ 140737488355328 := by omega
 clear ha
 go_enter Tryz.func138, Tryz.ntmps138
 go_wp2_with (first | ((refine Zb _ _ 45 rfl ?_); refine ZJ (K := []) (R := []) (M := []) hp _ _ _ rfl wy i0 _ 16 Tryz.underlying45 hi0 hz0 hz1 hz2 rfl (by decide) (za rfl) (zJ.nil _ _) a l.length c (za rfl) _ (zjM l) (HA.out.below hp.below) (zlR l) sm1 sm2 ?_; clear hp; intro v' R' w1 hR' hp; have HR' := z0j hR'; clear hR'; simp only [zc, zb, z0b, z0a]) | go_skip)
 go_ret
 exact ⟨v', R', rfl, by simpa using HR'.out, by simpa using hp⟩
theorem zja (od : Int) (oa : Option Addr) (os : List Ob) (oc : Nat) (nx t0 t1 t2 t3 : Int) (fa : Option Addr) (fs : List Bl) (fc : Nat) (hol : os.length ≤ 1000) (hfl : fs.length ≤ 2000) (w : World) (ha : zr w oa (os.flatMap obV)) (hf : zr w fa (fs.flatMap blV)) :
  Calls Tryz.prog 167 #[.agg #[.int .i64 od, .slice oa os.length oc, .int .i64 nx, .int .i64 t0, .int .i64 t1, .int .i64 t2, .int .i64 t3, .slice fa fs.length fc]] w (znb w (fs ++ os.map zaE).length ((fs ++ os.map zaE).flatMap blV)) := by
 obtain ⟨i0, hi0, hz0, hz1, hz2⟩ := info_parts zcD
 have hp := Hp.start w
 have HA := z0j ha
 have HF := z0j hf
 clear ha hf
 go_enter Tryz.func167, Tryz.ntmps167
 go_wp2_with (first | (go_at_call 138; (with_reducible refine (zmR fs fa fc hfl _ (HF.out.below hp.below)).mono ?_); rintro e w1 ⟨va, RA, rfl, hra, hpa⟩; replace hp := hp.join hpa; have HRA := z0j hra; clear hpa hra; simp only [z0f, z0e] at hp) | go_skip | ((first | ((refine zh _ _ rfl ?_); refine lB hp rfl (za rfl) rfl ?_; clear hp; intro b w1 hp) | ((refine zf _ _ rfl ?_); first | refine lO hp rfl (za rfl) ZF aa5 ?_ | refine lRO hp rfl (za rfl) ZF (by first | exact HX.out 0 _ rfl | exact HX.out 1 _ rfl | exact HX.out 2 _ rfl) ?_ | refine lA hp rfl (za rfl) Zd aa5 ?_ | refine lR hp rfl (za rfl) Zd HX.out ?_) | ((refine zd _ _ _ rfl ?_); (first | refine sO hp rfl (za rfl) ZF aa5 ?_ | refine sA hp rfl (za rfl) (za rfl) Zd aa5 ?_ | refine sG hp rfl (za rfl) (za rfl) Zd aa5 ?_); clear hp; intro w1 hp; simp only [spl, z0a, z0b] at hp) | ((refine zi _ _ _ rfl ?_); refine lS hp rfl (by intro w; go_simp; rfl) ?_; clear hp; intro b w1 hp; simp only [z0g, z0h, Nat.reduceAdd] at hp)); simp only [zc, zb, z0b, z0a]))
 obtain ⟨b1, rfl⟩ := hp.id0
 go_loopg [3, 4] os.length (fun k va i wr => ∃ (q : Nat) (RA : List Blk), k + q = os.length ∧ i = .int .i64 q ∧ Hid (zJ 124 2 va (fs.length + q) ((fs ++ (os.take q).map zaE).flatMap blV) RA) ∧ Hp w.heap.size w wr (⟨b1, [.int .i64 od, .slice oa os.length oc, .int .i64 nx, .int .i64 t0, .int .i64 t1, .int .i64 t2, .int .i64 t3, .slice fa fs.length fc], 47, 8⟩ :: RA))
 case atStart => exact ⟨0, RA, by omega, rfl, z0j (by simpa using HRA.out), hp⟩
 case round =>
  clear hp HRA
  obtain ⟨q, RA, hkq, rfl, HRA, hp⟩ := hrel
  by_cases hlt : q < os.length
  ·obtain ⟨bq, off, rfl, hx⟩ := HA.out.elems 5 zbP (by omega) (by omega)
   have hj := List.getElem?_eq_getElem hlt
   replace hx := hx q _ hj
   have HJ := z0j hj
   clear hj
   generalize os[q] = x at hx HJ
   have HTK : Hid (os.take (q + 1) = os.take q ++ [x]) := z0j (by rw [List.take_add_one, HJ.out]; rfl)
   obtain ⟨xh, xp, xo, wa, ws, wc, la, ls, lc⟩ := x
   simp only [obV] at hx
   have HX' := z0j hx
   have HX : Hid (∀ (j : Nat) v, [Value.int .i64 xp, .int .i64 xo][j]? = some v → w.cell? ⟨bq, off + q * 5 + 1 + j, none⟩ = some v) := z0j (fun j v hj => by
    have := HX'.out (1 + j) v (by
       rw [Nat.add_comm]; rw [List.getElem?_cons_succ]; have hlt : j < 2 := by { have := (List.getElem?_eq_some_iff.1 hj).1; simpa using this }
       have hc : j = 0 ∨ j = 1 := by omega
       rcases hc with rfl | rfl <;> exact hj)
    rw [Nat.add_assoc (off + q * 5)]; exact this)
   clear hx
   have e1 : (0 : Int) ≤ (q : Int) := by omega
   have e2 : (q : Int) < (os.length : Int) := by omega
   have sm1 : fs.length + q + 1 ≤ maxLen := by unfold maxLen; omega
   have sm2 : (fs.length + q + 1) * 16 ≤ 140737488355328 := by omega
   go_wp2_with (first | ((refine Zb _ _ 45 rfl ?_); refine zM (K := [_]) (R := RA) (M := []) (hp.reorder (by rw [List.append_nil]; exact List.Perm.refl _)) _ _ _ rfl wy i0 _ 16 Tryz.underlying45 hi0 hz0 hz1 hz2 rfl (by decide) (za rfl) HRA.out 1 1 (za rfl) (by rfl) (by decide) (by rfl) sm1 sm2 ?_; clear hp HRA; intro va' RA' w1 hra hp; have HRA := z0j hra; clear hra; rw [List.append_nil] at hp; simp only [z0f, z0e] at hp; simp only [zc, zb, z0b, z0a]) | go_skip | ((first | ((refine zh _ _ rfl ?_); refine lB hp rfl (za rfl) rfl ?_; clear hp; intro b w1 hp) | ((refine zf _ _ rfl ?_); first | refine lO hp rfl (za rfl) ZF aa5 ?_ | refine lRO hp rfl (za rfl) ZF (by first | exact HX.out 0 _ rfl | exact HX.out 1 _ rfl | exact HX.out 2 _ rfl) ?_ | refine lA hp rfl (za rfl) Zd aa5 ?_ | refine lR hp rfl (za rfl) Zd HX.out ?_) | ((refine zd _ _ _ rfl ?_); (first | refine sO hp rfl (za rfl) ZF aa5 ?_ | refine sA hp rfl (za rfl) (za rfl) Zd aa5 ?_ | refine sG hp rfl (za rfl) (za rfl) Zd aa5 ?_); clear hp; intro w1 hp; simp only [spl, z0a, z0b] at hp) | ((refine zi _ _ _ rfl ?_); refine lS hp rfl (by intro w; go_simp; rfl) ?_; clear hp; intro b w1 hp; simp only [z0g, z0h, Nat.reduceAdd] at hp)); simp only [zc, zb, z0b, z0a]))
   go_roundg (gk - 1)
   case measure => omega
   case rel =>
    refine ⟨q + 1, RA', by omega, by go_num, z0j ?_, hp⟩
    rw [HTK.out, zd6]; exact HRA.out
  ·have e2 : decide ((q : Int) < (os.length : Int)) = false := by simp; omega
   have hq : q = os.length := by omega
   subst hq
   rw [List.take_length] at HRA
   go_wp2_with (first | go_skip | ((first | ((refine zh _ _ rfl ?_); refine lB hp rfl (za rfl) rfl ?_; clear hp; intro b w1 hp) | ((refine zf _ _ rfl ?_); first | refine lO hp rfl (za rfl) ZF aa5 ?_ | refine lRO hp rfl (za rfl) ZF (by first | exact HX.out 0 _ rfl | exact HX.out 1 _ rfl | exact HX.out 2 _ rfl) ?_ | refine lA hp rfl (za rfl) Zd aa5 ?_ | refine lR hp rfl (za rfl) Zd HX.out ?_) | ((refine zd _ _ _ rfl ?_); (first | refine sO hp rfl (za rfl) ZF aa5 ?_ | refine sA hp rfl (za rfl) (za rfl) Zd aa5 ?_ | refine sG hp rfl (za rfl) (za rfl) Zd aa5 ?_); clear hp; intro w1 hp; simp only [spl, z0a, z0b] at hp) | ((refine zi _ _ _ rfl ?_); refine lS hp rfl (by intro w; go_simp; rfl) ?_; clear hp; intro b w1 hp; simp only [z0g, z0h, Nat.reduceAdd] at hp)); simp only [zc, zb, z0b, z0a]))
   go_ret
   exact ⟨_, RA, rfl, by simpa using HRA.out, hp.tail⟩
theorem zmX (l : List Bl) (h : ∀ b ∈ l, b.o ≤ 8) : zbS l ≤ l.length * 256 := by
 induction l with
 | nil => simp [zbS]
 | cons b l ih =>
  rw [zap]
  have := ih (fun c hc => h c (by simp [hc]))
  have := zb5 (h b (by simp))
  simp only [z0g]; omega
theorem zlG {l : List Bl} {j : Nat} {b : Bl} (h : l[j]? = some b) (hl : l.length ≤ 2000) (ho : ∀ b ∈ l, b.o ≤ 8) : zbS (l.take j) + pw b.o = zbS (l.take (j + 1)) ∧ wrap64 (zbS (l.take j) + pw b.o) = zbS (l.take (j + 1)) := by
 have h1 : zbS (l.take j) + pw b.o = zbS (l.take (j + 1)) := by
  rw [List.take_add_one, h, zeQ]; simp [zbS]
 refine ⟨h1, ?_⟩
 rw [h1]
 have h2 := zmX (l.take (j + 1)) (fun b hb => ho b (List.mem_of_mem_take hb))
 have h3 := zeR (l.take (j + 1))
 have h4 : (l.take (j + 1)).length ≤ l.length := by rw [List.length_take]; omega
 exact IntWalk.wrap64_in _ ⟨by omega, by omega⟩
theorem zlK (l : List Bl) (a : Option Addr) (c : Nat) (hl : l.length ≤ 2000) (ho : ∀ b ∈ l, b.o ≤ 8) (w : World) (ha : zr w a (l.flatMap blV)) :
  Calls Tryz.prog 169 #[.slice a l.length c] w fun e w' => e = .returned (.int .i64 (zbS l)) ∧ Below w.heap.size w w' := by
 have hp := Hp.start w
 have HA := z0j ha
 have HO := z0j ho
 clear ha ho
 go_enter Tryz.func169, Tryz.ntmps169
 go_wp2_with (first | go_skip | ((first | ((refine zh _ _ rfl ?_); refine lB hp rfl (za rfl) rfl ?_; clear hp; intro b w1 hp) | ((refine zf _ _ rfl ?_); first | refine lO hp rfl (za rfl) ZF aa5 ?_ | refine lRO hp rfl (za rfl) ZF (by first | exact HX.out 0 _ rfl | exact HX.out 1 _ rfl | exact HX.out 2 _ rfl) ?_ | refine lA hp rfl (za rfl) Zd aa5 ?_ | refine lR hp rfl (za rfl) Zd HX.out ?_) | ((refine zd _ _ _ rfl ?_); (first | refine sO hp rfl (za rfl) ZF aa5 ?_ | refine sA hp rfl (za rfl) (za rfl) Zd aa5 ?_ | refine sG hp rfl (za rfl) (za rfl) Zd aa5 ?_); clear hp; intro w1 hp; simp only [spl, z0a, z0b] at hp) | ((refine zi _ _ _ rfl ?_); refine lS hp rfl (by intro w; go_simp; rfl) ?_; clear hp; intro b w1 hp; simp only [z0g, z0h, Nat.reduceAdd] at hp)); simp only [zc, zb, z0b, z0a]))
 go_loopg [3, 4] l.length (fun k s i wr => ∃ (j : Nat) (sv : Int), k + j = l.length ∧ s = .int .i64 sv ∧ i = .int .i64 j ∧ Hid (sv = zbS (l.take j)) ∧ Hp w.heap.size w wr [])
 case atStart => exact ⟨0, 0, by omega, rfl, rfl, z0j (by simp [zbS]), hp⟩
 case round =>
  clear hp
  obtain ⟨j, sv, hkj, rfl, rfl, HS, hp⟩ := hrel
  by_cases hlt : j < l.length
  ·obtain ⟨bq, off, rfl, hx⟩ := HA.out.elems 2 zbv (by omega) (by omega)
   have hj := List.getElem?_eq_getElem hlt
   replace hx := hx j _ hj
   have HJ := z0j hj
   have ho8 := HO.out _ (List.getElem_mem hlt)
   clear hj
   generalize l[j] = y at hx HJ ho8
   have HST := z0j (zlG HJ.out hl HO.out)
   obtain ⟨yp, yo⟩ := y
   simp only [blV] at hx
   simp only at ho8 HST
   have HX := z0j hx
   clear hx
   have e1 : (0 : Int) ≤ (j : Int) := by omega
   have e2 : (j : Int) < (l.length : Int) := by omega
   go_wp2_with (first | (go_at_call 170; (with_reducible refine (zao _ (by omega) _).mono ?_); rintro e w' ⟨rfl, rfl⟩) | go_skip | ((first | ((refine zh _ _ rfl ?_); refine lB hp rfl (za rfl) rfl ?_; clear hp; intro b w1 hp) | ((refine zf _ _ rfl ?_); first | refine lO hp rfl (za rfl) ZF aa5 ?_ | refine lRO hp rfl (za rfl) ZF (by first | exact HX.out 0 _ rfl | exact HX.out 1 _ rfl | exact HX.out 2 _ rfl) ?_ | refine lA hp rfl (za rfl) Zd aa5 ?_ | refine lR hp rfl (za rfl) Zd HX.out ?_) | ((refine zd _ _ _ rfl ?_); (first | refine sO hp rfl (za rfl) ZF aa5 ?_ | refine sA hp rfl (za rfl) (za rfl) Zd aa5 ?_ | refine sG hp rfl (za rfl) (za rfl) Zd aa5 ?_); clear hp; intro w1 hp; simp only [spl, z0a, z0b] at hp) | ((refine zi _ _ _ rfl ?_); refine lS hp rfl (by intro w; go_simp; rfl) ?_; clear hp; intro b w1 hp; simp only [z0g, z0h, Nat.reduceAdd] at hp)); simp only [zc, zb, z0b, z0a]))
   go_roundg (gk - 1)
   case measure => omega
   case rel => exact ⟨j + 1, _, by omega, rfl, by go_num, z0j (by rw [HS.out]; exact HST.out.2), hp⟩
  ·have e2 : decide ((j : Int) < (l.length : Int)) = false := by simp; omega
   go_wp2_with (first | go_skip | ((first | ((refine zh _ _ rfl ?_); refine lB hp rfl (za rfl) rfl ?_; clear hp; intro b w1 hp) | ((refine zf _ _ rfl ?_); first | refine lO hp rfl (za rfl) ZF aa5 ?_ | refine lRO hp rfl (za rfl) ZF (by first | exact HX.out 0 _ rfl | exact HX.out 1 _ rfl | exact HX.out 2 _ rfl) ?_ | refine lA hp rfl (za rfl) Zd aa5 ?_ | refine lR hp rfl (za rfl) Zd HX.out ?_) | ((refine zd _ _ _ rfl ?_); (first | refine sO hp rfl (za rfl) ZF aa5 ?_ | refine sA hp rfl (za rfl) (za rfl) Zd aa5 ?_ | refine sG hp rfl (za rfl) (za rfl) Zd aa5 ?_); clear hp; intro w1 hp; simp only [spl, z0a, z0b] at hp) | ((refine zi _ _ _ rfl ?_); refine lS hp rfl (by intro w; go_simp; rfl) ?_; clear hp; intro b w1 hp; simp only [z0g, z0h, Nat.reduceAdd] at hp)); simp only [zc, zb, z0b, z0a]))
   go_ret
   refine ⟨zcI ?_, hp.below⟩
   rw [HS.out, List.take_of_length_le (by omega)]
end Go.Proofs.YtaafajaadfgaoaaGreat
