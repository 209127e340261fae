import Derived.Test.YtaafajaadfgaoaaGreatTb22
import Derived.Test.YtaafajaadfgaoaaGreatTb2
import Derived.Test.YtaafajaadfgaoaaGreatTb1
import Derived.Test.YtaafajaadfgaoaaGreatTb0
import Derived.Test.YtaafajaadfgaoaaGreatTb9
set_option linter.unusedSimpArgs false
set_option linter.unusedVariables false
set_option maxRecDepth 100000
set_option maxHeartbeats 60000000
namespace Go.Proofs.YtaafajaadfgaoaaGreat
open Go.RowKit
theorem Zh {ty : TypeId} {k : Nat} (h : zac Tryz.prog ty k = true := by with_reducible first | exact zL | exact zv | exact zl) : zac Tryz.prog ty k = true := h
theorem Zu {ty : TypeId} (h : zN Tryz.prog ty = true := by with_reducible first | exact zw | exact Zd | exact Zb | exact Zc) : zN Tryz.prog ty = true := h
theorem zbM (od : Int) (oa : Option Addr) (os : List Ob) (oc : Nat) (nx t0 t1 t2 t3 : Int) (fa : Option Addr) (fl fc : Nat) (hol : os.length ≤ 1000) (t : Int) (w : World) (ha : zD w oa (os.flatMap obV)) :
  Calls Tryz.prog 166 #[.agg #[.int .i64 od, .slice oa os.length oc, .int .i64 nx, .int .i64 t0, .int .i64 t1, .int .i64 t2, .int .i64 t3, .slice fa fl fc], .int .i64 t] w fun e w' => e = .returned (.bool (zaA os t)) ∧ Below w.heap.size w w' := by
 have hp := Hp.start w
 have HA := z0j ha
 clear ha
 by_cases h0 : t = 0
 ·subst h0
  go_enter Tryz.func166, Tryz.ntmps166
  go_wp2_with (first | go_skip | ((first | ((refine zi _ _ rfl ?_); refine lB hp rfl (zb rfl) rfl ?_; clear hp; intro b w1 hp) | ((refine zg _ _ rfl ?_); first | refine lO hp rfl (zb rfl) Zu aa5 ?_ | refine lRO hp rfl (zb rfl) Zu (by first | exact HX.out 0 _ rfl | exact HX.out 1 _ rfl | exact HX.out 2 _ rfl) ?_ | refine lA hp rfl (zb rfl) Zh aa5 ?_ | refine lR hp rfl (zb rfl) Zh HX.out ?_) | ((refine zf _ _ _ rfl ?_); (first | refine sO hp rfl (zb rfl) Zu aa5 ?_ | refine sA hp rfl (zb rfl) (zb rfl) Zh aa5 ?_ | refine sG hp rfl (zb rfl) (zb rfl) Zh aa5 ?_); clear hp; intro w1 hp; simp only [spl, z0a, z0b] at hp) | ((refine zm _ _ _ rfl ?_); refine lS hp rfl (by intro w; go_simp; rfl) ?_; clear hp; intro b w1 hp; simp only [z0g, z0h, Nat.reduceAdd] at hp)); simp only [ze, zd, z0b, z0a]))
  go_ret
  exact ⟨Ze (zfQ os).symm, hp.below⟩
 ·have HN := z0j h0
  have e0 : (t == 0) = false := by simpa using h0
  clear h0
  go_enter Tryz.func166, Tryz.ntmps166
  go_wp2_with (first | (go_at_call 206; (with_reducible refine (zja od oa os oc nx t0 t1 t2 t3 fa fl fc hol t _ (HA.out.below hp.below)).mono ?_); rintro e w1 ⟨pr, rfl, hpr, hb⟩; replace hp := hp.call hb; have HPR := z0j hpr; clear hb hpr) | go_skip | ((first | ((refine zi _ _ rfl ?_); refine lB hp rfl (zb rfl) rfl ?_; clear hp; intro b w1 hp) | ((refine zg _ _ rfl ?_); first | refine lO hp rfl (zb rfl) Zu aa5 ?_ | refine lRO hp rfl (zb rfl) Zu (by first | exact HX.out 0 _ rfl | exact HX.out 1 _ rfl | exact HX.out 2 _ rfl) ?_ | refine lA hp rfl (zb rfl) Zh aa5 ?_ | refine lR hp rfl (zb rfl) Zh HX.out ?_) | ((refine zf _ _ _ rfl ?_); (first | refine sO hp rfl (zb rfl) Zu aa5 ?_ | refine sA hp rfl (zb rfl) (zb rfl) Zh aa5 ?_ | refine sG hp rfl (zb rfl) (zb rfl) Zh aa5 ?_); clear hp; intro w1 hp; simp only [spl, z0a, z0b] at hp) | ((refine zm _ _ _ rfl ?_); refine lS hp rfl (by intro w; go_simp; rfl) ?_; clear hp; intro b w1 hp; simp only [z0g, z0h, Nat.reduceAdd] at hp)); simp only [ze, zd, z0b, z0a]))
  go_ret
  exact ⟨Ze (HPR.out.leads HN.out), hp.below⟩
def zn2 (w : World) (n : Nat) (xs : List Value) (e : Ending) (w' : World) : Prop := ∃ v R, e = .returned v ∧ zH 124 2 v n xs R ∧ Hp w.heap.size w w' R
theorem zlb (l : List Bl) (a : Option Addr) (c : Nat) (hl : l.length ≤ 2000) (w : World) (ha : zD w a (l.flatMap blV)) : Calls Tryz.prog 138 #[.slice a l.length c] w (zn2 w l.length (l.flatMap blV)) := by
 obtain ⟨i0, hi0, hz0, hz1, hz2⟩ := info_parts za6
 have hp := Hp.start w
 have HA := z0j ha
 have sm1 : 0 + l.length ≤ maxLen := by unfold maxLen; omega
 have sm2 : (0 + l.length) * 16 ≤ 140737488355328 := by omega
 clear ha
 go_enter Tryz.func138, Tryz.ntmps138
 go_wp2_with (first | ((refine zM _ _ 45 rfl ?_); refine Zp (K := []) (R := []) (M := []) hp _ _ _ rfl wy i0 _ 16 Tryz.underlying45 hi0 hz0 hz1 hz2 rfl (by decide) (zb rfl) (zH.nil _ _) a l.length c (zb rfl) _ (zaI l) (HA.out.below hp.below) (zeg l) sm1 sm2 ?_; clear hp; intro v' R' w1 hR' hp; have HR' := z0j hR'; clear hR'; simp only [ze, zd, z0b, z0a]) | go_skip)
 go_ret
 exact ⟨v', R', rfl, by simpa using HR'.out, by simpa using hp⟩
theorem zkp (od : Int) (oa : Option Addr) (os : List Ob) (oc : Nat) (nx t0 t1 t2 t3 : Int) (fa : Option Addr) (fs : List Bl) (fc : Nat) (hol : os.length ≤ 1000) (hfl : fs.length ≤ 2000) (w : World) (ha : zD w oa (os.flatMap obV)) (hf : zD w fa (fs.flatMap blV)) :
  Calls Tryz.prog 167 #[.agg #[.int .i64 od, .slice oa os.length oc, .int .i64 nx, .int .i64 t0, .int .i64 t1, .int .i64 t2, .int .i64 t3, .slice fa fs.length fc]] w (zn2 w (fs ++ os.map zaD).length ((fs ++ os.map zaD).flatMap blV)) := by
 obtain ⟨i0, hi0, hz0, hz1, hz2⟩ := info_parts za6
 have hp := Hp.start w
 have HA := z0j ha
 have HF := z0j hf
 clear ha hf
 go_enter Tryz.func167, Tryz.ntmps167
 go_wp2_with (first | (go_at_call 138; (with_reducible refine (zlb fs fa fc hfl _ (HF.out.below hp.below)).mono ?_); rintro e w1 ⟨va, RA, rfl, hra, hpa⟩; replace hp := hp.join hpa; have HRA := z0j hra; clear hpa hra; simp only [z0f, z0e] at hp) | go_skip | ((first | ((refine zi _ _ rfl ?_); refine lB hp rfl (zb rfl) rfl ?_; clear hp; intro b w1 hp) | ((refine zg _ _ rfl ?_); first | refine lO hp rfl (zb rfl) Zu aa5 ?_ | refine lRO hp rfl (zb rfl) Zu (by first | exact HX.out 0 _ rfl | exact HX.out 1 _ rfl | exact HX.out 2 _ rfl) ?_ | refine lA hp rfl (zb rfl) Zh aa5 ?_ | refine lR hp rfl (zb rfl) Zh HX.out ?_) | ((refine zf _ _ _ rfl ?_); (first | refine sO hp rfl (zb rfl) Zu aa5 ?_ | refine sA hp rfl (zb rfl) (zb rfl) Zh aa5 ?_ | refine sG hp rfl (zb rfl) (zb rfl) Zh aa5 ?_); clear hp; intro w1 hp; simp only [spl, z0a, z0b] at hp) | ((refine zm _ _ _ rfl ?_); refine lS hp rfl (by intro w; go_simp; rfl) ?_; clear hp; intro b w1 hp; simp only [z0g, z0h, Nat.reduceAdd] at hp)); simp only [ze, zd, z0b, z0a]))
 obtain ⟨b1, rfl⟩ := hp.id0
 go_loopg [3, 4] os.length (fun k va i wr => ∃ (q : Nat) (RA : List Blk), k + q = os.length ∧ i = .int .i64 q ∧ Hid (zH 124 2 va (fs.length + q) ((fs ++ (os.take q).map zaD).flatMap blV) RA) ∧ Hp w.heap.size w wr (⟨b1, [.int .i64 od, .slice oa os.length oc, .int .i64 nx, .int .i64 t0, .int .i64 t1, .int .i64 t2, .int .i64 t3, .slice fa fs.length fc], 47, 8⟩ :: RA))
 case atStart => exact ⟨0, RA, by omega, rfl, z0j (by simpa using HRA.out), hp⟩
 case round =>
  clear hp HRA
  obtain ⟨q, RA, hkq, rfl, HRA, hp⟩ := hrel
  by_cases hlt : q < os.length
  ·obtain ⟨bq, off, rfl, hx⟩ := HA.out.elems 5 Zm (by omega) (by omega)
   have hj := List.getElem?_eq_getElem hlt
   replace hx := hx q _ hj
   have HJ := z0j hj
   clear hj
   generalize os[q] = x at hx HJ
   have HTK : Hid (os.take (q + 1) = os.take q ++ [x]) := z0j (by rw [List.take_add_one, HJ.out]; rfl)
   obtain ⟨xh, xp, xo, wa, ws, wc, la, ls, lc⟩ := x
   simp only [obV] at hx
   have HX' := z0j hx
   have HX : Hid (∀ (j : Nat) v, [Value.int .i64 xp, .int .i64 xo][j]? = some v → w.cell? ⟨bq, off + q * 5 + 1 + j, none⟩ = some v) := z0j (fun j v hj => by
    have := HX'.out (1 + j) v (by
       rw [Nat.add_comm]; rw [List.getElem?_cons_succ]; have hlt : j < 2 := by { have := (List.getElem?_eq_some_iff.1 hj).1; simpa using this }
       have hc : j = 0 ∨ j = 1 := by omega
       rcases hc with rfl | rfl <;> exact hj)
    rw [Nat.add_assoc (off + q * 5)]; exact this)
   clear hx
   have e1 : (0 : Int) ≤ (q : Int) := by omega
   have e2 : (q : Int) < (os.length : Int) := by omega
   have sm1 : fs.length + q + 1 ≤ maxLen := by unfold maxLen; omega
   have sm2 : (fs.length + q + 1) * 16 ≤ 140737488355328 := by omega
   go_wp2_with (first | ((refine zM _ _ 45 rfl ?_); refine zG (K := [_]) (R := RA) (M := []) (hp.reorder (by rw [List.append_nil]; exact List.Perm.refl _)) _ _ _ rfl wy i0 _ 16 Tryz.underlying45 hi0 hz0 hz1 hz2 rfl (by decide) (zb rfl) HRA.out 1 1 (zb rfl) (by rfl) (by decide) (by rfl) sm1 sm2 ?_; clear hp HRA; intro va' RA' w1 hra hp; have HRA := z0j hra; clear hra; rw [List.append_nil] at hp; simp only [z0f, z0e] at hp; simp only [ze, zd, z0b, z0a]) | go_skip | ((first | ((refine zi _ _ rfl ?_); refine lB hp rfl (zb rfl) rfl ?_; clear hp; intro b w1 hp) | ((refine zg _ _ rfl ?_); first | refine lO hp rfl (zb rfl) Zu aa5 ?_ | refine lRO hp rfl (zb rfl) Zu (by first | exact HX.out 0 _ rfl | exact HX.out 1 _ rfl | exact HX.out 2 _ rfl) ?_ | refine lA hp rfl (zb rfl) Zh aa5 ?_ | refine lR hp rfl (zb rfl) Zh HX.out ?_) | ((refine zf _ _ _ rfl ?_); (first | refine sO hp rfl (zb rfl) Zu aa5 ?_ | refine sA hp rfl (zb rfl) (zb rfl) Zh aa5 ?_ | refine sG hp rfl (zb rfl) (zb rfl) Zh aa5 ?_); clear hp; intro w1 hp; simp only [spl, z0a, z0b] at hp) | ((refine zm _ _ _ rfl ?_); refine lS hp rfl (by intro w; go_simp; rfl) ?_; clear hp; intro b w1 hp; simp only [z0g, z0h, Nat.reduceAdd] at hp)); simp only [ze, zd, z0b, z0a]))
   go_roundg (gk - 1)
   case measure => omega
   case rel =>
    refine ⟨q + 1, RA', by omega, by go_num, z0j ?_, hp⟩
    rw [HTK.out, zeh]; exact HRA.out
  ·have e2 : decide ((q : Int) < (os.length : Int)) = false := by simp; omega
   have hq : q = os.length := by omega
   subst hq
   rw [List.take_length] at HRA
   go_wp2_with (first | go_skip | ((first | ((refine zi _ _ rfl ?_); refine lB hp rfl (zb rfl) rfl ?_; clear hp; intro b w1 hp) | ((refine zg _ _ rfl ?_); first | refine lO hp rfl (zb rfl) Zu aa5 ?_ | refine lRO hp rfl (zb rfl) Zu (by first | exact HX.out 0 _ rfl | exact HX.out 1 _ rfl | exact HX.out 2 _ rfl) ?_ | refine lA hp rfl (zb rfl) Zh aa5 ?_ | refine lR hp rfl (zb rfl) Zh HX.out ?_) | ((refine zf _ _ _ rfl ?_); (first | refine sO hp rfl (zb rfl) Zu aa5 ?_ | refine sA hp rfl (zb rfl) (zb rfl) Zh aa5 ?_ | refine sG hp rfl (zb rfl) (zb rfl) Zh aa5 ?_); clear hp; intro w1 hp; simp only [spl, z0a, z0b] at hp) | ((refine zm _ _ _ rfl ?_); refine lS hp rfl (by intro w; go_simp; rfl) ?_; clear hp; intro b w1 hp; simp only [z0g, z0h, Nat.reduceAdd] at hp)); simp only [ze, zd, z0b, z0a]))
   go_ret
   exact ⟨_, RA, rfl, by simpa using HRA.out, hp.tail⟩
theorem znU (l : List Bl) (h : ∀ b ∈ l, b.o ≤ 8) : zbD l ≤ l.length * 256 := by
 induction l with
 | nil => simp [zbD]
 | cons b l ih =>
  rw [Z1]
  have := ih (fun c hc => h c (by simp [hc]))
  have := zdN (h b (by simp))
  simp only [z0g]; omega
theorem zmA {l : List Bl} {j : Nat} {b : Bl} (h : l[j]? = some b) (hl : l.length ≤ 2000) (ho : ∀ b ∈ l, b.o ≤ 8) : zbD (l.take j) + pw b.o = zbD (l.take (j + 1)) ∧ wrap64 (zbD (l.take j) + pw b.o) = zbD (l.take (j + 1)) := by
 have h1 : zbD (l.take j) + pw b.o = zbD (l.take (j + 1)) := by
  rw [List.take_add_one, h, zbE]; simp [zbD]
 refine ⟨h1, ?_⟩
 rw [h1]
 have h2 := znU (l.take (j + 1)) (fun b hb => ho b (List.mem_of_mem_take hb))
 have h3 := ziz (l.take (j + 1))
 have h4 : (l.take (j + 1)).length ≤ l.length := by rw [List.length_take]; omega
 exact IntWalk.wrap64_in _ ⟨by omega, by omega⟩
theorem zmH (l : List Bl) (a : Option Addr) (c : Nat) (hl : l.length ≤ 2000) (ho : ∀ b ∈ l, b.o ≤ 8) (w : World) (ha : zD w a (l.flatMap blV)) :
  Calls Tryz.prog 169 #[.slice a l.length c] w fun e w' => e = .returned (.int .i64 (zbD l)) ∧ Below w.heap.size w w' := by
 have hp := Hp.start w
 have HA := z0j ha
 have HO := z0j ho
 clear ha ho
 go_enter Tryz.func169, Tryz.ntmps169
 go_wp2_with (first | go_skip | ((first | ((refine zi _ _ rfl ?_); refine lB hp rfl (zb rfl) rfl ?_; clear hp; intro b w1 hp) | ((refine zg _ _ rfl ?_); first | refine lO hp rfl (zb rfl) Zu aa5 ?_ | refine lRO hp rfl (zb rfl) Zu (by first | exact HX.out 0 _ rfl | exact HX.out 1 _ rfl | exact HX.out 2 _ rfl) ?_ | refine lA hp rfl (zb rfl) Zh aa5 ?_ | refine lR hp rfl (zb rfl) Zh HX.out ?_) | ((refine zf _ _ _ rfl ?_); (first | refine sO hp rfl (zb rfl) Zu aa5 ?_ | refine sA hp rfl (zb rfl) (zb rfl) Zh aa5 ?_ | refine sG hp rfl (zb rfl) (zb rfl) Zh aa5 ?_); clear hp; intro w1 hp; simp only [spl, z0a, z0b] at hp) | ((refine zm _ _ _ rfl ?_); refine lS hp rfl (by intro w; go_simp; rfl) ?_; clear hp; intro b w1 hp; simp only [z0g, z0h, Nat.reduceAdd] at hp)); simp only [ze, zd, z0b, z0a]))
 go_loopg [3, 4] l.length (fun k s i wr => ∃ (j : Nat) (sv : Int), k + j = l.length ∧ s = .int .i64 sv ∧ i = .int .i64 j ∧ Hid (sv = zbD (l.take j)) ∧ Hp w.heap.size w wr [])
 case atStart => exact ⟨0, 0, by omega, rfl, rfl, z0j (by simp [zbD]), hp⟩
 case round =>
  clear hp
  obtain ⟨j, sv, hkj, rfl, rfl, HS, hp⟩ := hrel
  by_cases hlt : j < l.length
  ·obtain ⟨bq, off, rfl, hx⟩ := HA.out.elems 2 Zk (by omega) (by omega)
   have hj := List.getElem?_eq_getElem hlt
   replace hx := hx j _ hj
   have HJ := z0j hj
   have ho8 := HO.out _ (List.getElem_mem hlt)
   clear hj
   generalize l[j] = y at hx HJ ho8
   have HST := z0j (zmA HJ.out hl HO.out)
   obtain ⟨yp, yo⟩ := y
   simp only [blV] at hx
   simp only at ho8 HST
   have HX := z0j hx
   clear hx
   have e1 : (0 : Int) ≤ (j : Int) := by omega
   have e2 : (j : Int) < (l.length : Int) := by omega
   go_wp2_with (first | (go_at_call 170; (with_reducible refine (zbk _ (by omega) _).mono ?_); rintro e w' ⟨rfl, rfl⟩) | go_skip | ((first | ((refine zi _ _ rfl ?_); refine lB hp rfl (zb rfl) rfl ?_; clear hp; intro b w1 hp) | ((refine zg _ _ rfl ?_); first | refine lO hp rfl (zb rfl) Zu aa5 ?_ | refine lRO hp rfl (zb rfl) Zu (by first | exact HX.out 0 _ rfl | exact HX.out 1 _ rfl | exact HX.out 2 _ rfl) ?_ | refine lA hp rfl (zb rfl) Zh aa5 ?_ | refine lR hp rfl (zb rfl) Zh HX.out ?_) | ((refine zf _ _ _ rfl ?_); (first | refine sO hp rfl (zb rfl) Zu aa5 ?_ | refine sA hp rfl (zb rfl) (zb rfl) Zh aa5 ?_ | refine sG hp rfl (zb rfl) (zb rfl) Zh aa5 ?_); clear hp; intro w1 hp; simp only [spl, z0a, z0b] at hp) | ((refine zm _ _ _ rfl ?_); refine lS hp rfl (by intro w; go_simp; rfl) ?_; clear hp; intro b w1 hp; simp only [z0g, z0h, Nat.reduceAdd] at hp)); simp only [ze, zd, z0b, z0a]))
   go_roundg (gk - 1)
   case measure => omega
   case rel => exact ⟨j + 1, _, by omega, rfl, by go_num, z0j (by rw [HS.out]; exact HST.out.2), hp⟩
  ·have e2 : decide ((j : Int) < (l.length : Int)) = false := by simp; omega
   go_wp2_with (first | go_skip | ((first | ((refine zi _ _ rfl ?_); refine lB hp rfl (zb rfl) rfl ?_; clear hp; intro b w1 hp) | ((refine zg _ _ rfl ?_); first | refine lO hp rfl (zb rfl) Zu aa5 ?_ | refine lRO hp rfl (zb rfl) Zu (by first | exact HX.out 0 _ rfl | exact HX.out 1 _ rfl | exact HX.out 2 _ rfl) ?_ | refine lA hp rfl (zb rfl) Zh aa5 ?_ | refine lR hp rfl (zb rfl) Zh HX.out ?_) | ((refine zf _ _ _ rfl ?_); (first | refine sO hp rfl (zb rfl) Zu aa5 ?_ | refine sA hp rfl (zb rfl) (zb rfl) Zh aa5 ?_ | refine sG hp rfl (zb rfl) (zb rfl) Zh aa5 ?_); clear hp; intro w1 hp; simp only [spl, z0a, z0b] at hp) | ((refine zm _ _ _ rfl ?_); refine lS hp rfl (by intro w; go_simp; rfl) ?_; clear hp; intro b w1 hp; simp only [z0g, z0h, Nat.reduceAdd] at hp)); simp only [ze, zd, z0b, z0a]))
   go_ret
   refine ⟨zbC ?_, hp.below⟩
   rw [HS.out, List.take_of_length_le (by omega)]
open Go.RowKit
theorem zju {ty : TypeId} (h : zN Tryz.prog ty = true := by with_reducible first | exact zw | exact Zd | exact Za | exact Zb | exact Zc) : zN Tryz.prog ty = true := h
def ziO (w : World) (x : Hv) (e : Ending) (w' : World) : Prop := ∃ y RO RF M, e = .returned (.agg (hvL y).toArray) ∧ x.Sm y ∧ HvR y RO RF M ∧ Hp w.heap.size w w' (RO ++ (RF ++ M))
def zm7 (w : World) (b1 b2 : Nat) (l1 l2 : List Value) (os : List Ob) (q : Nat) (v : Value) (wr : World) : Prop :=
 ∃ (ys : List Ob) (R M : List Blk), Hid (ys.length = q) ∧ Hid (∀ (i : Nat) a b, os[i]? = some a → ys[i]? = some b → a.Sm b) ∧ Hid (zH 126 5 v q (ys.flatMap obV) R) ∧ Hid (zdZ ys M) ∧
  Hp w.heap.size w wr (⟨b2, l2, 47, 8⟩ :: ⟨b1, l1, 47, 8⟩ :: (R ++ M))
theorem zoN (x : Hv) (hs : x.Small) (w : World) (hx0 : x.Is w) : Calls Tryz.prog 73 #[.agg (hvL x).toArray] w (ziO w x) := by
 obtain ⟨i0, hi0, hz0, hz1, hz2⟩ := info_parts zdm
 obtain ⟨i1, hi1, hy0, hy1, hy2⟩ := info_parts zjN
 obtain ⟨od, oa, os, oc, nx, t0, t1, t2, t3, fa, fs, fc⟩ := x
 obtain ⟨⟨hol, hosm⟩, hfl⟩ := hs
 obtain ⟨ho, hoo, hf⟩ := hx0
 simp only at hol hosm hfl ho hoo hf
 simp only [hvL]
 have hp := Hp.start w
 have HO := z0j ho
 have HOO := z0j hoo
 have HOS := z0j hosm
 have HF := z0j hf
 have HFL : Hid (fs.length ≤ 2000) := z0j (by omega)
 clear ho hoo hosm hf
 go_enter Tryz.func73, Tryz.ntmps73
 go_wp2_with (first | go_skip | ((first | ((refine zh _ rfl ?_); refine lZ hp rfl (by with_reducible first | exact zT | exact zR) ?_; clear hp; intro b w1 hp) | ((refine zi _ _ rfl ?_); refine lB hp rfl (zb rfl) rfl ?_; clear hp; intro b w1 hp) | ((refine zg _ _ rfl ?_); first | refine lO hp rfl (zb rfl) zju zq ?_ | refine lA hp rfl (zb rfl) (by with_reducible first | exact zL | exact zv) zq ?_ | refine lR hp rfl (zb rfl) (by with_reducible first | exact zL | exact zv) HX.out ?_) | ((refine zf _ _ _ rfl ?_); (first | refine sO hp rfl (zb rfl) zju zq ?_ | refine sA hp rfl (zb rfl) (zb rfl) (by with_reducible first | exact zL | exact zv) zq ?_ | refine sG hp rfl (zb rfl) (zb rfl) (by with_reducible first | exact zL | exact zv) zq ?_); clear hp; intro w1 hp; simp only [spl, z0a, z0b] at hp) | ((refine zm _ _ _ rfl ?_); refine lS hp rfl (by intro w; go_simp; rfl) ?_; clear hp; intro b w1 hp; simp only [z0g, z0h, Nat.reduceAdd] at hp)); simp only [ze, zd, z0b, z0a]))
 rename_i b1 _ _ _
 go_loopg [3, 4] os.length (fun k v i wr => ∃ q : Nat, k + q = os.length ∧ i = .int .i64 q ∧ zm7 w b1 b [.int .i64 od, .slice oa os.length oc, .int .i64 nx, .int .i64 t0, .int .i64 t1, .int .i64 t2, .int .i64 t3, .slice fa fs.length fc] [.int .i64 0, .slice none 0 0, .int .i64 0, .int .i64 0, .int .i64 0, .int .i64 0, .int .i64 0, .slice none 0 0] os q v wr)
 case atStart =>
  exact ⟨0, by omega, rfl, [], [], [], z0j rfl, z0j (fun i a b _ h => by simp at h), z0j (zH.nil _ _), z0j .nil, hp⟩
 case round =>
  clear hp
  obtain ⟨q, hkq, rfl, ys, R, M, HYL, HYS, HR, HM, hp⟩ := hrel
  by_cases hlt : q < os.length
  ·obtain ⟨bq, off, rfl, hx⟩ := HO.out.elems 5 Zm (by omega) (by omega)
   have hj := List.getElem?_eq_getElem hlt
   replace hx := hx q _ hj
   have hmem := List.getElem_mem hlt
   obtain ⟨hw1, hw2⟩ := HOO.out _ hmem
   obtain ⟨hw3, hw4⟩ := HOS.out _ hmem
   have HJ := z0j hj
   clear hj hmem
   generalize os[q] = x at hx hw1 hw2 hw3 hw4 HJ
   obtain ⟨xh, xp, xo, wa, ws, wc, la, ls, lc⟩ := x
   simp only [obV] at hx hw1 hw2 hw3 hw4
   have HX := z0j hx
   have HW := z0j hw1
   have HLK := z0j hw2
   clear hx hw1 hw2
   have e1 : (0 : Int) ≤ (q : Int) := by omega
   have e2 : (q : Int) < (os.length : Int) := by omega
   have sm1 : ws.length ≤ maxLen := by unfold maxLen; omega
   have sm2 : ws.length * 8 ≤ 140737488355328 := by omega
   have sm3 : ls.length ≤ maxLen := by unfold maxLen; omega
   have sm4 : ls.length * 8 ≤ 140737488355328 := by omega
   have sm5 : q + 1 ≤ maxLen := by unfold maxLen; omega
   have sm6 : (q + 1) * 72 ≤ 140737488355328 := by omega
   go_wp2_with (first | ((refine zM _ _ 122 rfl ?_); refine ZS hp _ _ _ rfl wy 3 i1 _ 1 8 Tryz.underlying122 hi1 hy0 hy1 hy2 rfl (by decide) (zb rfl) wa ws.length wc (zb rfl) _ (by rw [Zq iV 1 zby]) (HW.out.below hp.below) (zci ws) sm1 sm2 ?_; clear hp; intro a1 c1 R1 w1 _ hr1 hp; have HR1 := z0j hr1; clear hr1; simp only [z0f, z0i] at hp; simp only [ze, zd, z0b, z0a]) | ((refine zM _ _ 122 rfl ?_); refine ZS hp _ _ _ rfl wy 3 i1 _ 1 8 Tryz.underlying122 hi1 hy0 hy1 hy2 rfl (by decide) (zb rfl) la ls.length lc (zb rfl) _ (by rw [Zq iV 1 zby]) (HLK.out.below hp.below) (zci ls) sm3 sm4 ?_; clear hp; intro a2 c2 R2 w1 _ hr2 hp; have HR2 := z0j hr2; clear hr2; simp only [z0f, z0i] at hp; simp only [ze, zd, z0b, z0a]) | ((refine zM _ _ 43 rfl ?_); refine zG (K := [_, _, _]) hp _ _ _ rfl wy i0 _ 72 Tryz.underlying43 hi0 hz0 hz1 hz2 rfl (by decide) (zb rfl) HR.out 1 1 (zb rfl) (by rfl) (by decide) (by rfl) sm5 sm6 ?_; clear hp HR; intro v' R' w1 hR' hp; have HR' := z0j hR'; clear hR'; simp only [z0f, z0e] at hp; simp only [ze, zd, z0b, z0a]) | go_skip | ((first | ((refine zh _ rfl ?_); refine lZ hp rfl (by with_reducible first | exact zT | exact zR) ?_; clear hp; intro b w1 hp) | ((refine zi _ _ rfl ?_); refine lB hp rfl (zb rfl) rfl ?_; clear hp; intro b w1 hp) | ((refine zg _ _ rfl ?_); first | refine lO hp rfl (zb rfl) zju zq ?_ | refine lA hp rfl (zb rfl) (by with_reducible first | exact zL | exact zv) zq ?_ | refine lR hp rfl (zb rfl) (by with_reducible first | exact zL | exact zv) HX.out ?_) | ((refine zf _ _ _ rfl ?_); (first | refine sO hp rfl (zb rfl) zju zq ?_ | refine sA hp rfl (zb rfl) (zb rfl) (by with_reducible first | exact zL | exact zv) zq ?_ | refine sG hp rfl (zb rfl) (zb rfl) (by with_reducible first | exact zL | exact zv) zq ?_); clear hp; intro w1 hp; simp only [spl, z0a, z0b] at hp) | ((refine zm _ _ _ rfl ?_); refine lS hp rfl (by intro w; go_simp; rfl) ?_; clear hp; intro b w1 hp; simp only [z0g, z0h, Nat.reduceAdd] at hp)); simp only [ze, zd, z0b, z0a]))
   go_roundg (os.length - (q + 1))
   case measure => omega
   case rel =>
    refine ⟨q + 1, by omega, by go_num, ys ++ [⟨xh, xp, xo, a1, ws, c1, a2, ls, c2⟩], R', M ++ (R1 ++ R2), z0j (by rw [List.length_append, HYL.out]; rfl), z0j (zau.snoc HJ.out ⟨rfl, rfl, rfl, rfl, rfl⟩ HYL.out HYS.out), z0j (by rw [zdK]; exact HR'.out), z0j (HM.out.snoc ⟨R1, R2, rfl, HR1.out, HR2.out⟩), hp.tail⟩
  ·have e2 : decide ((q : Int) < (os.length : Int)) = false := by simp; omega
   have HQ : Hid (os.length = q) := z0j (by omega)
   obtain rfl := HYL.out
   obtain ⟨a3, c3, rfl, _⟩ := HR.out.kept
   go_wp2_with (first | (go_at_call 138; refine (zlb fs fa fc HFL.out _ (HF.out.below hp.below)).mono ?_; rintro e w1 ⟨v4, R4, rfl, hr4, hp4⟩; obtain ⟨a4, c4, rfl, _⟩ := hr4.kept; replace hp := hp.join hp4; have HR4 := z0j hr4; clear hp4 hr4; simp only [z0f, z0i] at hp) | go_skip | ((first | ((refine zh _ rfl ?_); refine lZ hp rfl (by with_reducible first | exact zT | exact zR) ?_; clear hp; intro b w1 hp) | ((refine zi _ _ rfl ?_); refine lB hp rfl (zb rfl) rfl ?_; clear hp; intro b w1 hp) | ((refine zg _ _ rfl ?_); first | refine lO hp rfl (zb rfl) zju zq ?_ | refine lA hp rfl (zb rfl) (by with_reducible first | exact zL | exact zv) zq ?_ | refine lR hp rfl (zb rfl) (by with_reducible first | exact zL | exact zv) HX.out ?_) | ((refine zf _ _ _ rfl ?_); (first | refine sO hp rfl (zb rfl) zju zq ?_ | refine sA hp rfl (zb rfl) (zb rfl) (by with_reducible first | exact zL | exact zv) zq ?_ | refine sG hp rfl (zb rfl) (zb rfl) (by with_reducible first | exact zL | exact zv) zq ?_); clear hp; intro w1 hp; simp only [spl, z0a, z0b] at hp) | ((refine zm _ _ _ rfl ?_); refine lS hp rfl (by intro w; go_simp; rfl) ?_; clear hp; intro b w1 hp; simp only [z0g, z0h, Nat.reduceAdd] at hp)); simp only [ze, zd, z0b, z0a]))
   refine bodyPost_ret (zE (rs := [.cell 2 47]) Tryz.results73 (.cell rfl (hp.loadAgg zL at0 0 _ (by rfl) (by rfl)) .nil)) rfl ⟨⟨od, a3, ys, c3, nx, t0, t1, t2, t3, a4, fs, c4⟩, R, R4, M, rfl, ⟨rfl, rfl, rfl, rfl, rfl, rfl, ⟨HQ.out, HYS.out⟩, rfl⟩, ⟨HR.out, HR4.out, HM.out⟩, hp.tail.tail.kp⟩
end Go.Proofs.YtaafajaadfgaoaaGreat
