import Derived.Test.YtaafajaadfgaoaaGreatTb0
import Derived.Test.YtaafajaadfgaoaaGreatTb1
import Derived.Deep.LoopGhost
set_option linter.unusedSimpArgs false
set_option linter.unusedVariables false
set_option maxRecDepth 100000
set_option maxHeartbeats 60000000
namespace Go.Proofs.YtaafajaadfgaoaaGreat
open Go.RowKit
structure Hv where
 od : Int
 oa : Option Addr
 os : List Ob
 oc : Nat
 nx : Int
 t0 : Int
 t1 : Int
 t2 : Int
 t3 : Int
 fa : Option Addr
 fs : List Bl
 fc : Nat
def hvL (x : Hv) : List Value := [.int .i64 x.od, .slice x.oa x.os.length x.oc, .int .i64 x.nx, .int .i64 x.t0, .int .i64 x.t1, .int .i64 x.t2, .int .i64 x.t3, .slice x.fa x.fs.length x.fc]
def Hv.Is (w : World) (x : Hv) : Prop := zD w x.oa (x.os.flatMap obV) ∧ (∀ o ∈ x.os, o.Is w) ∧ zD w x.fa (x.fs.flatMap blV)
def zau (l k : List Ob) : Prop := l.length = k.length ∧ ∀ (i : Nat) a b, l[i]? = some a → k[i]? = some b → a.Sm b
structure Hv.Sm (x y : Hv) : Prop where
 od : x.od = y.od
 nx : x.nx = y.nx
 t0 : x.t0 = y.t0
 t1 : x.t1 = y.t1
 t2 : x.t2 = y.t2
 t3 : x.t3 = y.t3
 os : zau x.os y.os
 fs : x.fs = y.fs
def zlL (l : List Ob) : Prop := l.length ≤ 600 ∧ ∀ o ∈ l, o.ws.length ≤ 5000 ∧ o.ls.length ≤ 5000
def Hv.Small (x : Hv) : Prop := zlL x.os ∧ x.fs.length ≤ 600
theorem zau.refl (l : List Ob) : zau l l := ⟨rfl, fun i a b h1 h2 => by rw [h1] at h2; injection h2 with h2; subst h2; exact Ob.Sm.rfl_ _⟩
theorem zau.symm {l k : List Ob} (h : zau l k) : zau k l := ⟨h.1.symm, fun i a b h1 h2 => (h.2 i b a h2 h1).symm⟩
theorem Hv.Sm.refl (x : Hv) : x.Sm x := ⟨rfl, rfl, rfl, rfl, rfl, rfl, zau.refl _, rfl⟩
theorem Hv.Sm.symm {x y : Hv} (h : x.Sm y) : y.Sm x := ⟨h.od.symm, h.nx.symm, h.t0.symm, h.t1.symm, h.t2.symm, h.t3.symm, h.os.symm, h.fs.symm⟩
theorem Hv.Is.below {w w' : World} {x : Hv} (h : x.Is w) (hb : Below w.heap.size w w') : x.Is w' := ⟨h.1.below hb, fun o ho => (h.2.1 o ho).below hb, h.2.2.below hb⟩
theorem zau.snoc {l k : List Ob} {n : Nat} {x y : Ob} (hx : l[n]? = some x) (hy : x.Sm y) (hk : k.length = n) (h : ∀ (i : Nat) a b, l[i]? = some a → k[i]? = some b → a.Sm b) :
  ∀ (i : Nat) a b, l[i]? = some a → (k ++ [y])[i]? = some b → a.Sm b := by
 intro i a b h1 h2
 rcases Nat.lt_or_ge i k.length with hi | hi
 ·rw [List.getElem?_append_left hi] at h2
  exact h i a b h1 h2
 ·rw [List.getElem?_append_right hi] at h2
  rcases Nat.lt_or_ge (i - k.length) 1 with h3 | h3
  ·have : i = n := by omega
   subst this
   rw [hk, Nat.sub_self] at h2
   simp at h2
   subst h2
   rw [hx] at h1
   injection h1 with h1
   subst h1
   exact hy
  ·rw [List.getElem?_eq_none (by simpa using h3)] at h2
   cases h2
theorem zdK (k : List Ob) (y : Ob) : (k ++ [y]).flatMap obV = k.flatMap obV ++ obV y := by simp [List.flatMap_append]
theorem Ob.Sm.trans {x y z : Ob} (h : x.Sm y) (k : y.Sm z) : x.Sm z := by
 obtain ⟨h1, h2, h3, h4, h5⟩ := h
 obtain ⟨k1, k2, k3, k4, k5⟩ := k
 exact ⟨h1.trans k1, h2.trans k2, h3.trans k3, h4.trans k4, h5.trans k5⟩
theorem zau.trans {l k m : List Ob} (h : zau l k) (h' : zau k m) : zau l m := ⟨h.1.trans h'.1, fun i a c h1 h2 => by
 obtain ⟨hlt, _⟩ := List.getElem?_eq_some_iff.1 h1
 have hb := List.getElem?_eq_getElem (l := k) (i := i) (by have := h.1; omega)
 exact (h.2 i _ _ h1 hb).trans (h'.2 i _ _ hb h2)⟩
theorem Hv.Sm.trans {x y z : Hv} (h : x.Sm y) (k : y.Sm z) : x.Sm z := ⟨h.od.trans k.od, h.nx.trans k.nx, h.t0.trans k.t0, h.t1.trans k.t1, h.t2.trans k.t2, h.t3.trans k.t3, h.os.trans k.os, h.fs.trans k.fs⟩
theorem Hv.Small.sm {x y : Hv} (h : x.Small) (k : x.Sm y) : y.Small := by
 obtain ⟨⟨h1, h2⟩, h3⟩ := h
 refine ⟨⟨by rw [← k.os.1]; exact h1, fun o ho => ?_⟩, by rw [← k.fs]; exact h3⟩
 obtain ⟨i, hi, rfl⟩ := List.getElem_of_mem ho
 have ha := List.getElem?_eq_getElem (l := x.os) (i := i) (by have := k.os.1; omega)
 obtain ⟨_, _, _, h4, h5⟩ := k.os.2 i _ _ ha (List.getElem?_eq_getElem hi)
 rw [← h4, ← h5]
 exact h2 _ (List.getElem_mem _)
structure Rw where
 c : Int
 s : Int
 e : Int
 v : Int
 deriving DecidableEq
def rwV (x : Rw) : List Value := [.int .i64 x.c, .int .i64 x.s, .int .i64 x.e, .int .i64 x.v]
theorem ZP (x : Rw) : (rwV x).length = 4 := rfl
structure Sv where
 hv : Hv
 ra : Option Addr
 rs : List Rw
 rc : Nat
def svL (x : Sv) : List Value := hvL x.hv ++ [.slice x.ra x.rs.length x.rc]
def Sv.Is (w : World) (x : Sv) : Prop := x.hv.Is w ∧ zD w x.ra (x.rs.flatMap rwV)
def Sv.Sm (x y : Sv) : Prop := x.hv.Sm y.hv ∧ x.rs = y.rs
def Sv.Small (x : Sv) : Prop := x.hv.Small ∧ x.rs.length ≤ 1000
theorem Sv.Sm.symm {x y : Sv} (h : x.Sm y) : y.Sm x := ⟨h.1.symm, h.2.symm⟩
theorem Sv.Sm.trans {x y z : Sv} (h : x.Sm y) (k : y.Sm z) : x.Sm z := ⟨h.1.trans k.1, h.2.trans k.2⟩
theorem Sv.Small.sm {x y : Sv} (h : x.Small) (k : x.Sm y) : y.Small := ⟨h.1.sm k.1, by rw [← k.2]; exact h.2⟩
theorem Sv.Is.below {w w' : World} {x : Sv} (h : x.Is w) (hb : Below w.heap.size w w') : x.Is w' := ⟨h.1.below hb, h.2.below hb⟩
open Go.RowKit
--@optional
theorem zv : zac Tryz.prog 126 5 = true := by kernel_rfl
theorem zL : zac Tryz.prog 47 8 = true := by kernel_rfl
theorem zY : zac Tryz.prog 50 9 = true := by kernel_rfl
theorem zC : zac Tryz.prog 120 4 = true := by kernel_rfl
theorem zpf : zac Tryz.prog 44 4 = true := by kernel_rfl
theorem Za : zN Tryz.prog 122 = true := by kernel_rfl
theorem Zb : zN Tryz.prog 43 = true := by kernel_rfl
theorem Zc : zN Tryz.prog 45 = true := by kernel_rfl
theorem zat : zN Tryz.prog 48 = true := by kernel_rfl
theorem zR : zbl Tryz.prog 126 = some ([.int .i64 0, .int .i64 0, .int .i64 0, .slice none 0 0, .slice none 0 0], 5) := by kernel_rfl
theorem zT : zbl Tryz.prog 47 = some ([.int .i64 0, .slice none 0 0, .int .i64 0, .int .i64 0, .int .i64 0, .int .i64 0, .int .i64 0, .slice none 0 0], 8) := by kernel_rfl
theorem Z7 : zbl Tryz.prog 50 = some ([.int .i64 0, .slice none 0 0, .int .i64 0, .int .i64 0, .int .i64 0, .int .i64 0, .int .i64 0, .slice none 0 0, .slice none 0 0], 9) := by kernel_rfl
theorem Z5 : zbl Tryz.prog 120 = some ([.int .i64 0, .int .i64 0, .int .i64 0, .int .i64 0], 4) := by kernel_rfl
theorem zdm : (Tryz.prog.info? 126).map (fun i => (i.zero, i.size, i.bytes)) = some (some (.agg #[.int .i64 0, .int .i64 0, .int .i64 0, .slice none 0 0, .slice none 0 0]), 5, 72) := by kernel_rfl
theorem zjN : (Tryz.prog.info? 3).map (fun i => (i.zero, i.size, i.bytes)) = some (some (.int .i64 0), 1, 8) := by kernel_rfl
theorem zeZ : (Tryz.prog.info? 120).map (fun i => (i.zero, i.size, i.bytes)) = some (some (.agg #[.int .i64 0, .int .i64 0, .int .i64 0, .int .i64 0]), 4, 32) := by kernel_rfl
open Go.RowKit
theorem zmT (l : List Int) (a a' : Option Addr) (c c' : Nat) (hl : l.length ≤ 5000) (w : World) (ha : zD w a (l.flatMap iV)) (ha' : zD w a' (l.flatMap iV)) :
  Calls Tryz.prog 83 #[.slice a l.length c, .slice a' l.length c'] w fun e w' => e = .returned (.bool true) ∧ Below w.heap.size w w' := by
 have hp := Hp.start w
 have HA := z0j ha
 have HA' := z0j ha'
 clear ha ha'
 go_enter Tryz.func83, Tryz.ntmps83
 go_wp2_with (first | go_skip | ((first | ((refine zi _ _ rfl ?_); refine lB hp rfl (zb rfl) rfl ?_; clear hp; intro b w1 hp) | ((refine zg _ _ rfl ?_); refine lO hp rfl (zb rfl) (by with_reducible first | exact zw | exact Zd) zq ?_) | ((refine zf _ _ _ rfl ?_); (refine sO hp rfl (zb rfl) (by with_reducible first | exact zw | exact Zd) zq ?_); clear hp; intro w1 hp; simp only [spl, z0a, z0b] at hp)); simp only [ze, zd, z0b, z0a]))
 go_loopg [5] l.length (fun k i wr => ∃ j : Nat, k + j = l.length ∧ i = .int .i64 j ∧ Hp w.heap.size w wr [])
 case atStart => exact ⟨0, by omega, rfl, hp⟩
 case round =>
  clear hp
  obtain ⟨j, hkj, rfl, hp⟩ := hrel
  by_cases hlt : j < l.length
  ·obtain ⟨b, off, rfl, hx⟩ := HA.out.elems 1 zby (by omega) (by omega)
   obtain ⟨b', off', rfl, hy⟩ := HA'.out.elems 1 zby (by omega) (by omega)
   replace hx := hx j _ (List.getElem?_eq_getElem hlt)
   replace hy := hy j _ (List.getElem?_eq_getElem hlt)
   generalize l[j] = x at hx hy
   simp only [iV, Nat.mul_one] at hx hy
   have HX := z0j hx
   have HY := z0j hy
   clear hx hy
   have e1 : (0 : Int) ≤ (j : Int) := by omega
   have e2 : (j : Int) < (l.length : Int) := by omega
   go_wp2_with (first | go_skip | ((first | ((refine zi _ _ rfl ?_); refine lB hp rfl (zb rfl) rfl ?_; clear hp; intro b w1 hp) | ((refine zg _ _ rfl ?_); refine lO hp rfl (zb rfl) (by with_reducible first | exact zw | exact Zd) zq ?_) | ((refine zf _ _ _ rfl ?_); (refine sO hp rfl (zb rfl) (by with_reducible first | exact zw | exact Zd) zq ?_); clear hp; intro w1 hp; simp only [spl, z0a, z0b] at hp)); simp only [ze, zd, z0b, z0a]))
   refine zk _ (zA.all hp.drew) [] [(0, true), (1, true), (2, true), (3, true), (4, true), (5, true), (6, true), (7, true), (8, true)] (by kernel_rfl) (by kernel_rfl) rfl (by kernel_rfl) (fun _ _ d _ _ h => by cases d <;> exact h) ?_
   replace hp := hp.drew
   repeat' (with_reducible refine zB ?_); first | (with_reducible refine zt ?_) | ((with_reducible refine zI ?_); refine zy rfl ?_; (first | ((with_reducible refine zV _ rfl ?_); refine tM rfl ?_) | ((with_reducible refine zS _ _ rfl ?_); first | refine tO rfl (zb rfl) zw zq ?_ | refine tRO rfl (zb rfl) zw (HX.out 0 _ rfl) ?_ | refine tRO rfl (zb rfl) zw (HY.out 0 _ rfl) ?_) | refine tG (fun w _ => (by go_simp; try rfl)) ?_); try simp only [ze, zd, zn, zj, z0b, z0a, z0d, z0c, zr])
   go_wp2_with fail
   go_roundg (gk - 1)
   case measure => omega
   case rel => exact ⟨j + 1, by omega, by go_num, hp⟩
  ·have e2 : decide ((j : Int) < (l.length : Int)) = false := by simp; omega
   go_wp2_with fail
   go_ret
   exact ⟨rfl, hp.below⟩
theorem zci (l : List Int) : (l.flatMap iV).all (·.oneCell') = true := by
 rw [List.all_eq_true]; intro u hu; obtain ⟨x, _, hx⟩ := List.mem_flatMap.1 hu; simp [iV] at hx; subst hx; rfl
theorem zne (l : List Bl) : (l.flatMap blV).all (·.oneCell') = true := by
 rw [List.all_eq_true]; intro u hu; obtain ⟨x, _, hx⟩ := List.mem_flatMap.1 hu; simp [blV] at hx; rcases hx with rfl | rfl <;> rfl
def zpJ (w : World) (xs : List Value) (n : Nat) (e : Ending) (w' : World) : Prop := ∃ a c R, e = .returned (.slice a n c) ∧ ZC R (fun w => zD w a xs) ∧ Hp w.heap.size w w' R
theorem znL (l : List Bl) (a : Option Addr) (c : Nat) (hl : l.length ≤ 600) (w : World) (ha : zD w a (l.flatMap blV)) : Calls Tryz.prog 138 #[.slice a l.length c] w (zpJ w (l.flatMap blV) l.length) := by
 obtain ⟨i0, hi0, hz0, hz1, hz2⟩ := info_parts za6
 have HA := z0j ha
 have hp := Hp.start w
 clear ha
 go_enter Tryz.func138, Tryz.ntmps138
 go_wp2_with (refine ZS hp (.tmp 4) (.tmp 5) _ rfl wy 124 i0 _ 2 16 Tryz.underlying45 hi0 hz0 hz1 hz2 rfl (by omega) (by rfl) a l.length c (by rfl) _ (zaI l) HA.out (zne l) (by simp only [maxLen]; omega) (by omega) ?_; clear hp; intro a1 c1 R1 w1 hr1 _ hp; simp only [ze, zd, z0b, z0a])
 go_ret
 exact ⟨a1, c1, R1, rfl, hr1, by simpa using hp⟩
open Go.RowKit
theorem zd0 {ty : TypeId} (h : zN Tryz.prog ty = true := by with_reducible first | exact zw | exact Zd | exact Za | exact Zb | exact Zc) : zN Tryz.prog ty = true := h
def ziN (w : World) (x : Hv) (e : Ending) (w' : World) : Prop := ∃ y R, e = .returned (.agg (hvL y).toArray) ∧ x.Sm y ∧ ZC R (fun w => y.Is w) ∧ Hp w.heap.size w w' R
def zn3 (w : World) (b1 b2 : Nat) (l1 l2 : List Value) (os : List Ob) (q : Nat) (v : Value) (wr : World) : Prop :=
 ∃ (ys : List Ob) (R M : List Blk), Hid (ys.length = q) ∧ Hid (∀ (i : Nat) a b, os[i]? = some a → ys[i]? = some b → a.Sm b) ∧ Hid (zH 126 5 v q (ys.flatMap obV) R) ∧ Hid (ZC M (fun w => ∀ o ∈ ys, o.Is w)) ∧
  Hp w.heap.size w wr (⟨b2, l2, 47, 8⟩ :: ⟨b1, l1, 47, 8⟩ :: (R ++ M))
theorem zpw (x : Hv) (hs : x.Small) (w : World) (hx0 : x.Is w) : Calls Tryz.prog 73 #[.agg (hvL x).toArray] w (ziN w x) := by
 obtain ⟨i0, hi0, hz0, hz1, hz2⟩ := info_parts zdm
 obtain ⟨i1, hi1, hy0, hy1, hy2⟩ := info_parts zjN
 obtain ⟨od, oa, os, oc, nx, t0, t1, t2, t3, fa, fs, fc⟩ := x
 obtain ⟨⟨hol, hosm⟩, hfl⟩ := hs
 obtain ⟨ho, hoo, hf⟩ := hx0
 simp only at hol hosm hfl ho hoo hf
 simp only [hvL]
 have hp := Hp.start w
 have HO := z0j ho
 have HOO := z0j hoo
 have HOS := z0j hosm
 have HF := z0j hf
 clear ho hoo hosm hf
 go_enter Tryz.func73, Tryz.ntmps73
 go_wp2_with (first | go_skip | ((first | ((refine zh _ rfl ?_); refine lZ hp rfl (by with_reducible first | exact zT | exact zR) ?_; clear hp; intro b w1 hp) | ((refine zi _ _ rfl ?_); refine lB hp rfl (zb rfl) rfl ?_; clear hp; intro b w1 hp) | ((refine zg _ _ rfl ?_); first | refine lO hp rfl (zb rfl) zd0 zq ?_ | refine lA hp rfl (zb rfl) (by with_reducible first | exact zL | exact zv) zq ?_ | refine lR hp rfl (zb rfl) (by with_reducible first | exact zL | exact zv) HX.out ?_) | ((refine zf _ _ _ rfl ?_); (first | refine sO hp rfl (zb rfl) zd0 zq ?_ | refine sA hp rfl (zb rfl) (zb rfl) (by with_reducible first | exact zL | exact zv) zq ?_ | refine sG hp rfl (zb rfl) (zb rfl) (by with_reducible first | exact zL | exact zv) zq ?_); clear hp; intro w1 hp; simp only [spl, z0a, z0b] at hp) | ((refine zm _ _ _ rfl ?_); refine lS hp rfl (by intro w; go_simp; rfl) ?_; clear hp; intro b w1 hp; simp only [z0g, z0h, Nat.reduceAdd] at hp)); simp only [ze, zd, z0b, z0a]))
 rename_i b1 _ _ _
 go_loopg [3, 4] os.length (fun k v i wr => ∃ q : Nat, k + q = os.length ∧ i = .int .i64 q ∧ zn3 w b1 b [.int .i64 od, .slice oa os.length oc, .int .i64 nx, .int .i64 t0, .int .i64 t1, .int .i64 t2, .int .i64 t3, .slice fa fs.length fc] [.int .i64 0, .slice none 0 0, .int .i64 0, .int .i64 0, .int .i64 0, .int .i64 0, .int .i64 0, .slice none 0 0] os q v wr)
 case atStart =>
  exact ⟨0, by omega, rfl, [], [], [], z0j rfl, z0j (fun i a b _ h => by simp at h), z0j (zH.nil _ _), z0j (ZC.none_ (fun w o ho => by cases ho) _), hp⟩
 case round =>
  clear hp
  obtain ⟨q, hkq, rfl, ys, R, M, HYL, HYS, HR, HM, hp⟩ := hrel
  by_cases hlt : q < os.length
  ·obtain ⟨bq, off, rfl, hx⟩ := HO.out.elems 5 Zm (by omega) (by omega)
   have hj := List.getElem?_eq_getElem hlt
   replace hx := hx q _ hj
   have hmem := List.getElem_mem hlt
   obtain ⟨hw1, hw2⟩ := HOO.out _ hmem
   obtain ⟨hw3, hw4⟩ := HOS.out _ hmem
   have HJ := z0j hj
   clear hj hmem
   generalize os[q] = x at hx hw1 hw2 hw3 hw4 HJ
   obtain ⟨xh, xp, xo, wa, ws, wc, la, ls, lc⟩ := x
   simp only [obV] at hx hw1 hw2 hw3 hw4
   have HX := z0j hx
   have HW := z0j hw1
   have HLK := z0j hw2
   clear hx hw1 hw2
   have e1 : (0 : Int) ≤ (q : Int) := by omega
   have e2 : (q : Int) < (os.length : Int) := by omega
   have sm1 : ws.length ≤ maxLen := by unfold maxLen; omega
   have sm2 : ws.length * 8 ≤ 140737488355328 := by omega
   have sm3 : ls.length ≤ maxLen := by unfold maxLen; omega
   have sm4 : ls.length * 8 ≤ 140737488355328 := by omega
   have sm5 : q + 1 ≤ maxLen := by unfold maxLen; omega
   have sm6 : (q + 1) * 72 ≤ 140737488355328 := by omega
   go_wp2_with (first | ((refine zM _ _ 122 rfl ?_); refine ZS hp _ _ _ rfl wy 3 i1 _ 1 8 Tryz.underlying122 hi1 hy0 hy1 hy2 rfl (by decide) (zb rfl) wa ws.length wc (zb rfl) _ (by rw [Zq iV 1 zby]) (HW.out.below hp.below) (zci ws) sm1 sm2 ?_; clear hp; intro a1 c1 R1 w1 hr1 _ hp; have HR1 := z0j hr1; clear hr1; simp only [z0f, z0i] at hp; simp only [ze, zd, z0b, z0a]) | ((refine zM _ _ 122 rfl ?_); refine ZS hp _ _ _ rfl wy 3 i1 _ 1 8 Tryz.underlying122 hi1 hy0 hy1 hy2 rfl (by decide) (zb rfl) la ls.length lc (zb rfl) _ (by rw [Zq iV 1 zby]) (HLK.out.below hp.below) (zci ls) sm3 sm4 ?_; clear hp; intro a2 c2 R2 w1 hr2 _ hp; have HR2 := z0j hr2; clear hr2; simp only [z0f, z0i] at hp; simp only [ze, zd, z0b, z0a]) | ((refine zM _ _ 43 rfl ?_); refine zG (K := [_, _, _]) hp _ _ _ rfl wy i0 _ 72 Tryz.underlying43 hi0 hz0 hz1 hz2 rfl (by decide) (zb rfl) HR.out 1 1 (zb rfl) (by rfl) (by decide) (by rfl) sm5 sm6 ?_; clear hp HR; intro v' R' w1 hR' hp; have HR' := z0j hR'; clear hR'; simp only [z0f, z0e] at hp; simp only [ze, zd, z0b, z0a]) | go_skip | ((first | ((refine zh _ rfl ?_); refine lZ hp rfl (by with_reducible first | exact zT | exact zR) ?_; clear hp; intro b w1 hp) | ((refine zi _ _ rfl ?_); refine lB hp rfl (zb rfl) rfl ?_; clear hp; intro b w1 hp) | ((refine zg _ _ rfl ?_); first | refine lO hp rfl (zb rfl) zd0 zq ?_ | refine lA hp rfl (zb rfl) (by with_reducible first | exact zL | exact zv) zq ?_ | refine lR hp rfl (zb rfl) (by with_reducible first | exact zL | exact zv) HX.out ?_) | ((refine zf _ _ _ rfl ?_); (first | refine sO hp rfl (zb rfl) zd0 zq ?_ | refine sA hp rfl (zb rfl) (zb rfl) (by with_reducible first | exact zL | exact zv) zq ?_ | refine sG hp rfl (zb rfl) (zb rfl) (by with_reducible first | exact zL | exact zv) zq ?_); clear hp; intro w1 hp; simp only [spl, z0a, z0b] at hp) | ((refine zm _ _ _ rfl ?_); refine lS hp rfl (by intro w; go_simp; rfl) ?_; clear hp; intro b w1 hp; simp only [z0g, z0h, Nat.reduceAdd] at hp)); simp only [ze, zd, z0b, z0a]))
   go_roundg (os.length - (q + 1))
   case measure => omega
   case rel =>
    refine ⟨q + 1, by omega, by go_num, ys ++ [⟨xh, xp, xo, a1, ws, c1, a2, ls, c2⟩], R', M ++ (R1 ++ R2), z0j (by rw [List.length_append, HYL.out]; rfl), z0j (zau.snoc HJ.out ⟨rfl, rfl, rfl, rfl, rfl⟩ HYL.out HYS.out), z0j (by rw [zdK]; exact HR'.out), z0j ?_, hp.tail⟩
    intro B w0 w' L hpx hm o ho
    rcases List.mem_append.1 ho with ho | ho
    ·exact HM.out B w0 w' L hpx (fun p hp2 => hm p (by simp [hp2])) o ho
    ·obtain rfl := List.mem_singleton.1 ho
     exact ⟨HR1.out B w0 w' L hpx (fun p hp2 => hm p (by simp [hp2])), HR2.out B w0 w' L hpx (fun p hp2 => hm p (by simp [hp2]))⟩
  ·have e2 : decide ((q : Int) < (os.length : Int)) = false := by simp; omega
   have HQ : Hid (os.length = q) := z0j (by omega)
   obtain rfl := HYL.out
   obtain ⟨a3, c3, rfl, hk3⟩ := HR.out.kept
   have HK3 := z0j hk3
   clear hk3
   go_wp2_with (first | (go_at_call 138; refine (znL _ _ _ hfl _ (HF.out.below hp.below)).mono ?_; rintro e w1 ⟨a4, c4, R4, rfl, hr4, hp4⟩; replace hp := hp.join hp4; have HR4 := z0j hr4; clear hp4 hr4; simp only [z0f, z0i] at hp) | go_skip | ((first | ((refine zh _ rfl ?_); refine lZ hp rfl (by with_reducible first | exact zT | exact zR) ?_; clear hp; intro b w1 hp) | ((refine zi _ _ rfl ?_); refine lB hp rfl (zb rfl) rfl ?_; clear hp; intro b w1 hp) | ((refine zg _ _ rfl ?_); first | refine lO hp rfl (zb rfl) zd0 zq ?_ | refine lA hp rfl (zb rfl) (by with_reducible first | exact zL | exact zv) zq ?_ | refine lR hp rfl (zb rfl) (by with_reducible first | exact zL | exact zv) HX.out ?_) | ((refine zf _ _ _ rfl ?_); (first | refine sO hp rfl (zb rfl) zd0 zq ?_ | refine sA hp rfl (zb rfl) (zb rfl) (by with_reducible first | exact zL | exact zv) zq ?_ | refine sG hp rfl (zb rfl) (zb rfl) (by with_reducible first | exact zL | exact zv) zq ?_); clear hp; intro w1 hp; simp only [spl, z0a, z0b] at hp) | ((refine zm _ _ _ rfl ?_); refine lS hp rfl (by intro w; go_simp; rfl) ?_; clear hp; intro b w1 hp; simp only [z0g, z0h, Nat.reduceAdd] at hp)); simp only [ze, zd, z0b, z0a]))
   refine bodyPost_ret (zE (rs := [.cell 2 47]) Tryz.results73 (.cell rfl (hp.loadAgg zL at0 0 _ (by rfl) (by rfl)) .nil)) rfl ⟨⟨od, a3, ys, c3, nx, t0, t1, t2, t3, a4, fs, c4⟩, R ++ (M ++ R4), rfl, ⟨rfl, rfl, rfl, rfl, rfl, rfl, ⟨HQ.out, HYS.out⟩, rfl⟩, ?_, hp.tail.tail⟩
   intro B w0 w' L hpx hm
   exact ⟨HK3.out B w0 w' L hpx (fun p hp2 => hm p (by simp [hp2])), HM.out B w0 w' L hpx (fun p hp2 => hm p (by simp [hp2])), HR4.out B w0 w' L hpx (fun p hp2 => hm p (by simp [hp2]))⟩
open Go.RowKit
theorem zad {ty : TypeId} {k : Nat} (h : zac Tryz.prog ty k = true := by with_reducible first | exact zL | exact zv | exact zpf | exact zl) : zac Tryz.prog ty k = true := h
theorem zcY {ty : TypeId} (h : zN Tryz.prog ty = true := by with_reducible first | exact zw | exact Zd | exact Za | exact Zb | exact Zc) : zN Tryz.prog ty = true := h
theorem zoW (x y : Hv) (hs : x.Small) (hxy : x.Sm y) (w : World) (hx0 : x.Is w) (hy0 : y.Is w) : Calls Tryz.prog 27 #[.agg (hvL x).toArray, .agg (hvL y).toArray] w fun e w' => e = .returned (.bool true) ∧ Below w.heap.size w w' := by
 obtain ⟨od, oa, os, oc, nx, t0, t1, t2, t3, fa, fs, fc⟩ := x
 obtain ⟨od', oa', os', oc', nx', t0', t1', t2', t3', fa', fs', fc'⟩ := y
 obtain ⟨⟨hol, hosm⟩, hfl⟩ := hs
 obtain ⟨h1, h2, h3, h4, h5, h6, ⟨h7, h8⟩, h9⟩ := hxy
 obtain ⟨ho, hoo, hf⟩ := hx0
 obtain ⟨ho', hoo', hf'⟩ := hy0
 simp only at hol hosm hfl ho hoo hf ho' hoo' hf' h1 h2 h3 h4 h5 h6 h7 h8 h9
 subst h1 h2 h3 h4 h5 h6 h9
 simp only [hvL]
 rw [← h7]
 have hp := Hp.start w
 have HO := z0j ho
 have HOO := z0j hoo
 have HOS := z0j hosm
 have HF := z0j hf
 have HO' := z0j ho'
 have HOO' := z0j hoo'
 have HG := z0j hf'
 have H7 := z0j h7
 have H8 := z0j h8
 clear ho hoo hosm hf ho' hoo' hf' h7 h8
 go_enter Tryz.func27, Tryz.ntmps27
 go_wp2_with (first | ((refine znM 44 _ _ _ rfl ?_); refine zfy _ _ _ _ rfl wy Tryz.underlying44 zw Tryz.underlying3 (by kernel_rfl) _ _ _ _ _ _ _ _ (zb rfl) (zb rfl) ?_; simp only [beq_self_eq_true, Bool.and_self, Bool.not_true, ze, zd, z0b, z0a]) | (go_at_call 82; refine (zoX _ _ _ _ _ hfl _ (HF.out.below hp.below) (HG.out.below hp.below)).mono ?_; rintro e w1 ⟨rfl, hb⟩; replace hp := hp.call hb; clear hb) | go_skip | ((first | ((refine zh _ rfl ?_); refine lZ hp rfl (by with_reducible first | exact zT | exact zR) ?_; clear hp; intro b w1 hp) | ((refine zi _ _ rfl ?_); refine lB hp rfl (zb rfl) rfl ?_; clear hp; intro b w1 hp) | ((refine zg _ _ rfl ?_); first | refine lO hp rfl (zb rfl) zcY zq ?_ | refine lA hp rfl (zb rfl) zad zq ?_ | refine lR hp rfl (zb rfl) zad HX.out ?_ | refine lR hp rfl (zb rfl) zad HY.out ?_) | ((refine zf _ _ _ rfl ?_); (first | refine sO hp rfl (zb rfl) zcY zq ?_ | refine sA hp rfl (zb rfl) (zb rfl) zad zq ?_ | refine sG hp rfl (zb rfl) (zb rfl) zad zq ?_); clear hp; intro w1 hp; simp only [spl, z0a, z0b] at hp)); simp only [ze, zd, z0b, z0a]))
 obtain ⟨b1, rfl⟩ := hp.id1
 go_loopg [5] os.length (fun k i wr => ∃ j : Nat, k + j = os.length ∧ i = .int .i64 j ∧ Hp w.heap.size w wr [⟨b, [.int .i64 od, .slice oa' os.length oc', .int .i64 nx, .int .i64 t0, .int .i64 t1, .int .i64 t2, .int .i64 t3, .slice fa' fs.length fc'], 47, 8⟩, ⟨b1, [.int .i64 od, .slice oa os.length oc, .int .i64 nx, .int .i64 t0, .int .i64 t1, .int .i64 t2, .int .i64 t3, .slice fa fs.length fc], 47, 8⟩])
 case atStart => exact ⟨0, by omega, rfl, hp⟩
 case round =>
  clear hp
  obtain ⟨j, hkj, rfl, hp⟩ := hrel
  by_cases hlt : j < os.length
  ·have hlt' : j < os'.length := by rw [← H7.out]; exact hlt
   obtain ⟨bq, off, rfl, hx⟩ := HO.out.elems 5 Zm (by omega) (by omega)
   obtain ⟨bq', off', rfl, hy⟩ := HO'.out.elems 5 Zm (by omega) (by omega)
   have hj := List.getElem?_eq_getElem hlt
   have hj' := List.getElem?_eq_getElem hlt'
   replace hx := hx j _ hj
   replace hy := hy j _ hj'
   have hsm := H8.out j _ _ hj hj'
   obtain ⟨hw1, hw2⟩ := HOO.out _ (List.getElem_mem hlt)
   obtain ⟨hv1, hv2⟩ := HOO'.out _ (List.getElem_mem hlt')
   obtain ⟨hw3, hw4⟩ := HOS.out _ (List.getElem_mem hlt)
   clear hj hj'
   generalize os[j] = x at hx hw1 hw2 hw3 hw4 hsm
   generalize os'[j] = y at hy hv1 hv2 hsm
   obtain ⟨xh, xp, xo, wa, ws, wc, la, ls, lc⟩ := x
   obtain ⟨yh, yp, yo, wa', ws', wc', la', ls', lc'⟩ := y
   obtain ⟨s1, s2, s3, s4, s5⟩ := hsm
   simp only [obV] at hx hy hw1 hw2 hw3 hw4 hv1 hv2 s1 s2 s3 s4 s5
   subst s1 s2 s3 s4 s5
   have HX := z0j hx
   have HY := z0j hy
   have HW := z0j hw1
   have HLK := z0j hw2
   have HW2 := z0j hv1
   have HLK2 := z0j hv2
   clear hx hy hw1 hw2 hv1 hv2 hlt'
   have e1 : (0 : Int) ≤ (j : Int) := by omega
   have e2 : (j : Int) < (os.length : Int) := by omega
   go_wp2_with (first | (go_at_call 83; (with_reducible refine (zmT ws wa wa' wc wc' hw3 _ (HW.out.below hp.below) (HW2.out.below hp.below)).mono ?_); rintro e w1 ⟨rfl, hb⟩; replace hp := hp.call hb; clear hb) | (go_at_call 83; (with_reducible refine (zmT ls la la' lc lc' hw4 _ (HLK.out.below hp.below) (HLK2.out.below hp.below)).mono ?_); rintro e w1 ⟨rfl, hb⟩; replace hp := hp.call hb; clear hb) | go_skip | ((first | ((refine zh _ rfl ?_); refine lZ hp rfl (by with_reducible first | exact zT | exact zR) ?_; clear hp; intro b w1 hp) | ((refine zi _ _ rfl ?_); refine lB hp rfl (zb rfl) rfl ?_; clear hp; intro b w1 hp) | ((refine zg _ _ rfl ?_); first | refine lO hp rfl (zb rfl) zcY zq ?_ | refine lA hp rfl (zb rfl) zad zq ?_ | refine lR hp rfl (zb rfl) zad HX.out ?_ | refine lR hp rfl (zb rfl) zad HY.out ?_) | ((refine zf _ _ _ rfl ?_); (first | refine sO hp rfl (zb rfl) zcY zq ?_ | refine sA hp rfl (zb rfl) (zb rfl) zad zq ?_ | refine sG hp rfl (zb rfl) (zb rfl) zad zq ?_); clear hp; intro w1 hp; simp only [spl, z0a, z0b] at hp)); simp only [ze, zd, z0b, z0a]))
   go_roundg (gk - 1)
   case measure => omega
   case rel => exact ⟨j + 1, by omega, by go_num, hp.tail.tail⟩
  ·have e2 : decide ((j : Int) < (os.length : Int)) = false := by simp; omega
   go_wp2_with (first | go_skip | ((first | ((refine zh _ rfl ?_); refine lZ hp rfl (by with_reducible first | exact zT | exact zR) ?_; clear hp; intro b w1 hp) | ((refine zi _ _ rfl ?_); refine lB hp rfl (zb rfl) rfl ?_; clear hp; intro b w1 hp) | ((refine zg _ _ rfl ?_); first | refine lO hp rfl (zb rfl) zcY zq ?_ | refine lA hp rfl (zb rfl) zad zq ?_ | refine lR hp rfl (zb rfl) zad HX.out ?_ | refine lR hp rfl (zb rfl) zad HY.out ?_) | ((refine zf _ _ _ rfl ?_); (first | refine sO hp rfl (zb rfl) zcY zq ?_ | refine sA hp rfl (zb rfl) (zb rfl) zad zq ?_ | refine sG hp rfl (zb rfl) (zb rfl) zad zq ?_); clear hp; intro w1 hp; simp only [spl, z0a, z0b] at hp)); simp only [ze, zd, z0b, z0a]))
   go_ret
   exact ⟨rfl, hp.below⟩
open Go.RowKit
theorem zai {ty : TypeId} (h : zN Tryz.prog ty = true := by with_reducible first | exact zw | exact Zd | exact Za | exact Zb | exact Zc) : zN Tryz.prog ty = true := h
def ziJ (w : World) (x : Hv) (e : Ending) (w' : World) : Prop := ∃ b, e = .returned (.bool b) ∧ (b = false → x.Small) ∧ Below w.heap.size w w'
theorem zpi (x : Hv) (w : World) (hx0 : x.Is w) : Calls Tryz.prog 72 #[.agg (hvL x).toArray] w (ziJ w x) := by
 obtain ⟨od, oa, os, oc, nx, t0, t1, t2, t3, fa, fs, fc⟩ := x
 obtain ⟨ho, hoo, hf⟩ := hx0
 simp only at ho hoo hf
 simp only [hvL]
 have hp := Hp.start w
 have HO := z0j ho
 clear ho hoo hf
 by_cases d1 : (600 : Int) < (os.length : Int)
 ·go_enter Tryz.func72, Tryz.ntmps72
  go_wp2_with (first | go_skip | ((first | ((refine zh _ rfl ?_); refine lZ hp rfl (by with_reducible first | exact zT | exact zR) ?_; clear hp; intro b w1 hp) | ((refine zi _ _ rfl ?_); refine lB hp rfl (zb rfl) rfl ?_; clear hp; intro b w1 hp) | ((refine zg _ _ rfl ?_); first | refine lO hp rfl (zb rfl) zai aa5 ?_ | refine lRO hp rfl (zb rfl) zai (by first | exact HX.out 0 _ rfl | exact HX.out 1 _ rfl | exact HX.out 2 _ rfl | exact HX.out 3 _ rfl | exact HX.out 4 _ rfl) ?_ | refine lA hp rfl (zb rfl) (by with_reducible first | exact zL | exact zv) aa5 ?_ | refine lR hp rfl (zb rfl) (by with_reducible first | exact zL | exact zv) HX.out ?_) | ((refine zf _ _ _ rfl ?_); (first | refine sO hp rfl (zb rfl) zai aa5 ?_ | refine sA hp rfl (zb rfl) (zb rfl) (by with_reducible first | exact zL | exact zv) aa5 ?_ | refine sG hp rfl (zb rfl) (zb rfl) (by with_reducible first | exact zL | exact zv) aa5 ?_); clear hp; intro w1 hp; simp only [spl, z0a, z0b] at hp)); simp only [ze, zd, z0b, z0a]))
  go_ret
  exact ⟨true, rfl, (by intro h; cases h), hp.below⟩
 have d2 : decide ((600 : Int) < (os.length : Int)) = false := by simp; omega
 by_cases d3 : (600 : Int) < (fs.length : Int)
 ·clear d1
  go_enter Tryz.func72, Tryz.ntmps72
  go_wp2_with (first | go_skip | ((first | ((refine zh _ rfl ?_); refine lZ hp rfl (by with_reducible first | exact zT | exact zR) ?_; clear hp; intro b w1 hp) | ((refine zi _ _ rfl ?_); refine lB hp rfl (zb rfl) rfl ?_; clear hp; intro b w1 hp) | ((refine zg _ _ rfl ?_); first | refine lO hp rfl (zb rfl) zai aa5 ?_ | refine lRO hp rfl (zb rfl) zai (by first | exact HX.out 0 _ rfl | exact HX.out 1 _ rfl | exact HX.out 2 _ rfl | exact HX.out 3 _ rfl | exact HX.out 4 _ rfl) ?_ | refine lA hp rfl (zb rfl) (by with_reducible first | exact zL | exact zv) aa5 ?_ | refine lR hp rfl (zb rfl) (by with_reducible first | exact zL | exact zv) HX.out ?_) | ((refine zf _ _ _ rfl ?_); (first | refine sO hp rfl (zb rfl) zai aa5 ?_ | refine sA hp rfl (zb rfl) (zb rfl) (by with_reducible first | exact zL | exact zv) aa5 ?_ | refine sG hp rfl (zb rfl) (zb rfl) (by with_reducible first | exact zL | exact zv) aa5 ?_); clear hp; intro w1 hp; simp only [spl, z0a, z0b] at hp)); simp only [ze, zd, z0b, z0a]))
  go_ret
  exact ⟨true, rfl, (by intro h; cases h), hp.below⟩
 have d4 : decide ((600 : Int) < (fs.length : Int)) = false := by simp; omega
 have hol : os.length ≤ 600 := by omega
 have HFL : Hid (fs.length ≤ 600) := z0j (by omega)
 clear d1 d3
 go_enter Tryz.func72, Tryz.ntmps72
 go_wp2_with (first | go_skip | ((first | ((refine zh _ rfl ?_); refine lZ hp rfl (by with_reducible first | exact zT | exact zR) ?_; clear hp; intro b w1 hp) | ((refine zi _ _ rfl ?_); refine lB hp rfl (zb rfl) rfl ?_; clear hp; intro b w1 hp) | ((refine zg _ _ rfl ?_); first | refine lO hp rfl (zb rfl) zai aa5 ?_ | refine lRO hp rfl (zb rfl) zai (by first | exact HX.out 0 _ rfl | exact HX.out 1 _ rfl | exact HX.out 2 _ rfl | exact HX.out 3 _ rfl | exact HX.out 4 _ rfl) ?_ | refine lA hp rfl (zb rfl) (by with_reducible first | exact zL | exact zv) aa5 ?_ | refine lR hp rfl (zb rfl) (by with_reducible first | exact zL | exact zv) HX.out ?_) | ((refine zf _ _ _ rfl ?_); (first | refine sO hp rfl (zb rfl) zai aa5 ?_ | refine sA hp rfl (zb rfl) (zb rfl) (by with_reducible first | exact zL | exact zv) aa5 ?_ | refine sG hp rfl (zb rfl) (zb rfl) (by with_reducible first | exact zL | exact zv) aa5 ?_); clear hp; intro w1 hp; simp only [spl, z0a, z0b] at hp)); simp only [ze, zd, z0b, z0a]))
 go_loopg [3, 4] os.length (fun k n i wr => ∃ q m : Nat, k + q = os.length ∧ i = .int .i64 q ∧ n = .int .i64 m ∧ m ≤ 15002 ∧ Hid (m ≤ 5000 → ∀ (j : Nat) o, j < q → os[j]? = some o → o.ws.length ≤ 5000 ∧ o.ls.length ≤ 5000) ∧ Hp w.heap.size w wr [⟨b, [.int .i64 od, .slice oa os.length oc, .int .i64 nx, .int .i64 t0, .int .i64 t1, .int .i64 t2, .int .i64 t3, .slice fa fs.length fc], 47, 8⟩])
 case atStart => exact ⟨0, 0, by omega, rfl, rfl, by omega, z0j (fun _ j o hj => by omega), hp⟩
 case round =>
  clear hp
  obtain ⟨q, m, hkq, rfl, rfl, hm, HM, hp⟩ := hrel
  by_cases hlt : q < os.length
  ·have e1 : (0 : Int) ≤ (q : Int) := by omega
   have e2 : (q : Int) < (os.length : Int) := by omega
   by_cases hm5 : m ≤ 5000
   ·have e3 : (m : Int) ≤ 5000 := by omega
    obtain ⟨bq, off, rfl, hx⟩ := HO.out.elems 5 Zm (by omega) (by omega)
    have hj := List.getElem?_eq_getElem hlt
    replace hx := hx q _ hj
    have HJ := z0j hj
    clear hj
    generalize os[q] = x at hx HJ
    obtain ⟨xh, xp, xo, wa, ws, wc, la, ls, lc⟩ := x
    simp only [obV] at hx
    have HX := z0j hx
    clear hx
    rcases Int.lt_or_le (5001 : Int) ws.length with hA | hA <;> rcases Int.lt_or_le (5001 : Int) ls.length with hB | hB
    all_goals
     have hA' := hA
     have hB' := hB
     try rw [← Int.not_lt] at hA'
     try rw [← Int.not_lt] at hB'
     go_wp2_with (first | go_skip | ((first | ((refine zh _ rfl ?_); refine lZ hp rfl (by with_reducible first | exact zT | exact zR) ?_; clear hp; intro b w1 hp) | ((refine zi _ _ rfl ?_); refine lB hp rfl (zb rfl) rfl ?_; clear hp; intro b w1 hp) | ((refine zg _ _ rfl ?_); first | refine lO hp rfl (zb rfl) zai aa5 ?_ | refine lRO hp rfl (zb rfl) zai (by first | exact HX.out 0 _ rfl | exact HX.out 1 _ rfl | exact HX.out 2 _ rfl | exact HX.out 3 _ rfl | exact HX.out 4 _ rfl) ?_ | refine lA hp rfl (zb rfl) (by with_reducible first | exact zL | exact zv) aa5 ?_ | refine lR hp rfl (zb rfl) (by with_reducible first | exact zL | exact zv) HX.out ?_) | ((refine zf _ _ _ rfl ?_); (first | refine sO hp rfl (zb rfl) zai aa5 ?_ | refine sA hp rfl (zb rfl) (zb rfl) (by with_reducible first | exact zL | exact zv) aa5 ?_ | refine sG hp rfl (zb rfl) (zb rfl) (by with_reducible first | exact zL | exact zv) aa5 ?_); clear hp; intro w1 hp; simp only [spl, z0a, z0b] at hp)); simp only [ze, zd, z0b, z0a]))
     refine zk _ (zA.all hp.drew) [] [(0, true), (1, true), (2, true), (3, true), (4, true), (5, true), (6, true), (7, true), (8, true), (9, true), (10, true), (11, true), (12, true), (13, true), (14, true), (15, true), (16, true), (17, true), (18, true), (19, false)] (by kernel_rfl) (by kernel_rfl) rfl (by kernel_rfl) (fun _ _ d _ _ h => by cases d <;> exact h) ?_
     replace hp := hp.drew
     repeat' (with_reducible refine zB ?_); first | (with_reducible refine zt ?_) | ((with_reducible refine zI ?_); refine zy rfl ?_; (first | ((with_reducible refine zV _ rfl ?_); refine tM rfl ?_) | ((with_reducible refine zS _ _ rfl ?_); first | refine tO rfl (zb rfl) (by with_reducible first | exact Za | exact Zb) aa5 ?_ | refine tRO rfl (zb rfl) (by with_reducible first | exact Za | exact Zb) (HX.out 0 _ rfl) ?_ | refine tRO rfl (zb rfl) (by with_reducible first | exact Za | exact Zb) (HX.out 1 _ rfl) ?_ | refine tRO rfl (zb rfl) (by with_reducible first | exact Za | exact Zb) (HX.out 2 _ rfl) ?_ | refine tRO rfl (zb rfl) (by with_reducible first | exact Za | exact Zb) (HX.out 3 _ rfl) ?_ | refine tRO rfl (zb rfl) (by with_reducible first | exact Za | exact Zb) (HX.out 4 _ rfl) ?_) | refine tG (fun w _ => (by go_simp; try rfl)) ?_); try simp only [ze, zd, zn, zj, z0b, z0a, z0d, z0c, zr]) | (refine zF rfl (fun K hK => ?_); go_wp2_with (first | go_skip); (refine hK.out _ _ (.inr (zd2 hp)) ?_); clear hK K; try simp only [ze, zd, zn, zj, z0b, z0a, z0d, z0c, zr])
     go_wp2_with fail
     go_roundg (gk - 1)
     case measure => omega
     case rel =>
      have key : ∀ M : Nat, (M ≤ 5000 → ws.length ≤ 5000 ∧ ls.length ≤ 5000) → (M ≤ 5000 → m ≤ 5000) → (M ≤ 5000 → ∀ (j : Nat) o, j < q + 1 → os[j]? = some o → o.ws.length ≤ 5000 ∧ o.ls.length ≤ 5000) := by
       intro M h1 h2 h5 j o hjq ho
       rcases Nat.lt_or_ge j q with h | h
       ·exact HM.out (h2 h5) j o h ho
       ·have : j = q := by omega
        subst this
        rw [HJ.out] at ho
        injection ho with ho
        subst ho
        exact h1 h5
      first
       | exact ⟨q + 1, m + ws.length + ls.length, by omega, by go_num, congrArg (Value.int .i64) (by unfold wrap64; omega), by omega, z0j (key _ (by omega) (by omega)), hp⟩
       | exact ⟨q + 1, m + ws.length + 5001, by omega, by go_num, congrArg (Value.int .i64) (by unfold wrap64; omega), by omega, z0j (key _ (by omega) (by omega)), hp⟩
       | exact ⟨q + 1, m + 5001 + ls.length, by omega, by go_num, congrArg (Value.int .i64) (by unfold wrap64; omega), by omega, z0j (key _ (by omega) (by omega)), hp⟩
       | exact ⟨q + 1, m + 5001 + 5001, by omega, by go_num, congrArg (Value.int .i64) (by unfold wrap64; omega), by omega, z0j (key _ (by omega) (by omega)), hp⟩
   ·have e3 : decide ((m : Int) ≤ 5000) = false := by simp; omega
    have e4 : (5000 : Int) < (m : Int) := by omega
    go_wp2_with (first | go_skip | ((first | ((refine zh _ rfl ?_); refine lZ hp rfl (by with_reducible first | exact zT | exact zR) ?_; clear hp; intro b w1 hp) | ((refine zi _ _ rfl ?_); refine lB hp rfl (zb rfl) rfl ?_; clear hp; intro b w1 hp) | ((refine zg _ _ rfl ?_); first | refine lO hp rfl (zb rfl) zai aa5 ?_ | refine lRO hp rfl (zb rfl) zai (by first | exact HX.out 0 _ rfl | exact HX.out 1 _ rfl | exact HX.out 2 _ rfl | exact HX.out 3 _ rfl | exact HX.out 4 _ rfl) ?_ | refine lA hp rfl (zb rfl) (by with_reducible first | exact zL | exact zv) aa5 ?_ | refine lR hp rfl (zb rfl) (by with_reducible first | exact zL | exact zv) HX.out ?_) | ((refine zf _ _ _ rfl ?_); (first | refine sO hp rfl (zb rfl) zai aa5 ?_ | refine sA hp rfl (zb rfl) (zb rfl) (by with_reducible first | exact zL | exact zv) aa5 ?_ | refine sG hp rfl (zb rfl) (zb rfl) (by with_reducible first | exact zL | exact zv) aa5 ?_); clear hp; intro w1 hp; simp only [spl, z0a, z0b] at hp)); simp only [ze, zd, z0b, z0a]))
    go_ret
    exact ⟨true, rfl, (by intro h; cases h), hp.below⟩
  ·have e2 : decide ((q : Int) < (os.length : Int)) = false := by simp; omega
   go_wp2_with (first | go_skip | ((first | ((refine zh _ rfl ?_); refine lZ hp rfl (by with_reducible first | exact zT | exact zR) ?_; clear hp; intro b w1 hp) | ((refine zi _ _ rfl ?_); refine lB hp rfl (zb rfl) rfl ?_; clear hp; intro b w1 hp) | ((refine zg _ _ rfl ?_); first | refine lO hp rfl (zb rfl) zai aa5 ?_ | refine lRO hp rfl (zb rfl) zai (by first | exact HX.out 0 _ rfl | exact HX.out 1 _ rfl | exact HX.out 2 _ rfl | exact HX.out 3 _ rfl | exact HX.out 4 _ rfl) ?_ | refine lA hp rfl (zb rfl) (by with_reducible first | exact zL | exact zv) aa5 ?_ | refine lR hp rfl (zb rfl) (by with_reducible first | exact zL | exact zv) HX.out ?_) | ((refine zf _ _ _ rfl ?_); (first | refine sO hp rfl (zb rfl) zai aa5 ?_ | refine sA hp rfl (zb rfl) (zb rfl) (by with_reducible first | exact zL | exact zv) aa5 ?_ | refine sG hp rfl (zb rfl) (zb rfl) (by with_reducible first | exact zL | exact zv) aa5 ?_); clear hp; intro w1 hp; simp only [spl, z0a, z0b] at hp)); simp only [ze, zd, z0b, z0a]))
   go_ret
   refine ⟨_, rfl, fun h => ?_, hp.below⟩
   have h5 : m ≤ 5000 := by simp at h; omega
   refine ⟨⟨hol, fun o ho => ?_⟩, HFL.out⟩
   obtain ⟨j, hj, hjo⟩ := List.getElem_of_mem ho
   have hj' : j < os.length := hj
   exact HM.out h5 j o (by omega) (by rw [List.getElem?_eq_getElem hj, hjo])
open Go.RowKit
theorem zoM (od : Int) (oa : Option Addr) (os : List Ob) (oc : Nat) (nx t0 t1 t2 t3 : Int) (fa : Option Addr) (fs : List Bl) (fc : Nat) (hs : Hv.Small ⟨od, oa, os, oc, nx, t0, t1, t2, t3, fa, fs, fc⟩) (w : World) (h : Hv.Is w ⟨od, oa, os, oc, nx, t0, t1, t2, t3, fa, fs, fc⟩) : Calls Tryz.prog 73 #[(.agg #[.int .i64 od, .slice oa os.length oc, .int .i64 nx, .int .i64 t0, .int .i64 t1, .int .i64 t2, .int .i64 t3, .slice fa fs.length fc])] w (ziN w ⟨od, oa, os, oc, nx, t0, t1, t2, t3, fa, fs, fc⟩) := zpw ⟨od, oa, os, oc, nx, t0, t1, t2, t3, fa, fs, fc⟩ hs w h
theorem zoi (od : Int) (oa : Option Addr) (os : List Ob) (oc : Nat) (nx t0 t1 t2 t3 : Int) (fa : Option Addr) (fs : List Bl) (fc : Nat) (w : World) (h : Hv.Is w ⟨od, oa, os, oc, nx, t0, t1, t2, t3, fa, fs, fc⟩) : Calls Tryz.prog 72 #[(.agg #[.int .i64 od, .slice oa os.length oc, .int .i64 nx, .int .i64 t0, .int .i64 t1, .int .i64 t2, .int .i64 t3, .slice fa fs.length fc])] w (ziJ w ⟨od, oa, os, oc, nx, t0, t1, t2, t3, fa, fs, fc⟩) := zpi ⟨od, oa, os, oc, nx, t0, t1, t2, t3, fa, fs, fc⟩ w h
theorem znR (od : Int) (oa : Option Addr) (os : List Ob) (oc : Nat) (nx t0 t1 t2 t3 : Int) (fa : Option Addr) (fs : List Bl) (fc : Nat) (od' : Int) (oa' : Option Addr) (os' : List Ob) (oc' : Nat) (nx' t0' t1' t2' t3' : Int) (fa' : Option Addr) (fs' : List Bl) (fc' : Nat) (hs : Hv.Small ⟨od, oa, os, oc, nx, t0, t1, t2, t3, fa, fs, fc⟩) (hxy : Hv.Sm ⟨od, oa, os, oc, nx, t0, t1, t2, t3, fa, fs, fc⟩ ⟨od', oa', os', oc', nx', t0', t1', t2', t3', fa', fs', fc'⟩) (w : World) (h : Hv.Is w ⟨od, oa, os, oc, nx, t0, t1, t2, t3, fa, fs, fc⟩) (h' : Hv.Is w ⟨od', oa', os', oc', nx', t0', t1', t2', t3', fa', fs', fc'⟩) : Calls Tryz.prog 27 #[(.agg #[.int .i64 od, .slice oa os.length oc, .int .i64 nx, .int .i64 t0, .int .i64 t1, .int .i64 t2, .int .i64 t3, .slice fa fs.length fc]), (.agg #[.int .i64 od', .slice oa' os'.length oc', .int .i64 nx', .int .i64 t0', .int .i64 t1', .int .i64 t2', .int .i64 t3', .slice fa' fs'.length fc'])] w fun e w' => e = .returned (.bool true) ∧ Below w.heap.size w w' := zoW ⟨od, oa, os, oc, nx, t0, t1, t2, t3, fa, fs, fc⟩ ⟨od', oa', os', oc', nx', t0', t1', t2', t3', fa', fs', fc'⟩ hs hxy w h h'
open Go.RowKit
theorem zkr {ty : TypeId} (h : zN Tryz.prog ty = true := by with_reducible first | exact zw | exact Zd | exact Zb | exact Zc | exact zaa) : zN Tryz.prog ty = true := h
def zdV : Hv := ⟨0, none, [], 0, 0, 0, 0, 0, 0, none, [], 0⟩
def zc8 (o : Int) : Hv := ⟨o, none, [], 0, 1, 0, 0, 0, 0, none, [⟨0, o⟩], 0⟩
def zlK (w : World) (s : Hv) (c : Int) (e : Ending) (w' : World) : Prop := ∃ y R, e = .returned (.tuple #[.agg (hvL y).toArray, .int .i64 c]) ∧ y.Sm s ∧ ZC R (fun w => y.Is w) ∧ Hp w.heap.size w w' R
def ziM (w : World) (s : Hv) (c : Int) (e : Ending) (w' : World) : Prop := ∃ y R, e = .returned (.tuple #[.agg (svL y).toArray, .int .i64 c]) ∧ y.Sm ⟨s, none, [], 0⟩ ∧ ZC R (fun w => y.Is w) ∧ Hp w.heap.size w w' R
theorem Hp.sub0 {B : Nat} {w0 w : World} {L : List Blk} (hp : Hp B w0 w L) : Hp B w0 w [] := ⟨hp.below, hp.size, by simp, by simp⟩
theorem zoD (b : Nat) (o : Int) (t n : Nat) : ZC [⟨b, [.int .i64 0, .int .i64 o], t, n⟩] fun w => Hv.Is w ⟨o, none, [], 0, 1, 0, 0, 0, 0, some ⟨b, 0, none⟩, [⟨0, o⟩], 1⟩ :=
 fun B w0 w' L hpx hm => ⟨zD.nil _ _, (fun o ho => by cases ho), ZC.row b _ t n B w0 w' L hpx hm⟩
theorem zgu : ZC [] fun w => Hv.Is w zdV :=
 fun B w0 w' L hpx hm => ⟨zD.nil _ _, (fun o ho => by cases ho), zD.nil _ _⟩
theorem zoJ (o : Int) (b : Nat) : Hv.Sm ⟨o, none, [], 0, 1, 0, 0, 0, 0, some ⟨b, 0, none⟩, [⟨0, o⟩], 1⟩ (zc8 o) := ⟨rfl, rfl, rfl, rfl, rfl, rfl, zau.refl _, rfl⟩
theorem zjT (o : Int) (h : ZF o = true) (w : World) : Calls Tryz.prog 81 #[.int .i64 o] w (zlK w (zc8 o) 0) := by
 have hp := Hp.start w
 have K := z0j (zjl o h)
 go_enter Tryz.func81, Tryz.ntmps81
 go_wp2_with (first | (go_at_call 157; (with_reducible refine (K.out _).mono ?_); rintro e w1 ⟨b9, rfl, hf, hb⟩; replace hp := hp.adopt hb hf; clear hb hf) | go_skip | ((first | ((refine zh _ rfl ?_); refine lZ hp rfl zT ?_; clear hp; intro b w1 hp) | ((refine zi _ _ rfl ?_); refine lB hp rfl (zb rfl) rfl ?_; clear hp; intro b w1 hp) | ((refine zg _ _ rfl ?_); first | refine lO hp rfl (zb rfl) zkr zq ?_ | refine lA hp rfl (zb rfl) (by with_reducible first | exact zL | exact zl) zq ?_) | ((refine zf _ _ _ rfl ?_); (first | refine sO hp rfl (zb rfl) zkr zq ?_ | refine sA hp rfl (zb rfl) (zb rfl) (by with_reducible first | exact zL | exact zl) zq ?_ | refine sG hp rfl (zb rfl) (zb rfl) (by with_reducible first | exact zL | exact zl) zq ?_); clear hp; intro w1 hp; simp only [spl, z0a, z0b] at hp) | ((refine zm _ _ _ rfl ?_); refine lS hp rfl (by intro w; go_simp; rfl) ?_; clear hp; intro b w1 hp; simp only [z0g, z0h, Nat.reduceAdd] at hp)); simp only [ze, zd, z0b, z0a]))
 exact bodyPost_ret (zx (rs := [.cell 2 47, .tmp 3]) Tryz.results81 (.cell rfl (hp.loadAgg zL at1 0 _ (by rfl) (by rfl)) (.tmp rfl .nil))) rfl ⟨_, _, rfl, zoJ o b9, zoD b9 o 124 2, (hp.reorder (List.Perm.swap _ _ _)).tail⟩
open Go.RowKit Go.ChangeShapes Go.WideShapes Go.ChangeAt Go.Deep
section
variable {H : Type} {enc : TypeId × Value → H} {w : World} {base : Nat} {spare : Nat → Bool} {held : Bool} {cs : List Value}
theorem zle (h : zbh H enc Tryz.prog w base spare held 3 cs) : ∃ x, cs = iV x ∧ True := by
 obtain ⟨n, rfl, _⟩ := h.int Tryz.underlying3
 exact ⟨n, rfl, trivial⟩
theorem zjW (h : zbh H enc Tryz.prog w base spare held 122 cs) : ∃ (a : Option Addr) (l : List Int) (c : Nat), cs = [.slice a l.length c] ∧ zD w a (l.flatMap iV) := by
 obtain ⟨a, l, c, h1, h2, _⟩ := h.slice iV (fun _ => True) 1 (by decide) zby Tryz.underlying122 (by kernel_rfl) (fun cs h => zle h)
 exact ⟨a, l, c, h1, h2⟩
theorem zjd (h : zbh H enc Tryz.prog w base spare held 124 cs) : ∃ x, cs = blV x ∧ True := by
 obtain ⟨hl, hz⟩ := h.struct Tryz.underlying124
 rw [show Tryz.prog.cellsOf 124 = 2 by kernel_rfl] at hl
 match cs, hl with
 | [v0, v1], _ =>
  obtain ⟨a, ha, _⟩ := (hz 0 _ rfl 0 1 rfl (by kernel_rfl)).int Tryz.underlying3
  obtain ⟨b, hb, _⟩ := (hz 1 _ rfl 1 1 rfl (by kernel_rfl)).int Tryz.underlying3
  simp at ha hb
  exact ⟨⟨a, b⟩, by rw [ha, hb]; rfl, trivial⟩
theorem zld (h : zbh H enc Tryz.prog w base spare held 45 cs) : ∃ (a : Option Addr) (l : List Bl) (c : Nat), cs = [.slice a l.length c] ∧ zD w a (l.flatMap blV) := by
 obtain ⟨a, l, c, h1, h2, _⟩ := h.slice blV (fun _ => True) 2 (by decide) Zk Tryz.underlying45 (by kernel_rfl) (fun cs h => zjd h)
 exact ⟨a, l, c, h1, h2⟩
end
def zk5 (n : Int) : Int := if n < 1 then 0 else if n < 2 then 1 else if n < 4 then 2 else if n < 8 then 3 else if n < 16 then 4 else if n < 32 then 5 else 6
def Zy (w l : Int) : Int := if 0 ≤ w ∧ w ≤ 32 ∧ 0 ≤ l ∧ l ≤ 16 then zk5 (w + l) else -1
theorem zi6 {n k : Int} (h0 : 0 ≤ k) (h6 : k ≤ 6) (hn : n < 64) (hlow : k = 0 ∨ pw (k - 1) ≤ n) (hup : n < pw k) : zk5 n = k := by
 have hc : k = 0 ∨ k = 1 ∨ k = 2 ∨ k = 3 ∨ k = 4 ∨ k = 5 ∨ k = 6 := by omega
 unfold zk5
 rcases hc with rfl | rfl | rfl | rfl | rfl | rfl | rfl
 all_goals simp [pw] at hlow hup
 all_goals (repeat' split)
 all_goals omega
def Zw (os : List Ob) (to : Int) : Prop := to = 0 ∨ ∃ o ∈ os, o.h = to
open Classical in
noncomputable def zaA (os : List Ob) (to : Int) : Bool := decide (Zw os to)
def zaD (o : Ob) : Bl := ⟨o.p, o.o⟩
def zdi (x : Hv) : List Bl := x.fs ++ x.os.map zaD
def zaw (a b : Bl) : Prop := a.p < b.p + pw b.o ∧ b.p < a.p + pw a.o
instance (a b : Bl) : Decidable (zaw a b) := by unfold zaw; infer_instance
theorem zaw.symm {a b : Bl} (h : zaw a b) : zaw b a := ⟨h.2, h.1⟩
def zbD (l : List Bl) : Int := (l.map fun b => pw b.o).sum
theorem Z1 (b : Bl) (l : List Bl) : zbD (b :: l) = pw b.o + zbD l := by simp [zbD]
theorem zmz : zbD [] = 0 := rfl
theorem zbE (l k : List Bl) : zbD (l ++ k) = zbD l + zbD k := by simp [zbD]
theorem zcb {l k : List Bl} (h : l.Perm k) : zbD l = zbD k := by
 induction h with
 | nil => rfl
 | cons x _ ih => rw [Z1, Z1, ih]
 | swap x y l => simp only [Z1]; omega
 | trans _ _ h1 h2 => rw [h1, h2]
theorem ziz (l : List Bl) : 0 ≤ zbD l := by
 induction l with
 | nil => simp [zbD]
 | cons b l ih => rw [Z1]; have := z7 b.o; omega
def zeH (nx : Int) (os : List Ob) : Prop := ∀ (i : Nat) o, os[i]? = some o → 1 ≤ o.h ∧ o.h < nx ∧ ∀ (k : Nat) q, k < i → os[k]? = some q → q.h < o.h
def zeG (od : Int) (os : List Ob) : Prop := ∀ o ∈ os, Zy o.ws.length o.ls.length = o.o ∧ zcd od (zaD o)
def zaR (l : List Bl) : Prop := l.Pairwise fun a b => ¬ zaw a b
def zfC (os : List Ob) : Prop := ∀ o ∈ os, ∀ t ∈ o.ls, Zw os t
def tops (x : Hv) : List Int := [x.t0, x.t1, x.t2, x.t3]
structure zQ (x : Hv) : Prop where
 free : zW x.od x.fs = true
 lo : 1 ≤ x.nx
 hi : x.nx ≤ 1000001
 len : x.os.length ≤ 256
 rise : zeH x.nx x.os
 need : zeG x.od x.os
 apart : zaR (zdi x)
 links : zfC x.os
 tops : ∀ t ∈ tops x, Zw x.os t
 words : zbD (zdi x) = pw x.od
open Classical in
noncomputable def Zv (x : Hv) : Bool := decide (zQ x)
def Tl (E : Int) : Int → List Bl → Prop
 | a, [] => a = E
 | a, b :: r => b.p = a ∧ Tl E (a + pw b.o) r
theorem Tl.facts {E : Int} : ∀ {l : List Bl} {a : Int}, Tl E a l → a ≤ E ∧ (∀ b ∈ l, a ≤ b.p ∧ b.p + pw b.o ≤ E) ∧ zaR l ∧ zbD l = E - a := by
 intro l
 induction l with
 | nil => intro a h; simp [Tl] at h; subst h; exact ⟨Int.le_refl _, by simp, List.Pairwise.nil, by simp [zbD]⟩
 | cons b r ih =>
  intro a h
  obtain ⟨rfl, h2⟩ := h
  obtain ⟨h3, h4, h5, h6⟩ := ih h2
  have h7 := z7 b.o
  refine ⟨by omega, ?_, List.pairwise_cons.2 ⟨fun c hc hm => ?_, h5⟩, by rw [Z1]; omega⟩
  ·intro c hc
   rcases List.mem_cons.1 hc with rfl | hc
   ·exact ⟨Int.le_refl _, h3⟩
   ·have := h4 c hc; exact ⟨by omega, this.2⟩
  ·have := (h4 c hc).1
   have := hm.2
   omega
theorem zoZ {E : Int} : ∀ {l : List Bl} {a : Int}, a ≤ E → l.Pairwise (fun x y => x.p ≤ y.p) → zaR l → (∀ b ∈ l, a ≤ b.p ∧ b.p + pw b.o ≤ E) → zbD l ≤ E - a := by
 intro l
 induction l with
 | nil => intro a h _ _ _; simp [zbD]; omega
 | cons b r ih =>
  intro a h hs ha hb
  rw [Z1]
  obtain ⟨s1, s2⟩ := List.pairwise_cons.1 hs
  obtain ⟨a1, a2⟩ := List.pairwise_cons.1 ha
  have hbb := hb b (by simp)
  have := ih (a := b.p + pw b.o) hbb.2 s2 a2 (fun c hc => by
   have h1 := s1 c hc
   have h2 := a1 c hc
   have h3 := z7 c.o
   have h4 := (hb c (by simp [hc])).2
   refine ⟨?_, h4⟩
   by_cases h5 : c.p < b.p + pw b.o
   ·exact absurd ⟨by omega, h5⟩ h2
   ·omega)
  omega
theorem Tl.of {E : Int} : ∀ {l : List Bl} {a : Int}, l.Pairwise (fun x y => x.p ≤ y.p) → zaR l → (∀ b ∈ l, a ≤ b.p ∧ b.p + pw b.o ≤ E) → zbD l = E - a → Tl E a l := by
 intro l
 induction l with
 | nil => intro a _ _ _ h; simp [zbD] at h; simp [Tl]; omega
 | cons b r ih =>
  intro a hs ha hb hsum
  rw [Z1] at hsum
  obtain ⟨s1, s2⟩ := List.pairwise_cons.1 hs
  obtain ⟨a1, a2⟩ := List.pairwise_cons.1 ha
  have hbb := hb b (by simp)
  have hr : ∀ c ∈ r, b.p + pw b.o ≤ c.p ∧ c.p + pw c.o ≤ E := fun c hc => by
   have h1 := s1 c hc
   have h2 := a1 c hc
   have h3 := z7 c.o
   have h4 := (hb c (by simp [hc])).2
   refine ⟨?_, h4⟩
   by_cases h5 : c.p < b.p + pw b.o
   ·exact absurd ⟨by omega, h5⟩ h2
   ·omega
  have h6 := zoZ hbb.2 s2 a2 hr
  have h7 : b.p = a := by omega
  exact ⟨h7, ih s2 a2 (fun c hc => by have := hr c hc; exact ⟨by omega, this.2⟩) (by omega)⟩
theorem zaR.perm {l k : List Bl} (h : l.Perm k) : zaR l ↔ zaR k := h.pairwise_iff (fun hab hba => hab hba.symm)
def zed (od : Int) (os : List Ob) : Prop := ∀ o ∈ os, Zy o.ws.length o.ls.length = o.o ∧ 0 ≤ o.o ∧ o.o ≤ od ∧ 0 ≤ o.p ∧ o.p ≤ pw od ∧ o.p % pw o.o = 0
theorem zeG.weak {od : Int} {os : List Ob} (h : zeG od os) : zed od os := fun o ho => by
 obtain ⟨h1, h2, h3, h4, h5, h6⟩ := h o ho
 simp only [zaD] at h2 h3 h4 h5 h6
 have := z7 o.o
 exact ⟨h1, h2, h3, h4, by omega, h6⟩
theorem zmD {od : Int} {os : List Ob} {fs s : List Bl} (hf : zcv od fs) (hs : s.Perm (fs ++ os.map zaD)) (hso : s.Pairwise fun x y => x.p ≤ y.p) (hn : zed od os) :
  Tl (pw od) 0 s ↔ zeG od os ∧ zaR (fs ++ os.map zaD) ∧ zbD (fs ++ os.map zaD) = pw od := by
 constructor
 ·intro h
  obtain ⟨_, h2, h3, h4⟩ := h.facts
  refine ⟨fun o ho => ?_, (zaR.perm hs).1 h3, by rw [← zcb hs, h4]; omega⟩
  obtain ⟨n1, n2, n3, n4, _, n6⟩ := hn o ho
  have := h2 (zaD o) (hs.mem_iff.2 (List.mem_append_right _ (List.mem_map_of_mem ho)))
  simp only [zaD] at this
  exact ⟨n1, n2, n3, n4, by simp only [zaD]; omega, n6⟩
 ·rintro ⟨h1, h2, h3⟩
  refine Tl.of hso ((zaR.perm hs).2 h2) (fun b hb => ?_) (by rw [zcb hs, h3]; omega)
  rcases List.mem_append.1 (hs.mem_iff.1 hb) with hb | hb
  ·obtain ⟨i, hi, rfl⟩ := List.getElem_of_mem hb
   have hm := (hf i _ (List.getElem?_eq_getElem hi)).1
   exact ⟨hm.2.2.1, hm.end_le⟩
  ·obtain ⟨o, ho, rfl⟩ := List.mem_map.1 hb
   have hm := (h1 o ho).2
   exact ⟨hm.2.2.1, hm.end_le⟩
theorem zeH.step {nx : Int} {os : List Ob} (h : zeH nx os) : ∀ (i j : Nat) a b, i < j → os[i]? = some a → os[j]? = some b → a.h < b.h :=
 fun i j a b hij ha hb => (h j b hb).2.2 i a hij ha
open Go.RowKit
def inB (n lo hi : Int) : Bool := decide (lo ≤ n) && decide (n ≤ hi)
theorem Zi (n lo hi : Int) (w : World) : Calls Tryz.prog 140 #[.int .i64 n, .int .i64 lo, .int .i64 hi] w fun e w' => e = .returned (.bool (inB n lo hi)) ∧ w = w' := by
 go_enter Tryz.func140, Tryz.ntmps140
 go_wp2
 all_goals go_ret
 all_goals refine ⟨Ze ?_, rfl⟩
 all_goals (simp [inB, *] <;> omega)
theorem zi7 {w l : Int} (h : inB w 0 32 = false ∨ inB l 0 16 = false) : Zy w l = -1 := by
 unfold Zy inB at *
 rw [if_neg]
 rintro ⟨h1, h2, h3, h4⟩
 simp [h1, h2, h3, h4] at h
theorem znG {w l : Int} (h : inB w 0 32 = true) (h' : inB l 0 16 = true) : 0 ≤ w ∧ w ≤ 32 ∧ 0 ≤ l ∧ l ≤ 16 ∧ Zy w l = zk5 (w + l) := by
 simp [inB] at h h'
 refine ⟨h.1, h.2, h'.1, h'.2, ?_⟩
 unfold Zy
 rw [if_pos ⟨h.1, h.2, h'.1, h'.2⟩]
theorem zd4 (n m : Int) (w : World) : Calls Tryz.prog 143 #[.int .i64 n, .int .i64 m] w fun e w' => e = .returned (.int .i64 (Zy n m)) ∧ w = w' := by
 have k1 := Zi n 0 32
 have k2 := Zi m 0 16
 cases h1 : inB n 0 32 with
 | false =>
  rw [zi7 (.inl h1)]
  rw [h1] at k1
  have K1 := z0j k1; have K2 := z0j k2
  clear k1 k2 h1
  go_enter Tryz.func143, Tryz.ntmps143
  go_wp2_with (go_at_call 140; (first | (with_reducible refine (K1.out _).mono ?_) | (with_reducible refine (K2.out _).mono ?_)); rintro e w' ⟨rfl, rfl⟩)
  go_ret
  exact ⟨rfl, rfl⟩
 | true =>
  cases h2 : inB m 0 16 with
  | false =>
   rw [zi7 (.inr h2)]
   rw [h1] at k1; rw [h2] at k2
   have K1 := z0j k1; have K2 := z0j k2
   clear k1 k2 h1 h2
   go_enter Tryz.func143, Tryz.ntmps143
   go_wp2_with (go_at_call 140; (first | (with_reducible refine (K1.out _).mono ?_) | (with_reducible refine (K2.out _).mono ?_)); rintro e w' ⟨rfl, rfl⟩)
   go_ret
   exact ⟨rfl, rfl⟩
  | true =>
   obtain ⟨n0, n1, m0, m1, he⟩ := znG h1 h2
   rw [he]
   rw [h1] at k1; rw [h2] at k2
   have K1 := z0j k1; have K2 := z0j k2
   have e1 : wrap64 (n + m) = n + m := IntWalk.wrap64_in _ ⟨by omega, by omega⟩
   clear k1 k2 h1 h2 he
   go_enter Tryz.func143, Tryz.ntmps143
   go_wp2_with (go_at_call 140; (first | (with_reducible refine (K1.out _).mono ?_) | (with_reducible refine (K2.out _).mono ?_)); rintro e w' ⟨rfl, rfl⟩)
   go_loop [5] (fun i => ∃ k : Int, 0 ≤ k ∧ k ≤ 6 ∧ i = .int .i64 k ∧ Hid (k = 0 ∨ pw (k - 1) ≤ n + m)) (fun i => (6 - intOf i).toNat)
   case atStart => exact ⟨0, by omega, by omega, rfl, z0j (.inl rfl)⟩
   case round =>
    obtain ⟨k, h0, h6, rfl, HL⟩ := hrel
    by_cases hlt : pw k ≤ n + m
    ·have hk : k < 6 := by
      by_cases h : k = 6
      ·subst h; rw [show pw 6 = 64 by decide] at hlt; omega
      ·omega
     have e2 : decide (pw k ≤ n + m) = true := decide_eq_true hlt
     have e3 : wrap64 (k + 1) = k + 1 := IntWalk.wrap64_in _ ⟨by omega, by omega⟩
     have HLT := z0j hlt
     clear hlt
     go_wp2_with (go_at_call 141; (with_reducible refine (zaX _ (by omega) (by omega) _).mono ?_); rintro e w' ⟨rfl, rfl⟩)
     go_round
     case rel => exact ⟨k + 1, by omega, by omega, rfl, z0j (.inr (by rw [Int.add_sub_cancel]; exact HLT.out))⟩
     case measure => simp [intOf]; omega
    ·have e2 : decide (pw k ≤ n + m) = false := decide_eq_false hlt
     have HLT := z0j hlt
     clear hlt
     go_wp2_with (go_at_call 141; (with_reducible refine (zaX _ (by omega) (by omega) _).mono ?_); rintro e w' ⟨rfl, rfl⟩)
     go_ret
     exact ⟨zbC (zi6 h0 h6 (by omega) HL.out (by have := HLT.out; omega)).symm, rfl⟩
theorem zd5 (n m : Int) (w : World) : Calls Tryz.prog 164 #[.int .i64 n, .int .i64 m] w fun e w' => e = .returned (.int .i64 (Zy n m)) ∧ w = w' := by
 by_cases hb : 0 ≤ n ∧ n ≤ 32 ∧ 0 ≤ m ∧ m ≤ 16
 ·have he : Zy n m = zk5 (n + m) := by unfold Zy; rw [if_pos hb]
  rw [he]
  obtain ⟨n0, n1, m0, m1⟩ := hb
  have e0 : wrap64 (1 + n) = 1 + n := IntWalk.wrap64_in _ ⟨by omega, by omega⟩
  have e1 : wrap64 (1 + n + m) = 1 + n + m := IntWalk.wrap64_in _ ⟨by omega, by omega⟩
  clear he
  go_enter Tryz.func164, Tryz.ntmps164
  go_wp2
  go_loop [5] (fun i => ∃ k : Int, 0 ≤ k ∧ k ≤ 6 ∧ i = .int .i64 k ∧ Hid (k = 0 ∨ pw (k - 1) ≤ n + m)) (fun i => (6 - intOf i).toNat)
  case atStart => exact ⟨0, by omega, by omega, rfl, z0j (.inl rfl)⟩
  case round =>
   obtain ⟨k, h0, h6, rfl, HL⟩ := hrel
   by_cases hlt : pw k < 1 + n + m
   ·have hk : k < 6 := by
     by_cases h : k = 6
     ·subst h; rw [show pw 6 = 64 by decide] at hlt; omega
     ·omega
    have e2 : decide (pw k < 1 + n + m) = true := decide_eq_true hlt
    have e3 : wrap64 (k + 1) = k + 1 := IntWalk.wrap64_in _ ⟨by omega, by omega⟩
    have HLT := z0j hlt
    clear hlt
    go_wp2_with (go_at_call 170; (with_reducible refine (zbk _ (by omega) _).mono ?_); rintro e w' ⟨rfl, rfl⟩)
    go_round
    case rel => exact ⟨k + 1, by omega, by omega, rfl, z0j (.inr (by rw [Int.add_sub_cancel]; have := HLT.out; omega))⟩
    case measure => simp [intOf]; omega
   ·have e2 : decide (pw k < 1 + n + m) = false := decide_eq_false hlt
    have HLT := z0j hlt
    clear hlt
    go_wp2_with (go_at_call 170; (with_reducible refine (zbk _ (by omega) _).mono ?_); rintro e w' ⟨rfl, rfl⟩)
    go_ret
    exact ⟨zbC (zi6 h0 h6 (by omega) HL.out (by have := HLT.out; omega)).symm, rfl⟩
 ·have he : Zy n m = -1 := by unfold Zy; rw [if_neg hb]
  rw [he]
  have hw : n < 0 ∨ (¬ n < 0 ∧ 32 < n) ∨ (¬ n < 0 ∧ ¬ 32 < n ∧ m < 0) ∨ (¬ n < 0 ∧ ¬ 32 < n ∧ ¬ m < 0 ∧ 16 < m) := by omega
  clear he hb
  rcases hw with h1 | ⟨h1, h2⟩ | ⟨h1, h2, h3⟩ | ⟨h1, h2, h3, h4⟩
  all_goals
   go_enter Tryz.func164, Tryz.ntmps164
   go_wp2
   go_ret
   exact ⟨rfl, rfl⟩
open Go.RowKit
theorem zcr {ty : TypeId} (h : zN Tryz.prog ty = true := by with_reducible first | exact zw | exact Zd | exact Zb) : zN Tryz.prog ty = true := h
theorem zl6 (x : Ob) (t : Int) (w : World) : Calls Tryz.prog 225 #[.agg #[.int .i64 x.h, .int .i64 x.p, .int .i64 x.o, .slice x.wa x.ws.length x.wc, .slice x.la x.ls.length x.lc], .int .i64 t] w fun e w' => e = .returned (.int .i64 (zcs x.h t)) ∧ Below w.heap.size w w' := by
 have hp := Hp.start w
 go_enter Tryz.func225, Tryz.ntmps225
 go_wp2_with (first | (go_at_call 124; (with_reducible refine (zfH _ _ _).mono ?_); rintro e w' ⟨rfl, rfl⟩) | go_skip | ((first | ((refine zh _ rfl ?_); refine lZ hp rfl zR ?_; clear hp; intro b w1 hp) | ((refine zi _ _ rfl ?_); refine lB hp rfl (zb rfl) rfl ?_; clear hp; intro b w1 hp) | ((refine zg _ _ rfl ?_); first | refine lO hp rfl (zb rfl) zw zq ?_ | refine lA hp rfl (zb rfl) zv zq ?_) | ((refine zf _ _ _ rfl ?_); (first | refine sO hp rfl (zb rfl) zw zq ?_ | refine sA hp rfl (zb rfl) (zb rfl) zv zq ?_ | refine sG hp rfl (zb rfl) (zb rfl) zv zq ?_); clear hp; intro w1 hp; simp only [spl, z0a, z0b] at hp)); simp only [ze, zd, z0b, z0a]))
 go_ret
 exact ⟨rfl, hp.below⟩
def AtO (l : List Ob) (t : Int) (k : Nat) : Prop := k ≤ l.length ∧ (∀ (j : Nat) y, l[j]? = some y → j < k → y.h < t) ∧ (∀ (j : Nat) y, l[j]? = some y → k ≤ j → t ≤ y.h)
def zaq (l : List Ob) : Prop := ∀ (i j : Nat) x y, i < j → l[i]? = some x → l[j]? = some y → x.h < y.h
def zcM (l : List Ob) (t : Int) (k : Nat) : Bool := match l[k]? with
 | some y => decide (y.h = t)
 | none => false
theorem zof {l : List Ob} (hs : zaq l) (t : Int) : ∃ k, AtO l t k := by
 let P : Nat → Prop := fun k => ∀ (j : Nat) y, l[j]? = some y → k ≤ j → t ≤ y.h
 have hP : P l.length := fun j y hj hk => by have := (List.getElem?_eq_some_iff.1 hj).1; omega
 have least : ∀ m, P m → ∃ k, P k ∧ k ≤ m ∧ ∀ k', k' < k → ¬ P k' := by
  intro m
  induction m using Nat.strongRecOn with
  | _ m ih =>
   intro hm
   by_cases h : ∃ m', m' < m ∧ P m'
   ·obtain ⟨m', h1, h2⟩ := h
    obtain ⟨k, hk, hle, hno⟩ := ih m' h1 h2
    exact ⟨k, hk, by omega, hno⟩
   ·exact ⟨m, hm, Nat.le_refl _, fun k' hk' hp => h ⟨k', hk', hp⟩⟩
 obtain ⟨k, hk, hle, hno⟩ := least _ hP
 refine ⟨k, hle, fun j y hj hjk => ?_, hk⟩
 have hn := hno (k - 1) (by omega)
 obtain ⟨j0, hn⟩ := Classical.not_forall.1 hn
 obtain ⟨y0, hn⟩ := Classical.not_forall.1 hn
 obtain ⟨hy0, hn⟩ := Classical.not_forall.1 hn
 obtain ⟨hk0, hn⟩ := Classical.not_forall.1 hn
 have hj0 : j0 = k - 1 := by
  rcases Nat.lt_or_ge j0 k with h | h
  ·omega
  ·exact absurd (hk j0 y0 hy0 h) hn
 subst hj0
 rcases Nat.lt_or_ge j (k - 1) with h | h
 ·have := hs j (k - 1) y y0 h hj hy0; omega
 ·have : j = k - 1 := by omega
  subst this
  rw [hj] at hy0; injection hy0 with hy0; subst hy0; omega
theorem zpj (l : List Ob) (a : Option Addr) (c : Nat) (hl : l.length ≤ 1000) (t : Int) (k : Nat) (hk : AtO l t k) (w : World) (ha : zD w a (l.flatMap obV)) :
  Calls Tryz.prog 224 #[.slice a l.length c, .int .i64 t, .func (.func 225) #[] #[]] w fun e w' => e = .returned (.tuple #[.int .i64 k, .bool (zcM l t k)]) ∧ Below w.heap.size w w' := by
 have hp := Hp.start w
 have HA := z0j ha
 have HK := z0j hk
 clear ha hk
 go_enter Tryz.func224, Tryz.ntmps224
 go_wp2_with (first | go_skip | ((first | ((refine zi _ _ rfl ?_); refine lB hp rfl (zb rfl) rfl ?_; clear hp; intro b w1 hp) | ((refine zg _ _ rfl ?_); first | refine lO hp rfl (zb rfl) zcr zq ?_ | refine lA hp rfl (zb rfl) zv zq ?_ | refine lR hp rfl (zb rfl) zv HX.out ?_) | ((refine zf _ _ _ rfl ?_); (first | refine sO hp rfl (zb rfl) zcr zq ?_ | refine sA hp rfl (zb rfl) (zb rfl) zv zq ?_ | refine sG hp rfl (zb rfl) (zb rfl) zv zq ?_); clear hp; intro w1 hp; simp only [spl, z0a, z0b] at hp)); simp only [ze, zd, z0b, z0a]) | go_skip)
 go_loopg [9, 10] l.length (fun g i j wr => ∃ x y : Nat, i = .int .i64 x ∧ j = .int .i64 y ∧ x ≤ y ∧ y ≤ l.length ∧ g + x = y ∧ Hid (x ≤ k ∧ k ≤ y) ∧ Hp w.heap.size w wr [])
 case atStart => exact ⟨0, l.length, rfl, rfl, by omega, by omega, by omega, z0j ⟨by omega, HK.out.1⟩, hp⟩
 case round =>
  clear hp
  obtain ⟨x, y, rfl, rfl, hxy, hyl, hg, HXY, hp⟩ := hrel
  by_cases hlt : x < y
  ·obtain ⟨h, hh⟩ : ∃ h, h = (x + y) / 2 := ⟨_, rfl⟩
   have hxh : x ≤ h := by omega
   have hhy : h < y := by omega
   obtain ⟨bq, off, rfl, hx⟩ := HA.out.elems 5 Zm (by omega) (by omega)
   have hj := List.getElem?_eq_getElem (l := l) (i := h) (by omega)
   replace hx := hx h _ hj
   generalize l[h]'(by omega) = z at hx hj
   have e1 : (x : Int) < (y : Int) := by omega
   have e2 : ((x : Int) + (y : Int)) / 2 = (h : Int) := by omega
   have e3 : (0 : Int) ≤ (h : Int) := by omega
   have e4 : (h : Int) < (l.length : Int) := by omega
   have HJ := z0j hj
   obtain ⟨yh, yp, yo, ywa, yws, ywc, yla, yls, ylc⟩ := z
   simp only [obV] at hx
   have HX := z0j hx
   have HHH := z0j hh
   clear hx hj hh
   by_cases hc : yh < t
   ·have HCM : Hid (zcs yh t = -1) := z0j (by unfold zcs; rw [if_pos hc])
    have HC := z0j hc
    clear hc
    go_wp2_with (first | (go_at_call 225; (with_reducible refine (zl6 ⟨yh, yp, yo, ywa, yws, ywc, yla, yls, ylc⟩ t _).mono ?_); rintro e w1 ⟨rfl, hb⟩; replace hp := hp.call hb; clear hb; rw [HCM.out]) | go_skip | ((first | ((refine zi _ _ rfl ?_); refine lB hp rfl (zb rfl) rfl ?_; clear hp; intro b w1 hp) | ((refine zg _ _ rfl ?_); first | refine lO hp rfl (zb rfl) zcr zq ?_ | refine lA hp rfl (zb rfl) zv zq ?_ | refine lR hp rfl (zb rfl) zv HX.out ?_) | ((refine zf _ _ _ rfl ?_); (first | refine sO hp rfl (zb rfl) zcr zq ?_ | refine sA hp rfl (zb rfl) (zb rfl) zv zq ?_ | refine sG hp rfl (zb rfl) (zb rfl) zv zq ?_); clear hp; intro w1 hp; simp only [spl, z0a, z0b] at hp)); simp only [ze, zd, z0b, z0a]))
    go_roundg (y - (h + 1))
    case measure => have := HHH.out; omega
    case rel =>
     refine ⟨h + 1, y, by go_num, rfl, by omega, hyl, by omega, z0j ⟨?_, HXY.out.2⟩, hp⟩
     rcases Nat.lt_or_ge h k with h1 | h1
     ·omega
     ·have h2 : t ≤ yh := HK.out.2.2 h _ HJ.out h1
      have h3 := HC.out
      omega
   ·obtain ⟨cv, hcv, hc0⟩ : ∃ cv : Int, zcs yh t = cv ∧ 0 ≤ cv := by
     unfold zcs; rw [if_neg hc]
     split
     ·exact ⟨1, rfl, by omega⟩
     ·exact ⟨0, rfl, by omega⟩
    have HCM := z0j hcv
    have HC := z0j hc
    have hc1 : decide (cv < 0) = false := by simp; omega
    clear hc hcv
    go_wp2_with (first | (go_at_call 225; (with_reducible refine (zl6 ⟨yh, yp, yo, ywa, yws, ywc, yla, yls, ylc⟩ t _).mono ?_); rintro e w1 ⟨rfl, hb⟩; replace hp := hp.call hb; clear hb; rw [HCM.out]) | go_skip | ((first | ((refine zi _ _ rfl ?_); refine lB hp rfl (zb rfl) rfl ?_; clear hp; intro b w1 hp) | ((refine zg _ _ rfl ?_); first | refine lO hp rfl (zb rfl) zcr zq ?_ | refine lA hp rfl (zb rfl) zv zq ?_ | refine lR hp rfl (zb rfl) zv HX.out ?_) | ((refine zf _ _ _ rfl ?_); (first | refine sO hp rfl (zb rfl) zcr zq ?_ | refine sA hp rfl (zb rfl) (zb rfl) zv zq ?_ | refine sG hp rfl (zb rfl) (zb rfl) zv zq ?_); clear hp; intro w1 hp; simp only [spl, z0a, z0b] at hp)); simp only [ze, zd, z0b, z0a]))
    go_roundg (h - x)
    case measure => have := HHH.out; omega
    case rel =>
     refine ⟨x, h, rfl, rfl, by omega, by omega, by omega, z0j ⟨HXY.out.1, ?_⟩, hp⟩
     rcases Nat.lt_or_ge h k with h1 | h1
     ·have h2 : yh < t := HK.out.2.1 h _ HJ.out h1
      have h3 := HC.out
      omega
     ·exact h1
  ·have hxk : x = k := by have := HXY.out; omega
   have hyk : y = k := by have := HXY.out; omega
   subst hxk
   subst hyk
   have e0 : decide ((y : Int) < (y : Int)) = false := by simp
   by_cases hkl : y < l.length
   ·obtain ⟨bq, off, rfl, hx⟩ := HA.out.elems 5 Zm (by omega) (by omega)
    have hj := List.getElem?_eq_getElem hkl
    replace hx := hx y _ hj
    generalize l[y] = z at hx hj
    have e3 : (0 : Int) ≤ (y : Int) := by omega
    have e4 : (y : Int) < (l.length : Int) := by omega
    obtain ⟨yh, yp, yo, ywa, yws, ywc, yla, yls, ylc⟩ := z
    simp only [obV] at hx
    have HX := z0j hx
    have hge := HK.out.2.2 y _ hj (Nat.le_refl _)
    simp only at hge
    by_cases hc : yh = t
    ·have HB : Hid (zcM l t y = true) := z0j (by unfold zcM; rw [hj]; simp [hc])
     have HCM : Hid (zcs yh t = 0) := z0j (by unfold zcs; rw [if_neg (by omega), if_neg (by omega)])
     clear hx hj hge hc
     go_wp2_with (first | (go_at_call 225; (with_reducible refine (zl6 ⟨yh, yp, yo, ywa, yws, ywc, yla, yls, ylc⟩ t _).mono ?_); rintro e w1 ⟨rfl, hb⟩; replace hp := hp.call hb; clear hb; rw [HCM.out]) | go_skip | ((first | ((refine zi _ _ rfl ?_); refine lB hp rfl (zb rfl) rfl ?_; clear hp; intro b w1 hp) | ((refine zg _ _ rfl ?_); first | refine lO hp rfl (zb rfl) zcr zq ?_ | refine lA hp rfl (zb rfl) zv zq ?_ | refine lR hp rfl (zb rfl) zv HX.out ?_) | ((refine zf _ _ _ rfl ?_); (first | refine sO hp rfl (zb rfl) zcr zq ?_ | refine sA hp rfl (zb rfl) (zb rfl) zv zq ?_ | refine sG hp rfl (zb rfl) (zb rfl) zv zq ?_); clear hp; intro w1 hp; simp only [spl, z0a, z0b] at hp)); simp only [ze, zd, z0b, z0a]))
     go_ret2
     exact ⟨by rw [HB.out]; rfl, hp.below⟩
    ·have HB : Hid (zcM l t y = false) := z0j (by unfold zcM; rw [hj]; simp [hc])
     have HCM : Hid (zcs yh t = 1) := z0j (by unfold zcs; rw [if_neg (by omega), if_pos (by omega)])
     clear hx hj hge hc
     go_wp2_with (first | (go_at_call 225; (with_reducible refine (zl6 ⟨yh, yp, yo, ywa, yws, ywc, yla, yls, ylc⟩ t _).mono ?_); rintro e w1 ⟨rfl, hb⟩; replace hp := hp.call hb; clear hb; rw [HCM.out]) | go_skip | ((first | ((refine zi _ _ rfl ?_); refine lB hp rfl (zb rfl) rfl ?_; clear hp; intro b w1 hp) | ((refine zg _ _ rfl ?_); first | refine lO hp rfl (zb rfl) zcr zq ?_ | refine lA hp rfl (zb rfl) zv zq ?_ | refine lR hp rfl (zb rfl) zv HX.out ?_) | ((refine zf _ _ _ rfl ?_); (first | refine sO hp rfl (zb rfl) zcr zq ?_ | refine sA hp rfl (zb rfl) (zb rfl) zv zq ?_ | refine sG hp rfl (zb rfl) (zb rfl) zv zq ?_); clear hp; intro w1 hp; simp only [spl, z0a, z0b] at hp)); simp only [ze, zd, z0b, z0a]))
     go_ret2
     exact ⟨by rw [HB.out]; rfl, hp.below⟩
   ·have e4 : decide ((y : Int) < (l.length : Int)) = false := by simp; omega
    have HB : Hid (zcM l t y = false) := z0j (by unfold zcM; rw [List.getElem?_eq_none (by omega)])
    go_wp2_with (first | go_skip | ((first | ((refine zi _ _ rfl ?_); refine lB hp rfl (zb rfl) rfl ?_; clear hp; intro b w1 hp) | ((refine zg _ _ rfl ?_); first | refine lO hp rfl (zb rfl) zcr zq ?_ | refine lA hp rfl (zb rfl) zv zq ?_ | refine lR hp rfl (zb rfl) zv HX.out ?_) | ((refine zf _ _ _ rfl ?_); (first | refine sO hp rfl (zb rfl) zcr zq ?_ | refine sA hp rfl (zb rfl) (zb rfl) zv zq ?_ | refine sG hp rfl (zb rfl) (zb rfl) zv zq ?_); clear hp; intro w1 hp; simp only [spl, z0a, z0b] at hp)); simp only [ze, zd, z0b, z0a]) | go_skip)
    go_ret2
    exact ⟨by rw [HB.out]; rfl, hp.below⟩
open Go.RowKit
theorem zbJ {ty : TypeId} (h : zN Tryz.prog ty = true := by with_reducible first | exact zw | exact Zd | exact Zb) : zN Tryz.prog ty = true := h
theorem zaG {ty : TypeId} (h : zN Tryz.prog ty = true := by with_reducible first | exact zw | exact Zd | exact Za) : zN Tryz.prog ty = true := h
theorem znx {l : List Ob} (hs : zaq l) {t : Int} {k : Nat} (hk : AtO l t k) : zcM l t k = true ↔ ∃ o ∈ l, o.h = t := by
 constructor
 ·intro h
  unfold zcM at h
  split at h
  ·rename_i y hy
   exact ⟨y, List.mem_of_getElem? hy, by simpa using h⟩
  ·cases h
 ·rintro ⟨o, ho, rfl⟩
  obtain ⟨j, hj, rfl⟩ := List.getElem_of_mem ho
  have hjj := List.getElem?_eq_getElem hj
  have h1 : ¬ j < k := fun h => by have := hk.2.1 j _ hjj h; omega
  have hkl : k < l.length := by omega
  have hkk := List.getElem?_eq_getElem hkl
  have h2 := hk.2.2 k _ hkk (Nat.le_refl _)
  unfold zcM
  rw [hkk]
  simp only [decide_eq_true_eq]
  rcases Nat.lt_or_ge k j with h | h
  ·have := hs k j _ _ h hkk hjj; omega
  ·have : j = k := by omega
   subst this; rfl
theorem zkT {l : List Ob} (hs : zaq l) {t : Int} {k : Nat} (hk : AtO l t k) (h0 : t ≠ 0) : zcM l t k = zaA l t := by
 rw [Bool.eq_iff_iff, znx hs hk]
 simp [zaA, Zw, h0]
theorem zfQ (l : List Ob) : zaA l 0 = true := by simp [zaA, Zw]
def zkd (w : World) (l : List Ob) (t : Int) (e : Ending) (w' : World) : Prop := ∃ k : Nat, e = .returned (.tuple #[.int .i64 k, .bool (zcM l t k)]) ∧ AtO l t k ∧ Below w.heap.size w w'
theorem zgn (l : List Ob) (a : Option Addr) (c : Nat) (hl : l.length ≤ 1000) (hs : zaq l) (t : Int) (w : World) (ha : zD w a (l.flatMap obV)) :
  Calls Tryz.prog 200 #[.slice a l.length c, .int .i64 t] w (zkd w l t) := by
 obtain ⟨k, hk⟩ := zof hs t
 have hp := Hp.start w
 have HA := z0j ha
 have HK := z0j hk
 clear ha hk
 go_enter Tryz.func200, Tryz.ntmps200
 go_wp2_with (first | (go_at_call 224; (with_reducible refine (zpj l a c hl t k HK.out _ (HA.out.below hp.below)).mono ?_); rintro e w1 ⟨rfl, hb⟩; replace hp := hp.call hb; clear hb) | go_skip | ((first | ((refine zi _ _ rfl ?_); refine lB hp rfl (zb rfl) rfl ?_; clear hp; intro b w1 hp) | ((refine zg _ _ rfl ?_); first | refine lO hp rfl (zb rfl) zbJ aa5 ?_ | refine lA hp rfl (zb rfl) zv aa5 ?_) | ((refine zf _ _ _ rfl ?_); (first | refine sO hp rfl (zb rfl) zbJ aa5 ?_ | refine sA hp rfl (zb rfl) (zb rfl) zv aa5 ?_ | refine sG hp rfl (zb rfl) (zb rfl) zv aa5 ?_); clear hp; intro w1 hp; simp only [spl, z0a, z0b] at hp)); simp only [ze, zd, z0b, z0a]))
 go_ret2
 exact ⟨k, rfl, HK.out, hp.below⟩
theorem zgv (l : List Ob) (a : Option Addr) (c : Nat) (hl : l.length ≤ 1000) (hs : zaq l) (t : Int) (w : World) (ha : zD w a (l.flatMap obV)) :
  Calls Tryz.prog 147 #[.slice a l.length c, .int .i64 t] w fun e w' => e = .returned (.bool (zaA l t)) ∧ Below w.heap.size w w' := by
 have hp := Hp.start w
 have HA := z0j ha
 have HS := z0j hs
 clear ha hs
 by_cases h0 : t = 0
 ·subst h0
  go_enter Tryz.func147, Tryz.ntmps147
  go_wp2_with (first | (go_at_call 200; (with_reducible refine (zgn l a c hl HS.out 0 _ (HA.out.below hp.below)).mono ?_); rintro e w1 ⟨k, rfl, hk, hb⟩; replace hp := hp.call hb; clear hb hk) | go_skip | ((first | ((refine zi _ _ rfl ?_); refine lB hp rfl (zb rfl) rfl ?_; clear hp; intro b w1 hp) | ((refine zg _ _ rfl ?_); first | refine lO hp rfl (zb rfl) zbJ aa5 ?_ | refine lA hp rfl (zb rfl) zv aa5 ?_) | ((refine zf _ _ _ rfl ?_); (first | refine sO hp rfl (zb rfl) zbJ aa5 ?_ | refine sA hp rfl (zb rfl) (zb rfl) zv aa5 ?_ | refine sG hp rfl (zb rfl) (zb rfl) zv aa5 ?_); clear hp; intro w1 hp; simp only [spl, z0a, z0b] at hp)); simp only [ze, zd, z0b, z0a]))
  go_ret
  exact ⟨Ze (zfQ l).symm, hp.below⟩
 ·have HN := z0j h0
  have e0 : (t == 0) = false := by simpa using h0
  clear h0
  go_enter Tryz.func147, Tryz.ntmps147
  go_wp2_with (first | (go_at_call 200; (with_reducible refine (zgn l a c hl HS.out t _ (HA.out.below hp.below)).mono ?_); rintro e w1 ⟨k, rfl, hk, hb⟩; replace hp := hp.call hb; have HK := z0j hk; clear hb hk) | go_skip | ((first | ((refine zi _ _ rfl ?_); refine lB hp rfl (zb rfl) rfl ?_; clear hp; intro b w1 hp) | ((refine zg _ _ rfl ?_); first | refine lO hp rfl (zb rfl) zbJ aa5 ?_ | refine lA hp rfl (zb rfl) zv aa5 ?_) | ((refine zf _ _ _ rfl ?_); (first | refine sO hp rfl (zb rfl) zbJ aa5 ?_ | refine sA hp rfl (zb rfl) (zb rfl) zv aa5 ?_ | refine sG hp rfl (zb rfl) (zb rfl) zv aa5 ?_); clear hp; intro w1 hp; simp only [spl, z0a, z0b] at hp)); simp only [ze, zd, z0b, z0a]))
  go_ret
  exact ⟨Ze (zkT HS.out HK.out HN.out), hp.below⟩
theorem zkW (l : List Ob) (a : Option Addr) (c : Nat) (hl : l.length ≤ 1000) (hs : zaq l) (t : Int) (b : Nat) (w : World) (hb : b < w.heap.size) (hc : w.cell? ⟨b, 1, none⟩ = some (.slice a l.length c)) (ha : zD w a (l.flatMap obV)) :
  Calls Tryz.prog 146 #[.int .i64 t, .pointer (some ⟨b, 0, none⟩)] w fun e w' => e = .returned (.bool (!zaA l t)) ∧ Below w.heap.size w w' := by
 have hp := Hp.start w
 have HA := z0j ha
 have HC := z0j hc
 have HS := z0j hs
 clear ha hc hs
 go_enter Tryz.func146, Tryz.ntmps146
 go_wp2_with (first | (go_at_call 147; (with_reducible refine (zgv l a c hl HS.out t _ (HA.out.below hp.below)).mono ?_); rintro e w1 ⟨rfl, hb⟩; replace hp := hp.call hb; clear hb) | go_skip | ((first | ((refine zi _ _ rfl ?_); refine lB hp rfl (zb rfl) rfl ?_; clear hp; intro b w1 hp) | ((refine zg _ _ rfl ?_); first | refine lO hp rfl (zb rfl) zbJ aa5 ?_ | refine lA hp rfl (zb rfl) zv aa5 ?_) | ((refine zf _ _ _ rfl ?_); (first | refine sO hp rfl (zb rfl) zbJ aa5 ?_ | refine sA hp rfl (zb rfl) (zb rfl) zv aa5 ?_ | refine sG hp rfl (zb rfl) (zb rfl) zv aa5 ?_); clear hp; intro w1 hp; simp only [spl, z0a, z0b] at hp)); simp only [ze, zd, z0b, z0a]) | ((refine zg 43 _ rfl ?_); refine Z9 hp _ _ rfl (zco rfl) _ _ (zb rfl) Zb _ HC.out ?_; simp only [ze, zd, z0b, z0a]))
 go_ret
 exact ⟨rfl, hp.below⟩
open Classical in
noncomputable def zdJ (os : List Ob) (l : List Int) : Bool := decide (∃ t ∈ l, ¬ Zw os t)
theorem zaL {os : List Ob} {t : Int} : zaA os t = true ↔ Zw os t := by simp [zaA]
theorem zb8 {os : List Ob} {l : List Int} : zdJ os l = true ↔ ∃ t ∈ l, ¬ Zw os t := by simp [zdJ]
def zlI (w : World) (os : List Ob) (l : List Int) (e : Ending) (w' : World) : Prop := ∃ r : Int, e = .returned (.int .i64 r) ∧ decide (0 ≤ r) = zdJ os l ∧ Below w.heap.size w w'
theorem zow (os : List Ob) (oa : Option Addr) (oc : Nat) (hol : os.length ≤ 1000) (hs : zaq os) (b : Nat) (l : List Int) (a : Option Addr) (c : Nat) (hl : l.length ≤ 2000000) (w : World) (hb : b < w.heap.size) (hc : w.cell? ⟨b, 1, none⟩ = some (.slice oa os.length oc)) (hoa : zD w oa (os.flatMap obV)) (ha : zD w a (l.flatMap iV)) : Calls Tryz.prog 201 #[.slice a l.length c, .func (.func 146) #[] #[.pointer (some ⟨b, 0, none⟩)]] w (zlI w os l) := by
 have hp := Hp.start w
 have HA := z0j ha
 have HOA := z0j hoa
 have HC := z0j hc
 have HS := z0j hs
 clear ha hc hs hoa
 go_enter Tryz.func201, Tryz.ntmps201
 go_wp2_with (first | go_skip | ((first | ((refine zi _ _ rfl ?_); refine lB hp rfl (zb rfl) rfl ?_; clear hp; intro b w1 hp) | ((refine zg _ _ rfl ?_); first | refine lO hp rfl (zb rfl) zaG aa5 ?_ | first | refine lRO hp rfl (zb rfl) zaG (HX.out 0 _ rfl) ?_ | refine lA hp rfl (zb rfl) zv aa5 ?_ | refine lR hp rfl (zb rfl) zv HX.out ?_) | ((refine zf _ _ _ rfl ?_); (first | refine sO hp rfl (zb rfl) zaG aa5 ?_ | refine sA hp rfl (zb rfl) (zb rfl) zv aa5 ?_ | refine sG hp rfl (zb rfl) (zb rfl) zv aa5 ?_); clear hp; intro w1 hp; simp only [spl, z0a, z0b] at hp)); simp only [ze, zd, z0b, z0a]))
 go_loopg [8] l.length (fun k i wr => ∃ j : Nat, k + j = l.length ∧ i = .int .i64 j ∧ Hid (∀ (i : Nat) y, i < j → l[i]? = some y → Zw os y) ∧ Hp w.heap.size w wr [])
 case atStart => exact ⟨0, by omega, rfl, z0j (fun i y h => by omega), hp⟩
 case round =>
  clear hp
  obtain ⟨j, hkj, rfl, HY, hp⟩ := hrel
  by_cases hlt : j < l.length
  ·obtain ⟨bq, off, rfl, hx⟩ := HA.out.elems 1 zby (by omega) (by omega)
   have hj := List.getElem?_eq_getElem hlt
   replace hx := hx j _ hj
   have HJ := z0j hj
   clear hj
   generalize l[j] = t at hx HJ
   simp only [iV, Nat.mul_one] at hx
   have HX := z0j hx
   clear hx
   have e1 : (0 : Int) ≤ (j : Int) := by omega
   have e2 : (j : Int) < (l.length : Int) := by omega
   by_cases hle : Zw os t
   ·have HXC : Hid ((!zaA os t) = false) := z0j (by rw [zaL.2 hle]; rfl)
    go_wp2_with (first | (go_at_call 146; (with_reducible refine (zkW os oa oc hol HS.out t b _ (by have := hp.below.size; omega) ((hp.below.cell (p := ⟨b, 1, none⟩) hb).trans HC.out) (HOA.out.below hp.below)).mono ?_); rintro e w1 ⟨rfl, hb1⟩; replace hp := hp.call hb1; clear hb1; rw [HXC.out]) | go_skip | ((first | ((refine zi _ _ rfl ?_); refine lB hp rfl (zb rfl) rfl ?_; clear hp; intro b w1 hp) | ((refine zg _ _ rfl ?_); first | refine lO hp rfl (zb rfl) zaG aa5 ?_ | first | refine lRO hp rfl (zb rfl) zaG (HX.out 0 _ rfl) ?_ | refine lA hp rfl (zb rfl) zv aa5 ?_ | refine lR hp rfl (zb rfl) zv HX.out ?_) | ((refine zf _ _ _ rfl ?_); (first | refine sO hp rfl (zb rfl) zaG aa5 ?_ | refine sA hp rfl (zb rfl) (zb rfl) zv aa5 ?_ | refine sG hp rfl (zb rfl) (zb rfl) zv aa5 ?_); clear hp; intro w1 hp; simp only [spl, z0a, z0b] at hp)); simp only [ze, zd, z0b, z0a]))
    go_roundg (gk - 1)
    case measure => omega
    case rel =>
     refine ⟨j + 1, by omega, by go_num, z0j (fun i y hi hy => ?_), hp⟩
     rcases Nat.lt_or_ge i j with h | h
     ·exact HY.out i y h hy
     ·have : i = j := by omega
      subst this
      rw [HJ.out] at hy; injection hy with hy; subst hy; exact hle
   ·have HXC : Hid ((!zaA os t) = true) := z0j (by
     cases hq : zaA os t with
     | false => rfl
     | true => exact absurd (zaL.1 hq) hle)
    go_wp2_with (first | (go_at_call 146; (with_reducible refine (zkW os oa oc hol HS.out t b _ (by have := hp.below.size; omega) ((hp.below.cell (p := ⟨b, 1, none⟩) hb).trans HC.out) (HOA.out.below hp.below)).mono ?_); rintro e w1 ⟨rfl, hb1⟩; replace hp := hp.call hb1; clear hb1; rw [HXC.out]) | go_skip | ((first | ((refine zi _ _ rfl ?_); refine lB hp rfl (zb rfl) rfl ?_; clear hp; intro b w1 hp) | ((refine zg _ _ rfl ?_); first | refine lO hp rfl (zb rfl) zaG aa5 ?_ | first | refine lRO hp rfl (zb rfl) zaG (HX.out 0 _ rfl) ?_ | refine lA hp rfl (zb rfl) zv aa5 ?_ | refine lR hp rfl (zb rfl) zv HX.out ?_) | ((refine zf _ _ _ rfl ?_); (first | refine sO hp rfl (zb rfl) zaG aa5 ?_ | refine sA hp rfl (zb rfl) (zb rfl) zv aa5 ?_ | refine sG hp rfl (zb rfl) (zb rfl) zv aa5 ?_); clear hp; intro w1 hp; simp only [spl, z0a, z0b] at hp)); simp only [ze, zd, z0b, z0a]))
    go_ret
    refine ⟨(j : Int), rfl, ?_, hp.below⟩
    rw [zb8.2 ⟨t, List.mem_of_getElem? HJ.out, hle⟩]
    simp
  ·have e2 : decide ((j : Int) < (l.length : Int)) = false := by simp; omega
   go_wp2_with fail
   go_ret
   refine ⟨-1, rfl, ?_, hp.below⟩
   have : zdJ os l = false := by
    cases hq : zdJ os l with
    | false => rfl
    | true =>
     obtain ⟨t, ht, hn⟩ := zb8.1 hq
     obtain ⟨i, hi, rfl⟩ := List.getElem_of_mem ht
     exact absurd (HY.out i _ (by omega) (List.getElem?_eq_getElem hi)) hn
   rw [this]
   decide
theorem zeS (os : List Ob) (oa : Option Addr) (oc : Nat) (hol : os.length ≤ 1000) (hs : zaq os) (b : Nat) (l : List Int) (a : Option Addr) (c : Nat) (hl : l.length ≤ 2000000) (w : World) (hb : b < w.heap.size) (hc : w.cell? ⟨b, 1, none⟩ = some (.slice oa os.length oc)) (hoa : zD w oa (os.flatMap obV)) (ha : zD w a (l.flatMap iV)) : Calls Tryz.prog 148 #[.slice a l.length c, .func (.func 146) #[] #[.pointer (some ⟨b, 0, none⟩)]] w fun e w' => e = .returned (.bool (zdJ os l)) ∧ Below w.heap.size w w' := by
 have hp := Hp.start w
 have HA := z0j ha
 have HOA := z0j hoa
 have HC := z0j hc
 have HS := z0j hs
 clear ha hc hs hoa
 go_enter Tryz.func148, Tryz.ntmps148
 go_wp2_with (first | (go_at_call 201; (with_reducible refine (zow os oa oc hol HS.out b l a c hl _ (by have := hp.below.size; omega) ((hp.below.cell (p := ⟨b, 1, none⟩) hb).trans HC.out) (HOA.out.below hp.below) (HA.out.below hp.below)).mono ?_); rintro e w1 ⟨r, rfl, hr, hb1⟩; replace hp := hp.call hb1; have HR := z0j hr; clear hb1 hr) | go_skip | ((first | ((refine zi _ _ rfl ?_); refine lB hp rfl (zb rfl) rfl ?_; clear hp; intro b w1 hp) | ((refine zg _ _ rfl ?_); first | refine lO hp rfl (zb rfl) zaG aa5 ?_ | first | refine lRO hp rfl (zb rfl) zaG (HX.out 0 _ rfl) ?_ | refine lA hp rfl (zb rfl) zv aa5 ?_ | refine lR hp rfl (zb rfl) zv HX.out ?_) | ((refine zf _ _ _ rfl ?_); (first | refine sO hp rfl (zb rfl) zaG aa5 ?_ | refine sA hp rfl (zb rfl) (zb rfl) zv aa5 ?_ | refine sG hp rfl (zb rfl) (zb rfl) zv aa5 ?_); clear hp; intro w1 hp; simp only [spl, z0a, z0b] at hp)); simp only [ze, zd, z0b, z0a]))
 go_ret
 exact ⟨Ze HR.out, hp.below⟩
open Go.RowKit
theorem zhh : zgL true = 0 := rfl
theorem zfO : zgL false = 1 := rfl
theorem zdq {od : Int} {fs : List Bl} (h : zW od fs = true) : 3 ≤ od ∧ od ≤ 8 ∧ zcv od fs := by
 unfold zW ZF at h
 simp only [Bool.and_eq_true, decide_eq_true_eq] at h
 exact ⟨h.1.1, h.1.2, h.2⟩
theorem zaU {x : Hv} (h : ¬ zQ x) : Zv x = false := by simp [Zv, h]
theorem zbs {x : Hv} (h : zQ x) : Zv x = true := by simp [Zv, h]
theorem zkv (x : Hv) :
  (zgL (zW x.od x.fs) = 1 ∧ Zv x = false) ∨ (zgL (zW x.od x.fs) = 0 ∧ inB x.nx 1 1000001 = false ∧ Zv x = false) ∨
  (zgL (zW x.od x.fs) = 0 ∧ inB x.nx 1 1000001 = true ∧ decide ((256 : Int) < (x.os.length : Int)) = true ∧ Zv x = false) ∨
  (zgL (zW x.od x.fs) = 0 ∧ inB x.nx 1 1000001 = true ∧ decide ((256 : Int) < (x.os.length : Int)) = false ∧ zW x.od x.fs = true ∧ 1 ≤ x.nx ∧ x.nx ≤ 1000001 ∧ x.os.length ≤ 256) := by
 cases h1 : zW x.od x.fs with
 | false => left; exact ⟨rfl, zaU fun h => by rw [h.free] at h1; cases h1⟩
 | true =>
  right
  cases h2 : inB x.nx 1 1000001 with
  | false => left; exact ⟨rfl, rfl, zaU fun h => by have a := h.lo; have b := h.hi; simp [inB] at h2; omega⟩
  | true =>
   right
   by_cases h3 : (256 : Int) < (x.os.length : Int)
   ·left; exact ⟨rfl, rfl, decide_eq_true h3, zaU fun h => by have := h.len; omega⟩
   ·right
    simp [inB] at h2
    exact ⟨rfl, rfl, decide_eq_false h3, rfl, h2.1, h2.2, by omega⟩
def za0 (nx : Int) (os : List Ob) (j : Nat) (la : Int) : Prop :=
 (j = 0 → la = 0) ∧ (0 < j → ∃ o, os[j - 1]? = some o ∧ o.h = la) ∧ ∀ (i : Nat) o, i < j → os[i]? = some o → 1 ≤ o.h ∧ o.h < nx ∧ o.h ≤ la ∧ ∀ (k : Nat) q, k < i → os[k]? = some q → q.h < o.h
theorem za0.start (nx : Int) (os : List Ob) : za0 nx os 0 0 := ⟨fun _ => rfl, fun h => by omega, fun i o h => by omega⟩
theorem za0.fail {nx : Int} {os : List Ob} {j : Nat} {la : Int} {x : Ob} (h : za0 nx os j la) (hx : os[j]? = some x) (hb : x.h ≤ la ∨ nx ≤ x.h) : ¬ zeH nx os := by
 intro hr
 obtain ⟨r1, r2, r3⟩ := hr j x hx
 rcases hb with hb | hb
 ·rcases Nat.eq_zero_or_pos j with h0 | h0
  ·have := h.1 h0; omega
  ·obtain ⟨o, ho, he⟩ := h.2.1 h0
   have := r3 (j - 1) o (by omega) ho
   omega
 ·omega
theorem za0.step {nx : Int} {os : List Ob} {j : Nat} {la : Int} {x : Ob} (h : za0 nx os j la) (hx : os[j]? = some x) (h1 : ¬ x.h ≤ la) (h2 : ¬ nx ≤ x.h) : za0 nx os (j + 1) x.h := by
 have hla : 0 ≤ la := by
  rcases Nat.eq_zero_or_pos j with h0 | h0
  ·have := h.1 h0; omega
  ·obtain ⟨o, ho, he⟩ := h.2.1 h0
   have := h.2.2 (j - 1) o (by omega) ho; omega
 refine ⟨fun h => by omega, fun _ => ⟨x, by simpa using hx, rfl⟩, fun i o hi ho => ?_⟩
 by_cases hij : i = j
 ·subst hij
  rw [hx] at ho; injection ho with ho; subst ho
  refine ⟨by omega, by omega, by omega, fun k q hk hq => ?_⟩
  have := (h.2.2 k q hk hq).2.2.1; omega
 ·obtain ⟨a, b, c, d⟩ := h.2.2 i o (by omega) ho
  exact ⟨a, b, by omega, d⟩
theorem za0.done {nx : Int} {os : List Ob} {j : Nat} {la : Int} (h : za0 nx os j la) (hj : os.length = j) : zeH nx os := fun i o ho => by
 have := (List.getElem?_eq_some_iff.1 ho).1
 obtain ⟨a, b, _, d⟩ := h.2.2 i o (by omega) ho
 exact ⟨a, b, d⟩
theorem zkw {od : Int} (h3 : 3 ≤ od) (h8 : od ≤ 8) {os : List Ob} {q : Nat} {x : Ob} (hx : os[q]? = some x) (hn : zed od (os.take q)) {r : Bool} (hr : ¬ zeG od os → r = false) :
  (∃ nn : Int, Zy x.ws.length x.ls.length = nn ∧ (nn == x.o) = false ∧ (nn != x.o) = true ∧ r = false) ∨
  (Zy x.ws.length x.ls.length = x.o ∧ inB x.o 0 od = false ∧ r = false) ∨
  (Zy x.ws.length x.ls.length = x.o ∧ inB x.o 0 od = true ∧ 0 ≤ od ∧ od ≤ 8 ∧ inB x.p 0 (pw od) = false ∧ r = false) ∨
  (Zy x.ws.length x.ls.length = x.o ∧ inB x.o 0 od = true ∧ 0 ≤ od ∧ od ≤ 8 ∧ inB x.p 0 (pw od) = true ∧ 0 ≤ x.o ∧ x.o ≤ 8 ∧ x.p.tmod (pw x.o) = x.p % pw x.o ∧ pw x.o ≠ 0 ∧ (x.p % pw x.o == 0) = false ∧ (x.p % pw x.o != 0) = true ∧ r = false) ∨
  (Zy x.ws.length x.ls.length = x.o ∧ inB x.o 0 od = true ∧ 0 ≤ od ∧ od ≤ 8 ∧ inB x.p 0 (pw od) = true ∧ 0 ≤ x.o ∧ x.o ≤ 8 ∧ x.p.tmod (pw x.o) = x.p % pw x.o ∧ pw x.o ≠ 0 ∧ (x.p % pw x.o == 0) = true ∧ (x.p % pw x.o != 0) = false ∧ zed od (os.take (q + 1))) := by
 have hm : x ∈ os := List.mem_of_getElem? hx
 by_cases h1 : Zy x.ws.length x.ls.length = x.o
 ·right
  cases h2 : inB x.o 0 od with
  | false =>
   left
   refine ⟨h1, rfl, hr fun h => ?_⟩
   have := (h x hm).2
   obtain ⟨a, b, _⟩ := this
   simp only [zaD] at a b
   simp [inB] at h2; omega
  | true =>
   right
   have h2' := h2
   simp [inB] at h2'
   cases h4 : inB x.p 0 (pw od) with
   | false =>
    left
    refine ⟨h1, rfl, by omega, h8, rfl, hr fun h => ?_⟩
    obtain ⟨_, _, a, b, _⟩ := (h x hm).2
    simp only [zaD] at a b
    have := z7 x.o
    simp [inB] at h4; omega
   | true =>
    right
    have h4' := h4
    simp [inB] at h4'
    have hp := z7 x.o
    have ht := Int.tmod_eq_emod_of_nonneg (b := pw x.o) h4'.1
    by_cases h5 : x.p % pw x.o = 0
    ·right
     refine ⟨h1, rfl, by omega, h8, rfl, h2'.1, by omega, ht, by omega, by simp [h5], by simp [h5], fun o ho => ?_⟩
     rw [List.take_add_one, hx] at ho
     rcases List.mem_append.1 ho with ho | ho
     ·exact hn o ho
     ·simp at ho
      subst ho
      exact ⟨h1, h2'.1, h2'.2, h4'.1, h4'.2, h5⟩
    ·left
     refine ⟨h1, rfl, by omega, h8, rfl, h2'.1, by omega, ht, by omega, by simp [h5], by simp [h5], hr fun h => ?_⟩
     obtain ⟨_, _, _, _, a⟩ := (h x hm).2
     simp only [zaD] at a
     exact h5 a
 ·left
  exact ⟨_, rfl, by simp [h1], by simp [h1], hr fun h => h1 (h x hm).1⟩
def zcD (E : Int) (s : List Bl) (j : Nat) (en : Int) : Prop := 0 ≤ en ∧ en ≤ 512 ∧ (Tl E 0 s ↔ Tl E en (s.drop j))
def InR (s : List Bl) : Prop := ∀ b ∈ s, 0 ≤ b.p ∧ b.p ≤ 256 ∧ 0 ≤ b.o ∧ b.o ≤ 8
theorem zcD.start (E : Int) (s : List Bl) : zcD E s 0 0 := ⟨by omega, by omega, by rw [List.drop_zero]⟩
theorem zcD.fail {E : Int} {s : List Bl} {j : Nat} {en : Int} {b : Bl} (h : zcD E s j en) (hb : s[j]? = some b) (hne : b.p ≠ en) : ¬ Tl E 0 s := by
 rw [h.2.2, List.drop_eq_getElem_cons (List.getElem?_eq_some_iff.1 hb).1, (List.getElem?_eq_some_iff.1 hb).2]
 exact fun h => hne h.1
theorem zcD.step {E : Int} {s : List Bl} {j : Nat} {b : Bl} (hs : InR s) (h : zcD E s j b.p) (hb : s[j]? = some b) : zcD E s (j + 1) (b.p + pw b.o) ∧ wrap64 (b.p + pw b.o) = b.p + pw b.o := by
 obtain ⟨h1, h2, h3, h4⟩ := hs b (List.mem_of_getElem? hb)
 have h5 := zdN h4
 have h6 := z7 b.o
 refine ⟨⟨by omega, by omega, ?_⟩, IntWalk.wrap64_in _ ⟨by omega, by omega⟩⟩
 rw [h.2.2, List.drop_eq_getElem_cons (List.getElem?_eq_some_iff.1 hb).1, (List.getElem?_eq_some_iff.1 hb).2]
 exact ⟨fun h => h.2, fun h => ⟨rfl, h⟩⟩
theorem zcD.done {E : Int} {s : List Bl} {j : Nat} {en : Int} (h : zcD E s j en) (hj : s.length = j) : Tl E 0 s ↔ en = E := by
 rw [h.2.2, List.drop_eq_nil_of_le (by omega)]
 exact Iff.rfl
theorem zmP {od : Int} {os : List Ob} {fs s : List Bl} (h8 : od ≤ 8) (hf : zcv od fs) (hs : s.Perm (fs ++ os.map zaD)) (hn : zed od os) : InR s := by
 intro b hb
 have hpw := zdN h8
 rcases List.mem_append.1 (hs.mem_iff.1 hb) with hb | hb
 ·obtain ⟨i, hi, rfl⟩ := List.getElem_of_mem hb
  obtain ⟨a, b, c, d, _⟩ := (hf i _ (List.getElem?_eq_getElem hi)).1
  have := z7 fs[i].o
  exact ⟨c, by omega, a, by omega⟩
 ·obtain ⟨o, ho, rfl⟩ := List.mem_map.1 hb
  obtain ⟨_, a, b, c, d, _⟩ := hn o ho
  simp only [zaD]
  exact ⟨c, by omega, a, by omega⟩
def Zx (os : List Ob) : List Int := os.flatMap (·.ls)
theorem zdy (os : List Ob) (x : Ob) : Zx (os ++ [x]) = Zx os ++ x.ls := by simp [Zx]
theorem zmk {w l : Nat} {o : Int} (h : Zy w l = o) (h0 : 0 ≤ o) : l ≤ 16 := by
 unfold Zy at h
 split at h
 ·omega
 ·omega
theorem zeh (fs : List Bl) (os : List Ob) (x : Ob) : (fs ++ (os ++ [x]).map zaD).flatMap blV = (fs ++ os.map zaD).flatMap blV ++ [.int .i64 x.p, .int .i64 x.o] := by
 rw [List.map_append, ← List.append_assoc, List.flatMap_append]; rfl
theorem zfP {os : List Ob} : zfC os ↔ ∀ t ∈ Zx os, Zw os t := by
 unfold zfC Zx
 constructor
 ·intro h t ht
  obtain ⟨o, ho, ht⟩ := List.mem_flatMap.1 ht
  exact h o ho t ht
 ·intro h o ho t ht
  exact h t (List.mem_flatMap.2 ⟨o, ho, ht⟩)
theorem zmu {x : Hv} {s : List Bl} (h1 : zW x.od x.fs = true) (h2 : 1 ≤ x.nx) (h3 : x.nx ≤ 1000001) (h4 : x.os.length ≤ 256) (h5 : zeH x.nx x.os) (h6 : zed x.od x.os)
  (hs : s.Perm (x.fs ++ x.os.map zaD)) (hso : s.Pairwise fun a b => a.p ≤ b.p) : zQ x ↔ Tl (pw x.od) 0 s ∧ (∀ t ∈ Zx x.os, Zw x.os t) ∧ ∀ t ∈ tops x, Zw x.os t := by
 obtain ⟨_, _, hg⟩ := zdq h1
 rw [zmD hg hs hso h6]
 constructor
 ·intro h
  exact ⟨⟨h.need, h.apart, h.words⟩, zfP.1 h.links, h.tops⟩
 ·rintro ⟨⟨a, b, c⟩, d, e⟩
  exact ⟨h1, h2, h3, h4, h5, a, b, zfP.2 d, e, c⟩
end Go.Proofs.YtaafajaadfgaoaaGreat
