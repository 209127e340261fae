import Derived.Test.YtaafajaadfgaoaaGreatTb9
set_option linter.unusedSimpArgs false
set_option linter.unusedVariables false
set_option maxRecDepth 100000
set_option maxHeartbeats 60000000
namespace Go.Proofs.YtaafajaadfgaoaaGreat
open Go.RowKit
theorem zem {ty : TypeId} (h : zN Tryz.prog ty = true := by with_reducible first | exact zw | exact Zd | exact Za | exact Zb | exact Zc) : zN Tryz.prog ty = true := h
theorem ZK : zac Tryz.prog 113 8 = true := by kernel_rfl
theorem zdo (os : List Ob) : (os.flatMap obV).length = os.length * 5 := Zq obV 5 Zm os
theorem ZL (l : List Int) : (l.flatMap iV).length = l.length * 1 := Zq iV 1 zby l
theorem zla (os : List Ob) : (os.flatMap obV).all (·.oneCell') = true := by
 rw [List.all_eq_true]; intro u hu; obtain ⟨x, _, hx⟩ := List.mem_flatMap.1 hu; simp [obV] at hx; rcases hx with rfl | rfl | rfl | rfl | rfl <;> rfl
theorem zH.val {e : TypeId} {c n : Nat} {v : Value} {xs : List Value} {R : List Blk} (h : zH e c v n xs R) : ∃ a k, v = .slice a n k := by
 obtain ⟨a, k, hv, _⟩ := h.kept
 exact ⟨a, k, hv⟩
theorem zH.alike {e : TypeId} {c n : Nat} {v : Value} {xs : List Value} {R : List Blk} (h : zH e c v n xs R) (hn : 0 < n) : ∃ g cap, v = .slice (some ⟨g, 0, none⟩) n cap ∧ R = [⟨g, xs, e, cap * c⟩] ∧ ∀ ys : List Value, ys.length = n * c → zH e c v n ys [⟨g, ys, e, cap * c⟩] := by
 obtain ⟨hl, ⟨h0, _⟩ | ⟨g, cap, hv, h1, h2, hr⟩⟩ := h
 ·omega
 ·exact ⟨g, cap, hv, hr, fun ys hy => ⟨hy, .inr ⟨g, cap, hv, h1, h2, rfl⟩⟩⟩
theorem zkn {ys os : List Ob} {q : Nat} {x : Ob} (hq : ys.length = q) (hx : os[q]? = some x) (a b : Option Addr) (m n : Nat) :
  (((ys ++ os.drop q).flatMap obV).set (q * 5 + 3) (.slice a x.ws.length m)).set (q * 5 + 4) (.slice b x.ls.length n) = ((ys ++ [(⟨x.h, x.p, x.o, a, x.ws, m, b, x.ls, n⟩ : Ob)]) ++ os.drop (q + 1)).flatMap obV := by
 obtain ⟨hlt, rfl⟩ := List.getElem?_eq_some_iff.1 hx
 rw [List.drop_eq_getElem_cons hlt]
 generalize os[q] = x
 rw [List.flatMap_append, List.flatMap_cons, List.flatMap_append, List.flatMap_append]
 have hl : (ys.flatMap obV).length = q * 5 := by rw [zdo, hq]
 rw [List.set_append_right _ _ (by omega), List.set_append_right _ _ (by omega), hl, show q * 5 + 3 - q * 5 = 3 by omega, show q * 5 + 4 - q * 5 = 4 by omega]
 simp [obV]
theorem zlT {ys os : List Ob} {q : Nat} {x : Ob} (hq : ys.length = q) (hx : os[q]? = some x) : (((ys ++ os.drop q).flatMap obV).drop (q * 5)).take 5 = obV x :=
 zak 5 Zm (by rw [List.getElem?_append_right (by omega), hq, Nat.sub_self, List.getElem?_drop]; simpa using hx)
def zgN (w : World) (x : Hv) (e : Ending) (w' : World) : Prop := ∃ b y, e = .returned (.pointer (some ⟨b, 0, none⟩)) ∧ y.Sm x ∧ zZ w.heap.size w w' b y []
theorem znc (x : Hv) (hs : x.Small) (w : World) (hx0 : x.Is w) : Calls Tryz.prog 76 #[.agg (hvL x).toArray] w (zgN w x) := by
 obtain ⟨od, oa, os, oc, nx, t0, t1, t2, t3, fa, fs, fc⟩ := x
 obtain ⟨⟨hol, hosm⟩, hfl⟩ := hs
 obtain ⟨ho, hoo, hf⟩ := hx0
 simp only at hol hosm hfl ho hoo hf
 simp only [hvL]
 have hp := Hp.start w
 have hol5 : os.length ≤ 2000 := by omega
 have HO := z0j ho
 have HOO := z0j hoo
 have HOS := z0j hosm
 have HF := z0j hf
 clear ho hoo hosm hf
 go_enter Tryz.func76, Tryz.ntmps76
 go_wp2_with (first | go_skip | ((first | ((refine zh _ rfl ?_); refine lZ hp rfl zR ?_; clear hp; intro b w1 hp) | ((refine zi _ _ rfl ?_); refine lB hp rfl (zb rfl) rfl ?_; clear hp; intro b w1 hp) | ((refine zg _ _ rfl ?_); first | refine lO hp rfl (zb rfl) zem aa5 ?_ | refine lA hp rfl (zb rfl) (by with_reducible first | exact zL | exact zv | exact zl | exact ZK) aa5 ?_) | ((refine zf _ _ _ rfl ?_); (first | refine sO hp rfl (zb rfl) zem aa5 ?_ | refine sA hp rfl (zb rfl) (zb rfl) (by with_reducible first | exact zL | exact zv | exact zl | exact ZK) aa5 ?_ | refine sG hp rfl (zb rfl) (zb rfl) (by with_reducible first | exact zL | exact zv | exact zl | exact ZK) aa5 ?_); clear hp; intro w1 hp; simp only [spl, z0a, z0b] at hp) | ((refine zm _ _ _ rfl ?_); refine lS hp rfl (by intro w; go_simp; rfl) ?_; clear hp; intro b w1 hp; simp only [z0g, z0h, Nat.reduceAdd] at hp)); simp only [ze, zd, z0b, z0a]))
 refine zk [_] (zA.one hp.drew at0) [7, 8, 9] [(0, true), (1, true), (3, true), (4, true), (2, false), (6, true), (5, false), (7, false), (8, false), (9, false)] (by kernel_rfl) (by kernel_rfl) rfl (by kernel_rfl) (fun _ _ d _ _ h => by cases d <;> exact h) ?_
 replace hp := hp.drew
 repeat' (with_reducible refine zB ?_); first | (with_reducible refine zt ?_) | ((with_reducible refine zI ?_); refine zy rfl ?_; (first | ((with_reducible refine zS _ _ rfl ?_); refine tO rfl (zb rfl) (by with_reducible first | exact Zb | exact Zc) aa5 ?_) | refine tG (fun w _ => (by go_simp; try rfl)) ?_); try simp only [ze, zd, zn, zj, z0b, z0a, z0d, z0c, zr]) | (refine zF rfl (fun K hK => ?_); go_wp2_with (first | (go_at_call 149; (with_reducible refine (zlV oa os.length oc hol5 _ (zdo os) (zla os) _ (HO.out.below hp.below)).mono ?_); rintro e w1 ⟨v1, R1, rfl, hr1, hp1⟩; replace hp := hp.join hp1; obtain ⟨a1, c1, rfl⟩ := hr1.val; have HR1 := z0j hr1; clear hp1 hr1; simp only [z0f, z0e, z0i] at hp) | (go_at_call 142; (with_reducible refine (zgi fa fs.length fc (by omega) _ (zaI fs) (zeg fs) _ (HF.out.below hp.below)).mono ?_); rintro e w1 ⟨v2, R2, rfl, hr2, hp2⟩; replace hp := hp.join hp2; obtain ⟨a2, c2, rfl⟩ := hr2.val; have HR2 := z0j hr2; clear hp2 hr2; simp only [z0f, z0e, z0i] at hp) | go_skip | (((refine zf _ _ _ rfl ?_); (first | refine sO hp rfl (zb rfl) zem aa5 ?_ | refine sA hp rfl (zb rfl) (zb rfl) (by with_reducible first | exact zL | exact zv | exact zl | exact ZK) aa5 ?_ | refine sG hp rfl (zb rfl) (zb rfl) (by with_reducible first | exact zL | exact zv | exact zl | exact ZK) aa5 ?_); clear hp; intro w1 hp; simp only [spl, z0a, z0b] at hp); simp only [ze, zd, z0b, z0a])); (first | refine hK.out _ _ (.inl rfl) ?_ | refine hK.out _ _ (.inr (zA.one hp aa5)) ?_); clear hK K; try simp only [ze, zd, zn, zj, z0b, z0a, z0d, z0c, zr])
 obtain ⟨b1, rfl⟩ := hp.id0
 go_wp2_with (first | go_skip | ((first | ((refine zh _ rfl ?_); refine lZ hp rfl zR ?_; clear hp; intro b w1 hp) | ((refine zi _ _ rfl ?_); refine lB hp rfl (zb rfl) rfl ?_; clear hp; intro b w1 hp) | ((refine zg _ _ rfl ?_); first | refine lO hp rfl (zb rfl) zem aa5 ?_ | refine lA hp rfl (zb rfl) (by with_reducible first | exact zL | exact zv | exact zl | exact ZK) aa5 ?_) | ((refine zf _ _ _ rfl ?_); (first | refine sO hp rfl (zb rfl) zem aa5 ?_ | refine sA hp rfl (zb rfl) (zb rfl) (by with_reducible first | exact zL | exact zv | exact zl | exact ZK) aa5 ?_ | refine sG hp rfl (zb rfl) (zb rfl) (by with_reducible first | exact zL | exact zv | exact zl | exact ZK) aa5 ?_); clear hp; intro w1 hp; simp only [spl, z0a, z0b] at hp) | ((refine zm _ _ _ rfl ?_); refine lS hp rfl (by intro w; go_simp; rfl) ?_; clear hp; intro b w1 hp; simp only [z0g, z0h, Nat.reduceAdd] at hp)); simp only [ze, zd, z0b, z0a]))
 go_loopg [16] os.length (fun k i wr => ∃ (q : Nat) (ys : List Ob) (R M : List Blk), k + q = os.length ∧ i = .int .i64 q ∧ Hid (ys.length = q) ∧ Hid (∀ (i : Nat) a b, os[i]? = some a → ys[i]? = some b → a.Sm b) ∧
  Hid (zH 126 5 (.slice a1 os.length c1) os.length ((ys ++ os.drop q).flatMap obV) R) ∧ Hid (zdZ ys M) ∧
  Hp w.heap.size w wr (⟨b1, [.int .i64 od, .slice a1 os.length c1, .int .i64 nx, .int .i64 t0, .int .i64 t1, .int .i64 t2, .int .i64 t3, .slice a2 fs.length c2], 47, 8⟩ :: (R ++ (R2 ++ M))))
 case atStart => exact ⟨0, [], R1, [], by omega, rfl, z0j rfl, z0j (fun i a b _ h => by simp at h), HR1, z0j zdZ.nil, by simpa using hp⟩
 case round =>
  clear hp HR1
  obtain ⟨q, ys, R, M, hkq, rfl, HYL, HYS, HR, HM, hp⟩ := hrel
  by_cases hlt : q < os.length
  ·have hj := List.getElem?_eq_getElem hlt
   have hmem := List.getElem_mem hlt
   obtain ⟨hw1, hw2⟩ := HOO.out _ hmem
   obtain ⟨hw3, hw4⟩ := HOS.out _ hmem
   have hset := fun a b m n => zkn HYL.out hj a b m n
   have hat := zlT HYL.out hj
   obtain ⟨g, cap, hv, rfl, hnew⟩ := HR.out.alike (by omega)
   injection hv with v1 v2 v3
   subst v1 v3
   have HNEW := z0j hnew
   have HSET := z0j hset
   have HXA := z0j hat
   have hcl : ((ys ++ os.drop q).flatMap obV).length = os.length * 5 := by rw [zdo, List.length_append, List.length_drop, HYL.out, show q + (os.length - q) = os.length by omega]
   have HS3 : Hid (q * 5 + 3 < ((ys ++ os.drop q).flatMap obV).length) := z0j (by omega)
   have HS4 : Hid (q * 5 + 4 < ((ys ++ os.drop q).flatMap obV).length) := z0j (by omega)
   have HJ := z0j hj
   clear hj hmem hnew hset hat HR hcl
   generalize (ys ++ os.drop q).flatMap obV = xs at hp HSET HXA HS3 HS4
   generalize os[q] = x at hw1 hw2 hw3 hw4 HJ HSET HXA
   obtain ⟨xh, xp, xo, wa, ws, wc, la, ls, lc⟩ := x
   simp only [obV] at hw1 hw2 hw3 hw4 HXA HSET
   have HW := z0j hw1
   have HK := z0j hw2
   clear hw1 hw2
   have e1 : (0 : Int) ≤ (q : Int) := by omega
   have e2 : (q : Int) < (os.length : Int) := by omega
   simp only [z0f, z0e] at hp
   go_wp2_with (first | ((refine zg 126 _ rfl ?_); refine za9 hp _ _ rfl wy _ _ (zb rfl) _ zv 1 _ _ _ at1 _ HXA.out rfl ?_; simp only [ze, zd, z0b, z0a]) | go_skip | ((first | ((refine zh _ rfl ?_); refine lZ hp rfl zR ?_; clear hp; intro b w1 hp) | ((refine zi _ _ rfl ?_); refine lB hp rfl (zb rfl) rfl ?_; clear hp; intro b w1 hp) | ((refine zg _ _ rfl ?_); first | refine lO hp rfl (zb rfl) zem aa5 ?_ | refine lA hp rfl (zb rfl) (by with_reducible first | exact zL | exact zv | exact zl | exact ZK) aa5 ?_) | ((refine zf _ _ _ rfl ?_); (first | refine sO hp rfl (zb rfl) zem aa5 ?_ | refine sA hp rfl (zb rfl) (zb rfl) (by with_reducible first | exact zL | exact zv | exact zl | exact ZK) aa5 ?_ | refine sG hp rfl (zb rfl) (zb rfl) (by with_reducible first | exact zL | exact zv | exact zl | exact ZK) aa5 ?_); clear hp; intro w1 hp; simp only [spl, z0a, z0b] at hp) | ((refine zm _ _ _ rfl ?_); refine lS hp rfl (by intro w; go_simp; rfl) ?_; clear hp; intro b w1 hp; simp only [z0g, z0h, Nat.reduceAdd] at hp)); simp only [ze, zd, z0b, z0a]))
   refine zk [_, _] (zA.two hp.drew at0 at1) [17] [(0, true), (1, true), (2, true), (3, true), (4, true), (5, true), (6, true), (7, true), (9, true), (10, true), (8, false), (11, false), (12, true), (13, true), (14, false), (15, true), (16, true), (17, false)] (by kernel_rfl) (by kernel_rfl) rfl (by kernel_rfl) (fun _ _ d _ _ h => by cases d <;> exact h) ?_
   replace hp := hp.drew
   repeat' (with_reducible refine zB ?_); first | (with_reducible refine zt ?_) | ((with_reducible refine zI ?_); refine zy rfl ?_; (first | ((with_reducible refine zV _ rfl ?_); refine tM rfl ?_) | ((with_reducible refine zS _ _ rfl ?_); refine tO rfl (zb rfl) (by with_reducible first | exact Za | exact Zb) aa5 ?_) | refine tG (fun w _ => (by go_simp; try rfl)) ?_); try simp only [ze, zd, zn, zj, z0b, z0a, z0d, z0c, zr]) | (refine zF rfl (fun K hK => ?_); go_wp2_with (first | (go_at_call 150; (with_reducible refine (ziT wa ws.length wc hw3 _ (ZL ws) (zci ws) _ (HW.out.below hp.below)).mono ?_); rintro e w1 ⟨v3, R3, rfl, hr3, hp3⟩; replace hp := hp.join hp3; obtain ⟨a3, c3, rfl⟩ := hr3.val; have HR3 := z0j hr3; clear hp3 hr3; simp only [z0f, z0e, z0i] at hp) | (go_at_call 150; (with_reducible refine (ziT la ls.length lc hw4 _ (ZL ls) (zci ls) _ (HK.out.below hp.below)).mono ?_); rintro e w1 ⟨v4, R4, rfl, hr4, hp4⟩; replace hp := hp.join hp4; obtain ⟨a4, c4, rfl⟩ := hr4.val; have HR4 := z0j hr4; clear hp4 hr4; simp only [z0f, z0e, z0i] at hp) | ((refine zf 122 _ _ rfl ?_); refine zbU hp _ _ _ rfl wy _ _ (zb rfl) _ (zb rfl) Za 2 _ _ _ at2 (by first | exact HS3.out | (rw [List.length_set]; exact HS4.out)) rfl ?_; clear hp; intro w1 hp; simp only [z0a, z0b] at hp; simp only [ze, zd, z0b, z0a]) | go_skip | (((refine zf _ _ _ rfl ?_); (first | refine sO hp rfl (zb rfl) zem aa5 ?_ | refine sA hp rfl (zb rfl) (zb rfl) (by with_reducible first | exact zL | exact zv | exact zl | exact ZK) aa5 ?_ | refine sG hp rfl (zb rfl) (zb rfl) (by with_reducible first | exact zL | exact zv | exact zl | exact ZK) aa5 ?_); clear hp; intro w1 hp; simp only [spl, z0a, z0b] at hp); simp only [ze, zd, z0b, z0a])); (first | refine hK.out _ _ (.inl rfl) ?_ | refine hK.out _ _ (.inr (zA.two hp aa5 aa5)) ?_); clear hK K; try simp only [ze, zd, zn, zj, z0b, z0a, z0d, z0c, zr])
   go_wp2_with (first | go_skip | ((first | ((refine zh _ rfl ?_); refine lZ hp rfl zR ?_; clear hp; intro b w1 hp) | ((refine zi _ _ rfl ?_); refine lB hp rfl (zb rfl) rfl ?_; clear hp; intro b w1 hp) | ((refine zg _ _ rfl ?_); first | refine lO hp rfl (zb rfl) zem aa5 ?_ | refine lA hp rfl (zb rfl) (by with_reducible first | exact zL | exact zv | exact zl | exact ZK) aa5 ?_) | ((refine zf _ _ _ rfl ?_); (first | refine sO hp rfl (zb rfl) zem aa5 ?_ | refine sA hp rfl (zb rfl) (zb rfl) (by with_reducible first | exact zL | exact zv | exact zl | exact ZK) aa5 ?_ | refine sG hp rfl (zb rfl) (zb rfl) (by with_reducible first | exact zL | exact zv | exact zl | exact ZK) aa5 ?_); clear hp; intro w1 hp; simp only [spl, z0a, z0b] at hp) | ((refine zm _ _ _ rfl ?_); refine lS hp rfl (by intro w; go_simp; rfl) ?_; clear hp; intro b w1 hp; simp only [z0g, z0h, Nat.reduceAdd] at hp)); simp only [ze, zd, z0b, z0a]))
   go_roundg (gk - 1)
   case measure => omega
   case rel =>
    rw [HSET.out a3 a4 c3 c4] at hp
    refine ⟨q + 1, ys ++ [(⟨xh, xp, xo, a3, ws, c3, a4, ls, c4⟩ : Ob)], _, M ++ (R3 ++ R4), by omega, by go_num, z0j (by rw [List.length_append, HYL.out]; rfl), z0j (zau.snoc HJ.out ⟨rfl, rfl, rfl, rfl, rfl⟩ HYL.out HYS.out), z0j (HNEW.out _ ?_), z0j (zdZ.snoc HM.out ⟨R3, R4, rfl, HR3.out, HR4.out⟩), hp.tail⟩
    rw [zdo, List.length_append, List.length_append, List.length_drop, HYL.out, List.length_singleton, show q + 1 + (os.length - (q + 1)) = os.length by omega]
  ·have e2 : decide ((q : Int) < (os.length : Int)) = false := by simp; omega
   obtain rfl : os.length = q := by omega
   rw [List.drop_length, List.append_nil] at HR
   go_wp2_with (first | go_skip | ((first | ((refine zh _ rfl ?_); refine lZ hp rfl zR ?_; clear hp; intro b w1 hp) | ((refine zi _ _ rfl ?_); refine lB hp rfl (zb rfl) rfl ?_; clear hp; intro b w1 hp) | ((refine zg _ _ rfl ?_); first | refine lO hp rfl (zb rfl) zem aa5 ?_ | refine lA hp rfl (zb rfl) (by with_reducible first | exact zL | exact zv | exact zl | exact ZK) aa5 ?_) | ((refine zf _ _ _ rfl ?_); (first | refine sO hp rfl (zb rfl) zem aa5 ?_ | refine sA hp rfl (zb rfl) (zb rfl) (by with_reducible first | exact zL | exact zv | exact zl | exact ZK) aa5 ?_ | refine sG hp rfl (zb rfl) (zb rfl) (by with_reducible first | exact zL | exact zv | exact zl | exact ZK) aa5 ?_); clear hp; intro w1 hp; simp only [spl, z0a, z0b] at hp) | ((refine zm _ _ _ rfl ?_); refine lS hp rfl (by intro w; go_simp; rfl) ?_; clear hp; intro b w1 hp; simp only [z0g, z0h, Nat.reduceAdd] at hp)); simp only [ze, zd, z0b, z0a]))
   obtain ⟨bw, rfl⟩ := hp.id0
   go_ret
   refine ⟨bw, ⟨od, a1, ys, c1, nx, t0, t1, t2, t3, a2, fs, c2⟩, rfl, ⟨rfl, rfl, rfl, rfl, rfl, rfl, zau.symm ⟨HYL.out.symm, HYS.out⟩, rfl⟩, R, R2, M, ⟨?_, HR2.out, HM.out⟩, ?_⟩
   ·simp only; rw [HYL.out]; exact HR.out
   ·simp only [hvL]
    rw [HYL.out, List.append_nil]
    exact hp.sublist (List.Sublist.cons_cons _ (List.sublist_cons_self _ _))
open Go.RowKit
theorem zU : zac Tryz.prog 54 2 = true := by kernel_rfl
theorem zcw : zac Tryz.prog 29 7 = true := by kernel_rfl
theorem zfG : zN Tryz.prog 27 = true := by kernel_rfl
theorem zJ : zbl Tryz.prog 54 = some ([.int .i64 0, .int .i64 0], 2) := by kernel_rfl
def zaQ (c v : Int) : Value := .agg #[.int .i64 c, .int .i64 v]
theorem zde (e : Int) (w : World) : Calls Tryz.prog 75 #[.int .i64 e] w fun r w' => r = .returned (zaQ e 0) ∧ Below w.heap.size w w' := by
 have hp := Hp.start w
 go_enter Tryz.func75, Tryz.ntmps75
 go_wp2_with (first | go_skip | ((first | ((refine zh _ rfl ?_); refine lZ hp rfl zJ ?_; clear hp; intro b w1 hp) | ((refine zi _ _ rfl ?_); refine lB hp rfl (zb rfl) rfl ?_; clear hp; intro b w1 hp) | ((refine zg _ _ rfl ?_); first | refine lO hp rfl (zb rfl) (by with_reducible first | exact zw | exact Zb) aa5 ?_ | refine lA hp rfl (zb rfl) (by with_reducible first | exact ZK | exact zU) aa5 ?_) | ((refine zf _ _ _ rfl ?_); (first | refine sO hp rfl (zb rfl) (by with_reducible first | exact zw | exact Zb) aa5 ?_ | refine sA hp rfl (zb rfl) (zb rfl) (by with_reducible first | exact ZK | exact zU) aa5 ?_ | refine sG hp rfl (zb rfl) (zb rfl) (by with_reducible first | exact ZK | exact zU) aa5 ?_); clear hp; intro w1 hp; simp only [spl, z0a, z0b] at hp)); simp only [ze, zd, z0b, z0a]))
 exact bodyPost_ret (zE (rs := [.cell 2 54]) Tryz.results75 (.cell rfl (hp.loadAgg zU at0 0 _ (by rfl) (by rfl)) .nil)) rfl ⟨rfl, hp.below⟩
def zlJ (B : Nat) (w0 : World) (L L' : List Blk) (ok : Bool) (e : Ending) (w' : World) : Prop := (ok = true ∧ e = .returned (zaQ 0 0) ∧ Hp B w0 w' L') ∨ (ok = false ∧ e = .returned (zaQ 51 0) ∧ Hp B w0 w' L)
theorem zkS (os : List Ob) (oa : Option Addr) (oc : Nat) (hol : os.length ≤ 1000) (hs : zaq os) (to : Int) {B : Nat} {w0 w : World} {L : List Blk} (hp : Hp B w0 w L) {i j b n m off g : Nat} {l cells : List Value} {t u : TypeId}
  (hj : L[j]? = some ⟨b, l, u, m⟩) (hl : l[1]? = some (.slice oa os.length oc)) (ho : ZC L fun w => zD w oa (os.flatMap obV)) (hi : L[i]? = some ⟨g, cells, t, n⟩) (hof : off < cells.length) :
  Calls Tryz.prog 153 #[.pointer (some ⟨b, 0, none⟩), .pointer (some ⟨g, off, none⟩), .int .i64 to] w (zlJ B w0 L (L.set i ⟨g, cells.set off (.int .i64 to), t, n⟩) (ZQ os to)) := by
 have HS := z0j hs
 have HO := z0j ho
 have HJ : Hid (∀ x : Blk, (x :: L)[j + 1]? = some ⟨b, l, u, m⟩) := z0j (fun x => by simpa using hj)
 have HI : Hid (∀ x : Blk, (x :: L)[i + 1]? = some ⟨g, cells, t, n⟩) := z0j (fun x => by simpa using hi)
 have HSL := z0j hl
 have HOF := z0j hof
 clear hs ho hj hi hl hof
 obtain ⟨ok, hok⟩ : ∃ ok, ZQ os to = ok := ⟨_, rfl⟩
 have HE : Hid (zaA os to = ok) := z0j (by rw [← zdI]; exact hok)
 rw [hok]
 clear hok
 go_enter Tryz.func153, Tryz.ntmps153
 cases ok
 ·go_wp2_with (first | ((refine zg 43 _ rfl ?_); refine lO hp rfl (zb rfl) Zb (HJ.out _) ?_ (hv := HSL.out); simp only [ze, zd, z0b, z0a]) | (go_at_call 147; (with_reducible refine (zgv os oa oc hol HS.out to _ (HO.out.at hp (fun p hm => List.mem_cons_of_mem _ hm))).mono ?_); rintro e w1 ⟨rfl, hb⟩; rw [HE.out]; replace hp := hp.call hb; clear hb) | (go_at_call 75; (with_reducible refine (zde _ _).mono ?_); rintro e w1 ⟨rfl, hb⟩; replace hp := hp.call hb; clear hb) | go_skip | ((first | ((refine zh _ rfl ?_); refine lZ hp rfl zJ ?_; clear hp; intro b w1 hp) | ((refine zi _ _ rfl ?_); refine lB hp rfl (zb rfl) rfl ?_; clear hp; intro b w1 hp) | ((refine zg _ _ rfl ?_); first | refine lO hp rfl (zb rfl) (by with_reducible first | exact zw | exact Zb) aa5 ?_ | refine lA hp rfl (zb rfl) (by with_reducible first | exact ZK | exact zU) aa5 ?_) | ((refine zf _ _ _ rfl ?_); (first | refine sO hp rfl (zb rfl) (by with_reducible first | exact zw | exact Zb) aa5 ?_ | refine sA hp rfl (zb rfl) (zb rfl) (by with_reducible first | exact ZK | exact zU) aa5 ?_ | refine sG hp rfl (zb rfl) (zb rfl) (by with_reducible first | exact ZK | exact zU) aa5 ?_); clear hp; intro w1 hp; simp only [spl, z0a, z0b] at hp)); simp only [ze, zd, z0b, z0a]))
  exact bodyPost_ret (zE (rs := [.cell 6 54]) Tryz.results153 (.cell rfl (hp.loadAgg zU at0 0 _ (by rfl) (by rfl)) .nil)) rfl (.inr ⟨rfl, rfl, hp.tail⟩)
 ·go_wp2_with (first | ((refine zg 43 _ rfl ?_); refine lO hp rfl (zb rfl) Zb (HJ.out _) ?_ (hv := HSL.out); simp only [ze, zd, z0b, z0a]) | (go_at_call 147; (with_reducible refine (zgv os oa oc hol HS.out to _ (HO.out.at hp (fun p hm => List.mem_cons_of_mem _ hm))).mono ?_); rintro e w1 ⟨rfl, hb⟩; rw [HE.out]; replace hp := hp.call hb; clear hb) | (go_at_call 75; (with_reducible refine (zde _ _).mono ?_); rintro e w1 ⟨rfl, hb⟩; replace hp := hp.call hb; clear hb) | ((refine zf 3 _ _ rfl ?_); refine sO hp rfl (zb rfl) zw (HI.out _) ?_ (hlen := HOF.out); clear hp; intro w1 hp; simp only [z0b] at hp; simp only [ze, zd, z0b, z0a]) | go_skip | ((first | ((refine zh _ rfl ?_); refine lZ hp rfl zJ ?_; clear hp; intro b w1 hp) | ((refine zi _ _ rfl ?_); refine lB hp rfl (zb rfl) rfl ?_; clear hp; intro b w1 hp) | ((refine zg _ _ rfl ?_); first | refine lO hp rfl (zb rfl) (by with_reducible first | exact zw | exact Zb) aa5 ?_ | refine lA hp rfl (zb rfl) (by with_reducible first | exact ZK | exact zU) aa5 ?_) | ((refine zf _ _ _ rfl ?_); (first | refine sO hp rfl (zb rfl) (by with_reducible first | exact zw | exact Zb) aa5 ?_ | refine sA hp rfl (zb rfl) (zb rfl) (by with_reducible first | exact ZK | exact zU) aa5 ?_ | refine sG hp rfl (zb rfl) (zb rfl) (by with_reducible first | exact ZK | exact zU) aa5 ?_); clear hp; intro w1 hp; simp only [spl, z0a, z0b] at hp)); simp only [ze, zd, z0b, z0a]))
  exact bodyPost_ret (zE (rs := [.cell 6 54]) Tryz.results153 (.cell rfl (hp.loadAgg zU at0 0 _ (by rfl) (by rfl)) .nil)) rfl (.inl ⟨rfl, rfl, hp.tail⟩)
open Go.RowKit
def za4 (h : Int) (l : List Int) (q : Nat) : List Int := (l.take q).map (zaZ h) ++ l.drop q
theorem zfJ (h : Int) (l : List Int) : za4 h l 0 = l := by simp [za4]
theorem zhb (h : Int) (l : List Int) : za4 h l l.length = l.map (zaZ h) := by simp [za4]
theorem zcJ (h : Int) (l : List Int) (q : Nat) : (za4 h l q).length = l.length := by
 simp only [za4, List.length_append, List.length_map, List.length_take, List.length_drop]; omega
theorem zdC {h : Int} {l : List Int} {q : Nat} {t : Int} (ht : l[q]? = some t) : (za4 h l q)[q]? = some t := by
 have hlt := (List.getElem?_eq_some_iff.1 ht).1
 unfold za4
 have hl : ((l.take q).map (zaZ h)).length = q := by rw [List.length_map, List.length_take]; omega
 rw [List.getElem?_append_right (by omega), hl, Nat.sub_self, List.getElem?_drop]
 exact ht
theorem zfI {h : Int} {l : List Int} {q : Nat} {t : Int} (ht : l[q]? = some t) : za4 h l (q + 1) = (za4 h l q).set q (zaZ h t) := by
 obtain ⟨hlt, rfl⟩ := List.getElem?_eq_some_iff.1 ht
 unfold za4
 have hl : ((l.take q).map (zaZ h)).length = q := by rw [List.length_map, List.length_take]; omega
 rw [List.set_append_right _ _ (by omega), hl, Nat.sub_self, List.drop_eq_getElem_cons hlt, List.set_cons_zero, List.take_succ_eq_append_getElem hlt, List.map_append, List.append_assoc]
 rfl
def zgM (pre : List Value) (l : List Int) (post : List Value) : List Value := pre ++ (l.flatMap iV ++ post)
theorem zmh {pre post : List Value} {l : List Int} {q : Nat} {t : Int} (h : l[q]? = some t) : (zgM pre l post)[pre.length + q]? = some (.int .i64 t) := by
 have hlt := (List.getElem?_eq_some_iff.1 h).1
 unfold zgM
 rw [List.getElem?_append_right (by omega), show pre.length + q - pre.length = q by omega, List.getElem?_append_left (by rw [ZL]; omega)]
 have := zaT iV 1 zby l q 0 t (.int .i64 t) h rfl
 simpa using this
theorem zbK (l : List Int) : l.flatMap iV = l.map (Value.int .i64) := by
 induction l with
 | nil => rfl
 | cons x l ih => rw [List.flatMap_cons, ih]; rfl
theorem zmj {pre post : List Value} {l : List Int} {q : Nat} (t : Int) (h : q < l.length) : (zgM pre l post).set (pre.length + q) (.int .i64 t) = zgM pre (l.set q t) post := by
 unfold zgM
 rw [List.set_append_right _ _ (by omega), show pre.length + q - pre.length = q by omega, List.set_append_left _ _ (by rw [ZL]; omega), zbK, zbK, List.map_set]
theorem zmi (pre : List Value) (l : List Int) (post : List Value) : (zgM pre l post).length = pre.length + l.length + post.length := by
 unfold zgM
 rw [List.length_append, List.length_append, ZL]; omega
theorem zje {l : List Int} {q : Nat} {t : Int} (h : l[q]? = some t) : l.set q t = l := ZH h
theorem zmM {B : Nat} {w0 w : World} {bg g off n c : Nat} {t : TypeId} {x : Ob} {pre post : List Value} {ls : List Int} {L : List Blk} (hl : ls.length ≤ 5000) (hc : ls.length ≤ c) (hof : off = pre.length) (hp : Hp B w0 w (⟨bg, obV x, 126, 5⟩ :: ⟨g, zgM pre ls post, t, n⟩ :: L)) :
  Calls Tryz.prog 233 #[.slice (some ⟨g, off, none⟩) ls.length c, .pointer (some ⟨bg, 0, none⟩)] w fun e w' => e = .returned (.tuple #[]) ∧ Hp B w0 w' (⟨bg, obV x, 126, 5⟩ :: ⟨g, zgM pre (ls.map (zaZ x.h)) post, t, n⟩ :: L) := by
 obtain ⟨xh, xp, xo, wa, ws, wc, la, lks, lc⟩ := x
 simp only [obV] at hp ⊢
 have HOFF := z0j hof
 go_enter Tryz.func233, Tryz.ntmps233
 go_wp2_with (first | go_skip | ((first | ((refine zi _ _ rfl ?_); refine lB hp rfl (zb rfl) rfl ?_; clear hp; intro b w1 hp) | ((refine zg _ _ rfl ?_); first | refine lO hp rfl (zb rfl) zw aa5 ?_ | refine lA hp rfl (zb rfl) zv aa5 ?_) | ((refine zf _ _ _ rfl ?_); (first | refine sO hp rfl (zb rfl) zw aa5 ?_ | refine sA hp rfl (zb rfl) (zb rfl) zv aa5 ?_ | refine sG hp rfl (zb rfl) (zb rfl) zv aa5 ?_); clear hp; intro w1 hp; simp only [spl, z0a, z0b] at hp)); simp only [ze, zd, z0b, z0a]))
 go_loopg [7] ls.length (fun k i wr => ∃ q : Nat, k + q = ls.length ∧ i = .int .i64 q ∧ Hp B w0 wr (⟨bg, [.int .i64 xh, .int .i64 xp, .int .i64 xo, .slice wa ws.length wc, .slice la lks.length lc], 126, 5⟩ :: ⟨g, zgM pre (za4 xh ls q) post, t, n⟩ :: L))
 case atStart => exact ⟨0, by omega, rfl, by rw [zfJ]; exact hp⟩
 case round =>
  clear hp
  obtain ⟨q, hkq, rfl, hp⟩ := hrel
  by_cases hlt : q < ls.length
  ·have hj := List.getElem?_eq_getElem hlt
   have hg := zmh (pre := pre) (post := post) (zdC (h := xh) hj)
   have hstep := zfI (h := xh) hj
   have hset := zmj (pre := pre) (post := post) (l := za4 xh ls q) (q := q) 0 (by rw [zcJ]; exact hlt)
   have hof2 : pre.length + q < (zgM pre (za4 xh ls q) post).length := by rw [zmi, zcJ]; omega
   have hself := zje (zdC (h := xh) hj)
   rw [← hof] at hg hset hof2
   have e1 : (0 : Int) ≤ (q : Int) := by omega
   have e2 : (q : Int) < (ls.length : Int) := by omega
   by_cases he : ls[q] = xh
   ·have e3 : (ls[q] == xh) = true := by simp [he]
    rw [show zaZ xh ls[q] = 0 by unfold zaZ; rw [if_pos he]] at hstep
    rw [← hstep] at hset
    have HST := z0j hset
    have HG := z0j hg
    have HOF := z0j hof2
    clear hj hg hstep hset hof2 hself he
    generalize zgM pre (za4 xh ls q) post = cells at hp HST HG HOF
    generalize ls[q] = tv at HG e3
    clear hof
    go_wp2_with (first | ((refine zg 3 _ rfl ?_); refine lO hp rfl (zb rfl) zw at1 ?_ (hv := HG.out); simp only [ze, zd, z0b, z0a]) | ((refine zf 3 _ _ rfl ?_); refine sO hp rfl (zb rfl) zw at1 ?_ (hlen := HOF.out); clear hp; intro w1 hp; simp only [z0b, z0a] at hp; simp only [ze, zd, z0b, z0a]) | go_skip | ((first | ((refine zi _ _ rfl ?_); refine lB hp rfl (zb rfl) rfl ?_; clear hp; intro b w1 hp) | ((refine zg _ _ rfl ?_); first | refine lO hp rfl (zb rfl) zw aa5 ?_ | refine lA hp rfl (zb rfl) zv aa5 ?_) | ((refine zf _ _ _ rfl ?_); (first | refine sO hp rfl (zb rfl) zw aa5 ?_ | refine sA hp rfl (zb rfl) (zb rfl) zv aa5 ?_ | refine sG hp rfl (zb rfl) (zb rfl) zv aa5 ?_); clear hp; intro w1 hp; simp only [spl, z0a, z0b] at hp)); simp only [ze, zd, z0b, z0a]))
    go_roundg (gk - 1)
    case measure => omega
    case rel => exact ⟨q + 1, by omega, by go_num, by rw [HST.out] at hp; exact hp⟩
   ·have e3 : (ls[q] == xh) = false := by simp [he]
    rw [show zaZ xh ls[q] = ls[q] by unfold zaZ; rw [if_neg he], hself] at hstep
    have HST : Hid (zgM pre (za4 xh ls (q + 1)) post = zgM pre (za4 xh ls q) post) := z0j (by rw [hstep])
    have HG := z0j hg
    clear hj hg hstep hset hof2 hself he
    generalize zgM pre (za4 xh ls q) post = cells at hp HST HG
    generalize ls[q] = tv at HG e3
    clear hof
    go_wp2_with (first | ((refine zg 3 _ rfl ?_); refine lO hp rfl (zb rfl) zw at1 ?_ (hv := HG.out); simp only [ze, zd, z0b, z0a]) | go_skip | ((first | ((refine zi _ _ rfl ?_); refine lB hp rfl (zb rfl) rfl ?_; clear hp; intro b w1 hp) | ((refine zg _ _ rfl ?_); first | refine lO hp rfl (zb rfl) zw aa5 ?_ | refine lA hp rfl (zb rfl) zv aa5 ?_) | ((refine zf _ _ _ rfl ?_); (first | refine sO hp rfl (zb rfl) zw aa5 ?_ | refine sA hp rfl (zb rfl) (zb rfl) zv aa5 ?_ | refine sG hp rfl (zb rfl) (zb rfl) zv aa5 ?_); clear hp; intro w1 hp; simp only [spl, z0a, z0b] at hp)); simp only [ze, zd, z0b, z0a]))
    go_roundg (gk - 1)
    case measure => omega
    case rel => exact ⟨q + 1, by omega, by go_num, by rw [HST.out]; exact hp⟩
  ·obtain rfl : ls.length = q := by omega
   rw [zhb] at hp
   go_wp2_with (first | go_skip | ((first | ((refine zi _ _ rfl ?_); refine lB hp rfl (zb rfl) rfl ?_; clear hp; intro b w1 hp) | ((refine zg _ _ rfl ?_); first | refine lO hp rfl (zb rfl) zw aa5 ?_ | refine lA hp rfl (zb rfl) zv aa5 ?_) | ((refine zf _ _ _ rfl ?_); (first | refine sO hp rfl (zb rfl) zw aa5 ?_ | refine sA hp rfl (zb rfl) (zb rfl) zv aa5 ?_ | refine sG hp rfl (zb rfl) (zb rfl) zv aa5 ?_); clear hp; intro w1 hp; simp only [spl, z0a, z0b] at hp)); simp only [ze, zd, z0b, z0a]))
   exact bodyPost_end (results_none Tryz.results233 _ _ _) rfl ⟨rfl, hp⟩
theorem zhX {a : Option Addr} {c bg : Nat} (w : World) : Calls Tryz.prog 233 #[.slice a 0 c, .pointer (some ⟨bg, 0, none⟩)] w fun e w' => e = .returned (.tuple #[]) ∧ w = w' := by
 go_enter Tryz.func233, Tryz.ntmps233
 go_wp2
 go_loopg [7] 0 (fun k i wr => i = .int .i64 0 ∧ w = wr)
 case atStart => exact ⟨rfl, rfl⟩
 case round =>
  obtain ⟨rfl, rfl⟩ := hrel
  go_wp2
  exact bodyPost_end (results_none Tryz.results233 _ _ _) rfl ⟨rfl, rfl⟩
end Go.Proofs.YtaafajaadfgaoaaGreat
