import Derived.Test.YtaafajaadfgaoaaGreatCx11
import Derived.Test.YtaafajaadfgaoaaGreatCx0
import Derived.Test.YtaafajaadfgaoaaGreatCx6
set_option linter.unusedSimpArgs false
set_option linter.unusedVariables false
set_option maxRecDepth 100000
set_option maxHeartbeats 60000000
namespace Go.Proofs.YtaafajaadfgaoaaGreat
open Go.RowKit
theorem zsZ {ty : TypeId} (h : zy Tryz.prog ty = true := by with_reducible first | exact zr | exact Ze | exact Zh | exact z7 | exact Zz) : zy Tryz.prog ty = true := h
theorem zcp : ZB Tryz.prog 113 8 = true := by kernel_rfl
theorem zdp (os : List Ob) : (os.flatMap obV).length = os.length * 5 := zS obV 5 Z1 os
theorem zaw (l : List Int) : (l.flatMap iV).length = l.length * 1 := zS iV 1 zde l
theorem znz (os : List Ob) : (os.flatMap obV).all (·.oneCell') = true := by
 rw [List.all_eq_true]; intro u hu; obtain ⟨x, _, hx⟩ := List.mem_flatMap.1 hu; simp [obV] at hx; rcases hx with rfl | rfl | rfl | rfl | rfl <;> rfl
theorem zA.val {e : TypeId} {c n : Nat} {v : Value} {xs : List Value} {R : List Blk} (h : zA e c v n xs R) : ∃ a k, v = .slice a n k := by
 obtain ⟨a, k, hv, _⟩ := h.kept
 exact ⟨a, k, hv⟩
theorem zA.alike {e : TypeId} {c n : Nat} {v : Value} {xs : List Value} {R : List Blk} (h : zA e c v n xs R) (hn : 0 < n) : ∃ g cap, v = .slice (some ⟨g, 0, none⟩) n cap ∧ R = [⟨g, xs, e, cap * c⟩] ∧ ∀ ys : List Value, ys.length = n * c → zA e c v n ys [⟨g, ys, e, cap * c⟩] := by
 obtain ⟨hl, ⟨h0, _⟩ | ⟨g, cap, hv, h1, h2, hr⟩⟩ := h
 ·omega
 ·exact ⟨g, cap, hv, hr, fun ys hy => ⟨hy, .inr ⟨g, cap, hv, h1, h2, rfl⟩⟩⟩
theorem zmh {ys os : List Ob} {q : Nat} {x : Ob} (hq : ys.length = q) (hx : os[q]? = some x) (a b : Option Addr) (m n : Nat) :
  (((ys ++ os.drop q).flatMap obV).set (q * 5 + 3) (.slice a x.ws.length m)).set (q * 5 + 4) (.slice b x.ls.length n) = ((ys ++ [(⟨x.h, x.p, x.o, a, x.ws, m, b, x.ls, n⟩ : Ob)]) ++ os.drop (q + 1)).flatMap obV := by
 obtain ⟨hlt, rfl⟩ := List.getElem?_eq_some_iff.1 hx
 rw [List.drop_eq_getElem_cons hlt]
 generalize os[q] = x
 rw [List.flatMap_append, List.flatMap_cons, List.flatMap_append, List.flatMap_append]
 have hl : (ys.flatMap obV).length = q * 5 := by rw [zdp, hq]
 rw [List.set_append_right _ _ (by omega), List.set_append_right _ _ (by omega), hl, show q * 5 + 3 - q * 5 = 3 by omega, show q * 5 + 4 - q * 5 = 4 by omega]
 simp [obV]
theorem zoE {ys os : List Ob} {q : Nat} {x : Ob} (hq : ys.length = q) (hx : os[q]? = some x) : (((ys ++ os.drop q).flatMap obV).drop (q * 5)).take 5 = obV x :=
 zd5 5 Z1 (by rw [List.getElem?_append_right (by omega), hq, Nat.sub_self, List.getElem?_drop]; simpa using hx)
def zhg (w : World) (x : Hv) (e : Ending) (w' : World) : Prop := ∃ b y, e = .returned (.pointer (some ⟨b, 0, none⟩)) ∧ y.Sm x ∧ zQ w.heap.size w w' b y []
theorem zq8 (x : Hv) (hs : x.Small) (w : World) (hx0 : x.Is w) : Calls Tryz.prog 76 #[.agg (hvL x).toArray] w (zhg w x) := by
 obtain ⟨od, oa, os, oc, nx, t0, t1, t2, t3, fa, fs, fc⟩ := x
 obtain ⟨⟨hol, hosm⟩, hfl⟩ := hs
 obtain ⟨ho, hoo, hf⟩ := hx0
 simp only at hol hosm hfl ho hoo hf
 simp only [hvL]
 have hp := Hp.start w
 have hol5 : os.length ≤ 2000 := by omega
 have HO := z0j ho
 have HOO := z0j hoo
 have HOS := z0j hosm
 have HF := z0j hf
 clear ho hoo hosm hf
 go_enter Tryz.func76, Tryz.ntmps76
 go_wp2_with (first | ((first | ((refine zk _ _ rfl ?_); refine lB hp rfl (za rfl) rfl ?_; clear hp; intro b w1 hp)); simp only [zc, zb, z0b, z0a]))
 refine zf [_] (zt.one hp.drew at0) [7, 8, 9] [(0, true), (1, true), (3, true), (4, true), (2, false), (6, true), (5, false), (7, false), (8, false), (9, false)] (by kernel_rfl) (by kernel_rfl) rfl (by kernel_rfl) (fun _ _ d _ _ h => by cases d <;> exact h) ?_
 replace hp := hp.drew
 repeat' (with_reducible refine zq ?_); first | (with_reducible refine zl ?_) | ((with_reducible refine zw ?_); refine zn rfl ?_; (first | ((with_reducible refine zI _ _ rfl ?_); refine tO rfl (za rfl) (by with_reducible first | exact z7 | exact Zz) aa5 ?_) | refine tG (fun w _ => (by go_simp; try rfl)) ?_); try simp only [zc, zb, zh, ze, z0b, z0a, z0d, z0c, zj]) | (refine zv rfl (fun K hK => ?_); go_wp2_with (first | (go_at_call 149; (with_reducible refine (zoT oa os.length oc hol5 _ (zdp os) (znz os) _ (HO.out.below hp.below)).mono ?_); rintro e w1 ⟨v1, R1, rfl, hr1, hp1⟩; replace hp := hp.join hp1; obtain ⟨a1, c1, rfl⟩ := hr1.val; have HR1 := z0j hr1; clear hp1 hr1; simp only [z0f, z0e, z0i] at hp) | (go_at_call 142; (with_reducible refine (zgI fa fs.length fc (by omega) _ (zaN fs) (zet fs) _ (HF.out.below hp.below)).mono ?_); rintro e w1 ⟨v2, R2, rfl, hr2, hp2⟩; replace hp := hp.join hp2; obtain ⟨a2, c2, rfl⟩ := hr2.val; have HR2 := z0j hr2; clear hp2 hr2; simp only [z0f, z0e, z0i] at hp) | (((refine zg _ _ _ rfl ?_); (first | refine sO hp rfl (za rfl) zsZ aa5 ?_); clear hp; intro w1 hp; simp only [spl, z0a, z0b] at hp); simp only [zc, zb, z0b, z0a])); (first | refine hK.out _ _ (.inl rfl) ?_ | refine hK.out _ _ (.inr (zt.one hp aa5)) ?_); clear hK K; try simp only [zc, zb, zh, ze, z0b, z0a, z0d, z0c, zj])
 obtain ⟨b1, rfl⟩ := hp.id0
 go_wp2_with (first | ((first | ((refine zd _ _ rfl ?_); first | refine lO hp rfl (za rfl) zsZ aa5 ?_)); simp only [zc, zb, z0b, z0a]))
 go_loopg [16] os.length (fun k i wr => ∃ (q : Nat) (ys : List Ob) (R M : List Blk), k + q = os.length ∧ i = .int .i64 q ∧ Hid (ys.length = q) ∧ Hid (∀ (i : Nat) a b, os[i]? = some a → ys[i]? = some b → a.Sm b) ∧
  Hid (zA 126 5 (.slice a1 os.length c1) os.length ((ys ++ os.drop q).flatMap obV) R) ∧ Hid (zeM ys M) ∧
  Hp w.heap.size w wr (⟨b1, [.int .i64 od, .slice a1 os.length c1, .int .i64 nx, .int .i64 t0, .int .i64 t1, .int .i64 t2, .int .i64 t3, .slice a2 fs.length c2], 47, 8⟩ :: (R ++ (R2 ++ M))))
 case atStart => exact ⟨0, [], R1, [], by omega, rfl, z0j rfl, z0j (fun i a b _ h => by simp at h), HR1, z0j zeM.nil, by simpa using hp⟩
 case round =>
  clear hp HR1
  obtain ⟨q, ys, R, M, hkq, rfl, HYL, HYS, HR, HM, hp⟩ := hrel
  by_cases hlt : q < os.length
  ·have hj := List.getElem?_eq_getElem hlt
   have hmem := List.getElem_mem hlt
   obtain ⟨hw1, hw2⟩ := HOO.out _ hmem
   obtain ⟨hw3, hw4⟩ := HOS.out _ hmem
   have hset := fun a b m n => zmh HYL.out hj a b m n
   have hat := zoE HYL.out hj
   obtain ⟨g, cap, hv, rfl, hnew⟩ := HR.out.alike (by omega)
   injection hv with v1 v2 v3
   subst v1 v3
   have HNEW := z0j hnew
   have HSET := z0j hset
   have HXA := z0j hat
   have hcl : ((ys ++ os.drop q).flatMap obV).length = os.length * 5 := by rw [zdp, List.length_append, List.length_drop, HYL.out, show q + (os.length - q) = os.length by omega]
   have HS3 : Hid (q * 5 + 3 < ((ys ++ os.drop q).flatMap obV).length) := z0j (by omega)
   have HS4 : Hid (q * 5 + 4 < ((ys ++ os.drop q).flatMap obV).length) := z0j (by omega)
   have HJ := z0j hj
   clear hj hmem hnew hset hat HR hcl
   generalize (ys ++ os.drop q).flatMap obV = xs at hp HSET HXA HS3 HS4
   generalize os[q] = x at hw1 hw2 hw3 hw4 HJ HSET HXA
   obtain ⟨xh, xp, xo, wa, ws, wc, la, ls, lc⟩ := x
   simp only [obV] at hw1 hw2 hw3 hw4 HXA HSET
   have HW := z0j hw1
   have HK := z0j hw2
   clear hw1 hw2
   have e1 : (0 : Int) ≤ (q : Int) := by omega
   have e2 : (q : Int) < (os.length : Int) := by omega
   simp only [z0f, z0e] at hp
   go_wp2_with (first | ((refine zd 126 _ rfl ?_); refine zaX hp _ _ rfl wy _ _ (za rfl) _ zD 1 _ _ _ at1 _ HXA.out rfl ?_; simp only [zc, zb, z0b, z0a]) | ((first | ((refine zi _ rfl ?_); refine lZ hp rfl z6 ?_; clear hp; intro b w1 hp) | ((refine zg _ _ _ rfl ?_); (first | refine sA hp rfl (za rfl) (za rfl) (by with_reducible first | exact zD) aa5 ?_); clear hp; intro w1 hp; simp only [spl, z0a, z0b] at hp)); simp only [zc, zb, z0b, z0a]))
   refine zf [_, _] (zt.two hp.drew at0 at1) [17] [(0, true), (1, true), (2, true), (3, true), (4, true), (5, true), (6, true), (7, true), (9, true), (10, true), (8, false), (11, false), (12, true), (13, true), (14, false), (15, true), (16, true), (17, false)] (by kernel_rfl) (by kernel_rfl) rfl (by kernel_rfl) (fun _ _ d _ _ h => by cases d <;> exact h) ?_
   replace hp := hp.drew
   repeat' (with_reducible refine zq ?_); first | (with_reducible refine zl ?_) | ((with_reducible refine zw ?_); refine zn rfl ?_; (first | ((with_reducible refine zH _ rfl ?_); refine tM rfl ?_) | ((with_reducible refine zI _ _ rfl ?_); refine tO rfl (za rfl) (by with_reducible first | exact Zh | exact z7) aa5 ?_) | refine tG (fun w _ => (by go_simp; try rfl)) ?_); try simp only [zc, zb, zh, ze, z0b, z0a, z0d, z0c, zj]) | (refine zv rfl (fun K hK => ?_); go_wp2_with (first | (go_at_call 150; (with_reducible refine (zjY wa ws.length wc hw3 _ (zaw ws) (zgV ws) _ (HW.out.below hp.below)).mono ?_); rintro e w1 ⟨v3, R3, rfl, hr3, hp3⟩; replace hp := hp.join hp3; obtain ⟨a3, c3, rfl⟩ := hr3.val; have HR3 := z0j hr3; clear hp3 hr3; simp only [z0f, z0e, z0i] at hp) | (go_at_call 150; (with_reducible refine (zjY la ls.length lc hw4 _ (zaw ls) (zgV ls) _ (HK.out.below hp.below)).mono ?_); rintro e w1 ⟨v4, R4, rfl, hr4, hp4⟩; replace hp := hp.join hp4; obtain ⟨a4, c4, rfl⟩ := hr4.val; have HR4 := z0j hr4; clear hp4 hr4; simp only [z0f, z0e, z0i] at hp) | ((refine zg 122 _ _ rfl ?_); refine zbN hp _ _ _ rfl wy _ _ (za rfl) _ (za rfl) Zh 2 _ _ _ at2 (by first | exact HS3.out | (rw [List.length_set]; exact HS4.out)) rfl ?_; clear hp; intro w1 hp; simp only [z0a, z0b] at hp; simp only [zc, zb, z0b, z0a])); (first | refine hK.out _ _ (.inl rfl) ?_ | refine hK.out _ _ (.inr (zt.two hp aa5 aa5)) ?_); clear hK K; try simp only [zc, zb, zh, ze, z0b, z0a, z0d, z0c, zj])
   go_wp2_with (first | fail)
   go_roundg (gk - 1)
   case measure => omega
   case rel =>
    rw [HSET.out a3 a4 c3 c4] at hp
    refine ⟨q + 1, ys ++ [(⟨xh, xp, xo, a3, ws, c3, a4, ls, c4⟩ : Ob)], _, M ++ (R3 ++ R4), by omega, by go_num, z0j (by rw [List.length_append, HYL.out]; rfl), z0j (ZJ.snoc HJ.out ⟨rfl, rfl, rfl, rfl, rfl⟩ HYL.out HYS.out), z0j (HNEW.out _ ?_), z0j (zeM.snoc HM.out ⟨R3, R4, rfl, HR3.out, HR4.out⟩), hp.tail⟩
    rw [zdp, List.length_append, List.length_append, List.length_drop, HYL.out, List.length_singleton, show q + 1 + (os.length - (q + 1)) = os.length by omega]
  ·have e2 : decide ((q : Int) < (os.length : Int)) = false := by simp; omega
   obtain rfl : os.length = q := by omega
   rw [List.drop_length, List.append_nil] at HR
   go_wp2_with (first | ((first | ((refine zk _ _ rfl ?_); refine lB hp rfl (za rfl) rfl ?_; clear hp; intro b w1 hp) | ((refine zd _ _ rfl ?_); first | refine lA hp rfl (za rfl) (by with_reducible first | exact zW) aa5 ?_)); simp only [zc, zb, z0b, z0a]))
   obtain ⟨bw, rfl⟩ := hp.id0
   go_ret
   refine ⟨bw, ⟨od, a1, ys, c1, nx, t0, t1, t2, t3, a2, fs, c2⟩, rfl, ⟨rfl, rfl, rfl, rfl, rfl, rfl, ZJ.symm ⟨HYL.out.symm, HYS.out⟩, rfl⟩, R, R2, M, ⟨?_, HR2.out, HM.out⟩, ?_⟩
   ·simp only; rw [HYL.out]; exact HR.out
   ·simp only [hvL]
    rw [HYL.out, List.append_nil]
    exact hp.sublist (List.Sublist.cons_cons _ (List.sublist_cons_self _ _))
open Go.RowKit
theorem Zf : ZB Tryz.prog 54 2 = true := by kernel_rfl
theorem ziG : ZB Tryz.prog 29 7 = true := by kernel_rfl
theorem zmr : zy Tryz.prog 27 = true := by kernel_rfl
theorem Zi : zbB Tryz.prog 54 = some ([.int .i64 0, .int .i64 0], 2) := by kernel_rfl
def zb8 (c v : Int) : Value := .agg #[.int .i64 c, .int .i64 v]
theorem zlz (e : Int) (w : World) : Calls Tryz.prog 75 #[.int .i64 e] w fun r w' => r = .returned (zb8 e 0) ∧ Below w.heap.size w w' := by
 have hp := Hp.start w
 go_enter Tryz.func75, Tryz.ntmps75
 go_wp2_with (first | ((first | ((refine zi _ rfl ?_); refine lZ hp rfl Zi ?_; clear hp; intro b w1 hp) | ((refine zg _ _ _ rfl ?_); (first | refine sA hp rfl (za rfl) (za rfl) (by with_reducible first | exact Zf) aa5 ?_); clear hp; intro w1 hp; simp only [spl, z0a, z0b] at hp)); simp only [zc, zb, z0b, z0a]))
 exact bodyPost_ret (zu (rs := [.cell 2 54]) Tryz.results75 (.cell rfl (hp.loadAgg Zf at0 0 _ (by rfl) (by rfl)) .nil)) rfl ⟨rfl, hp.below⟩
def zos (B : Nat) (w0 : World) (L L' : List Blk) (ok : Bool) (e : Ending) (w' : World) : Prop := (ok = true ∧ e = .returned (zb8 0 0) ∧ Hp B w0 w' L') ∨ (ok = false ∧ e = .returned (zb8 51 0) ∧ Hp B w0 w' L)
theorem znd (os : List Ob) (oa : Option Addr) (oc : Nat) (hol : os.length ≤ 1000) (hs : zac os) (to : Int) {B : Nat} {w0 w : World} {L : List Blk} (hp : Hp B w0 w L) {i j b n m off g : Nat} {l cells : List Value} {t u : TypeId}
  (hj : L[j]? = some ⟨b, l, u, m⟩) (hl : l[1]? = some (.slice oa os.length oc)) (ho : ZK L fun w => zm w oa (os.flatMap obV)) (hi : L[i]? = some ⟨g, cells, t, n⟩) (hof : off < cells.length) :
  Calls Tryz.prog 153 #[.pointer (some ⟨b, 0, none⟩), .pointer (some ⟨g, off, none⟩), .int .i64 to] w (zos B w0 L (L.set i ⟨g, cells.set off (.int .i64 to), t, n⟩) (Z4 os to)) := by
 have HS := z0j hs
 have HO := z0j ho
 have HJ : Hid (∀ x : Blk, (x :: L)[j + 1]? = some ⟨b, l, u, m⟩) := z0j (fun x => by simpa using hj)
 have HI : Hid (∀ x : Blk, (x :: L)[i + 1]? = some ⟨g, cells, t, n⟩) := z0j (fun x => by simpa using hi)
 have HSL := z0j hl
 have HOF := z0j hof
 clear hs ho hj hi hl hof
 obtain ⟨ok, hok⟩ : ∃ ok, Z4 os to = ok := ⟨_, rfl⟩
 have HE : Hid (zas os to = ok) := z0j (by rw [← zpq]; exact hok)
 rw [hok]
 clear hok
 go_enter Tryz.func153, Tryz.ntmps153
 cases ok
 ·go_wp2_with (first | ((refine zd 43 _ rfl ?_); refine lO hp rfl (za rfl) z7 (HJ.out _) ?_ (hv := HSL.out); simp only [zc, zb, z0b, z0a]) | (go_at_call 147; (with_reducible refine (zgW os oa oc hol HS.out to _ (HO.out.at hp (fun p hm => List.mem_cons_of_mem _ hm))).mono ?_); rintro e w1 ⟨rfl, hb⟩; rw [HE.out]; replace hp := hp.call hb; clear hb) | (go_at_call 75; (with_reducible refine (zlz _ _).mono ?_); rintro e w1 ⟨rfl, hb⟩; replace hp := hp.call hb; clear hb) | go_skip | ((first | ((refine zi _ rfl ?_); refine lZ hp rfl Zi ?_; clear hp; intro b w1 hp) | ((refine zk _ _ rfl ?_); refine lB hp rfl (za rfl) rfl ?_; clear hp; intro b w1 hp) | ((refine zd _ _ rfl ?_); first | refine lO hp rfl (za rfl) (by with_reducible first | exact zr | exact z7) aa5 ?_ | refine lA hp rfl (za rfl) (by with_reducible first | exact zcp | exact Zf) aa5 ?_) | ((refine zg _ _ _ rfl ?_); (first | refine sO hp rfl (za rfl) (by with_reducible first | exact zr | exact z7) aa5 ?_ | refine sA hp rfl (za rfl) (za rfl) (by with_reducible first | exact zcp | exact Zf) aa5 ?_ | refine sG hp rfl (za rfl) (za rfl) (by with_reducible first | exact zcp | exact Zf) aa5 ?_); clear hp; intro w1 hp; simp only [spl, z0a, z0b] at hp)); simp only [zc, zb, z0b, z0a]))
  exact bodyPost_ret (zu (rs := [.cell 6 54]) Tryz.results153 (.cell rfl (hp.loadAgg Zf at0 0 _ (by rfl) (by rfl)) .nil)) rfl (.inr ⟨rfl, rfl, hp.tail⟩)
 ·go_wp2_with (first | ((refine zd 43 _ rfl ?_); refine lO hp rfl (za rfl) z7 (HJ.out _) ?_ (hv := HSL.out); simp only [zc, zb, z0b, z0a]) | (go_at_call 147; (with_reducible refine (zgW os oa oc hol HS.out to _ (HO.out.at hp (fun p hm => List.mem_cons_of_mem _ hm))).mono ?_); rintro e w1 ⟨rfl, hb⟩; rw [HE.out]; replace hp := hp.call hb; clear hb) | (go_at_call 75; (with_reducible refine (zlz _ _).mono ?_); rintro e w1 ⟨rfl, hb⟩; replace hp := hp.call hb; clear hb) | ((refine zg 3 _ _ rfl ?_); refine sO hp rfl (za rfl) zr (HI.out _) ?_ (hlen := HOF.out); clear hp; intro w1 hp; simp only [z0b] at hp; simp only [zc, zb, z0b, z0a]) | go_skip | ((first | ((refine zi _ rfl ?_); refine lZ hp rfl Zi ?_; clear hp; intro b w1 hp) | ((refine zk _ _ rfl ?_); refine lB hp rfl (za rfl) rfl ?_; clear hp; intro b w1 hp) | ((refine zd _ _ rfl ?_); first | refine lO hp rfl (za rfl) (by with_reducible first | exact zr | exact z7) aa5 ?_ | refine lA hp rfl (za rfl) (by with_reducible first | exact zcp | exact Zf) aa5 ?_) | ((refine zg _ _ _ rfl ?_); (first | refine sO hp rfl (za rfl) (by with_reducible first | exact zr | exact z7) aa5 ?_ | refine sA hp rfl (za rfl) (za rfl) (by with_reducible first | exact zcp | exact Zf) aa5 ?_ | refine sG hp rfl (za rfl) (za rfl) (by with_reducible first | exact zcp | exact Zf) aa5 ?_); clear hp; intro w1 hp; simp only [spl, z0a, z0b] at hp)); simp only [zc, zb, z0b, z0a]))
  exact bodyPost_ret (zu (rs := [.cell 6 54]) Tryz.results153 (.cell rfl (hp.loadAgg Zf at0 0 _ (by rfl) (by rfl)) .nil)) rfl (.inl ⟨rfl, rfl, hp.tail⟩)
open Go.RowKit
def zcw (h : Int) (l : List Int) (q : Nat) : List Int := (l.take q).map (zd4 h) ++ l.drop q
theorem zkS (h : Int) (l : List Int) : zcw h l 0 = l := by simp [zcw]
theorem zmw (h : Int) (l : List Int) : zcw h l l.length = l.map (zd4 h) := by simp [zcw]
theorem zhG (h : Int) (l : List Int) (q : Nat) : (zcw h l q).length = l.length := by
 simp only [zcw, List.length_append, List.length_map, List.length_take, List.length_drop]; omega
theorem zhF {h : Int} {l : List Int} {q : Nat} {t : Int} (ht : l[q]? = some t) : (zcw h l q)[q]? = some t := by
 have hlt := (List.getElem?_eq_some_iff.1 ht).1
 unfold zcw
 have hl : ((l.take q).map (zd4 h)).length = q := by rw [List.length_map, List.length_take]; omega
 rw [List.getElem?_append_right (by omega), hl, Nat.sub_self, List.getElem?_drop]
 exact ht
theorem zkR {h : Int} {l : List Int} {q : Nat} {t : Int} (ht : l[q]? = some t) : zcw h l (q + 1) = (zcw h l q).set q (zd4 h t) := by
 obtain ⟨hlt, rfl⟩ := List.getElem?_eq_some_iff.1 ht
 unfold zcw
 have hl : ((l.take q).map (zd4 h)).length = q := by rw [List.length_map, List.length_take]; omega
 rw [List.set_append_right _ _ (by omega), hl, Nat.sub_self, List.drop_eq_getElem_cons hlt, List.set_cons_zero, List.take_succ_eq_append_getElem hlt, List.map_append, List.append_assoc]
 rfl
def zhd (pre : List Value) (l : List Int) (post : List Value) : List Value := pre ++ (l.flatMap iV ++ post)
theorem zpB {pre post : List Value} {l : List Int} {q : Nat} {t : Int} (h : l[q]? = some t) : (zhd pre l post)[pre.length + q]? = some (.int .i64 t) := by
 have hlt := (List.getElem?_eq_some_iff.1 h).1
 unfold zhd
 rw [List.getElem?_append_right (by omega), show pre.length + q - pre.length = q by omega, List.getElem?_append_left (by rw [zaw]; omega)]
 have := zaL iV 1 zde l q 0 t (.int .i64 t) h rfl
 simpa using this
theorem zcY (l : List Int) : l.flatMap iV = l.map (Value.int .i64) := by
 induction l with
 | nil => rfl
 | cons x l ih => rw [List.flatMap_cons, ih]; rfl
theorem zpD {pre post : List Value} {l : List Int} {q : Nat} (t : Int) (h : q < l.length) : (zhd pre l post).set (pre.length + q) (.int .i64 t) = zhd pre (l.set q t) post := by
 unfold zhd
 rw [List.set_append_right _ _ (by omega), show pre.length + q - pre.length = q by omega, List.set_append_left _ _ (by rw [zaw]; omega), zcY, zcY, List.map_set]
theorem zpC (pre : List Value) (l : List Int) (post : List Value) : (zhd pre l post).length = pre.length + l.length + post.length := by
 unfold zhd
 rw [List.length_append, List.length_append, zaw]; omega
theorem zp6 {l : List Int} {q : Nat} {t : Int} (h : l[q]? = some t) : l.set q t = l := zay h
theorem zqu {B : Nat} {w0 w : World} {bg g off n c : Nat} {t : TypeId} {x : Ob} {pre post : List Value} {ls : List Int} {L : List Blk} (hl : ls.length ≤ 5000) (hc : ls.length ≤ c) (hof : off = pre.length) (hp : Hp B w0 w (⟨bg, obV x, 126, 5⟩ :: ⟨g, zhd pre ls post, t, n⟩ :: L)) :
  Calls Tryz.prog 233 #[.slice (some ⟨g, off, none⟩) ls.length c, .pointer (some ⟨bg, 0, none⟩)] w fun e w' => e = .returned (.tuple #[]) ∧ Hp B w0 w' (⟨bg, obV x, 126, 5⟩ :: ⟨g, zhd pre (ls.map (zd4 x.h)) post, t, n⟩ :: L) := by
 obtain ⟨xh, xp, xo, wa, ws, wc, la, lks, lc⟩ := x
 simp only [obV] at hp ⊢
 have HOFF := z0j hof
 go_enter Tryz.func233, Tryz.ntmps233
 go_wp2_with (first | fail)
 go_loopg [7] ls.length (fun k i wr => ∃ q : Nat, k + q = ls.length ∧ i = .int .i64 q ∧ Hp B w0 wr (⟨bg, [.int .i64 xh, .int .i64 xp, .int .i64 xo, .slice wa ws.length wc, .slice la lks.length lc], 126, 5⟩ :: ⟨g, zhd pre (zcw xh ls q) post, t, n⟩ :: L))
 case atStart => exact ⟨0, by omega, rfl, by rw [zkS]; exact hp⟩
 case round =>
  clear hp
  obtain ⟨q, hkq, rfl, hp⟩ := hrel
  by_cases hlt : q < ls.length
  ·have hj := List.getElem?_eq_getElem hlt
   have hg := zpB (pre := pre) (post := post) (zhF (h := xh) hj)
   have hstep := zkR (h := xh) hj
   have hset := zpD (pre := pre) (post := post) (l := zcw xh ls q) (q := q) 0 (by rw [zhG]; exact hlt)
   have hof2 : pre.length + q < (zhd pre (zcw xh ls q) post).length := by rw [zpC, zhG]; omega
   have hself := zp6 (zhF (h := xh) hj)
   rw [← hof] at hg hset hof2
   have e1 : (0 : Int) ≤ (q : Int) := by omega
   have e2 : (q : Int) < (ls.length : Int) := by omega
   by_cases he : ls[q] = xh
   ·have e3 : (ls[q] == xh) = true := by simp [he]
    rw [show zd4 xh ls[q] = 0 by unfold zd4; rw [if_pos he]] at hstep
    rw [← hstep] at hset
    have HST := z0j hset
    have HG := z0j hg
    have HOF := z0j hof2
    clear hj hg hstep hset hof2 hself he
    generalize zhd pre (zcw xh ls q) post = cells at hp HST HG HOF
    generalize ls[q] = tv at HG e3
    clear hof
    go_wp2_with (first | ((refine zd 3 _ rfl ?_); refine lO hp rfl (za rfl) zr at1 ?_ (hv := HG.out); simp only [zc, zb, z0b, z0a]) | ((refine zg 3 _ _ rfl ?_); refine sO hp rfl (za rfl) zr at1 ?_ (hlen := HOF.out); clear hp; intro w1 hp; simp only [z0b, z0a] at hp; simp only [zc, zb, z0b, z0a]) | ((first | ((refine zd _ _ rfl ?_); first | refine lO hp rfl (za rfl) zr aa5 ?_)); simp only [zc, zb, z0b, z0a]))
    go_roundg (gk - 1)
    case measure => omega
    case rel => exact ⟨q + 1, by omega, by go_num, by rw [HST.out] at hp; exact hp⟩
   ·have e3 : (ls[q] == xh) = false := by simp [he]
    rw [show zd4 xh ls[q] = ls[q] by unfold zd4; rw [if_neg he], hself] at hstep
    have HST : Hid (zhd pre (zcw xh ls (q + 1)) post = zhd pre (zcw xh ls q) post) := z0j (by rw [hstep])
    have HG := z0j hg
    clear hj hg hstep hset hof2 hself he
    generalize zhd pre (zcw xh ls q) post = cells at hp HST HG
    generalize ls[q] = tv at HG e3
    clear hof
    go_wp2_with (first | ((refine zd 3 _ rfl ?_); refine lO hp rfl (za rfl) zr at1 ?_ (hv := HG.out); simp only [zc, zb, z0b, z0a]) | ((first | ((refine zd _ _ rfl ?_); first | refine lO hp rfl (za rfl) zr aa5 ?_)); simp only [zc, zb, z0b, z0a]))
    go_roundg (gk - 1)
    case measure => omega
    case rel => exact ⟨q + 1, by omega, by go_num, by rw [HST.out]; exact hp⟩
  ·obtain rfl : ls.length = q := by omega
   rw [zmw] at hp
   go_wp2_with (first | fail)
   exact bodyPost_end (results_none Tryz.results233 _ _ _) rfl ⟨rfl, hp⟩
theorem ziV {a : Option Addr} {c bg : Nat} (w : World) : Calls Tryz.prog 233 #[.slice a 0 c, .pointer (some ⟨bg, 0, none⟩)] w fun e w' => e = .returned (.tuple #[]) ∧ w = w' := by
 go_enter Tryz.func233, Tryz.ntmps233
 go_wp2
 go_loopg [7] 0 (fun k i wr => i = .int .i64 0 ∧ w = wr)
 case atStart => exact ⟨rfl, rfl⟩
 case round =>
  obtain ⟨rfl, rfl⟩ := hrel
  go_wp2
  exact bodyPost_end (results_none Tryz.results233 _ _ _) rfl ⟨rfl, rfl⟩
open Go.RowKit Go.Lib
theorem zt3 (w : World) : (zeroValue 126).run Tryz.prog w = .ok (.agg #[.int .i64 0, .int .i64 0, .int .i64 0, .slice none 0 0, .slice none 0 0]) w := by kernel_rfl
theorem ztY : (Builtin.zeroCells (Value.agg #[.int .i64 0, .int .i64 0, .int .i64 0, .slice none 0 0, .slice none 0 0]).cells 1).toList = [.int .i64 0, .int .i64 0, .int .i64 0, .slice none 0 0, .slice none 0 0] := by kernel_rfl
def zue (B : Nat) (w0 : World) (g m cap : Nat) (xs : List Value) (M : List Blk) (e : Ending) (w' : World) : Prop := e = .returned (.slice (some ⟨g, 0, none⟩) m cap) ∧ Hp B w0 w' (⟨g, xs, 126, cap * 5⟩ :: M)
theorem zs1 {B : Nat} {w0 w : World} {g cap : Nat} {l : List Ob} {M : List Blk} (hp : Hp B w0 w (⟨g, l.flatMap obV, 126, cap * 5⟩ :: M)) (hl : l.length ≤ 1000) (hcap : l.length ≤ cap) {i j m n : Nat} (hj : j = i + 1) (hn : n = l.length) (hm : n = m + 1) (hi : i < n) :
  Calls Tryz.prog 231 #[.slice (some ⟨g, 0, none⟩) n cap, .int .i64 i, .int .i64 j] w (zue B w0 g m cap ((l.eraseIdx i).flatMap obV) M) := by
 obtain ⟨i0, hi0, hz0, hz1, hz2⟩ := info_parts zgU
 have hxl := zdp l
 have hx1 := znz l
 have HER : Hid ((l.flatMap obV).take (i * 5) ++ (l.flatMap obV).drop (j * 5) = (l.eraseIdx i).flatMap obV) := z0j (by
  rw [zb0 5 Z1, hj, List.eraseIdx_eq_take_drop_succ, List.flatMap_append]
  congr 1
  have h := zb0 5 Z1 l i
  have h2 : l.flatMap obV = (l.take i).flatMap obV ++ (l.drop i).flatMap obV := by rw [← List.flatMap_append, List.take_append_drop]
  have h3 : ((l.take i).flatMap obV).length = i * 5 := by rw [zdp, List.length_take, Nat.min_eq_left (by omega)]
  rw [h2, ← h3, List.take_left])
 generalize l.flatMap obV = xs at hp hxl hx1 HER
 rw [← hn] at hxl hcap hl
 clear hn
 have HYL : Hid ((xs.drop (j * 5)).length = (n - j) * 5) := z0j (by rw [List.length_drop, hxl]; omega)
 have HY1 : Hid ((xs.drop (j * 5)).all (·.oneCell') = true) := z0j (by rw [List.all_eq_true]; intro u hu; exact List.all_eq_true.1 hx1 u (List.mem_of_mem_drop hu))
 have HFI : Hid (i + (n - j) ≤ cap) := z0j (by omega)
 have HLE : Hid ((i + (n - j)) * 5 ≤ xs.length) := z0j (by rw [hxl]; omega)
 have HSUM : Hid (i + (n - j) = m) := z0j (by omega)
 have HSPL : Hid (spl xs (i * 5) (xs.drop (j * 5)) = (xs.take (i * 5) ++ xs.drop (j * 5)) ++ xs.drop (i * 5 + (xs.drop (j * 5)).length)) := z0j (by
  rw [zg7 _ _ _ (by rw [List.length_drop, hxl]; omega), List.append_assoc])
 have HOFF : Hid (m * 5 = (xs.take (i * 5) ++ xs.drop (j * 5)).length) := z0j (by rw [List.length_append, List.length_take, List.length_drop, hxl]; omega)
 have HFC : Hid ((xs.take (i * 5) ++ xs.drop (j * 5)).length + 5 ≤ cap * 5) := z0j (by rw [← HOFF.out]; omega)
 have HNM : Hid (n - m = 1) := z0j (by omega)
 have f1 : (0 : Int) ≤ (i : Int) := by omega
 have f2 : (i : Int) ≤ (j : Int) := by omega
 have f3 : (j : Int) ≤ (n : Int) := by omega
 have f4 : (n : Int) ≤ (cap : Int) := by omega
 have f5 : ((i : Int) == (j : Int)) = false := by simp; omega
 have f5' : (i == j) = false := by simp; omega
 have f6 : (i : Int) ≤ (cap : Int) := by omega
 have f7 : (0 : Int) ≤ (j : Int) := by omega
 have f8 : (m : Int) ≤ (n : Int) := by omega
 have f9 : ¬ (cap = m) := by omega
 have f10 : (0 : Int) ≤ (m : Int) := by omega
 have f11 : ¬ (cap = i) := by omega
 have f12 : ¬ (n = i) := by omega
 by_cases hcj : j = cap
 ·subst hcj
  have HNL : Hid (∀ w a, zm w a (xs.drop (j * 5))) := z0j (fun w a => by rw [List.drop_eq_nil_of_le (by omega)]; exact zm.nil _ _)
  clear hxl hx1 hm hj hi hl hcap
  go_enter Tryz.func231, Tryz.ntmps231
  go_wp2_with fail
  refine zf [] (zt.zero hp.drew) [] [(0, true), (1, true), (2, true), (3, true), (4, true), (5, true), (6, false), (7, false)] (by kernel_rfl) (by kernel_rfl) rfl (by kernel_rfl) (fun _ _ d _ _ h => by cases d <;> exact h) ?_
  replace hp := hp.drew
  repeat' (with_reducible refine zq ?_); first | (with_reducible refine zl ?_) | ((with_reducible refine zw ?_); refine zn rfl ?_; (first | ((with_reducible refine zH _ rfl ?_); refine tM rfl ?_) | refine tG (fun w _ => (by go_simp; try rfl)) ?_); try simp only [zc, zb, zh, ze, z0b, z0a, z0d, z0c, zj]) | (refine zv rfl (fun K hK => ?_); go_wp2_with (first | ((refine zG _ _ 43 rfl ?_); first | (refine zaz hp _ _ _ rfl wy Tryz.underlying43 i0 hi0 hz1 (by decide) (za rfl) _ (n - j) _ (za rfl) (xs.drop (j * 5)) HYL.out (by first | exact HNL.out _ _) HY1.out HFI.out HLE.out ?_); clear hp; intro w1 hp; rw [HSPL.out] at hp; replace hp := hp.less; rw [HSUM.out]; simp only [zc, zb, z0b, z0a])); (refine hK.out _ _ (.inr (zt.zero hp)) ?_); clear hK K; try simp only [zc, zb, zh, ze, z0b, z0a, z0d, z0c, zj])
  go_wp2_with (first | ((refine zdM _ _ rfl ?_); refine zaP hp _ _ rfl wy Tryz.underlying43 _ zt3 _ _ (za rfl) HNM.out _ ztY rfl rfl HOFF.out HFC.out ?_; clear hp; intro v1 w1 hp; simp only [zc, zb, z0b, z0a]))
  go_ret
  exact ⟨rfl, by rw [← HER.out]; exact hp⟩
 ·have f13 : ¬ (cap = j) := fun h => hcj h.symm
  have HNL : Hid True := z0j trivial
  clear hxl hx1 hm hj hi hl hcap
  go_enter Tryz.func231, Tryz.ntmps231
  go_wp2_with fail
  refine zf [] (zt.zero hp.drew) [] [(0, true), (1, true), (2, true), (3, true), (4, true), (5, true), (6, false), (7, false)] (by kernel_rfl) (by kernel_rfl) rfl (by kernel_rfl) (fun _ _ d _ _ h => by cases d <;> exact h) ?_
  replace hp := hp.drew
  repeat' (with_reducible refine zq ?_); first | (with_reducible refine zl ?_) | ((with_reducible refine zw ?_); refine zn rfl ?_; (first | ((with_reducible refine zH _ rfl ?_); refine tM rfl ?_) | refine tG (fun w _ => (by go_simp; try rfl)) ?_); try simp only [zc, zb, zh, ze, z0b, z0a, z0d, z0c, zj]) | (refine zv rfl (fun K hK => ?_); go_wp2_with (first | ((refine zG _ _ 43 rfl ?_); first | (refine zaz hp _ _ _ rfl wy Tryz.underlying43 i0 hi0 hz1 (by decide) (za rfl) _ (n - j) _ (za rfl) (xs.drop (j * 5)) HYL.out (by first | exact zm.part hp) HY1.out HFI.out HLE.out ?_); clear hp; intro w1 hp; rw [HSPL.out] at hp; replace hp := hp.less; rw [HSUM.out]; simp only [zc, zb, z0b, z0a])); (refine hK.out _ _ (.inr (zt.zero hp)) ?_); clear hK K; try simp only [zc, zb, zh, ze, z0b, z0a, z0d, z0c, zj])
  go_wp2_with (first | ((refine zdM _ _ rfl ?_); refine zaP hp _ _ rfl wy Tryz.underlying43 _ zt3 _ _ (za rfl) HNM.out _ ztY rfl rfl HOFF.out HFC.out ?_; clear hp; intro v1 w1 hp; simp only [zc, zb, z0b, z0a]))
  go_ret
  exact ⟨rfl, by rw [← HER.out]; exact hp⟩
end Go.Proofs.YtaafajaadfgaoaaGreat
