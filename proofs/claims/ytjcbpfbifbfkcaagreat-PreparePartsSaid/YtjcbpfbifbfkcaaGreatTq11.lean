import Derived.Test.YtjcbpfbifbfkcaaGreatTq10
import Derived.Test.YtjcbpfbifbfkcaaGreatTq0
import Derived.Test.YtjcbpfbifbfkcaaGreatTq5
set_option linter.unusedSimpArgs false
set_option linter.unusedVariables false
set_option maxRecDepth 100000
set_option maxHeartbeats 60000000
namespace Go.Proofs.YtjcbpfbifbfkcaaGreat
open Go.RowKit
theorem zeO {ty : TypeId} (h : zF Tryz.prog ty = true := by with_reducible first | exact zm | exact Zt | exact Zi | exact Zd | exact Zj) : zF Tryz.prog ty = true := h
theorem zf8 : ZM Tryz.prog 133 8 = true := by kernel_rfl
theorem zdI (os : List Ob) : (os.flatMap obV).length = os.length * 5 := Ze obV 5 zae os
theorem zaC (l : List Int) : (l.flatMap iV).length = l.length * 1 := Ze iV 1 zdn l
theorem zmu (os : List Ob) : (os.flatMap obV).all (·.oneCell') = true := by
 rw [List.all_eq_true]; intro u hu; obtain ⟨x, _, hx⟩ := List.mem_flatMap.1 hu; simp [obV] at hx; rcases hx with rfl | rfl | rfl | rfl | rfl <;> rfl
theorem zB.val {e : TypeId} {c n : Nat} {v : Value} {xs : List Value} {R : List Blk} (h : zB e c v n xs R) : ∃ a k, v = .slice a n k := by
 obtain ⟨a, k, hv, _⟩ := h.kept
 exact ⟨a, k, hv⟩
theorem zB.alike {e : TypeId} {c n : Nat} {v : Value} {xs : List Value} {R : List Blk} (h : zB e c v n xs R) (hn : 0 < n) : ∃ g cap, v = .slice (some ⟨g, 0, none⟩) n cap ∧ R = [⟨g, xs, e, cap * c⟩] ∧ ∀ ys : List Value, ys.length = n * c → zB e c v n ys [⟨g, ys, e, cap * c⟩] := by
 obtain ⟨hl, ⟨h0, _⟩ | ⟨g, cap, hv, h1, h2, hr⟩⟩ := h
 ·omega
 ·exact ⟨g, cap, hv, hr, fun ys hy => ⟨hy, .inr ⟨g, cap, hv, h1, h2, rfl⟩⟩⟩
theorem zmv {ys os : List Ob} {q : Nat} {x : Ob} (hq : ys.length = q) (hx : os[q]? = some x) (a b : Option Addr) (m n : Nat) :
  (((ys ++ os.drop q).flatMap obV).set (q * 5 + 3) (.slice a x.ws.length m)).set (q * 5 + 4) (.slice b x.ls.length n) = ((ys ++ [(⟨x.h, x.p, x.o, a, x.ws, m, b, x.ls, n⟩ : Ob)]) ++ os.drop (q + 1)).flatMap obV := by
 obtain ⟨hlt, rfl⟩ := List.getElem?_eq_some_iff.1 hx
 rw [List.drop_eq_getElem_cons hlt]
 generalize os[q] = x
 rw [List.flatMap_append, List.flatMap_cons, List.flatMap_append, List.flatMap_append]
 have hl : (ys.flatMap obV).length = q * 5 := by rw [zdI, hq]
 rw [List.set_append_right _ _ (by omega), List.set_append_right _ _ (by omega), hl, show q * 5 + 3 - q * 5 = 3 by omega, show q * 5 + 4 - q * 5 = 4 by omega]
 simp [obV]
theorem zn5 {ys os : List Ob} {q : Nat} {x : Ob} (hq : ys.length = q) (hx : os[q]? = some x) : (((ys ++ os.drop q).flatMap obV).drop (q * 5)).take 5 = obV x :=
 zet 5 zae (by rw [List.getElem?_append_right (by omega), hq, Nat.sub_self, List.getElem?_drop]; simpa using hx)
def zhF (w : World) (x : Hv) (e : Ending) (w' : World) : Prop := ∃ b y, e = .returned (.pointer (some ⟨b, 0, none⟩)) ∧ y.Sm x ∧ zY w.heap.size w w' b y []
theorem zra (x : Hv) (hs : x.Small) (w : World) (hx0 : x.Is w) : Calls Tryz.prog 87 #[.agg (hvL x).toArray] w (zhF w x) := by
 obtain ⟨od, oa, os, oc, nx, t0, t1, t2, t3, fa, fs, fc⟩ := x
 obtain ⟨⟨hol, hosm⟩, hfl⟩ := hs
 obtain ⟨ho, hoo, hf⟩ := hx0
 simp only at hol hosm hfl ho hoo hf
 simp only [hvL]
 have hp := Hp.start w
 have hol5 : os.length ≤ 2000 := by omega
 have HO := z0j ho
 have HOO := z0j hoo
 have HOS := z0j hosm
 have HF := z0j hf
 clear ho hoo hosm hf
 go_enter Tryz.func87, Tryz.ntmps87
 go_wp2_with (first | go_skip | ((first | ((refine zf _ rfl ?_); refine lZ hp rfl z8 ?_; clear hp; intro b w1 hp) | ((refine zi _ _ rfl ?_); refine lB hp rfl (za rfl) rfl ?_; clear hp; intro b w1 hp) | ((refine ze _ _ rfl ?_); first | refine lO hp rfl (za rfl) zeO aa5 ?_ | refine lA hp rfl (za rfl) (by with_reducible first | exact zP | exact zG) aa5 ?_) | ((refine zd _ _ _ rfl ?_); (first | refine sO hp rfl (za rfl) zeO aa5 ?_ | refine sA hp rfl (za rfl) (za rfl) zG aa5 ?_ | refine sG hp rfl (za rfl) (za rfl) zG aa5 ?_); clear hp; intro w1 hp; simp only [spl, z0a, z0b] at hp)); simp only [zc, zb, z0b, z0a]))
 refine zh [_] (zv.one hp.drew at0) [7, 8, 9] [(0, true), (1, true), (3, true), (4, true), (2, false), (6, true), (5, false), (7, false), (8, false), (9, false)] (by kernel_rfl) (by kernel_rfl) rfl (by kernel_rfl) (fun _ _ d _ _ h => by cases d <;> exact h) ?_
 replace hp := hp.drew
 repeat' (with_reducible refine zx ?_); first | (with_reducible refine zq ?_) | ((with_reducible refine zE ?_); refine zu rfl ?_; (first | ((with_reducible refine zW _ _ rfl ?_); refine tO rfl (za rfl) (by with_reducible first | exact Zd | exact Zj) aa5 ?_) | refine tG (fun w _ => (by go_simp; try rfl)) ?_); try simp only [zc, zb, zj, zg, z0b, z0a, z0d, z0c, zl]) | (refine zC rfl (fun K hK => ?_); go_wp2_with (first | (go_at_call 150; (with_reducible refine (zox oa os.length oc hol5 _ (zdI os) (zmu os) _ (HO.out.below hp.below)).mono ?_); rintro e w1 ⟨v1, R1, rfl, hr1, hp1⟩; replace hp := hp.join hp1; obtain ⟨a1, c1, rfl⟩ := hr1.val; have HR1 := z0j hr1; clear hp1 hr1; simp only [z0f, z0e, z0i] at hp) | (go_at_call 143; (with_reducible refine (zgZ fa fs.length fc (by omega) _ (zbb fs) (zfy fs) _ (HF.out.below hp.below)).mono ?_); rintro e w1 ⟨v2, R2, rfl, hr2, hp2⟩; replace hp := hp.join hp2; obtain ⟨a2, c2, rfl⟩ := hr2.val; have HR2 := z0j hr2; clear hp2 hr2; simp only [z0f, z0e, z0i] at hp) | go_skip | (((refine zd _ _ _ rfl ?_); (first | refine sO hp rfl (za rfl) zeO aa5 ?_ | refine sA hp rfl (za rfl) (za rfl) zG aa5 ?_ | refine sG hp rfl (za rfl) (za rfl) zG aa5 ?_); clear hp; intro w1 hp; simp only [spl, z0a, z0b] at hp); simp only [zc, zb, z0b, z0a])); (first | refine hK.out _ _ (.inl rfl) ?_ | refine hK.out _ _ (.inr (zv.one hp aa5)) ?_); clear hK K; try simp only [zc, zb, zj, zg, z0b, z0a, z0d, z0c, zl])
 obtain ⟨b1, rfl⟩ := hp.id0
 go_wp2_with (first | go_skip | ((first | ((refine zf _ rfl ?_); refine lZ hp rfl z8 ?_; clear hp; intro b w1 hp) | ((refine zi _ _ rfl ?_); refine lB hp rfl (za rfl) rfl ?_; clear hp; intro b w1 hp) | ((refine ze _ _ rfl ?_); first | refine lO hp rfl (za rfl) zeO aa5 ?_ | refine lA hp rfl (za rfl) (by with_reducible first | exact zP | exact zG) aa5 ?_) | ((refine zd _ _ _ rfl ?_); (first | refine sO hp rfl (za rfl) zeO aa5 ?_ | refine sA hp rfl (za rfl) (za rfl) zG aa5 ?_ | refine sG hp rfl (za rfl) (za rfl) zG aa5 ?_); clear hp; intro w1 hp; simp only [spl, z0a, z0b] at hp)); simp only [zc, zb, z0b, z0a]))
 go_loopg [16] os.length (fun k i wr => ∃ (q : Nat) (ys : List Ob) (R M : List Blk), k + q = os.length ∧ i = .int .i64 q ∧ Hid (ys.length = q) ∧ Hid (∀ (i : Nat) a b, os[i]? = some a → ys[i]? = some b → a.Sm b) ∧
  Hid (zB 148 5 (.slice a1 os.length c1) os.length ((ys ++ os.drop q).flatMap obV) R) ∧ Hid (zeY ys M) ∧
  Hp w.heap.size w wr (⟨b1, [.int .i64 od, .slice a1 os.length c1, .int .i64 nx, .int .i64 t0, .int .i64 t1, .int .i64 t2, .int .i64 t3, .slice a2 fs.length c2], 64, 8⟩ :: (R ++ (R2 ++ M))))
 case atStart => exact ⟨0, [], R1, [], by omega, rfl, z0j rfl, z0j (fun i a b _ h => by simp at h), HR1, z0j zeY.nil, by simpa using hp⟩
 case round =>
  clear hp HR1
  obtain ⟨q, ys, R, M, hkq, rfl, HYL, HYS, HR, HM, hp⟩ := hrel
  by_cases hlt : q < os.length
  ·have hj := List.getElem?_eq_getElem hlt
   have hmem := List.getElem_mem hlt
   obtain ⟨hw1, hw2⟩ := HOO.out _ hmem
   obtain ⟨hw3, hw4⟩ := HOS.out _ hmem
   have hset := fun a b m n => zmv HYL.out hj a b m n
   have hat := zn5 HYL.out hj
   obtain ⟨g, cap, hv, rfl, hnew⟩ := HR.out.alike (by omega)
   injection hv with v1 v2 v3
   subst v1 v3
   have HNEW := z0j hnew
   have HSET := z0j hset
   have HXA := z0j hat
   have hcl : ((ys ++ os.drop q).flatMap obV).length = os.length * 5 := by rw [zdI, List.length_append, List.length_drop, HYL.out, show q + (os.length - q) = os.length by omega]
   have HS3 : Hid (q * 5 + 3 < ((ys ++ os.drop q).flatMap obV).length) := z0j (by omega)
   have HS4 : Hid (q * 5 + 4 < ((ys ++ os.drop q).flatMap obV).length) := z0j (by omega)
   have HJ := z0j hj
   clear hj hmem hnew hset hat HR hcl
   generalize (ys ++ os.drop q).flatMap obV = xs at hp HSET HXA HS3 HS4
   generalize os[q] = x at hw1 hw2 hw3 hw4 HJ HSET HXA
   obtain ⟨xh, xp, xo, wa, ws, wc, la, ls, lc⟩ := x
   simp only [obV] at hw1 hw2 hw3 hw4 HXA HSET
   have HW := z0j hw1
   have HK := z0j hw2
   clear hw1 hw2
   have e1 : (0 : Int) ≤ (q : Int) := by omega
   have e2 : (q : Int) < (os.length : Int) := by omega
   simp only [z0f, z0e] at hp
   go_wp2_with (first | ((refine ze 148 _ rfl ?_); refine za9 hp _ _ rfl wy _ _ (za rfl) _ zG 1 _ _ _ at1 _ HXA.out rfl ?_; simp only [zc, zb, z0b, z0a]) | go_skip | ((first | ((refine zf _ rfl ?_); refine lZ hp rfl z8 ?_; clear hp; intro b w1 hp) | ((refine zi _ _ rfl ?_); refine lB hp rfl (za rfl) rfl ?_; clear hp; intro b w1 hp) | ((refine ze _ _ rfl ?_); first | refine lO hp rfl (za rfl) zeO aa5 ?_ | refine lA hp rfl (za rfl) (by with_reducible first | exact zP | exact zG) aa5 ?_) | ((refine zd _ _ _ rfl ?_); (first | refine sO hp rfl (za rfl) zeO aa5 ?_ | refine sA hp rfl (za rfl) (za rfl) zG aa5 ?_ | refine sG hp rfl (za rfl) (za rfl) zG aa5 ?_); clear hp; intro w1 hp; simp only [spl, z0a, z0b] at hp)); simp only [zc, zb, z0b, z0a]))
   refine zh [_, _] (zv.two hp.drew at0 at1) [17] [(0, true), (1, true), (2, true), (3, true), (4, true), (5, true), (6, true), (7, true), (9, true), (10, true), (8, false), (11, false), (12, true), (13, true), (14, false), (15, true), (16, true), (17, false)] (by kernel_rfl) (by kernel_rfl) rfl (by kernel_rfl) (fun _ _ d _ _ h => by cases d <;> exact h) ?_
   replace hp := hp.drew
   repeat' (with_reducible refine zx ?_); first | (with_reducible refine zq ?_) | ((with_reducible refine zE ?_); refine zu rfl ?_; (first | ((with_reducible refine zT _ rfl ?_); refine tM rfl ?_) | ((with_reducible refine zW _ _ rfl ?_); refine tO rfl (za rfl) (by with_reducible first | exact Zi | exact Zd) aa5 ?_) | refine tG (fun w _ => (by go_simp; try rfl)) ?_); try simp only [zc, zb, zj, zg, z0b, z0a, z0d, z0c, zl]) | (refine zC rfl (fun K hK => ?_); go_wp2_with (first | (go_at_call 151; (with_reducible refine (zkA wa ws.length wc hw3 _ (zaC ws) (zgU ws) _ (HW.out.below hp.below)).mono ?_); rintro e w1 ⟨v3, R3, rfl, hr3, hp3⟩; replace hp := hp.join hp3; obtain ⟨a3, c3, rfl⟩ := hr3.val; have HR3 := z0j hr3; clear hp3 hr3; simp only [z0f, z0e, z0i] at hp) | (go_at_call 151; (with_reducible refine (zkA la ls.length lc hw4 _ (zaC ls) (zgU ls) _ (HK.out.below hp.below)).mono ?_); rintro e w1 ⟨v4, R4, rfl, hr4, hp4⟩; replace hp := hp.join hp4; obtain ⟨a4, c4, rfl⟩ := hr4.val; have HR4 := z0j hr4; clear hp4 hr4; simp only [z0f, z0e, z0i] at hp) | ((refine zd 120 _ _ rfl ?_); refine zbW hp _ _ _ rfl wy _ _ (za rfl) _ (za rfl) Zi 2 _ _ _ at2 (by first | exact HS3.out | (rw [List.length_set]; exact HS4.out)) rfl ?_; clear hp; intro w1 hp; simp only [z0a, z0b] at hp; simp only [zc, zb, z0b, z0a]) | go_skip | (((refine zd _ _ _ rfl ?_); (first | refine sO hp rfl (za rfl) zeO aa5 ?_ | refine sA hp rfl (za rfl) (za rfl) zG aa5 ?_ | refine sG hp rfl (za rfl) (za rfl) zG aa5 ?_); clear hp; intro w1 hp; simp only [spl, z0a, z0b] at hp); simp only [zc, zb, z0b, z0a])); (first | refine hK.out _ _ (.inl rfl) ?_ | refine hK.out _ _ (.inr (zv.two hp aa5 aa5)) ?_); clear hK K; try simp only [zc, zb, zj, zg, z0b, z0a, z0d, z0c, zl])
   go_wp2_with (first | go_skip | ((first | ((refine zf _ rfl ?_); refine lZ hp rfl z8 ?_; clear hp; intro b w1 hp) | ((refine zi _ _ rfl ?_); refine lB hp rfl (za rfl) rfl ?_; clear hp; intro b w1 hp) | ((refine ze _ _ rfl ?_); first | refine lO hp rfl (za rfl) zeO aa5 ?_ | refine lA hp rfl (za rfl) (by with_reducible first | exact zP | exact zG) aa5 ?_) | ((refine zd _ _ _ rfl ?_); (first | refine sO hp rfl (za rfl) zeO aa5 ?_ | refine sA hp rfl (za rfl) (za rfl) zG aa5 ?_ | refine sG hp rfl (za rfl) (za rfl) zG aa5 ?_); clear hp; intro w1 hp; simp only [spl, z0a, z0b] at hp)); simp only [zc, zb, z0b, z0a]))
   go_roundg (gk - 1)
   case measure => omega
   case rel =>
    rw [HSET.out a3 a4 c3 c4] at hp
    refine ⟨q + 1, ys ++ [(⟨xh, xp, xo, a3, ws, c3, a4, ls, c4⟩ : Ob)], _, M ++ (R3 ++ R4), by omega, by go_num, z0j (by rw [List.length_append, HYL.out]; rfl), z0j (Z4.snoc HJ.out ⟨rfl, rfl, rfl, rfl, rfl⟩ HYL.out HYS.out), z0j (HNEW.out _ ?_), z0j (zeY.snoc HM.out ⟨R3, R4, rfl, HR3.out, HR4.out⟩), hp.tail⟩
    rw [zdI, List.length_append, List.length_append, List.length_drop, HYL.out, List.length_singleton, show q + 1 + (os.length - (q + 1)) = os.length by omega]
  ·have e2 : decide ((q : Int) < (os.length : Int)) = false := by simp; omega
   obtain rfl : os.length = q := by omega
   rw [List.drop_length, List.append_nil] at HR
   go_wp2_with (first | go_skip | ((first | ((refine zf _ rfl ?_); refine lZ hp rfl z8 ?_; clear hp; intro b w1 hp) | ((refine zi _ _ rfl ?_); refine lB hp rfl (za rfl) rfl ?_; clear hp; intro b w1 hp) | ((refine ze _ _ rfl ?_); first | refine lO hp rfl (za rfl) zeO aa5 ?_ | refine lA hp rfl (za rfl) (by with_reducible first | exact zP | exact zG) aa5 ?_) | ((refine zd _ _ _ rfl ?_); (first | refine sO hp rfl (za rfl) zeO aa5 ?_ | refine sA hp rfl (za rfl) (za rfl) zG aa5 ?_ | refine sG hp rfl (za rfl) (za rfl) zG aa5 ?_); clear hp; intro w1 hp; simp only [spl, z0a, z0b] at hp)); simp only [zc, zb, z0b, z0a]))
   obtain ⟨bw, rfl⟩ := hp.id0
   go_ret
   refine ⟨bw, ⟨od, a1, ys, c1, nx, t0, t1, t2, t3, a2, fs, c2⟩, rfl, ⟨rfl, rfl, rfl, rfl, rfl, rfl, Z4.symm ⟨HYL.out.symm, HYS.out⟩, rfl⟩, R, R2, M, ⟨?_, HR2.out, HM.out⟩, ?_⟩
   ·simp only; rw [HYL.out]; exact HR.out
   ·simp only [hvL]
    rw [HYL.out, List.append_nil]
    exact hp.sublist (List.Sublist.cons_cons _ (List.sublist_cons_self _ _))
open Go.RowKit
theorem zt : ZM Tryz.prog 71 2 = true := by kernel_rfl
theorem zac : ZM Tryz.prog 36 7 = true := by kernel_rfl
theorem zl5 : zF Tryz.prog 34 = true := by kernel_rfl
theorem zL : zaL Tryz.prog 71 = some ([.int .i64 0, .int .i64 0], 2) := by kernel_rfl
def zaP (c v : Int) : Value := .agg #[.int .i64 c, .int .i64 v]
theorem zds (e : Int) (w : World) : Calls Tryz.prog 86 #[.int .i64 e] w fun r w' => r = .returned (zaP e 0) ∧ Below w.heap.size w w' := by
 have hp := Hp.start w
 go_enter Tryz.func86, Tryz.ntmps86
 go_wp2_with (first | go_skip | ((first | ((refine zf _ rfl ?_); refine lZ hp rfl zL ?_; clear hp; intro b w1 hp) | ((refine zd _ _ _ rfl ?_); (first | refine sA hp rfl (za rfl) (za rfl) zt aa5 ?_ | refine sG hp rfl (za rfl) (za rfl) zt aa5 ?_); clear hp; intro w1 hp; simp only [spl, z0a, z0b] at hp)); simp only [zc, zb, z0b, z0a]))
 exact bodyPost_ret (zA (rs := [.cell 2 71]) Tryz.results86 (.cell rfl (hp.loadAgg zt at0 0 _ (by rfl) (by rfl)) .nil)) rfl ⟨rfl, hp.below⟩
def zoJ (B : Nat) (w0 : World) (L L' : List Blk) (ok : Bool) (e : Ending) (w' : World) : Prop := (ok = true ∧ e = .returned (zaP 0 0) ∧ Hp B w0 w' L') ∨ (ok = false ∧ e = .returned (zaP 51 0) ∧ Hp B w0 w' L)
theorem zl2 (os : List Ob) (oa : Option Addr) (oc : Nat) (hol : os.length ≤ 1000) (hs : zai os) (to : Int) {B : Nat} {w0 w : World} {L : List Blk} (hp : Hp B w0 w L) {i j b n m off g : Nat} {l cells : List Value} {t u : TypeId}
  (hj : L[j]? = some ⟨b, l, u, m⟩) (hl : l[1]? = some (.slice oa os.length oc)) (ho : ZD L fun w => zr w oa (os.flatMap obV)) (hi : L[i]? = some ⟨g, cells, t, n⟩) (hof : off < cells.length) :
  Calls Tryz.prog 154 #[.pointer (some ⟨b, 0, none⟩), .pointer (some ⟨g, off, none⟩), .int .i64 to] w (zoJ B w0 L (L.set i ⟨g, cells.set off (.int .i64 to), t, n⟩) (zaa os to)) := by
 have HS := z0j hs
 have HO := z0j ho
 have HJ : Hid (∀ x : Blk, (x :: L)[j + 1]? = some ⟨b, l, u, m⟩) := z0j (fun x => by simpa using hj)
 have HI : Hid (∀ x : Blk, (x :: L)[i + 1]? = some ⟨g, cells, t, n⟩) := z0j (fun x => by simpa using hi)
 have HSL := z0j hl
 have HOF := z0j hof
 clear hs ho hj hi hl hof
 obtain ⟨ok, hok⟩ : ∃ ok, zaa os to = ok := ⟨_, rfl⟩
 have HE : Hid (zch os to = ok) := z0j (by rw [← zol]; exact hok)
 rw [hok]
 clear hok
 go_enter Tryz.func154, Tryz.ntmps154
 cases ok
 ·go_wp2_with (first | ((refine ze 60 _ rfl ?_); refine lO hp rfl (za rfl) Zd (HJ.out _) ?_ (hv := HSL.out); simp only [zc, zb, z0b, z0a]) | (go_at_call 148; (with_reducible refine (zgP os oa oc hol HS.out to _ (HO.out.at hp (fun p hm => List.mem_cons_of_mem _ hm))).mono ?_); rintro e w1 ⟨rfl, hb⟩; rw [HE.out]; replace hp := hp.call hb; clear hb) | (go_at_call 86; (with_reducible refine (zds _ _).mono ?_); rintro e w1 ⟨rfl, hb⟩; replace hp := hp.call hb; clear hb) | go_skip | ((first | ((refine zf _ rfl ?_); refine lZ hp rfl zL ?_; clear hp; intro b w1 hp) | ((refine ze _ _ rfl ?_); refine lO hp rfl (za rfl) Zd aa5 ?_) | ((refine zd _ _ _ rfl ?_); (first | refine sO hp rfl (za rfl) zm aa5 ?_ | refine sA hp rfl (za rfl) (za rfl) zt aa5 ?_ | refine sG hp rfl (za rfl) (za rfl) zt aa5 ?_); clear hp; intro w1 hp; simp only [spl, z0a, z0b] at hp)); simp only [zc, zb, z0b, z0a]))
  exact bodyPost_ret (zA (rs := [.cell 6 71]) Tryz.results154 (.cell rfl (hp.loadAgg zt at0 0 _ (by rfl) (by rfl)) .nil)) rfl (.inr ⟨rfl, rfl, hp.tail⟩)
 ·go_wp2_with (first | ((refine ze 60 _ rfl ?_); refine lO hp rfl (za rfl) Zd (HJ.out _) ?_ (hv := HSL.out); simp only [zc, zb, z0b, z0a]) | (go_at_call 148; (with_reducible refine (zgP os oa oc hol HS.out to _ (HO.out.at hp (fun p hm => List.mem_cons_of_mem _ hm))).mono ?_); rintro e w1 ⟨rfl, hb⟩; rw [HE.out]; replace hp := hp.call hb; clear hb) | (go_at_call 86; (with_reducible refine (zds _ _).mono ?_); rintro e w1 ⟨rfl, hb⟩; replace hp := hp.call hb; clear hb) | ((refine zd 3 _ _ rfl ?_); refine sO hp rfl (za rfl) zm (HI.out _) ?_ (hlen := HOF.out); clear hp; intro w1 hp; simp only [z0b] at hp; simp only [zc, zb, z0b, z0a]) | go_skip | ((first | ((refine zf _ rfl ?_); refine lZ hp rfl zL ?_; clear hp; intro b w1 hp) | ((refine ze _ _ rfl ?_); refine lO hp rfl (za rfl) Zd aa5 ?_) | ((refine zd _ _ _ rfl ?_); (first | refine sO hp rfl (za rfl) zm aa5 ?_ | refine sA hp rfl (za rfl) (za rfl) zt aa5 ?_ | refine sG hp rfl (za rfl) (za rfl) zt aa5 ?_); clear hp; intro w1 hp; simp only [spl, z0a, z0b] at hp)); simp only [zc, zb, z0b, z0a]))
  exact bodyPost_ret (zA (rs := [.cell 6 71]) Tryz.results154 (.cell rfl (hp.loadAgg zt at0 0 _ (by rfl) (by rfl)) .nil)) rfl (.inl ⟨rfl, rfl, hp.tail⟩)
open Go.RowKit
def zcI (h : Int) (l : List Int) (q : Nat) : List Int := (l.take q).map (zes h) ++ l.drop q
theorem zlO (h : Int) (l : List Int) : zcI h l 0 = l := by simp [zcI]
theorem zmm (h : Int) (l : List Int) : zcI h l l.length = l.map (zes h) := by simp [zcI]
theorem zhZ (h : Int) (l : List Int) (q : Nat) : (zcI h l q).length = l.length := by
 simp only [zcI, List.length_append, List.length_map, List.length_take, List.length_drop]; omega
theorem zhu {h : Int} {l : List Int} {q : Nat} {t : Int} (ht : l[q]? = some t) : (zcI h l q)[q]? = some t := by
 have hlt := (List.getElem?_eq_some_iff.1 ht).1
 unfold zcI
 have hl : ((l.take q).map (zes h)).length = q := by rw [List.length_map, List.length_take]; omega
 rw [List.getElem?_append_right (by omega), hl, Nat.sub_self, List.getElem?_drop]
 exact ht
theorem zlM {h : Int} {l : List Int} {q : Nat} {t : Int} (ht : l[q]? = some t) : zcI h l (q + 1) = (zcI h l q).set q (zes h t) := by
 obtain ⟨hlt, rfl⟩ := List.getElem?_eq_some_iff.1 ht
 unfold zcI
 have hl : ((l.take q).map (zes h)).length = q := by rw [List.length_map, List.length_take]; omega
 rw [List.set_append_right _ _ (by omega), hl, Nat.sub_self, List.drop_eq_getElem_cons hlt, List.set_cons_zero, List.take_succ_eq_append_getElem hlt, List.map_append, List.append_assoc]
 rfl
def zhj (pre : List Value) (l : List Int) (post : List Value) : List Value := pre ++ (l.flatMap iV ++ post)
theorem zoN {pre post : List Value} {l : List Int} {q : Nat} {t : Int} (h : l[q]? = some t) : (zhj pre l post)[pre.length + q]? = some (.int .i64 t) := by
 have hlt := (List.getElem?_eq_some_iff.1 h).1
 unfold zhj
 rw [List.getElem?_append_right (by omega), show pre.length + q - pre.length = q by omega, List.getElem?_append_left (by rw [zaC]; omega)]
 have := za0 iV 1 zdn l q 0 t (.int .i64 t) h rfl
 simpa using this
theorem zdY (l : List Int) : l.flatMap iV = l.map (Value.int .i64) := by
 induction l with
 | nil => rfl
 | cons x l ih => rw [List.flatMap_cons, ih]; rfl
theorem zpk {pre post : List Value} {l : List Int} {q : Nat} (t : Int) (h : q < l.length) : (zhj pre l post).set (pre.length + q) (.int .i64 t) = zhj pre (l.set q t) post := by
 unfold zhj
 rw [List.set_append_right _ _ (by omega), show pre.length + q - pre.length = q by omega, List.set_append_left _ _ (by rw [zaC]; omega), zdY, zdY, List.map_set]
theorem zpq (pre : List Value) (l : List Int) (post : List Value) : (zhj pre l post).length = pre.length + l.length + post.length := by
 unfold zhj
 rw [List.length_append, List.length_append, zaC]; omega
theorem zoW {l : List Int} {q : Nat} {t : Int} (h : l[q]? = some t) : l.set q t = l := zaA h
theorem zpV {B : Nat} {w0 w : World} {bg g off n c : Nat} {t : TypeId} {x : Ob} {pre post : List Value} {ls : List Int} {L : List Blk} (hl : ls.length ≤ 5000) (hc : ls.length ≤ c) (hof : off = pre.length) (hp : Hp B w0 w (⟨bg, obV x, 148, 5⟩ :: ⟨g, zhj pre ls post, t, n⟩ :: L)) :
  Calls Tryz.prog 243 #[.slice (some ⟨g, off, none⟩) ls.length c, .pointer (some ⟨bg, 0, none⟩)] w fun e w' => e = .returned (.tuple #[]) ∧ Hp B w0 w' (⟨bg, obV x, 148, 5⟩ :: ⟨g, zhj pre (ls.map (zes x.h)) post, t, n⟩ :: L) := by
 obtain ⟨xh, xp, xo, wa, ws, wc, la, lks, lc⟩ := x
 simp only [obV] at hp ⊢
 have HOFF := z0j hof
 go_enter Tryz.func243, Tryz.ntmps243
 go_wp2_with (first | go_skip | ((first | ((refine ze _ _ rfl ?_); refine lO hp rfl (za rfl) zm aa5 ?_) | ((refine zd _ _ _ rfl ?_); refine sO hp rfl (za rfl) zm aa5 ?_; clear hp; intro w1 hp; simp only [spl, z0a, z0b] at hp)); simp only [zc, zb, z0b, z0a]))
 go_loopg [7] ls.length (fun k i wr => ∃ q : Nat, k + q = ls.length ∧ i = .int .i64 q ∧ Hp B w0 wr (⟨bg, [.int .i64 xh, .int .i64 xp, .int .i64 xo, .slice wa ws.length wc, .slice la lks.length lc], 148, 5⟩ :: ⟨g, zhj pre (zcI xh ls q) post, t, n⟩ :: L))
 case atStart => exact ⟨0, by omega, rfl, by rw [zlO]; exact hp⟩
 case round =>
  clear hp
  obtain ⟨q, hkq, rfl, hp⟩ := hrel
  by_cases hlt : q < ls.length
  ·have hj := List.getElem?_eq_getElem hlt
   have hg := zoN (pre := pre) (post := post) (zhu (h := xh) hj)
   have hstep := zlM (h := xh) hj
   have hset := zpk (pre := pre) (post := post) (l := zcI xh ls q) (q := q) 0 (by rw [zhZ]; exact hlt)
   have hof2 : pre.length + q < (zhj pre (zcI xh ls q) post).length := by rw [zpq, zhZ]; omega
   have hself := zoW (zhu (h := xh) hj)
   rw [← hof] at hg hset hof2
   have e1 : (0 : Int) ≤ (q : Int) := by omega
   have e2 : (q : Int) < (ls.length : Int) := by omega
   by_cases he : ls[q] = xh
   ·have e3 : (ls[q] == xh) = true := by simp [he]
    rw [show zes xh ls[q] = 0 by unfold zes; rw [if_pos he]] at hstep
    rw [← hstep] at hset
    have HST := z0j hset
    have HG := z0j hg
    have HOF := z0j hof2
    clear hj hg hstep hset hof2 hself he
    generalize zhj pre (zcI xh ls q) post = cells at hp HST HG HOF
    generalize ls[q] = tv at HG e3
    clear hof
    go_wp2_with (first | ((refine ze 3 _ rfl ?_); refine lO hp rfl (za rfl) zm at1 ?_ (hv := HG.out); simp only [zc, zb, z0b, z0a]) | ((refine zd 3 _ _ rfl ?_); refine sO hp rfl (za rfl) zm at1 ?_ (hlen := HOF.out); clear hp; intro w1 hp; simp only [z0b, z0a] at hp; simp only [zc, zb, z0b, z0a]) | go_skip | ((first | ((refine ze _ _ rfl ?_); refine lO hp rfl (za rfl) zm aa5 ?_) | ((refine zd _ _ _ rfl ?_); refine sO hp rfl (za rfl) zm aa5 ?_; clear hp; intro w1 hp; simp only [spl, z0a, z0b] at hp)); simp only [zc, zb, z0b, z0a]))
    go_roundg (gk - 1)
    case measure => omega
    case rel => exact ⟨q + 1, by omega, by go_num, by rw [HST.out] at hp; exact hp⟩
   ·have e3 : (ls[q] == xh) = false := by simp [he]
    rw [show zes xh ls[q] = ls[q] by unfold zes; rw [if_neg he], hself] at hstep
    have HST : Hid (zhj pre (zcI xh ls (q + 1)) post = zhj pre (zcI xh ls q) post) := z0j (by rw [hstep])
    have HG := z0j hg
    clear hj hg hstep hset hof2 hself he
    generalize zhj pre (zcI xh ls q) post = cells at hp HST HG
    generalize ls[q] = tv at HG e3
    clear hof
    go_wp2_with (first | ((refine ze 3 _ rfl ?_); refine lO hp rfl (za rfl) zm at1 ?_ (hv := HG.out); simp only [zc, zb, z0b, z0a]) | go_skip | ((first | ((refine ze _ _ rfl ?_); refine lO hp rfl (za rfl) zm aa5 ?_) | ((refine zd _ _ _ rfl ?_); refine sO hp rfl (za rfl) zm aa5 ?_; clear hp; intro w1 hp; simp only [spl, z0a, z0b] at hp)); simp only [zc, zb, z0b, z0a]))
    go_roundg (gk - 1)
    case measure => omega
    case rel => exact ⟨q + 1, by omega, by go_num, by rw [HST.out]; exact hp⟩
  ·obtain rfl : ls.length = q := by omega
   rw [zmm] at hp
   go_wp2_with (first | go_skip | ((first | ((refine ze _ _ rfl ?_); refine lO hp rfl (za rfl) zm aa5 ?_) | ((refine zd _ _ _ rfl ?_); refine sO hp rfl (za rfl) zm aa5 ?_; clear hp; intro w1 hp; simp only [spl, z0a, z0b] at hp)); simp only [zc, zb, z0b, z0a]))
   exact bodyPost_end (results_none Tryz.results243 _ _ _) rfl ⟨rfl, hp⟩
theorem zi9 {a : Option Addr} {c bg : Nat} (w : World) : Calls Tryz.prog 243 #[.slice a 0 c, .pointer (some ⟨bg, 0, none⟩)] w fun e w' => e = .returned (.tuple #[]) ∧ w = w' := by
 go_enter Tryz.func243, Tryz.ntmps243
 go_wp2
 go_loopg [7] 0 (fun k i wr => i = .int .i64 0 ∧ w = wr)
 case atStart => exact ⟨rfl, rfl⟩
 case round =>
  obtain ⟨rfl, rfl⟩ := hrel
  go_wp2
  exact bodyPost_end (results_none Tryz.results243 _ _ _) rfl ⟨rfl, rfl⟩
open Go.RowKit Go.Lib
theorem zr6 (w : World) : (zeroValue 148).run Tryz.prog w = .ok (.agg #[.int .i64 0, .int .i64 0, .int .i64 0, .slice none 0 0, .slice none 0 0]) w := by kernel_rfl
theorem zrQ : (Builtin.zeroCells (Value.agg #[.int .i64 0, .int .i64 0, .int .i64 0, .slice none 0 0, .slice none 0 0]).cells 1).toList = [.int .i64 0, .int .i64 0, .int .i64 0, .slice none 0 0, .slice none 0 0] := by kernel_rfl
def zts (B : Nat) (w0 : World) (g m cap : Nat) (xs : List Value) (M : List Blk) (e : Ending) (w' : World) : Prop := e = .returned (.slice (some ⟨g, 0, none⟩) m cap) ∧ Hp B w0 w' (⟨g, xs, 148, cap * 5⟩ :: M)
theorem zrX {B : Nat} {w0 w : World} {g cap : Nat} {l : List Ob} {M : List Blk} (hp : Hp B w0 w (⟨g, l.flatMap obV, 148, cap * 5⟩ :: M)) (hl : l.length ≤ 1000) (hcap : l.length ≤ cap) {i j m n : Nat} (hj : j = i + 1) (hn : n = l.length) (hm : n = m + 1) (hi : i < n) :
  Calls Tryz.prog 241 #[.slice (some ⟨g, 0, none⟩) n cap, .int .i64 i, .int .i64 j] w (zts B w0 g m cap ((l.eraseIdx i).flatMap obV) M) := by
 obtain ⟨i0, hi0, hz0, hz1, hz2⟩ := info_parts zg7
 have hxl := zdI l
 have hx1 := zmu l
 have HER : Hid ((l.flatMap obV).take (i * 5) ++ (l.flatMap obV).drop (j * 5) = (l.eraseIdx i).flatMap obV) := z0j (by
  rw [zb3 5 zae, hj, List.eraseIdx_eq_take_drop_succ, List.flatMap_append]
  congr 1
  have h := zb3 5 zae l i
  have h2 : l.flatMap obV = (l.take i).flatMap obV ++ (l.drop i).flatMap obV := by rw [← List.flatMap_append, List.take_append_drop]
  have h3 : ((l.take i).flatMap obV).length = i * 5 := by rw [zdI, List.length_take, Nat.min_eq_left (by omega)]
  rw [h2, ← h3, List.take_left])
 generalize l.flatMap obV = xs at hp hxl hx1 HER
 rw [← hn] at hxl hcap hl
 clear hn
 have HYL : Hid ((xs.drop (j * 5)).length = (n - j) * 5) := z0j (by rw [List.length_drop, hxl]; omega)
 have HY1 : Hid ((xs.drop (j * 5)).all (·.oneCell') = true) := z0j (by rw [List.all_eq_true]; intro u hu; exact List.all_eq_true.1 hx1 u (List.mem_of_mem_drop hu))
 have HFI : Hid (i + (n - j) ≤ cap) := z0j (by omega)
 have HLE : Hid ((i + (n - j)) * 5 ≤ xs.length) := z0j (by rw [hxl]; omega)
 have HSUM : Hid (i + (n - j) = m) := z0j (by omega)
 have HSPL : Hid (spl xs (i * 5) (xs.drop (j * 5)) = (xs.take (i * 5) ++ xs.drop (j * 5)) ++ xs.drop (i * 5 + (xs.drop (j * 5)).length)) := z0j (by
  rw [zgQ _ _ _ (by rw [List.length_drop, hxl]; omega), List.append_assoc])
 have HOFF : Hid (m * 5 = (xs.take (i * 5) ++ xs.drop (j * 5)).length) := z0j (by rw [List.length_append, List.length_take, List.length_drop, hxl]; omega)
 have HFC : Hid ((xs.take (i * 5) ++ xs.drop (j * 5)).length + 5 ≤ cap * 5) := z0j (by rw [← HOFF.out]; omega)
 have HNM : Hid (n - m = 1) := z0j (by omega)
 have f1 : (0 : Int) ≤ (i : Int) := by omega
 have f2 : (i : Int) ≤ (j : Int) := by omega
 have f3 : (j : Int) ≤ (n : Int) := by omega
 have f4 : (n : Int) ≤ (cap : Int) := by omega
 have f5 : ((i : Int) == (j : Int)) = false := by simp; omega
 have f5' : (i == j) = false := by simp; omega
 have f6 : (i : Int) ≤ (cap : Int) := by omega
 have f7 : (0 : Int) ≤ (j : Int) := by omega
 have f8 : (m : Int) ≤ (n : Int) := by omega
 have f9 : ¬ (cap = m) := by omega
 have f10 : (0 : Int) ≤ (m : Int) := by omega
 have f11 : ¬ (cap = i) := by omega
 have f12 : ¬ (n = i) := by omega
 by_cases hcj : j = cap
 ·subst hcj
  have HNL : Hid (∀ w a, zr w a (xs.drop (j * 5))) := z0j (fun w a => by rw [List.drop_eq_nil_of_le (by omega)]; exact zr.nil _ _)
  clear hxl hx1 hm hj hi hl hcap
  go_enter Tryz.func241, Tryz.ntmps241
  go_wp2_with fail
  refine zh [] (zv.zero hp.drew) [] [(0, true), (1, true), (2, true), (3, true), (4, true), (5, true), (6, false), (7, false)] (by kernel_rfl) (by kernel_rfl) rfl (by kernel_rfl) (fun _ _ d _ _ h => by cases d <;> exact h) ?_
  replace hp := hp.drew
  repeat' (with_reducible refine zx ?_); first | (with_reducible refine zq ?_) | ((with_reducible refine zE ?_); refine zu rfl ?_; (first | ((with_reducible refine zT _ rfl ?_); refine tM rfl ?_) | refine tG (fun w _ => (by go_simp; try rfl)) ?_); try simp only [zc, zb, zj, zg, z0b, z0a, z0d, z0c, zl]) | (refine zC rfl (fun K hK => ?_); go_wp2_with (((refine zJ _ _ 60 rfl ?_); first | (refine zaD hp _ _ _ rfl wy Tryz.underlying60 i0 hi0 hz1 (by decide) (za rfl) _ (n - j) _ (za rfl) (xs.drop (j * 5)) HYL.out (by first | exact zr.part hp | exact HNL.out _ _) HY1.out HFI.out HLE.out ?_); clear hp; intro w1 hp; rw [HSPL.out] at hp; replace hp := hp.less; rw [HSUM.out]; simp only [zc, zb, z0b, z0a])); (refine hK.out _ _ (.inr (zv.zero hp)) ?_); clear hK K; try simp only [zc, zb, zj, zg, z0b, z0a, z0d, z0c, zl])
  go_wp2_with (((refine zdT _ _ rfl ?_); refine zaT hp _ _ rfl wy Tryz.underlying60 _ zr6 _ _ (za rfl) HNM.out _ zrQ rfl rfl HOFF.out HFC.out ?_; clear hp; intro v1 w1 hp; simp only [zc, zb, z0b, z0a]))
  go_ret
  exact ⟨rfl, by rw [← HER.out]; exact hp⟩
 ·have f13 : ¬ (cap = j) := fun h => hcj h.symm
  have HNL : Hid True := z0j trivial
  clear hxl hx1 hm hj hi hl hcap
  go_enter Tryz.func241, Tryz.ntmps241
  go_wp2_with fail
  refine zh [] (zv.zero hp.drew) [] [(0, true), (1, true), (2, true), (3, true), (4, true), (5, true), (6, false), (7, false)] (by kernel_rfl) (by kernel_rfl) rfl (by kernel_rfl) (fun _ _ d _ _ h => by cases d <;> exact h) ?_
  replace hp := hp.drew
  repeat' (with_reducible refine zx ?_); first | (with_reducible refine zq ?_) | ((with_reducible refine zE ?_); refine zu rfl ?_; (first | ((with_reducible refine zT _ rfl ?_); refine tM rfl ?_) | refine tG (fun w _ => (by go_simp; try rfl)) ?_); try simp only [zc, zb, zj, zg, z0b, z0a, z0d, z0c, zl]) | (refine zC rfl (fun K hK => ?_); go_wp2_with (((refine zJ _ _ 60 rfl ?_); first | (refine zaD hp _ _ _ rfl wy Tryz.underlying60 i0 hi0 hz1 (by decide) (za rfl) _ (n - j) _ (za rfl) (xs.drop (j * 5)) HYL.out (by first | exact zr.part hp | exact HNL.out _ _) HY1.out HFI.out HLE.out ?_); clear hp; intro w1 hp; rw [HSPL.out] at hp; replace hp := hp.less; rw [HSUM.out]; simp only [zc, zb, z0b, z0a])); (refine hK.out _ _ (.inr (zv.zero hp)) ?_); clear hK K; try simp only [zc, zb, zj, zg, z0b, z0a, z0d, z0c, zl])
  go_wp2_with (((refine zdT _ _ rfl ?_); refine zaT hp _ _ rfl wy Tryz.underlying60 _ zr6 _ _ (za rfl) HNM.out _ zrQ rfl rfl HOFF.out HFC.out ?_; clear hp; intro v1 w1 hp; simp only [zc, zb, z0b, z0a]))
  go_ret
  exact ⟨rfl, by rw [← HER.out]; exact hp⟩
end Go.Proofs.YtjcbpfbifbfkcaaGreat
