import Derived.Test.YtaafajaadfgaoaaGreatFp22
import Derived.Test.YtaafajaadfgaoaaGreatFp14
set_option linter.unusedSimpArgs false
set_option linter.unusedVariables false
set_option maxRecDepth 100000
set_option maxHeartbeats 60000000
namespace Go.Proofs.YtaafajaadfgaoaaGreat
open Go.RowKit
theorem zaS {ty : TypeId} (h : zB Tryz.prog ty = true := by with_reducible first | exact zq | exact zA | exact zcq) : zB Tryz.prog ty = true := h
theorem znX (p o q r : Int) (h0 : 0 ≤ p) (h1 : p ≤ 4000000000) (h2 : 0 ≤ q) (h3 : q ≤ 4000000000) (h4 : o ≤ 8) (h5 : r ≤ 8) :
  wrap64 (q + pw r) = q + pw r ∧ wrap64 (p + pw o) = p + pw o ∧ ((decide (p < q + pw r) = false ∧ zbe p o q r = false) ∨ (decide (p < q + pw r) = true ∧ zbe p o q r = decide (q < p + pw o))) := by
 have l1 := zP o
 have l2 := zb5 h4
 have l3 := zP r
 have l4 := zb5 h5
 refine ⟨by unfold wrap64; omega, by unfold wrap64; omega, ?_⟩
 unfold zbe
 cases decide (p < q + pw r) <;> simp
theorem zhL (p o q r : Int) (h0 : 0 ≤ p) (h1 : p ≤ 4000000000) (h2 : 0 ≤ q) (h3 : q ≤ 4000000000) (h4 : o ≤ 8) (h5 : r ≤ 8) (mb : Bool) (hmb : zbe p o q r = mb) (w : World) :
  Calls Tryz.prog 168 #[.agg #[.int .i64 p, .int .i64 o], .agg #[.int .i64 q, .int .i64 r]] w fun e w' => e = .returned (.bool mb) ∧ Below w.heap.size w w' := by
 subst hmb
 have hp := Hp.start w
 have W9 := z0j (znX p o q r h0 h1 h2 h3 h4 h5)
 go_enter Tryz.func168, Tryz.ntmps168
 go_wp2_with (first | go_skip | ((first | ((refine zg _ rfl ?_); refine lZ hp rfl zI ?_; clear hp; intro b w1 hp) | ((refine zh _ _ rfl ?_); refine lB hp rfl (za rfl) rfl ?_; clear hp; intro b w1 hp) | ((refine zf _ _ rfl ?_); first | refine lO hp rfl (za rfl) zaS aa5 ?_ | refine lA hp rfl (za rfl) zt aa5 ?_) | ((refine zd _ _ _ rfl ?_); (first | refine sO hp rfl (za rfl) zaS aa5 ?_ | refine sA hp rfl (za rfl) (za rfl) zt aa5 ?_ | refine sG hp rfl (za rfl) (za rfl) zt aa5 ?_); clear hp; intro w1 hp; simp only [spl, z0a, z0b] at hp) | ((refine zi _ _ _ rfl ?_); refine lS hp rfl (by intro w; go_simp; rfl) ?_; clear hp; intro b w1 hp; simp only [z0g, z0h, Nat.reduceAdd] at hp)); simp only [zc, zb, z0b, z0a]))
 refine zk _ (zE.all hp.drew) [] [(0, true), (1, true), (2, true), (3, true), (4, true), (5, true), (6, false), (7, true), (8, true), (9, true), (10, true), (11, true), (12, true), (13, true), (14, true), (15, true), (16, false), (17, true), (18, true), (19, true), (20, false)] (by kernel_rfl) (by kernel_rfl) rfl (by kernel_rfl) (fun _ _ d _ _ h => by cases d <;> exact h) ?_
 replace hp := hp.drew
 obtain ⟨w1, w2, W⟩ := W9.out
 rcases W with ⟨d1, r⟩ | ⟨d1, r⟩
 all_goals have R := z0j r
 all_goals clear r W9
 all_goals
  repeat' (with_reducible refine zG ?_); first | (with_reducible refine zw ?_) | ((with_reducible refine zR ?_); refine zy rfl ?_; (first | ((with_reducible refine za0 _ _ rfl ?_); refine tS (by first | exact Zc rfl rfl rfl rfl | exact Zm rfl rfl rfl rfl) ?_) | ((with_reducible refine Zy _ rfl ?_); refine tM rfl ?_) | ((with_reducible refine Zt _ _ rfl ?_); refine tO rfl (za rfl) zq aa5 ?_) | refine tG (fun w _ => (by go_simp; try rfl)) ?_); try simp only [zc, zb, zm, zj, z0b, z0a, z0d, z0c, zn]) | (refine zQ rfl (fun K hK => ?_); go_wp2_with (first | (go_at_call 170; (with_reducible refine (zao _ (by omega) _).mono ?_); rintro e w' ⟨rfl, rfl⟩) | go_skip); (refine hK.out _ _ (.inr (zdp hp)) ?_); clear hK K; try simp only [zc, zb, zm, zj, z0b, z0a, z0d, z0c, zn])
 all_goals (go_wp2_with fail; go_ret; exact ⟨zL (by rw [R.out]; try rfl), hp.below⟩)
theorem zof (od p o : Int) (b : Bool) (hb : zcs od p o = b) (h8 : od ≤ 8) (w : World) : Calls Tryz.prog 165 #[.int .i64 od, .agg #[.int .i64 p, .int .i64 o]] w fun e w' => e = .returned (.bool b) ∧ Below w.heap.size w w' := hb ▸ zhJ od h8 p o w
theorem zhf {os : List Ob} {q : Nat} {x : Ob} (hj : os[q]? = some x) (b : Bl) : zdt (os.take (q + 1)) b = (zdt (os.take q) b || zbe b.p b.o x.p x.o) := by
 unfold zdt
 rw [List.take_add_one, hj, List.any_append]
 simp
theorem zix {os : List Ob} {q : Nat} {x : Ob} (hj : os[q]? = some x) {b : Bl} (h : zbe b.p b.o x.p x.o = true) (od : Int) : zaM od os b = false := by
 unfold zaM zdt
 have : (os.any fun x => zbe b.p b.o x.p x.o) = true := List.any_eq_true.2 ⟨x, List.mem_of_getElem? hj, h⟩
 rw [this]; rfl
theorem zej (od p o : Int) (os : List Ob) (a : Option Addr) (c : Nat) (cb : Bool) (hcb : zaM od os ⟨p, o⟩ = cb) (hol : os.length ≤ 1000) (h8 : od ≤ 8) (q1 : 0 ≤ p) (q2 : p ≤ 4000000000) (q5 : o ≤ 8) (hf : ∀ x ∈ os, zdi x) (w : World) (ha : zr w a (os.flatMap obV)) :
  Calls Tryz.prog 185 #[.int .i64 od, .agg #[.int .i64 p, .int .i64 o], .slice a os.length c] w fun e w' => e = .returned (.bool cb) ∧ Below w.heap.size w w' := by
 subst hcb
 have hp := Hp.start w
 have HA := z0j ha
 have HF := z0j hf
 clear ha hf
 go_enter Tryz.func185, Tryz.ntmps185
 go_wp2_with (first | go_skip | ((first | ((refine zg _ rfl ?_); refine lZ hp rfl zI ?_; clear hp; intro b w1 hp) | ((refine zh _ _ rfl ?_); refine lB hp rfl (za rfl) rfl ?_; clear hp; intro b w1 hp) | ((refine zf _ _ rfl ?_); first | refine lO hp rfl (za rfl) zaS aa5 ?_ | refine lA hp rfl (za rfl) zt aa5 ?_) | ((refine zd _ _ _ rfl ?_); (first | refine sO hp rfl (za rfl) zaS aa5 ?_ | refine sA hp rfl (za rfl) (za rfl) zt aa5 ?_ | refine sG hp rfl (za rfl) (za rfl) zt aa5 ?_); clear hp; intro w1 hp; simp only [spl, z0a, z0b] at hp) | ((refine zi _ _ _ rfl ?_); refine lS hp rfl (by intro w; go_simp; rfl) ?_; clear hp; intro b w1 hp; simp only [z0g, z0h, Nat.reduceAdd] at hp)); simp only [zc, zb, z0b, z0a]))
 obtain ⟨bb, rfl⟩ := hp.id0
 go_loopg [7] os.length (fun k i wr => ∃ q : Nat, k + q = os.length ∧ i = .int .i64 q ∧ Hid (zdt (os.take q) ⟨p, o⟩ = false) ∧ Hp w.heap.size w wr [⟨bb, [.int .i64 p, .int .i64 o], 124, 2⟩])
 case atStart => exact ⟨0, by omega, rfl, z0j rfl, hp⟩
 case round =>
  clear hp
  obtain ⟨q, hkq, rfl, HQ, hp⟩ := hrel
  by_cases hlt : q < os.length
  ·obtain ⟨bq, off, rfl, hx⟩ := HA.out.elems 5 zbP (by omega) (by omega)
   have hj := List.getElem?_eq_getElem hlt
   replace hx := hx q _ hj
   have hfx := HF.out _ (List.getElem_mem hlt)
   have hst := zhf hj ⟨p, o⟩
   have hht := fun h => zix hj (b := ⟨p, o⟩) h od
   clear hj
   generalize os[q] = x at hx hfx hst hht
   obtain ⟨xh, xp, xo, wa, ws, wc, la, ls, lc⟩ := x
   simp only [obV] at hx
   simp only at hst hht
   obtain ⟨q3, q4', hx0, q6⟩ := hfx
   simp only at q3 q4' hx0 q6
   have q4 : xp ≤ 4000000000 := by omega
   have HX' := z0j hx
   have HX : Hid (∀ (j : Nat) v, [Value.int .i64 xp, .int .i64 xo][j]? = some v → w.cell? ⟨bq, off + q * 5 + 1 + j, none⟩ = some v) := z0j (fun j v hj => by
    have := HX'.out (1 + j) v (by
       rw [Nat.add_comm]; rw [List.getElem?_cons_succ]; have hlt : j < 2 := by { have := (List.getElem?_eq_some_iff.1 hj).1; simpa using this }
       have hc : j = 0 ∨ j = 1 := by omega
       rcases hc with rfl | rfl <;> exact hj)
    rw [Nat.add_assoc (off + q * 5)]; exact this)
   have HST := z0j hst
   have HHT := z0j hht
   have f1 : (0 : Int) ≤ (q : Int) := by omega
   have f2 : (q : Int) < (os.length : Int) := by omega
   clear hx q4' hx0 hst hht
   cases hmb : zbe p o xp xo with
   | true =>
    have HMB := z0j hmb
    clear hmb
    go_wp2_with (first | go_skip | ((first | ((refine zg _ rfl ?_); refine lZ hp rfl zI ?_; clear hp; intro b w1 hp) | ((refine zh _ _ rfl ?_); refine lB hp rfl (za rfl) rfl ?_; clear hp; intro b w1 hp) | ((refine zf _ _ rfl ?_); first | refine lO hp rfl (za rfl) zaS aa5 ?_ | refine lA hp rfl (za rfl) zt aa5 ?_) | ((refine zd _ _ _ rfl ?_); (first | refine sO hp rfl (za rfl) zaS aa5 ?_ | refine sA hp rfl (za rfl) (za rfl) zt aa5 ?_ | refine sG hp rfl (za rfl) (za rfl) zt aa5 ?_); clear hp; intro w1 hp; simp only [spl, z0a, z0b] at hp) | ((refine zi _ _ _ rfl ?_); refine lS hp rfl (by intro w; go_simp; rfl) ?_; clear hp; intro b w1 hp; simp only [z0g, z0h, Nat.reduceAdd] at hp)); simp only [zc, zb, z0b, z0a]))
    refine zk [_] (zE.one hp.drew at0) [] [(0, true), (1, true), (2, true), (3, true), (4, true), (5, true), (6, false)] (by kernel_rfl) (by kernel_rfl) rfl (by kernel_rfl) (fun _ _ d _ _ h => by cases d <;> exact h) ?_
    replace hp := hp.drew
    repeat' (with_reducible refine zG ?_); first | (with_reducible refine zw ?_) | ((with_reducible refine zR ?_); refine zy rfl ?_; (first | ((with_reducible refine Zy _ rfl ?_); refine tM rfl ?_) | ((with_reducible refine Zt _ _ rfl ?_); first | refine tA rfl (za rfl) zt aa5 ?_ | refine tR rfl (za rfl) zt HX.out ?_) | refine tG (fun w _ => (by go_simp; try rfl)) ?_); try simp only [zc, zb, zm, zj, z0b, z0a, z0d, z0c, zn]) | (refine zQ rfl (fun K hK => ?_); go_wp2_with (first | (go_at_call 168; (with_reducible refine (zhL p o xp xo q1 q2 q3 q4 q5 q6 _ HMB.out _).mono ?_); rintro e w1 ⟨rfl, hb⟩; replace hp := hp.call hb; clear hb) | go_skip); (refine hK.out _ _ (.inr (zE.one hp aa5)) ?_); clear hK K; try simp only [zc, zb, zm, zj, z0b, z0a, z0d, z0c, zn])
    go_wp2_with (first | go_skip | ((first | ((refine zg _ rfl ?_); refine lZ hp rfl zI ?_; clear hp; intro b w1 hp) | ((refine zh _ _ rfl ?_); refine lB hp rfl (za rfl) rfl ?_; clear hp; intro b w1 hp) | ((refine zf _ _ rfl ?_); first | refine lO hp rfl (za rfl) zaS aa5 ?_ | refine lA hp rfl (za rfl) zt aa5 ?_) | ((refine zd _ _ _ rfl ?_); (first | refine sO hp rfl (za rfl) zaS aa5 ?_ | refine sA hp rfl (za rfl) (za rfl) zt aa5 ?_ | refine sG hp rfl (za rfl) (za rfl) zt aa5 ?_); clear hp; intro w1 hp; simp only [spl, z0a, z0b] at hp) | ((refine zi _ _ _ rfl ?_); refine lS hp rfl (by intro w; go_simp; rfl) ?_; clear hp; intro b w1 hp; simp only [z0g, z0h, Nat.reduceAdd] at hp)); simp only [zc, zb, z0b, z0a]))
    go_ret
    exact ⟨zL (HHT.out HMB.out).symm, hp.below⟩
   | false =>
    have HMB := z0j hmb
    clear hmb
    go_wp2_with (first | go_skip | ((first | ((refine zg _ rfl ?_); refine lZ hp rfl zI ?_; clear hp; intro b w1 hp) | ((refine zh _ _ rfl ?_); refine lB hp rfl (za rfl) rfl ?_; clear hp; intro b w1 hp) | ((refine zf _ _ rfl ?_); first | refine lO hp rfl (za rfl) zaS aa5 ?_ | refine lA hp rfl (za rfl) zt aa5 ?_) | ((refine zd _ _ _ rfl ?_); (first | refine sO hp rfl (za rfl) zaS aa5 ?_ | refine sA hp rfl (za rfl) (za rfl) zt aa5 ?_ | refine sG hp rfl (za rfl) (za rfl) zt aa5 ?_); clear hp; intro w1 hp; simp only [spl, z0a, z0b] at hp) | ((refine zi _ _ _ rfl ?_); refine lS hp rfl (by intro w; go_simp; rfl) ?_; clear hp; intro b w1 hp; simp only [z0g, z0h, Nat.reduceAdd] at hp)); simp only [zc, zb, z0b, z0a]))
    refine zk [_] (zE.one hp.drew at0) [] [(0, true), (1, true), (2, true), (3, true), (4, true), (5, true), (6, false)] (by kernel_rfl) (by kernel_rfl) rfl (by kernel_rfl) (fun _ _ d _ _ h => by cases d <;> exact h) ?_
    replace hp := hp.drew
    repeat' (with_reducible refine zG ?_); first | (with_reducible refine zw ?_) | ((with_reducible refine zR ?_); refine zy rfl ?_; (first | ((with_reducible refine Zy _ rfl ?_); refine tM rfl ?_) | ((with_reducible refine Zt _ _ rfl ?_); first | refine tA rfl (za rfl) zt aa5 ?_ | refine tR rfl (za rfl) zt HX.out ?_) | refine tG (fun w _ => (by go_simp; try rfl)) ?_); try simp only [zc, zb, zm, zj, z0b, z0a, z0d, z0c, zn]) | (refine zQ rfl (fun K hK => ?_); go_wp2_with (first | (go_at_call 168; (with_reducible refine (zhL p o xp xo q1 q2 q3 q4 q5 q6 _ HMB.out _).mono ?_); rintro e w1 ⟨rfl, hb⟩; replace hp := hp.call hb; clear hb) | go_skip); (refine hK.out _ _ (.inr (zE.one hp aa5)) ?_); clear hK K; try simp only [zc, zb, zm, zj, z0b, z0a, z0d, z0c, zn])
    go_wp2_with (first | go_skip | ((first | ((refine zg _ rfl ?_); refine lZ hp rfl zI ?_; clear hp; intro b w1 hp) | ((refine zh _ _ rfl ?_); refine lB hp rfl (za rfl) rfl ?_; clear hp; intro b w1 hp) | ((refine zf _ _ rfl ?_); first | refine lO hp rfl (za rfl) zaS aa5 ?_ | refine lA hp rfl (za rfl) zt aa5 ?_) | ((refine zd _ _ _ rfl ?_); (first | refine sO hp rfl (za rfl) zaS aa5 ?_ | refine sA hp rfl (za rfl) (za rfl) zt aa5 ?_ | refine sG hp rfl (za rfl) (za rfl) zt aa5 ?_); clear hp; intro w1 hp; simp only [spl, z0a, z0b] at hp) | ((refine zi _ _ _ rfl ?_); refine lS hp rfl (by intro w; go_simp; rfl) ?_; clear hp; intro b w1 hp; simp only [z0g, z0h, Nat.reduceAdd] at hp)); simp only [zc, zb, z0b, z0a]))
    go_roundg (gk - 1)
    case measure => omega
    case rel => exact ⟨q + 1, by omega, by go_num, z0j (by rw [HST.out, HQ.out, HMB.out]; rfl), hp⟩
  ·obtain rfl : q = os.length := by omega
   have f2 : decide ((os.length : Int) < (os.length : Int)) = false := by simp
   have HM : Hid (zdt os ⟨p, o⟩ = false) := z0j (by have := HQ.out; rw [List.take_length] at this; exact this)
   obtain ⟨yb, hyb⟩ : ∃ yb, zcs od p o = yb := ⟨_, rfl⟩
   have HYB := z0j hyb
   clear hkq hlt HQ hyb
   go_wp2_with (first | (go_at_call 165; (with_reducible refine (zof od p o yb HYB.out h8 _).mono ?_); rintro e w1 ⟨rfl, hb⟩; replace hp := hp.call hb; clear hb) | go_skip | ((first | ((refine zg _ rfl ?_); refine lZ hp rfl zI ?_; clear hp; intro b w1 hp) | ((refine zh _ _ rfl ?_); refine lB hp rfl (za rfl) rfl ?_; clear hp; intro b w1 hp) | ((refine zf _ _ rfl ?_); first | refine lO hp rfl (za rfl) zaS aa5 ?_ | refine lA hp rfl (za rfl) zt aa5 ?_) | ((refine zd _ _ _ rfl ?_); (first | refine sO hp rfl (za rfl) zaS aa5 ?_ | refine sA hp rfl (za rfl) (za rfl) zt aa5 ?_ | refine sG hp rfl (za rfl) (za rfl) zt aa5 ?_); clear hp; intro w1 hp; simp only [spl, z0a, z0b] at hp) | ((refine zi _ _ _ rfl ?_); refine lS hp rfl (by intro w; go_simp; rfl) ?_; clear hp; intro b w1 hp; simp only [z0g, z0h, Nat.reduceAdd] at hp)); simp only [zc, zb, z0b, z0a]))
   go_ret
   refine ⟨zL ?_, hp.below⟩
   unfold zaM
   rw [HM.out, HYB.out]; rfl
theorem zj2 {od : Int} {os : List Ob} {p : Int} {j : Nat} (h : j = 0) : zaP od os p j = j := by subst h; rfl
theorem zlu {od : Int} {os : List Ob} {p : Int} {j : Nat} (h : zaM od os ⟨p, (j : Int)⟩ = true) : zaP od os p j = j := by
 cases j with
 | zero => rfl
 | succ j => unfold zaP; rw [if_pos h]
theorem zj1 {od : Int} {os : List Ob} {p : Int} {j : Nat} (h : zaM od os ⟨p, ((j + 1 : Nat) : Int)⟩ = false) : zaP od os p (j + 1) = zaP od os p j := by
 conv => lhs; unfold zaP
 rw [if_neg (by rw [h]; simp)]
theorem zhF {od : Int} {os : List Ob} {n j : Nat} {p : Int} {res ou : List Bl} (hp : p < pw od) (hj : zaP od os p od.toNat = j) (hc : zaM od os ⟨p, (j : Int)⟩ = true) (h : ou ++ frL od os (n + 1) p = res) : (ou ++ [⟨p, (j : Int)⟩]) ++ frL od os n (p + pw j) = res := by
 have := zjr hp h
 rw [hj, if_pos hc] at this
 exact this
theorem zkY {od : Int} {os : List Ob} {n j : Nat} {p : Int} {res ou : List Bl} (hp : p < pw od) (hj : zaP od os p od.toNat = j) (hc : zaM od os ⟨p, (j : Int)⟩ = false) (h : ou ++ frL od os (n + 1) p = res) : ou ++ frL od os n (p + pw j) = res := by
 have := zjr hp h
 rw [hj, if_neg (by rw [hc]; simp), List.append_nil] at this
 exact this
theorem zmt (od : Int) (h3 : 3 ≤ od) (h8 : od ≤ 8) (os : List Ob) (a : Option Addr) (c : Nat) (hol : os.length ≤ 1000) (hf : ∀ x ∈ os, zdi x) (w : World) (ha : zr w a (os.flatMap obV)) :
  Calls Tryz.prog 116 #[.int .i64 od, .slice a os.length c] w fun e w' => ∃ fa fc fs R, e = .returned (.slice fa fs.length fc) ∧ fs = lfN (pw od) os od.toNat 0 ∧ zJ 124 2 (.slice fa fs.length fc) fs.length (fs.flatMap blV) R ∧ Hp w.heap.size w w' R := by
 obtain ⟨i0, hi0, hz0, hz1, hz2⟩ := info_parts zcD
 have hp := Hp.start w
 have HA := z0j ha
 have HF := z0j hf
 have hpw := zb5 h8
 have HFR := z0j (zms (os := os) (by omega) h8 256 (by omega) : frL od os 256 0 = lfN (pw od) os od.toNat 0)
 obtain ⟨res, hres⟩ : ∃ res, res = lfN (pw od) os od.toNat 0 := ⟨_, rfl⟩
 rw [← hres] at HFR ⊢
 obtain ⟨N, hN⟩ : ∃ N, N = od.toNat := ⟨_, rfl⟩
 have hNo : (N : Int) = od := by omega
 clear ha hf hres
 go_enter Tryz.func116, Tryz.ntmps116
 go_wp2_with (first | go_skip | ((first | ((refine zg _ rfl ?_); refine lZ hp rfl zI ?_; clear hp; intro b w1 hp) | ((refine zh _ _ rfl ?_); refine lB hp rfl (za rfl) rfl ?_; clear hp; intro b w1 hp) | ((refine zf _ _ rfl ?_); first | refine lO hp rfl (za rfl) zaS aa5 ?_ | refine lA hp rfl (za rfl) zt aa5 ?_) | ((refine zd _ _ _ rfl ?_); (first | refine sO hp rfl (za rfl) zaS aa5 ?_ | refine sA hp rfl (za rfl) (za rfl) zt aa5 ?_ | refine sG hp rfl (za rfl) (za rfl) zt aa5 ?_); clear hp; intro w1 hp; simp only [spl, z0a, z0b] at hp) | ((refine zi _ _ _ rfl ?_); refine lS hp rfl (by intro w; go_simp; rfl) ?_; clear hp; intro b w1 hp; simp only [z0g, z0h, Nat.reduceAdd] at hp)); simp only [zc, zb, z0b, z0a]))
 go_loopg [5, 6] 256 (fun k v i wr => ∃ (n : Nat) (p : Int) (ou : List Bl) (R D : List Blk), k = n ∧ i = .int .i64 p ∧ 0 ≤ p ∧ Hid (pw od ≤ p + n) ∧ Hid (ou.length + n ≤ 256) ∧ Hid (ou ++ frL od os n p = res) ∧ Hid (zJ 124 2 v ou.length (ou.flatMap blV) R) ∧ Hp w.heap.size w wr (R ++ D))
 case atStart => exact ⟨256, 0, [], [], [], rfl, rfl, Int.le_refl _, z0j (by omega), z0j (by simp), z0j (by rw [List.nil_append]; exact HFR.out), z0j (zJ.nil _ _), hp⟩
 case round =>
  clear hp
  obtain ⟨n, p, ou, R, D, hkn, rfl, hp0, HPW, HPL, HRES, HR, hp⟩ := hrel
  by_cases hlt : p < pw od
  ·obtain ⟨n, rfl⟩ : ∃ m, n = m + 1 := ⟨n - 1, by have := HPW.out; omega⟩
   have HLT := z0j hlt
   have hpb : p ≤ 4000000000 := by omega
   have e1 : decide (p < pw od) = true := decide_eq_true hlt
   have sm1 : ou.length + 1 ≤ maxLen := by have := HPL.out; unfold maxLen; omega
   have sm2 : (ou.length + 1) * 16 ≤ 140737488355328 := by have := HPL.out; omega
   have HNO := z0j hNo
   clear hlt
   go_wp2_with (first | (go_at_call 170; (with_reducible refine (zao _ (by omega) _).mono ?_); rintro e w' ⟨rfl, rfl⟩) | go_skip | ((first | ((refine zg _ rfl ?_); refine lZ hp rfl zI ?_; clear hp; intro b w1 hp) | ((refine zh _ _ rfl ?_); refine lB hp rfl (za rfl) rfl ?_; clear hp; intro b w1 hp) | ((refine zf _ _ rfl ?_); first | refine lO hp rfl (za rfl) zaS aa5 ?_ | refine lA hp rfl (za rfl) zt aa5 ?_) | ((refine zd _ _ _ rfl ?_); (first | refine sO hp rfl (za rfl) zaS aa5 ?_ | refine sA hp rfl (za rfl) (za rfl) zt aa5 ?_ | refine sG hp rfl (za rfl) (za rfl) zt aa5 ?_); clear hp; intro w1 hp; simp only [spl, z0a, z0b] at hp) | ((refine zi _ _ _ rfl ?_); refine lS hp rfl (by intro w; go_simp; rfl) ?_; clear hp; intro b w1 hp; simp only [z0g, z0h, Nat.reduceAdd] at hp)); simp only [zc, zb, z0b, z0a]))
   obtain ⟨bb, rfl⟩ := hp.id0
   go_loopg [] N (fun k wr => ∃ j : Nat, k = j ∧ j ≤ N ∧ Hid (zaP od os p od.toNat = zaP od os p j) ∧ Hp w.heap.size w wr (⟨bb, [.int .i64 p, .int .i64 (j : Int)], 124, 2⟩ :: (R ++ D)))
   case atStart => exact ⟨N, rfl, Nat.le_refl _, z0j (by rw [hN]), by rw [hNo]; exact hp⟩
   case round =>
    clear hp
    obtain ⟨j, hkj, hjN, HPJ, hp⟩ := hrel
    have hj8 : (j : Int) ≤ 8 := by omega
    have hpp := zP (j : Int)
    have hpl := zb5 hj8
    have HW1 : Hid (wrap64 (p + pw (j : Int)) = p + pw (j : Int)) := z0j (by unfold wrap64; omega)
    have HPW2 : Hid (0 ≤ p + pw (j : Int) ∧ pw od ≤ p + pw (j : Int) + n) := z0j ⟨by omega, by have := HPW.out; omega⟩
    clear hpp hpl
    by_cases hj0 : j = 0
    ·have HPK : Hid (zaP od os p od.toNat = j) := z0j (by rw [HPJ.out]; exact zj2 hj0)
     have e2 : decide ((0 : Int) < (j : Int)) = false := by simp; omega
     have e3 : decide (0 < j) = false := by simp; omega
     have e4 : ¬ 0 < j := by omega
     clear hj0
     obtain ⟨cb, hcb⟩ : ∃ cb, zaM od os ⟨p, (j : Int)⟩ = cb := ⟨_, rfl⟩; have HCB := z0j hcb; clear hcb; cases cb
     ·go_wp2_with (first | (go_at_call 185; (with_reducible refine (zej od p j os _ c _ HCB.out hol h8 hp0 hpb hj8 HF.out _ (HA.out.below hp.below)).mono ?_); rintro e w1 ⟨rfl, hb⟩; replace hp := hp.call hb; clear hb) | (go_at_call 170; (with_reducible refine (zao _ (by omega) _).mono ?_); rintro e w' ⟨rfl, rfl⟩) | go_skip | ((first | ((refine zg _ rfl ?_); refine lZ hp rfl zI ?_; clear hp; intro b w1 hp) | ((refine zh _ _ rfl ?_); refine lB hp rfl (za rfl) rfl ?_; clear hp; intro b w1 hp) | ((refine zf _ _ rfl ?_); first | refine lO hp rfl (za rfl) zaS aa5 ?_ | refine lA hp rfl (za rfl) zt aa5 ?_) | ((refine zd _ _ _ rfl ?_); (first | refine sO hp rfl (za rfl) zaS aa5 ?_ | refine sA hp rfl (za rfl) (za rfl) zt aa5 ?_ | refine sG hp rfl (za rfl) (za rfl) zt aa5 ?_); clear hp; intro w1 hp; simp only [spl, z0a, z0b] at hp) | ((refine zi _ _ _ rfl ?_); refine lS hp rfl (by intro w; go_simp; rfl) ?_; clear hp; intro b w1 hp; simp only [z0g, z0h, Nat.reduceAdd] at hp)); simp only [zc, zb, z0b, z0a]))
      go_roundg n; (case measure => omega); (case rel => exact ⟨n, p + pw (j : Int), ou, R, ⟨bb, [.int .i64 p, .int .i64 (j : Int)], 124, 2⟩ :: D, rfl, congrArg (Value.int .i64) HW1.out, HPW2.out.1, z0j HPW2.out.2, z0j (by have := HPL.out; omega), z0j (zkY HLT.out HPK.out HCB.out HRES.out), HR, hp.kp⟩)
     ·go_wp2_with (first | (go_at_call 185; (with_reducible refine (zej od p j os _ c _ HCB.out hol h8 hp0 hpb hj8 HF.out _ (HA.out.below hp.below)).mono ?_); rintro e w1 ⟨rfl, hb⟩; replace hp := hp.call hb; clear hb) | ((refine Zb _ _ 45 rfl ?_); refine zM (K := [_]) (R := R) (M := D) hp _ _ _ rfl wy i0 _ 16 Tryz.underlying45 hi0 hz0 hz1 hz2 rfl (by decide) (za rfl) HR.out 1 1 (za rfl) (by rfl) (by decide) (by rfl) sm1 sm2 ?_; clear hp; intro v' R' w1 hR' hp; have HR' := z0j hR'; clear hR'; simp only [z0f, z0e] at hp; simp only [zc, zb, z0b, z0a]) | (go_at_call 170; (with_reducible refine (zao _ (by omega) _).mono ?_); rintro e w' ⟨rfl, rfl⟩) | go_skip | ((first | ((refine zg _ rfl ?_); refine lZ hp rfl zI ?_; clear hp; intro b w1 hp) | ((refine zh _ _ rfl ?_); refine lB hp rfl (za rfl) rfl ?_; clear hp; intro b w1 hp) | ((refine zf _ _ rfl ?_); first | refine lO hp rfl (za rfl) zaS aa5 ?_ | refine lA hp rfl (za rfl) zt aa5 ?_) | ((refine zd _ _ _ rfl ?_); (first | refine sO hp rfl (za rfl) zaS aa5 ?_ | refine sA hp rfl (za rfl) (za rfl) zt aa5 ?_ | refine sG hp rfl (za rfl) (za rfl) zt aa5 ?_); clear hp; intro w1 hp; simp only [spl, z0a, z0b] at hp) | ((refine zi _ _ _ rfl ?_); refine lS hp rfl (by intro w; go_simp; rfl) ?_; clear hp; intro b w1 hp; simp only [z0g, z0h, Nat.reduceAdd] at hp)); simp only [zc, zb, z0b, z0a]))
      go_roundg n; (case measure => omega); (case rel => exact ⟨n, p + pw (j : Int), ou ++ [⟨p, (j : Int)⟩], R', ⟨bb, [.int .i64 p, .int .i64 (j : Int)], 124, 2⟩ :: D, rfl, congrArg (Value.int .i64) HW1.out, HPW2.out.1, z0j HPW2.out.2, z0j (by have := HPL.out; rw [List.length_append]; simp only [z0g, z0h]; omega), z0j (zhF HLT.out HPK.out HCB.out HRES.out), z0j (by have := HR'.out; rw [List.flatMap_append, List.length_append]; exact this), hp.kp⟩)
    ·have e2 : decide ((0 : Int) < (j : Int)) = true := by simp; omega
     have e3 : 0 < j := by omega
     obtain ⟨cb, hcb⟩ : ∃ cb, zaM od os ⟨p, (j : Int)⟩ = cb := ⟨_, rfl⟩
     have HCB := z0j hcb
     clear hcb
     cases cb
     ·obtain ⟨i, hji⟩ : ∃ i, j = i + 1 := ⟨j - 1, by omega⟩
      have HPM : Hid (zaP od os p od.toNat = zaP od os p i) := z0j (by rw [HPJ.out]; have h := HCB.out; rw [hji] at h ⊢; exact zj1 h)
      have HJI := z0j hji
      clear hji
      clear hj0
      go_wp2_with (first | (go_at_call 185; (with_reducible refine (zej od p j os _ c _ HCB.out hol h8 hp0 hpb hj8 HF.out _ (HA.out.below hp.below)).mono ?_); rintro e w1 ⟨rfl, hb⟩; replace hp := hp.call hb; clear hb) | go_skip | ((first | ((refine zg _ rfl ?_); refine lZ hp rfl zI ?_; clear hp; intro b w1 hp) | ((refine zh _ _ rfl ?_); refine lB hp rfl (za rfl) rfl ?_; clear hp; intro b w1 hp) | ((refine zf _ _ rfl ?_); first | refine lO hp rfl (za rfl) zaS aa5 ?_ | refine lA hp rfl (za rfl) zt aa5 ?_) | ((refine zd _ _ _ rfl ?_); (first | refine sO hp rfl (za rfl) zaS aa5 ?_ | refine sA hp rfl (za rfl) (za rfl) zt aa5 ?_ | refine sG hp rfl (za rfl) (za rfl) zt aa5 ?_); clear hp; intro w1 hp; simp only [spl, z0a, z0b] at hp) | ((refine zi _ _ _ rfl ?_); refine lS hp rfl (by intro w; go_simp; rfl) ?_; clear hp; intro b w1 hp; simp only [z0g, z0h, Nat.reduceAdd] at hp)); simp only [zc, zb, z0b, z0a]))
      go_roundg i
      case measure => have := HJI.out; omega
      case rel => exact ⟨i, rfl, by have := HJI.out; omega, HPM, by rw [show ((j : Int) - 1) = (i : Int) by have := HJI.out; omega] at hp; exact hp⟩
     ·have HPK : Hid (zaP od os p od.toNat = j) := z0j (by rw [HPJ.out]; exact zlu HCB.out)
      clear hj0
      go_wp2_with (first | (go_at_call 185; (with_reducible refine (zej od p j os _ c _ HCB.out hol h8 hp0 hpb hj8 HF.out _ (HA.out.below hp.below)).mono ?_); rintro e w1 ⟨rfl, hb⟩; replace hp := hp.call hb; clear hb) | ((refine Zb _ _ 45 rfl ?_); refine zM (K := [_]) (R := R) (M := D) hp _ _ _ rfl wy i0 _ 16 Tryz.underlying45 hi0 hz0 hz1 hz2 rfl (by decide) (za rfl) HR.out 1 1 (za rfl) (by rfl) (by decide) (by rfl) sm1 sm2 ?_; clear hp; intro v' R' w1 hR' hp; have HR' := z0j hR'; clear hR'; simp only [z0f, z0e] at hp; simp only [zc, zb, z0b, z0a]) | (go_at_call 170; (with_reducible refine (zao _ (by omega) _).mono ?_); rintro e w' ⟨rfl, rfl⟩) | go_skip | ((first | ((refine zg _ rfl ?_); refine lZ hp rfl zI ?_; clear hp; intro b w1 hp) | ((refine zh _ _ rfl ?_); refine lB hp rfl (za rfl) rfl ?_; clear hp; intro b w1 hp) | ((refine zf _ _ rfl ?_); first | refine lO hp rfl (za rfl) zaS aa5 ?_ | refine lA hp rfl (za rfl) zt aa5 ?_) | ((refine zd _ _ _ rfl ?_); (first | refine sO hp rfl (za rfl) zaS aa5 ?_ | refine sA hp rfl (za rfl) (za rfl) zt aa5 ?_ | refine sG hp rfl (za rfl) (za rfl) zt aa5 ?_); clear hp; intro w1 hp; simp only [spl, z0a, z0b] at hp) | ((refine zi _ _ _ rfl ?_); refine lS hp rfl (by intro w; go_simp; rfl) ?_; clear hp; intro b w1 hp; simp only [z0g, z0h, Nat.reduceAdd] at hp)); simp only [zc, zb, z0b, z0a]))
      go_roundg n; (case measure => omega); (case rel => exact ⟨n, p + pw (j : Int), ou ++ [⟨p, (j : Int)⟩], R', ⟨bb, [.int .i64 p, .int .i64 (j : Int)], 124, 2⟩ :: D, rfl, congrArg (Value.int .i64) HW1.out, HPW2.out.1, z0j HPW2.out.2, z0j (by have := HPL.out; rw [List.length_append]; simp only [z0g, z0h]; omega), z0j (zhF HLT.out HPK.out HCB.out HRES.out), z0j (by have := HR'.out; rw [List.flatMap_append, List.length_append]; exact this), hp.kp⟩)
  ·have e1 : decide (p < pw od) = false := decide_eq_false hlt
   have HE := z0j (znp hlt HRES.out)
   clear hlt
   go_wp2_with (first | (go_at_call 170; (with_reducible refine (zao _ (by omega) _).mono ?_); rintro e w' ⟨rfl, rfl⟩) | go_skip | ((first | ((refine zg _ rfl ?_); refine lZ hp rfl zI ?_; clear hp; intro b w1 hp) | ((refine zh _ _ rfl ?_); refine lB hp rfl (za rfl) rfl ?_; clear hp; intro b w1 hp) | ((refine zf _ _ rfl ?_); first | refine lO hp rfl (za rfl) zaS aa5 ?_ | refine lA hp rfl (za rfl) zt aa5 ?_) | ((refine zd _ _ _ rfl ?_); (first | refine sO hp rfl (za rfl) zaS aa5 ?_ | refine sA hp rfl (za rfl) (za rfl) zt aa5 ?_ | refine sG hp rfl (za rfl) (za rfl) zt aa5 ?_); clear hp; intro w1 hp; simp only [spl, z0a, z0b] at hp) | ((refine zi _ _ _ rfl ?_); refine lS hp rfl (by intro w; go_simp; rfl) ?_; clear hp; intro b w1 hp; simp only [z0g, z0h, Nat.reduceAdd] at hp)); simp only [zc, zb, z0b, z0a]))
   go_ret
   have he := HE.out
   have hr := HR.out
   obtain ⟨fa, fc, rfl, _⟩ := hr.kept
   subst he
   exact ⟨fa, fc, ou, R, rfl, rfl, hr, hp.sub (List.sublist_append_left _ _)⟩
end Go.Proofs.YtaafajaadfgaoaaGreat
