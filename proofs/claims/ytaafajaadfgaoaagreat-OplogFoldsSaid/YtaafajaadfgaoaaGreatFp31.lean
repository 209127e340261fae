import Derived.Test.YtaafajaadfgaoaaGreatFp28
import Derived.Test.YtaafajaadfgaoaaGreatFp30
set_option linter.unusedSimpArgs false
set_option linter.unusedVariables false
set_option maxRecDepth 100000
set_option maxHeartbeats 60000000
namespace Go.Proofs.YtaafajaadfgaoaaGreat
open Go.RowKit
theorem zK {ty : TypeId} {k : Nat} (h : zac Tryz.prog ty k = true := by with_reducible first | exact zF | exact Zq | exact zaR) : zac Tryz.prog ty k = true := h
theorem Zn {ty : TypeId} (h : zB Tryz.prog ty = true := by with_reducible first | exact zq | exact zA | exact zO | exact ZL | exact Ze) : zB Tryz.prog ty = true := h
theorem zfc {ty : TypeId} (h : zB Tryz.prog ty = true := by with_reducible first | exact zq | exact zA | exact zO) : zB Tryz.prog ty = true := h
theorem ZD (l : List Env) (fr : Int) (a : Option Addr) (c : Nat) (b : Bool) (hb : zc5 fr 0 l = b) (hl : l.length ≤ 100000) (w : World) (ha : zr w a (l.flatMap Zi)) :
  Calls Tryz.prog 158 #[.slice a l.length c, .int .i64 fr] w fun e w' => e = .returned (.bool b) ∧ Below w.heap.size w w' := by
 subst hb
 have HA := z0j ha
 clear ha
 have hp := Hp.start w
 go_enter Tryz.func158, Tryz.ntmps158
 go_wp2_with (first | go_skip | ((first | ((refine zg _ rfl ?_); refine lZ hp rfl (by with_reducible first | exact Zh | exact zU) ?_; clear hp; intro b w1 hp) | ((refine zh _ _ rfl ?_); refine lB hp rfl (za rfl) rfl ?_; clear hp; intro b w1 hp) | ((refine zf _ _ rfl ?_); first | refine lO hp rfl (za rfl) Zn aa5 ?_ | refine lA hp rfl (za rfl) zK aa5 ?_) | ((refine zd _ _ _ rfl ?_); (first | refine sO hp rfl (za rfl) Zn aa5 ?_ | refine sA hp rfl (za rfl) (za rfl) zK aa5 ?_ | refine sG hp rfl (za rfl) (za rfl) zK aa5 ?_); clear hp; intro w1 hp; simp only [spl, z0a, z0b] at hp)); simp only [zc, zb, z0b, z0a]))
 go_loopg [5] l.length (fun k i wr => ∃ q : Nat, k + q = l.length ∧ i = .int .i64 q ∧ Hid (zc5 fr 0 l = zc5 fr q (l.drop q)) ∧ Hp w.heap.size w wr [])
 case atStart => exact ⟨0, by omega, rfl, z0j rfl, hp⟩
 case round =>
  clear hp
  obtain ⟨q, hkq, rfl, HF, hp⟩ := hrel
  by_cases hlt : q < l.length
  ·obtain ⟨bq, off, rfl, hx⟩ := HA.out.elems 11 ZM (by omega) (by omega)
   have hj := List.getElem?_eq_getElem hlt
   replace hx := hx q _ hj
   have hd := List.drop_eq_getElem_cons hlt
   clear hj
   generalize l[q] = en at hx hd
   obtain ⟨nu, vi, cl, sq, ⟨kk, hh, ii, nn, cc, vv, tt⟩⟩ := en
   simp only [Zi, opL, z0f, z0e] at hx
   have HX := z0j hx
   have HF2 : Hid (zc5 fr 0 l = (decide (wrap64 (wrap64 (nu - 1) - (q : Int)) = fr) && zc5 fr (q + 1) (l.drop (q + 1)))) := z0j (by rw [HF.out, hd]; rfl)
   have f1 : (0 : Int) ≤ (q : Int) := by omega
   have f2 : (q : Int) < (l.length : Int) := by omega
   clear hx hd HF
   by_cases heq : wrap64 (wrap64 (nu - 1) - (q : Int)) = fr
   ·have e3 : (wrap64 (wrap64 (nu - 1) - (q : Int)) == fr) = true := by simpa using heq
    have HE := z0j heq
    clear heq
    go_wp2_with (first | go_skip | ((first | ((refine zh _ _ rfl ?_); refine lB hp rfl (za rfl) rfl ?_; clear hp; intro b w1 hp) | ((refine zf _ _ rfl ?_); first | refine lO hp rfl (za rfl) zfc aa5 ?_ | first | refine lRO hp rfl (za rfl) zfc (HX.out 0 _ rfl) ?_ | refine lA hp rfl (za rfl) Zq aa5 ?_ | refine lR hp rfl (za rfl) Zq HX.out ?_) | ((refine zd _ _ _ rfl ?_); (first | refine sO hp rfl (za rfl) zfc aa5 ?_ | refine sA hp rfl (za rfl) (za rfl) Zq aa5 ?_ | refine sG hp rfl (za rfl) (za rfl) Zq aa5 ?_); clear hp; intro w1 hp; simp only [spl, z0a, z0b] at hp)); simp only [zc, zb, z0b, z0a]))
    go_roundg (gk - 1)
    case measure => omega
    case rel => exact ⟨q + 1, by omega, by go_num, z0j (by rw [HF2.out, HE.out]; simp), hp⟩
   ·have e3 : (wrap64 (wrap64 (nu - 1) - (q : Int)) == fr) = false := by simpa using heq
    have HE := z0j heq
    clear heq
    go_wp2_with (first | go_skip | ((first | ((refine zh _ _ rfl ?_); refine lB hp rfl (za rfl) rfl ?_; clear hp; intro b w1 hp) | ((refine zf _ _ rfl ?_); first | refine lO hp rfl (za rfl) zfc aa5 ?_ | first | refine lRO hp rfl (za rfl) zfc (HX.out 0 _ rfl) ?_ | refine lA hp rfl (za rfl) Zq aa5 ?_ | refine lR hp rfl (za rfl) Zq HX.out ?_) | ((refine zd _ _ _ rfl ?_); (first | refine sO hp rfl (za rfl) zfc aa5 ?_ | refine sA hp rfl (za rfl) (za rfl) Zq aa5 ?_ | refine sG hp rfl (za rfl) (za rfl) Zq aa5 ?_); clear hp; intro w1 hp; simp only [spl, z0a, z0b] at hp)); simp only [zc, zb, z0b, z0a]))
    go_ret
    refine ⟨?_, hp.below⟩
    rw [HF2.out, decide_eq_false HE.out]; rfl
  ·obtain rfl : q = l.length := by omega
   have e2 : decide ((l.length : Int) < (l.length : Int)) = false := by simp
   clear hkq hlt
   go_wp2_with (first | go_skip | ((first | ((refine zg _ rfl ?_); refine lZ hp rfl (by with_reducible first | exact Zh | exact zU) ?_; clear hp; intro b w1 hp) | ((refine zh _ _ rfl ?_); refine lB hp rfl (za rfl) rfl ?_; clear hp; intro b w1 hp) | ((refine zf _ _ rfl ?_); first | refine lO hp rfl (za rfl) Zn aa5 ?_ | refine lA hp rfl (za rfl) zK aa5 ?_) | ((refine zd _ _ _ rfl ?_); (first | refine sO hp rfl (za rfl) Zn aa5 ?_ | refine sA hp rfl (za rfl) (za rfl) zK aa5 ?_ | refine sG hp rfl (za rfl) (za rfl) zK aa5 ?_); clear hp; intro w1 hp; simp only [spl, z0a, z0b] at hp)); simp only [zc, zb, z0b, z0a]))
   go_ret
   refine ⟨?_, hp.below⟩
   rw [HF.out, List.drop_length]; rfl
theorem zk9 (vw nm bs : Int) (im : ByteArray) (ea : Option Addr) (n ec : Nat) (w : World) : Calls Tryz.prog 93 #[.agg #[.int .i64 vw, .int .i64 nm, .int .i64 bs, .string im, .slice ea n ec]] w fun e w' => e = .returned (.int .i64 (wrap64 (bs + (n : Int)))) ∧ Below w.heap.size w w' := by
 have hp := Hp.start w
 go_enter Tryz.func93, Tryz.ntmps93
 go_wp2_with (first | go_skip | ((first | ((refine zg _ rfl ?_); refine lZ hp rfl (by with_reducible first | exact Zh | exact zU) ?_; clear hp; intro b w1 hp) | ((refine zh _ _ rfl ?_); refine lB hp rfl (za rfl) rfl ?_; clear hp; intro b w1 hp) | ((refine zf _ _ rfl ?_); first | refine lO hp rfl (za rfl) Zn aa5 ?_ | refine lA hp rfl (za rfl) zK aa5 ?_) | ((refine zd _ _ _ rfl ?_); (first | refine sO hp rfl (za rfl) Zn aa5 ?_ | refine sA hp rfl (za rfl) (za rfl) zK aa5 ?_ | refine sG hp rfl (za rfl) (za rfl) zK aa5 ?_); clear hp; intro w1 hp; simp only [spl, z0a, z0b] at hp)); simp only [zc, zb, z0b, z0a]))
 go_ret
 exact ⟨rfl, hp.below⟩
theorem zcF (nu vi cl sq kk hh ii nn cc vv tt : Int) (b : Bool) (hb : zdR ⟨nu, vi, cl, sq, ⟨kk, hh, ii, nn, cc, vv, tt⟩⟩ = b) (w : World) : Calls Tryz.prog 126 #[.agg #[.int .i64 nu, .int .i64 vi, .int .i64 cl, .int .i64 sq, .int .i64 kk, .int .i64 hh, .int .i64 ii, .int .i64 nn, .int .i64 cc, .int .i64 vv, .int .i64 tt]] w fun x w' => x = .returned (.bool b) ∧ Below w.heap.size w w' := hb ▸ znv ⟨nu, vi, cl, sq, ⟨kk, hh, ii, nn, cc, vv, tt⟩⟩ w
theorem zik (s : ByteArray) (x : Sv) (hr : Zz (zbG s) = some x) (ad : Option Addr) (c : Nat) (hc : s.size ≤ c) (hs : s.size ≤ 1000000000) (w : World) (ha : zaw w ad (zbG s)) : Calls Tryz.prog 44 #[.slice ad s.size c] w (zor w x) := by
 have h := zlX (zbG s) ad c (by rw [ZP]; exact hc) (by rw [ZP]; exact hs) w ha
 rw [ZP] at h
 refine h.mono fun e w' h => ?_
 rw [hr] at h
 obtain ⟨y, R, h1, h2, h3, h4⟩ := h
 obtain ⟨⟨od, oa, os, oc, nx, t0, t1, t2, t3, fa, fs, fc⟩, ra, rs, rc⟩ := y
 exact ⟨od, oa, os, oc, nx, t0, t1, t2, t3, fa, fs, fc, ra, rs, rc, R, h1, h2, h3, h4⟩
theorem zjv (s : ByteArray) (hr : Zz (zbG s) = none) (ad : Option Addr) (c : Nat) (hc : s.size ≤ c) (hs : s.size ≤ 1000000000) (w : World) (ha : zaw w ad (zbG s)) : Calls Tryz.prog 44 #[.slice ad s.size c] w fun e w' => e = .returned (.tuple #[.agg #[.int .i64 0, .slice none 0 0, .int .i64 0, .int .i64 0, .int .i64 0, .int .i64 0, .int .i64 0, .slice none 0 0, .slice none 0 0], .int .i64 60]) ∧ Below w.heap.size w w' := by
 have h := zlX (zbG s) ad c (by rw [ZP]; exact hc) (by rw [ZP]; exact hs) w ha
 rw [ZP] at h
 refine h.mono fun e w' h => ?_
 rw [hr] at h
 exact h
theorem zcG (x : Kv) : okC x = true ↔ (0 ≤ x.vw ∧ x.vw ≤ 900000000) ∧ (0 ≤ x.nm ∧ x.nm ≤ x.vw) ∧ (0 ≤ x.bs ∧ x.bs ≤ 900000000) ∧ x.es.length ≤ 4000 ∧ zc5 x.bs 0 x.es = true ∧ zbj x.nm 0 x.es = true ∧ (Zz (zbG x.im)).isSome = true := by
 unfold okC inM
 simp only [Bool.and_eq_true, decide_eq_true_eq]
def ziW (es : List Env) (q : Nat) (v : Int) : Prop := (q = 0 → v = 0) ∧ (0 < q → ∃ y, es[q - 1]? = some y ∧ y.vi = v)
theorem zkU {es : List Env} (hel : es.length ≤ 4000) {nm : Int} {q : Nat} {v : Int} {x : Env} (h : ziW es q v) (hx : es[q]? = some x) (hr : zbj nm 0 es = zbj nm v (es.drop q)) :
  (zdR x = false ∧ zbj nm 0 es = false) ∨ (zdR x = true ∧ decide (nm < x.vi) = true ∧ zbj nm 0 es = false) ∨
  (zdR x = true ∧ decide (nm < x.vi) = false ∧ decide ((0 : Int) < (q : Int)) = false ∧ decide (0 < q) = false ∧ zbj nm 0 es = zbj nm x.vi (es.drop (q + 1)) ∧ ziW es (q + 1) x.vi) ∨
  (∃ (k : Nat) (y : Env), zdR x = true ∧ decide (nm < x.vi) = false ∧ decide ((0 : Int) < (q : Int)) = true ∧ decide (0 < q) = true ∧ wrap64 ((q : Int) - 1) = (k : Int) ∧ (0 : Int) ≤ (k : Int) ∧ (k : Int) < (es.length : Int) ∧ es[k]? = some y ∧ decide (x.vi < y.vi) = true ∧ zbj nm 0 es = false) ∨
  (∃ (k : Nat) (y : Env), zdR x = true ∧ decide (nm < x.vi) = false ∧ decide ((0 : Int) < (q : Int)) = true ∧ decide (0 < q) = true ∧ wrap64 ((q : Int) - 1) = (k : Int) ∧ (0 : Int) ≤ (k : Int) ∧ (k : Int) < (es.length : Int) ∧ es[k]? = some y ∧ decide (x.vi < y.vi) = false ∧ zbj nm 0 es = zbj nm x.vi (es.drop (q + 1)) ∧ ziW es (q + 1) x.vi) := by
 have hql := (List.getElem?_eq_some_iff.1 hx).1
 have hd : es.drop q = x :: es.drop (q + 1) := by
  rw [List.drop_eq_getElem_cons hql]
  congr 1
  rw [List.getElem?_eq_getElem hql] at hx; injection hx
 have hc : zbj nm 0 es = (zdR x && (inM x.vi v nm && zbj nm x.vi (es.drop (q + 1)))) := by rw [hr, hd]; rfl
 have hnext : ziW es (q + 1) x.vi := ⟨fun h => by omega, fun _ => ⟨x, by simpa using hx, rfl⟩⟩
 cases hm : zdR x with
 | false => left; exact ⟨rfl, by rw [hc, hm]; rfl⟩
 | true =>
  right
  have hf := ziv hm
  by_cases h1 : nm < x.vi
  ·left
   refine ⟨rfl, decide_eq_true h1, ?_⟩
   rw [hc, hm, show inM x.vi v nm = false by unfold inM; simp; omega]; rfl
  ·right
   rcases Nat.eq_zero_or_pos q with h0 | h0
   ·left
    have hv := h.1 h0
    refine ⟨rfl, decide_eq_false h1, by simp; omega, by simp; omega, ?_, hnext⟩
    rw [hc, hm, show inM x.vi v nm = true by unfold inM; simp; omega]; rfl
   ·right
    obtain ⟨y, hy, hyv⟩ := h.2 h0
    have w1 : wrap64 ((q : Int) - 1) = ((q - 1 : Nat) : Int) := by unfold wrap64; omega
    by_cases h2 : x.vi < y.vi
    ·left
     refine ⟨q - 1, y, rfl, decide_eq_false h1, by simp; omega, by simp; omega, w1, by omega, by omega, hy, decide_eq_true h2, ?_⟩
     rw [hc, hm, show inM x.vi v nm = false by unfold inM; simp; omega]; rfl
    ·right
     refine ⟨q - 1, y, rfl, decide_eq_false h1, by simp; omega, by simp; omega, w1, by omega, by omega, hy, decide_eq_false h2, ?_, hnext⟩
     rw [hc, hm, show inM x.vi v nm = true by unfold inM; simp; omega]; rfl
theorem zb7 (vw nm bs : Int) (im : ByteArray) (ea : Option Addr) (es : List Env) (ec : Nat) (b : Bool) (hb : okC ⟨vw, nm, bs, im, ea, es, ec⟩ = b) (hs : Kv.Small ⟨vw, nm, bs, im, ea, es, ec⟩) (w : World) (ha : zr w ea (es.flatMap Zi)) :
  Calls Tryz.prog 92 #[.agg #[.int .i64 vw, .int .i64 nm, .int .i64 bs, .string im, .slice ea es.length ec]] w fun e w' => e = .returned (.bool b) ∧ Below w.heap.size w w' := by
 subst hb
 have hp := Hp.start w
 have HA := z0j ha
 have hsl : es.length ≤ 100000 := hs.1
 have HL := z0j hsl
 have hsi : im.size ≤ 1000000 := hs.2
 have HIM : Hid (im.size ≤ 1000000000) := z0j (by omega)
 clear ha hs hsi
 by_cases h1 : vw < 0
 ·have e1 : decide (vw < 0) = true := decide_eq_true h1
  (have HNO : Hid (okC ⟨vw, nm, bs, im, ea, es, ec⟩ = false) := z0j (Bool.eq_false_iff.2 fun h => by have := (zcG _).1 h; simp only at this; first | omega | (rw [this.2.2.2.2.1] at h5; cases h5)); go_enter Tryz.func92, Tryz.ntmps92; go_wp2_with (first | (go_at_call 158; (with_reducible refine (ZD es bs ea ec _ H5.out HL.out _ (HA.out.below hp.below)).mono ?_); rintro e w1 ⟨rfl, hb⟩; replace hp := hp.call hb; clear hb) | go_skip | ((first | ((refine zg _ rfl ?_); refine lZ hp rfl (by with_reducible first | exact Zh | exact zU) ?_; clear hp; intro b w1 hp) | ((refine zh _ _ rfl ?_); refine lB hp rfl (za rfl) rfl ?_; clear hp; intro b w1 hp) | ((refine zf _ _ rfl ?_); first | refine lO hp rfl (za rfl) Zn aa5 ?_ | refine lA hp rfl (za rfl) zK aa5 ?_) | ((refine zd _ _ _ rfl ?_); (first | refine sO hp rfl (za rfl) Zn aa5 ?_ | refine sA hp rfl (za rfl) (za rfl) zK aa5 ?_ | refine sG hp rfl (za rfl) (za rfl) zK aa5 ?_); clear hp; intro w1 hp; simp only [spl, z0a, z0b] at hp)); simp only [zc, zb, z0b, z0a])); go_ret; exact ⟨zL HNO.out.symm, hp.below⟩)
 have e1 : decide (vw < 0) = false := decide_eq_false h1
 by_cases h2 : 900000000 < vw
 ·have e2 : decide (900000000 < vw) = true := decide_eq_true h2
  (have HNO : Hid (okC ⟨vw, nm, bs, im, ea, es, ec⟩ = false) := z0j (Bool.eq_false_iff.2 fun h => by have := (zcG _).1 h; simp only at this; first | omega | (rw [this.2.2.2.2.1] at h5; cases h5)); go_enter Tryz.func92, Tryz.ntmps92; go_wp2_with (first | (go_at_call 158; (with_reducible refine (ZD es bs ea ec _ H5.out HL.out _ (HA.out.below hp.below)).mono ?_); rintro e w1 ⟨rfl, hb⟩; replace hp := hp.call hb; clear hb) | go_skip | ((first | ((refine zg _ rfl ?_); refine lZ hp rfl (by with_reducible first | exact Zh | exact zU) ?_; clear hp; intro b w1 hp) | ((refine zh _ _ rfl ?_); refine lB hp rfl (za rfl) rfl ?_; clear hp; intro b w1 hp) | ((refine zf _ _ rfl ?_); first | refine lO hp rfl (za rfl) Zn aa5 ?_ | refine lA hp rfl (za rfl) zK aa5 ?_) | ((refine zd _ _ _ rfl ?_); (first | refine sO hp rfl (za rfl) Zn aa5 ?_ | refine sA hp rfl (za rfl) (za rfl) zK aa5 ?_ | refine sG hp rfl (za rfl) (za rfl) zK aa5 ?_); clear hp; intro w1 hp; simp only [spl, z0a, z0b] at hp)); simp only [zc, zb, z0b, z0a])); go_ret; exact ⟨zL HNO.out.symm, hp.below⟩)
 have e2 : decide (900000000 < vw) = false := decide_eq_false h2
 by_cases h3 : nm < 0
 ·have e3 : decide (nm < 0) = true := decide_eq_true h3
  (have HNO : Hid (okC ⟨vw, nm, bs, im, ea, es, ec⟩ = false) := z0j (Bool.eq_false_iff.2 fun h => by have := (zcG _).1 h; simp only at this; first | omega | (rw [this.2.2.2.2.1] at h5; cases h5)); go_enter Tryz.func92, Tryz.ntmps92; go_wp2_with (first | (go_at_call 158; (with_reducible refine (ZD es bs ea ec _ H5.out HL.out _ (HA.out.below hp.below)).mono ?_); rintro e w1 ⟨rfl, hb⟩; replace hp := hp.call hb; clear hb) | go_skip | ((first | ((refine zg _ rfl ?_); refine lZ hp rfl (by with_reducible first | exact Zh | exact zU) ?_; clear hp; intro b w1 hp) | ((refine zh _ _ rfl ?_); refine lB hp rfl (za rfl) rfl ?_; clear hp; intro b w1 hp) | ((refine zf _ _ rfl ?_); first | refine lO hp rfl (za rfl) Zn aa5 ?_ | refine lA hp rfl (za rfl) zK aa5 ?_) | ((refine zd _ _ _ rfl ?_); (first | refine sO hp rfl (za rfl) Zn aa5 ?_ | refine sA hp rfl (za rfl) (za rfl) zK aa5 ?_ | refine sG hp rfl (za rfl) (za rfl) zK aa5 ?_); clear hp; intro w1 hp; simp only [spl, z0a, z0b] at hp)); simp only [zc, zb, z0b, z0a])); go_ret; exact ⟨zL HNO.out.symm, hp.below⟩)
 have e3 : decide (nm < 0) = false := decide_eq_false h3
 by_cases h4 : vw < nm
 ·have e4 : decide (vw < nm) = true := decide_eq_true h4
  (have HNO : Hid (okC ⟨vw, nm, bs, im, ea, es, ec⟩ = false) := z0j (Bool.eq_false_iff.2 fun h => by have := (zcG _).1 h; simp only at this; first | omega | (rw [this.2.2.2.2.1] at h5; cases h5)); go_enter Tryz.func92, Tryz.ntmps92; go_wp2_with (first | (go_at_call 158; (with_reducible refine (ZD es bs ea ec _ H5.out HL.out _ (HA.out.below hp.below)).mono ?_); rintro e w1 ⟨rfl, hb⟩; replace hp := hp.call hb; clear hb) | go_skip | ((first | ((refine zg _ rfl ?_); refine lZ hp rfl (by with_reducible first | exact Zh | exact zU) ?_; clear hp; intro b w1 hp) | ((refine zh _ _ rfl ?_); refine lB hp rfl (za rfl) rfl ?_; clear hp; intro b w1 hp) | ((refine zf _ _ rfl ?_); first | refine lO hp rfl (za rfl) Zn aa5 ?_ | refine lA hp rfl (za rfl) zK aa5 ?_) | ((refine zd _ _ _ rfl ?_); (first | refine sO hp rfl (za rfl) Zn aa5 ?_ | refine sA hp rfl (za rfl) (za rfl) zK aa5 ?_ | refine sG hp rfl (za rfl) (za rfl) zK aa5 ?_); clear hp; intro w1 hp; simp only [spl, z0a, z0b] at hp)); simp only [zc, zb, z0b, z0a])); go_ret; exact ⟨zL HNO.out.symm, hp.below⟩)
 have e4 : decide (vw < nm) = false := decide_eq_false h4
 by_cases h6 : bs < 0
 ·have e6 : decide (bs < 0) = true := decide_eq_true h6
  (have HNO : Hid (okC ⟨vw, nm, bs, im, ea, es, ec⟩ = false) := z0j (Bool.eq_false_iff.2 fun h => by have := (zcG _).1 h; simp only at this; first | omega | (rw [this.2.2.2.2.1] at h5; cases h5)); go_enter Tryz.func92, Tryz.ntmps92; go_wp2_with (first | (go_at_call 158; (with_reducible refine (ZD es bs ea ec _ H5.out HL.out _ (HA.out.below hp.below)).mono ?_); rintro e w1 ⟨rfl, hb⟩; replace hp := hp.call hb; clear hb) | go_skip | ((first | ((refine zg _ rfl ?_); refine lZ hp rfl (by with_reducible first | exact Zh | exact zU) ?_; clear hp; intro b w1 hp) | ((refine zh _ _ rfl ?_); refine lB hp rfl (za rfl) rfl ?_; clear hp; intro b w1 hp) | ((refine zf _ _ rfl ?_); first | refine lO hp rfl (za rfl) Zn aa5 ?_ | refine lA hp rfl (za rfl) zK aa5 ?_) | ((refine zd _ _ _ rfl ?_); (first | refine sO hp rfl (za rfl) Zn aa5 ?_ | refine sA hp rfl (za rfl) (za rfl) zK aa5 ?_ | refine sG hp rfl (za rfl) (za rfl) zK aa5 ?_); clear hp; intro w1 hp; simp only [spl, z0a, z0b] at hp)); simp only [zc, zb, z0b, z0a])); go_ret; exact ⟨zL HNO.out.symm, hp.below⟩)
 have e6 : decide (bs < 0) = false := decide_eq_false h6
 by_cases h7 : 900000000 < bs
 ·have e7 : decide (900000000 < bs) = true := decide_eq_true h7
  (have HNO : Hid (okC ⟨vw, nm, bs, im, ea, es, ec⟩ = false) := z0j (Bool.eq_false_iff.2 fun h => by have := (zcG _).1 h; simp only at this; first | omega | (rw [this.2.2.2.2.1] at h5; cases h5)); go_enter Tryz.func92, Tryz.ntmps92; go_wp2_with (first | (go_at_call 158; (with_reducible refine (ZD es bs ea ec _ H5.out HL.out _ (HA.out.below hp.below)).mono ?_); rintro e w1 ⟨rfl, hb⟩; replace hp := hp.call hb; clear hb) | go_skip | ((first | ((refine zg _ rfl ?_); refine lZ hp rfl (by with_reducible first | exact Zh | exact zU) ?_; clear hp; intro b w1 hp) | ((refine zh _ _ rfl ?_); refine lB hp rfl (za rfl) rfl ?_; clear hp; intro b w1 hp) | ((refine zf _ _ rfl ?_); first | refine lO hp rfl (za rfl) Zn aa5 ?_ | refine lA hp rfl (za rfl) zK aa5 ?_) | ((refine zd _ _ _ rfl ?_); (first | refine sO hp rfl (za rfl) Zn aa5 ?_ | refine sA hp rfl (za rfl) (za rfl) zK aa5 ?_ | refine sG hp rfl (za rfl) (za rfl) zK aa5 ?_); clear hp; intro w1 hp; simp only [spl, z0a, z0b] at hp)); simp only [zc, zb, z0b, z0a])); go_ret; exact ⟨zL HNO.out.symm, hp.below⟩)
 have e7 : decide (900000000 < bs) = false := decide_eq_false h7
 by_cases h8 : (4000 : Int) < (es.length : Int)
 ·have e8 : decide ((4000 : Int) < (es.length : Int)) = true := decide_eq_true h8
  (have HNO : Hid (okC ⟨vw, nm, bs, im, ea, es, ec⟩ = false) := z0j (Bool.eq_false_iff.2 fun h => by have := (zcG _).1 h; simp only at this; first | omega | (rw [this.2.2.2.2.1] at h5; cases h5)); go_enter Tryz.func92, Tryz.ntmps92; go_wp2_with (first | (go_at_call 158; (with_reducible refine (ZD es bs ea ec _ H5.out HL.out _ (HA.out.below hp.below)).mono ?_); rintro e w1 ⟨rfl, hb⟩; replace hp := hp.call hb; clear hb) | go_skip | ((first | ((refine zg _ rfl ?_); refine lZ hp rfl (by with_reducible first | exact Zh | exact zU) ?_; clear hp; intro b w1 hp) | ((refine zh _ _ rfl ?_); refine lB hp rfl (za rfl) rfl ?_; clear hp; intro b w1 hp) | ((refine zf _ _ rfl ?_); first | refine lO hp rfl (za rfl) Zn aa5 ?_ | refine lA hp rfl (za rfl) zK aa5 ?_) | ((refine zd _ _ _ rfl ?_); (first | refine sO hp rfl (za rfl) Zn aa5 ?_ | refine sA hp rfl (za rfl) (za rfl) zK aa5 ?_ | refine sG hp rfl (za rfl) (za rfl) zK aa5 ?_); clear hp; intro w1 hp; simp only [spl, z0a, z0b] at hp)); simp only [zc, zb, z0b, z0a])); go_ret; exact ⟨zL HNO.out.symm, hp.below⟩)
 have e8 : decide ((4000 : Int) < (es.length : Int)) = false := decide_eq_false h8
 cases h5 : zc5 bs 0 es with
 | false =>
  have H5 := z0j h5
  (have HNO : Hid (okC ⟨vw, nm, bs, im, ea, es, ec⟩ = false) := z0j (Bool.eq_false_iff.2 fun h => by have := (zcG _).1 h; simp only at this; first | omega | (rw [this.2.2.2.2.1] at h5; cases h5)); go_enter Tryz.func92, Tryz.ntmps92; go_wp2_with (first | (go_at_call 158; (with_reducible refine (ZD es bs ea ec _ H5.out HL.out _ (HA.out.below hp.below)).mono ?_); rintro e w1 ⟨rfl, hb⟩; replace hp := hp.call hb; clear hb) | go_skip | ((first | ((refine zg _ rfl ?_); refine lZ hp rfl (by with_reducible first | exact Zh | exact zU) ?_; clear hp; intro b w1 hp) | ((refine zh _ _ rfl ?_); refine lB hp rfl (za rfl) rfl ?_; clear hp; intro b w1 hp) | ((refine zf _ _ rfl ?_); first | refine lO hp rfl (za rfl) Zn aa5 ?_ | refine lA hp rfl (za rfl) zK aa5 ?_) | ((refine zd _ _ _ rfl ?_); (first | refine sO hp rfl (za rfl) Zn aa5 ?_ | refine sA hp rfl (za rfl) (za rfl) zK aa5 ?_ | refine sG hp rfl (za rfl) (za rfl) zK aa5 ?_); clear hp; intro w1 hp; simp only [spl, z0a, z0b] at hp)); simp only [zc, zb, z0b, z0a])); go_ret; exact ⟨zL HNO.out.symm, hp.below⟩)
 | true =>
  have H5 := z0j h5
  have HOK : Hid (okC ⟨vw, nm, bs, im, ea, es, ec⟩ = (zbj nm 0 es && (Zz (zbG im)).isSome)) := z0j (by
   unfold okC inM
   simp only
   rw [h5]
   have g1 : decide (0 ≤ vw) = true := by simp; omega
   have g2 : decide (vw ≤ 900000000) = true := by simp; omega
   have g3 : decide (0 ≤ nm) = true := by simp; omega
   have g4 : decide (nm ≤ vw) = true := by simp; omega
   have g5 : decide (0 ≤ bs) = true := by simp; omega
   have g6 : decide (bs ≤ 900000000) = true := by simp; omega
   have g7 : decide (es.length ≤ 4000) = true := by simp; omega
   rw [g1, g2, g3, g4, g5, g6, g7]
   simp)
  have hel : es.length ≤ 4000 := by omega
  clear h5 h1 h2 h3 h4 h6 h7 h8
  go_enter Tryz.func92, Tryz.ntmps92
  go_wp2_with (first | (go_at_call 158; (with_reducible refine (ZD es bs ea ec _ H5.out HL.out _ (HA.out.below hp.below)).mono ?_); rintro e w1 ⟨rfl, hb⟩; replace hp := hp.call hb; clear hb) | go_skip | ((first | ((refine zg _ rfl ?_); refine lZ hp rfl (by with_reducible first | exact Zh | exact zU) ?_; clear hp; intro b w1 hp) | ((refine zh _ _ rfl ?_); refine lB hp rfl (za rfl) rfl ?_; clear hp; intro b w1 hp) | ((refine zf _ _ rfl ?_); first | refine lO hp rfl (za rfl) Zn aa5 ?_ | refine lA hp rfl (za rfl) zK aa5 ?_) | ((refine zd _ _ _ rfl ?_); (first | refine sO hp rfl (za rfl) Zn aa5 ?_ | refine sA hp rfl (za rfl) (za rfl) zK aa5 ?_ | refine sG hp rfl (za rfl) (za rfl) zK aa5 ?_); clear hp; intro w1 hp; simp only [spl, z0a, z0b] at hp)); simp only [zc, zb, z0b, z0a]))
  obtain ⟨bk, rfl⟩ := hp.id0
  go_loopg [3] es.length (fun k i wr => ∃ (q : Nat) (vq : Int), k + q = es.length ∧ i = .int .i64 q ∧ Hid (zbj nm 0 es = zbj nm vq (es.drop q)) ∧ Hid (ziW es q vq) ∧ Hp w.heap.size w wr [⟨bk, [.int .i64 vw, .int .i64 nm, .int .i64 bs, .string im, .slice ea es.length ec], 24, 5⟩])
  case atStart => exact ⟨0, 0, by omega, rfl, z0j rfl, z0j ⟨fun _ => rfl, fun h => absurd h (Nat.lt_irrefl 0)⟩, hp⟩
  case round =>
   clear hp
   obtain ⟨q, vq, hkq, rfl, HF, HLV, hp⟩ := hrel
   by_cases hlt : q < es.length
   ·obtain ⟨bq, off, rfl, hx⟩ := HA.out.elems 11 ZM (by omega) (by omega)
    have HE := z0j hx
    have hj := List.getElem?_eq_getElem hlt
    replace hx := hx q _ hj
    have hways := zkU hel HLV.out hj HF.out
    clear hj
    generalize es[q] = en at hx hways
    obtain ⟨nu, vi, cl, sq, ⟨kk, hh, ii, nn, cc, vv, tt⟩⟩ := en
    simp only [Zi, opL, z0f, z0e] at hx
    have HX := z0j hx
    have f1 : (0 : Int) ≤ (q : Int) := by omega
    have f2 : (q : Int) < (es.length : Int) := by omega
    clear hx
    rcases hways with ⟨hm, hr⟩ | ⟨hm, d0, hr⟩ | ⟨hm, d0, d1, d2, hn, hl⟩ | ⟨k, y, hm, d0, d1, d2, d3, d5, d6, hy, hle, hr⟩ | ⟨k, y, hm, d0, d1, d2, d3, d5, d6, hy, hle, hn, hl⟩
    ·have HM := z0j hm
     have HRR := z0j hr
     clear hm hr HE
     go_wp2_with (first | go_skip | ((first | ((refine zg _ rfl ?_); refine lZ hp rfl (by with_reducible first | exact Zh | exact zU) ?_; clear hp; intro b w1 hp) | ((refine zh _ _ rfl ?_); refine lB hp rfl (za rfl) rfl ?_; clear hp; intro b w1 hp) | ((refine zf _ _ rfl ?_); first | refine lO hp rfl (za rfl) Zn aa5 ?_ | refine lA hp rfl (za rfl) zK aa5 ?_ | refine lR hp rfl (za rfl) zK HX.out ?_) | ((refine zd _ _ _ rfl ?_); (first | refine sO hp rfl (za rfl) Zn aa5 ?_ | refine sA hp rfl (za rfl) (za rfl) zK aa5 ?_ | refine sG hp rfl (za rfl) (za rfl) zK aa5 ?_); clear hp; intro w1 hp; simp only [spl, z0a, z0b] at hp)); simp only [zc, zb, z0b, z0a]))
     refine zk _ (zE.all hp.drew) [] [(0, true), (1, false), (2, true), (3, true), (4, true), (5, true), (6, true), (7, true), (8, true), (9, true), (10, true), (11, true), (12, true), (13, true), (14, true), (15, true), (16, true), (17, true), (18, true), (19, true), (20, true), (21, true), (22, true), (23, true), (24, true), (25, true)] (by kernel_rfl) (by kernel_rfl) rfl (by kernel_rfl) (fun _ _ d _ _ h => by cases d <;> exact h) ?_
     replace hp := hp.drew
     repeat' (with_reducible refine zG ?_); first | (with_reducible refine zw ?_) | ((with_reducible refine zR ?_); refine zy rfl ?_; (first | ((with_reducible refine za0 _ _ rfl ?_); refine tS (by first | exact Zc rfl rfl rfl rfl | exact Zm rfl rfl rfl rfl) ?_) | ((with_reducible refine Zy _ rfl ?_); refine tM rfl ?_) | ((with_reducible refine Zt _ _ rfl ?_); first | refine tA rfl (za rfl) Zq aa5 ?_ | refine tO rfl (za rfl) (by with_reducible first | exact zq | exact zO) aa5 ?_ | refine tR rfl (za rfl) Zq HX.out ?_ | refine tRO rfl (za rfl) (by with_reducible first | exact zq | exact zO) (HX.out 0 _ rfl) ?_ | refine tRO rfl (za rfl) (by with_reducible first | exact zq | exact zO) (HX.out 1 _ rfl) ?_) | refine tG (fun w _ => (by go_simp; try rfl)) ?_); try simp only [zc, zb, zm, zj, z0b, z0a, z0d, z0c, zn]) | (refine zQ rfl (fun K hK => ?_); go_wp2_with (first | (go_at_call 126; (with_reducible refine (zcF _ _ _ _ _ _ _ _ _ _ _ _ HM.out _).mono ?_); rintro e w1 ⟨rfl, hb⟩; replace hp := hp.call hb; clear hb) | go_skip); (refine hK.out _ _ (.inr (zdp hp)) ?_); clear hK K; try simp only [zc, zb, zm, zj, z0b, z0a, z0d, z0c, zn])
     (go_wp2_with (first | go_skip | ((first | ((refine zg _ rfl ?_); refine lZ hp rfl (by with_reducible first | exact Zh | exact zU) ?_; clear hp; intro b w1 hp) | ((refine zh _ _ rfl ?_); refine lB hp rfl (za rfl) rfl ?_; clear hp; intro b w1 hp) | ((refine zf _ _ rfl ?_); first | refine lO hp rfl (za rfl) Zn aa5 ?_ | refine lA hp rfl (za rfl) zK aa5 ?_) | ((refine zd _ _ _ rfl ?_); (first | refine sO hp rfl (za rfl) Zn aa5 ?_ | refine sA hp rfl (za rfl) (za rfl) zK aa5 ?_ | refine sG hp rfl (za rfl) (za rfl) zK aa5 ?_); clear hp; intro w1 hp; simp only [spl, z0a, z0b] at hp)); simp only [zc, zb, z0b, z0a])); go_ret; refine ⟨zL ?_, hp.below⟩; rw [HOK.out, HRR.out, Bool.false_and])
    ·have HM := z0j hm
     have HRR := z0j hr
     simp only at d0
     clear hm hr HE
     go_wp2_with (first | go_skip | ((first | ((refine zg _ rfl ?_); refine lZ hp rfl (by with_reducible first | exact Zh | exact zU) ?_; clear hp; intro b w1 hp) | ((refine zh _ _ rfl ?_); refine lB hp rfl (za rfl) rfl ?_; clear hp; intro b w1 hp) | ((refine zf _ _ rfl ?_); first | refine lO hp rfl (za rfl) Zn aa5 ?_ | refine lA hp rfl (za rfl) zK aa5 ?_ | refine lR hp rfl (za rfl) zK HX.out ?_) | ((refine zd _ _ _ rfl ?_); (first | refine sO hp rfl (za rfl) Zn aa5 ?_ | refine sA hp rfl (za rfl) (za rfl) zK aa5 ?_ | refine sG hp rfl (za rfl) (za rfl) zK aa5 ?_); clear hp; intro w1 hp; simp only [spl, z0a, z0b] at hp)); simp only [zc, zb, z0b, z0a]))
     refine zk _ (zE.all hp.drew) [] [(0, true), (1, false), (2, true), (3, true), (4, true), (5, true), (6, true), (7, true), (8, true), (9, true), (10, true), (11, true), (12, true), (13, true), (14, true), (15, true), (16, true), (17, true), (18, true), (19, true), (20, true), (21, true), (22, true), (23, true), (24, true), (25, true)] (by kernel_rfl) (by kernel_rfl) rfl (by kernel_rfl) (fun _ _ d _ _ h => by cases d <;> exact h) ?_
     replace hp := hp.drew
     repeat' (with_reducible refine zG ?_); first | (with_reducible refine zw ?_) | ((with_reducible refine zR ?_); refine zy rfl ?_; (first | ((with_reducible refine za0 _ _ rfl ?_); refine tS (by first | exact Zc rfl rfl rfl rfl | exact Zm rfl rfl rfl rfl) ?_) | ((with_reducible refine Zy _ rfl ?_); refine tM rfl ?_) | ((with_reducible refine Zt _ _ rfl ?_); first | refine tA rfl (za rfl) Zq aa5 ?_ | refine tO rfl (za rfl) (by with_reducible first | exact zq | exact zO) aa5 ?_ | refine tR rfl (za rfl) Zq HX.out ?_ | refine tRO rfl (za rfl) (by with_reducible first | exact zq | exact zO) (HX.out 0 _ rfl) ?_ | refine tRO rfl (za rfl) (by with_reducible first | exact zq | exact zO) (HX.out 1 _ rfl) ?_) | refine tG (fun w _ => (by go_simp; try rfl)) ?_); try simp only [zc, zb, zm, zj, z0b, z0a, z0d, z0c, zn]) | (refine zQ rfl (fun K hK => ?_); go_wp2_with (first | (go_at_call 126; (with_reducible refine (zcF _ _ _ _ _ _ _ _ _ _ _ _ HM.out _).mono ?_); rintro e w1 ⟨rfl, hb⟩; replace hp := hp.call hb; clear hb) | go_skip); (refine hK.out _ _ (.inr (zdp hp)) ?_); clear hK K; try simp only [zc, zb, zm, zj, z0b, z0a, z0d, z0c, zn])
     (go_wp2_with (first | go_skip | ((first | ((refine zg _ rfl ?_); refine lZ hp rfl (by with_reducible first | exact Zh | exact zU) ?_; clear hp; intro b w1 hp) | ((refine zh _ _ rfl ?_); refine lB hp rfl (za rfl) rfl ?_; clear hp; intro b w1 hp) | ((refine zf _ _ rfl ?_); first | refine lO hp rfl (za rfl) Zn aa5 ?_ | refine lA hp rfl (za rfl) zK aa5 ?_) | ((refine zd _ _ _ rfl ?_); (first | refine sO hp rfl (za rfl) Zn aa5 ?_ | refine sA hp rfl (za rfl) (za rfl) zK aa5 ?_ | refine sG hp rfl (za rfl) (za rfl) zK aa5 ?_); clear hp; intro w1 hp; simp only [spl, z0a, z0b] at hp)); simp only [zc, zb, z0b, z0a])); go_ret; refine ⟨zL ?_, hp.below⟩; rw [HOK.out, HRR.out, Bool.false_and])
    ·have HM := z0j hm
     have HNN := z0j hn
     have HLL := z0j hl
     simp only at d0
     have d3 : ¬ 0 < q := by simpa using d2
     clear hm hn hl HE
     go_wp2_with (first | go_skip | ((first | ((refine zg _ rfl ?_); refine lZ hp rfl (by with_reducible first | exact Zh | exact zU) ?_; clear hp; intro b w1 hp) | ((refine zh _ _ rfl ?_); refine lB hp rfl (za rfl) rfl ?_; clear hp; intro b w1 hp) | ((refine zf _ _ rfl ?_); first | refine lO hp rfl (za rfl) Zn aa5 ?_ | refine lA hp rfl (za rfl) zK aa5 ?_ | refine lR hp rfl (za rfl) zK HX.out ?_) | ((refine zd _ _ _ rfl ?_); (first | refine sO hp rfl (za rfl) Zn aa5 ?_ | refine sA hp rfl (za rfl) (za rfl) zK aa5 ?_ | refine sG hp rfl (za rfl) (za rfl) zK aa5 ?_); clear hp; intro w1 hp; simp only [spl, z0a, z0b] at hp)); simp only [zc, zb, z0b, z0a]))
     refine zk _ (zE.all hp.drew) [] [(0, true), (1, false), (2, true), (3, true), (4, true), (5, true), (6, true), (7, true), (8, true), (9, true), (10, true), (11, true), (12, true), (13, true), (14, true), (15, true), (16, true), (17, true), (18, true), (19, true), (20, true), (21, true), (22, true), (23, true), (24, true), (25, true)] (by kernel_rfl) (by kernel_rfl) rfl (by kernel_rfl) (fun _ _ d _ _ h => by cases d <;> exact h) ?_
     replace hp := hp.drew
     repeat' (with_reducible refine zG ?_); first | (with_reducible refine zw ?_) | ((with_reducible refine zR ?_); refine zy rfl ?_; (first | ((with_reducible refine za0 _ _ rfl ?_); refine tS (by first | exact Zc rfl rfl rfl rfl | exact Zm rfl rfl rfl rfl) ?_) | ((with_reducible refine Zy _ rfl ?_); refine tM rfl ?_) | ((with_reducible refine Zt _ _ rfl ?_); first | refine tA rfl (za rfl) Zq aa5 ?_ | refine tO rfl (za rfl) (by with_reducible first | exact zq | exact zO) aa5 ?_ | refine tR rfl (za rfl) Zq HX.out ?_ | refine tRO rfl (za rfl) (by with_reducible first | exact zq | exact zO) (HX.out 0 _ rfl) ?_ | refine tRO rfl (za rfl) (by with_reducible first | exact zq | exact zO) (HX.out 1 _ rfl) ?_) | refine tG (fun w _ => (by go_simp; try rfl)) ?_); try simp only [zc, zb, zm, zj, z0b, z0a, z0d, z0c, zn]) | (refine zQ rfl (fun K hK => ?_); go_wp2_with (first | (go_at_call 126; (with_reducible refine (zcF _ _ _ _ _ _ _ _ _ _ _ _ HM.out _).mono ?_); rintro e w1 ⟨rfl, hb⟩; replace hp := hp.call hb; clear hb) | go_skip); (refine hK.out _ _ (.inr (zdp hp)) ?_); clear hK K; try simp only [zc, zb, zm, zj, z0b, z0a, z0d, z0c, zn])
     go_wp2_with (first | go_skip | ((first | ((refine zg _ rfl ?_); refine lZ hp rfl (by with_reducible first | exact Zh | exact zU) ?_; clear hp; intro b w1 hp) | ((refine zh _ _ rfl ?_); refine lB hp rfl (za rfl) rfl ?_; clear hp; intro b w1 hp) | ((refine zf _ _ rfl ?_); first | refine lO hp rfl (za rfl) Zn aa5 ?_ | refine lA hp rfl (za rfl) zK aa5 ?_) | ((refine zd _ _ _ rfl ?_); (first | refine sO hp rfl (za rfl) Zn aa5 ?_ | refine sA hp rfl (za rfl) (za rfl) zK aa5 ?_ | refine sG hp rfl (za rfl) (za rfl) zK aa5 ?_); clear hp; intro w1 hp; simp only [spl, z0a, z0b] at hp)); simp only [zc, zb, z0b, z0a]))
     go_roundg (gk - 1)
     case measure => omega
     case rel => exact ⟨q + 1, vi, by omega, by go_num, HNN, HLL, hp.tail⟩
    ·have HM := z0j hm
     have HRR := z0j hr
     have HY := HE.out _ _ hy
     obtain ⟨yn, yv, yc, ys, ⟨y1, y2, y3, y4, y5, y6, y7⟩⟩ := y
     simp only [Zi, opL, z0f, z0e] at HY
     have HK := z0j HY
     have HW := z0j d3
     have d7 : 0 < q := by simpa using d2
     simp only at d0 hle
     clear hm hr HE HY hy d3
     go_wp2_with (first | go_skip | ((first | ((refine zg _ rfl ?_); refine lZ hp rfl (by with_reducible first | exact Zh | exact zU) ?_; clear hp; intro b w1 hp) | ((refine zh _ _ rfl ?_); refine lB hp rfl (za rfl) rfl ?_; clear hp; intro b w1 hp) | ((refine zf _ _ rfl ?_); first | refine lO hp rfl (za rfl) Zn aa5 ?_ | refine lA hp rfl (za rfl) zK aa5 ?_ | refine lR hp rfl (za rfl) zK HX.out ?_) | ((refine zd _ _ _ rfl ?_); (first | refine sO hp rfl (za rfl) Zn aa5 ?_ | refine sA hp rfl (za rfl) (za rfl) zK aa5 ?_ | refine sG hp rfl (za rfl) (za rfl) zK aa5 ?_); clear hp; intro w1 hp; simp only [spl, z0a, z0b] at hp)); simp only [zc, zb, z0b, z0a]))
     refine zk _ (zE.all hp.drew) [] [(0, true), (1, false), (2, true), (3, true), (4, true), (5, true), (6, true), (7, true), (8, true), (9, true), (10, true), (11, true), (12, true), (13, true), (14, true), (15, true), (16, true), (17, true), (18, true), (19, true), (20, true), (21, true), (22, true), (23, true), (24, true), (25, true)] (by kernel_rfl) (by kernel_rfl) rfl (by kernel_rfl) (fun _ _ d _ _ h => by cases d <;> exact h) ?_
     replace hp := hp.drew
     repeat' (with_reducible refine zG ?_); first | (with_reducible refine zw ?_) | ((with_reducible refine zR ?_); refine zy rfl ?_; (first | ((with_reducible refine za0 _ _ rfl ?_); refine tS (by first | exact Zc rfl rfl rfl rfl | exact Zm rfl rfl rfl rfl) ?_) | ((with_reducible refine Zy _ rfl ?_); refine tM rfl ?_) | ((with_reducible refine Zt _ _ rfl ?_); first | refine tA rfl (za rfl) Zq aa5 ?_ | refine tO rfl (za rfl) (by with_reducible first | exact zq | exact zO) aa5 ?_ | refine tR rfl (za rfl) Zq HK.out ?_ | refine tRO rfl (za rfl) (by with_reducible first | exact zq | exact zO) (HK.out 0 _ rfl) ?_ | refine tRO rfl (za rfl) (by with_reducible first | exact zq | exact zO) (HK.out 1 _ rfl) ?_) | refine tG (fun w _ => (by go_simp; try rfl)) ?_); try simp only [zc, zb, zm, zj, z0b, z0a, z0d, z0c, zn, HW.out]) | (refine zQ rfl (fun K hK => ?_); go_wp2_with (first | (go_at_call 126; (with_reducible refine (zcF _ _ _ _ _ _ _ _ _ _ _ _ HM.out _).mono ?_); rintro e w1 ⟨rfl, hb⟩; replace hp := hp.call hb; clear hb) | go_skip); (refine hK.out _ _ (.inr (zdp hp)) ?_); clear hK K; try simp only [zc, zb, zm, zj, z0b, z0a, z0d, z0c, zn, HW.out])
     (go_wp2_with (first | go_skip | ((first | ((refine zg _ rfl ?_); refine lZ hp rfl (by with_reducible first | exact Zh | exact zU) ?_; clear hp; intro b w1 hp) | ((refine zh _ _ rfl ?_); refine lB hp rfl (za rfl) rfl ?_; clear hp; intro b w1 hp) | ((refine zf _ _ rfl ?_); first | refine lO hp rfl (za rfl) Zn aa5 ?_ | refine lA hp rfl (za rfl) zK aa5 ?_) | ((refine zd _ _ _ rfl ?_); (first | refine sO hp rfl (za rfl) Zn aa5 ?_ | refine sA hp rfl (za rfl) (za rfl) zK aa5 ?_ | refine sG hp rfl (za rfl) (za rfl) zK aa5 ?_); clear hp; intro w1 hp; simp only [spl, z0a, z0b] at hp)); simp only [zc, zb, z0b, z0a])); go_ret; refine ⟨zL ?_, hp.below⟩; rw [HOK.out, HRR.out, Bool.false_and])
    ·have HM := z0j hm
     have HNN := z0j hn
     have HLL := z0j hl
     have HY := HE.out _ _ hy
     obtain ⟨yn, yv, yc, ys, ⟨y1, y2, y3, y4, y5, y6, y7⟩⟩ := y
     simp only [Zi, opL, z0f, z0e] at HY
     have HK := z0j HY
     have HW := z0j d3
     have d7 : 0 < q := by simpa using d2
     simp only at d0 hle
     clear hm hn hl HE HY hy d3
     go_wp2_with (first | go_skip | ((first | ((refine zg _ rfl ?_); refine lZ hp rfl (by with_reducible first | exact Zh | exact zU) ?_; clear hp; intro b w1 hp) | ((refine zh _ _ rfl ?_); refine lB hp rfl (za rfl) rfl ?_; clear hp; intro b w1 hp) | ((refine zf _ _ rfl ?_); first | refine lO hp rfl (za rfl) Zn aa5 ?_ | refine lA hp rfl (za rfl) zK aa5 ?_ | refine lR hp rfl (za rfl) zK HX.out ?_) | ((refine zd _ _ _ rfl ?_); (first | refine sO hp rfl (za rfl) Zn aa5 ?_ | refine sA hp rfl (za rfl) (za rfl) zK aa5 ?_ | refine sG hp rfl (za rfl) (za rfl) zK aa5 ?_); clear hp; intro w1 hp; simp only [spl, z0a, z0b] at hp)); simp only [zc, zb, z0b, z0a]))
     refine zk _ (zE.all hp.drew) [] [(0, true), (1, false), (2, true), (3, true), (4, true), (5, true), (6, true), (7, true), (8, true), (9, true), (10, true), (11, true), (12, true), (13, true), (14, true), (15, true), (16, true), (17, true), (18, true), (19, true), (20, true), (21, true), (22, true), (23, true), (24, true), (25, true)] (by kernel_rfl) (by kernel_rfl) rfl (by kernel_rfl) (fun _ _ d _ _ h => by cases d <;> exact h) ?_
     replace hp := hp.drew
     repeat' (with_reducible refine zG ?_); first | (with_reducible refine zw ?_) | ((with_reducible refine zR ?_); refine zy rfl ?_; (first | ((with_reducible refine za0 _ _ rfl ?_); refine tS (by first | exact Zc rfl rfl rfl rfl | exact Zm rfl rfl rfl rfl) ?_) | ((with_reducible refine Zy _ rfl ?_); refine tM rfl ?_) | ((with_reducible refine Zt _ _ rfl ?_); first | refine tA rfl (za rfl) Zq aa5 ?_ | refine tO rfl (za rfl) (by with_reducible first | exact zq | exact zO) aa5 ?_ | refine tR rfl (za rfl) Zq HK.out ?_ | refine tRO rfl (za rfl) (by with_reducible first | exact zq | exact zO) (HK.out 0 _ rfl) ?_ | refine tRO rfl (za rfl) (by with_reducible first | exact zq | exact zO) (HK.out 1 _ rfl) ?_) | refine tG (fun w _ => (by go_simp; try rfl)) ?_); try simp only [zc, zb, zm, zj, z0b, z0a, z0d, z0c, zn, HW.out]) | (refine zQ rfl (fun K hK => ?_); go_wp2_with (first | (go_at_call 126; (with_reducible refine (zcF _ _ _ _ _ _ _ _ _ _ _ _ HM.out _).mono ?_); rintro e w1 ⟨rfl, hb⟩; replace hp := hp.call hb; clear hb) | go_skip); (refine hK.out _ _ (.inr (zdp hp)) ?_); clear hK K; try simp only [zc, zb, zm, zj, z0b, z0a, z0d, z0c, zn, HW.out])
     go_wp2_with (first | go_skip | ((first | ((refine zg _ rfl ?_); refine lZ hp rfl (by with_reducible first | exact Zh | exact zU) ?_; clear hp; intro b w1 hp) | ((refine zh _ _ rfl ?_); refine lB hp rfl (za rfl) rfl ?_; clear hp; intro b w1 hp) | ((refine zf _ _ rfl ?_); first | refine lO hp rfl (za rfl) Zn aa5 ?_ | refine lA hp rfl (za rfl) zK aa5 ?_) | ((refine zd _ _ _ rfl ?_); (first | refine sO hp rfl (za rfl) Zn aa5 ?_ | refine sA hp rfl (za rfl) (za rfl) zK aa5 ?_ | refine sG hp rfl (za rfl) (za rfl) zK aa5 ?_); clear hp; intro w1 hp; simp only [spl, z0a, z0b] at hp)); simp only [zc, zb, z0b, z0a]))
     go_roundg (gk - 1)
     case measure => omega
     case rel => exact ⟨q + 1, vi, by omega, by go_num, HNN, HLL, hp.tail⟩
   ·obtain rfl : q = es.length := by omega
    have f2 : decide ((es.length : Int) < (es.length : Int)) = false := by simp
    have HE : Hid (zbj nm 0 es = true) := z0j (by rw [HF.out, List.drop_length]; rfl)
    clear hkq hlt HF
    cases hst : Zz (zbG im) with
    | none =>
     have HS := z0j hst
     clear hst
     go_wp2_with (first | ((refine Zl _ _ _ rfl ?_); refine ZE hp 9 57 5 _ rfl wy Tryz.underlying9 Tryz.underlying57 Tryz.underlying5 _ (za rfl) ?_; clear hp; intro ad cb w1 hcb had hp; have HCB := z0j hcb; have HAD := z0j had; clear hcb had; simp only [zc, zb, z0b, z0a]) | (go_at_call 44; (with_reducible refine (zjv im HS.out ad cb HCB.out HIM.out _ HAD.out).mono ?_); rintro e w1 ⟨rfl, hb⟩; replace hp := hp.call hb; clear hb) | go_skip | ((first | ((refine zg _ rfl ?_); refine lZ hp rfl (by with_reducible first | exact Zh | exact zU) ?_; clear hp; intro b w1 hp) | ((refine zh _ _ rfl ?_); refine lB hp rfl (za rfl) rfl ?_; clear hp; intro b w1 hp) | ((refine zf _ _ rfl ?_); first | refine lO hp rfl (za rfl) Zn aa5 ?_ | refine lA hp rfl (za rfl) zK aa5 ?_) | ((refine zd _ _ _ rfl ?_); (first | refine sO hp rfl (za rfl) Zn aa5 ?_ | refine sA hp rfl (za rfl) (za rfl) zK aa5 ?_ | refine sG hp rfl (za rfl) (za rfl) zK aa5 ?_); clear hp; intro w1 hp; simp only [spl, z0a, z0b] at hp)); simp only [zc, zb, z0b, z0a]))
     go_ret
     refine ⟨zL ?_, hp.below⟩
     rw [HOK.out, HE.out, HS.out]; rfl
    | some x =>
     have HS := z0j hst
     clear hst
     go_wp2_with (first | ((refine Zl _ _ _ rfl ?_); refine ZE hp 9 57 5 _ rfl wy Tryz.underlying9 Tryz.underlying57 Tryz.underlying5 _ (za rfl) ?_; clear hp; intro ad cb w1 hcb had hp; have HCB := z0j hcb; have HAD := z0j had; clear hcb had; simp only [zc, zb, z0b, z0a]) | (go_at_call 44; (with_reducible refine (zik im _ HS.out ad cb HCB.out HIM.out _ HAD.out).mono ?_); rintro e w1 ⟨odX, oaX, osX, ocX, nxX, t0X, t1X, t2X, t3X, faX, fsX, fcX, raX, rsX, rcX, RX, rfl, _, _, hpn⟩; replace hp := hp.join hpn; clear hpn; simp only [z0f, z0e] at hp) | go_skip | ((first | ((refine zg _ rfl ?_); refine lZ hp rfl (by with_reducible first | exact Zh | exact zU) ?_; clear hp; intro b w1 hp) | ((refine zh _ _ rfl ?_); refine lB hp rfl (za rfl) rfl ?_; clear hp; intro b w1 hp) | ((refine zf _ _ rfl ?_); first | refine lO hp rfl (za rfl) Zn aa5 ?_ | refine lA hp rfl (za rfl) zK aa5 ?_) | ((refine zd _ _ _ rfl ?_); (first | refine sO hp rfl (za rfl) Zn aa5 ?_ | refine sA hp rfl (za rfl) (za rfl) zK aa5 ?_ | refine sG hp rfl (za rfl) (za rfl) zK aa5 ?_); clear hp; intro w1 hp; simp only [spl, z0a, z0b] at hp)); simp only [zc, zb, z0b, z0a]))
     go_ret
     refine ⟨zL ?_, hp.below⟩
     rw [HOK.out, HE.out, HS.out]; rfl
end Go.Proofs.YtaafajaadfgaoaaGreat
