import Derived.Test.YtaafajaadfgaoaaGreatFp32
set_option linter.unusedSimpArgs false
set_option linter.unusedVariables false
set_option maxRecDepth 100000
set_option maxHeartbeats 60000000
namespace Go.Proofs.YtaafajaadfgaoaaGreat
open Go.RowKit
theorem Z4 {ty : TypeId} {k : Nat} (h : zac Tryz.prog ty k = true := by with_reducible first | exact zF | exact Zr | exact Zq) : zac Tryz.prog ty k = true := h
theorem zaU {ty : TypeId} (h : zB Tryz.prog ty = true := by with_reducible first | exact zq | exact zA | exact zO | exact ZL | exact Ze | exact zaz) : zB Tryz.prog ty = true := h
theorem zD.cut {e : TypeId} {c n cap k : Nat} {a : Option Addr} {xs : List Value} {R : List Blk} (h : zD e c (.slice a n cap) n xs R) (hk : k ≤ n) :
  ∃ R', zD e c (.slice a k cap) k (xs.take (k * c)) R' ∧ ∀ (B : Nat) (w0 w : World) (M : List Blk), Hp B w0 w (R ++ M) → Hp B w0 w (R' ++ M) := by
 obtain ⟨hl, ⟨h0, ⟨a', hv⟩, hr⟩ | ⟨g', off', cap', pre, hv, h1, h2, h3, h4⟩⟩ := h
 ·injection hv with _ _ hc
  subst h0 hc hr
  obtain rfl : k = 0 := by omega
  have hx : xs = [] := List.eq_nil_of_length_eq_zero (by simpa using hl)
  subst hx
  exact ⟨[], by simpa using zD.nil e c a, fun _ _ _ _ hp => hp⟩
 ·injection hv with hv _ hc
  subst hv hc
  have hm := Nat.mul_le_mul_right c hk
  refine ⟨[⟨g', pre ++ xs.take (k * c), e, off' + cap * c⟩], ⟨by rw [List.length_take, hl]; omega, .inr ⟨g', off', cap, pre, rfl, by omega, h2, h3, rfl⟩⟩, fun B w0 w M hp => ?_⟩
  subst h4
  refine Hp.less (l2 := xs.drop (k * c)) ?_
  rw [List.append_assoc, List.take_append_drop]; exact hp
theorem zoC {R Rc : List Blk} (h : ∀ (B : Nat) (w0 w : World) (M : List Blk), Hp B w0 w (R ++ M) → Hp B w0 w (Rc ++ M)) {B : Nat} {w0 w : World} {x y : Blk} {T : List Blk} (hp : Hp B w0 w (x :: y :: (R ++ T))) : Hp B w0 w ([x, y] ++ (Rc ++ T)) := by
 have h1 : Hp B w0 w (R ++ (x :: y :: T)) := hp.kp
 have h2 := h _ _ _ _ h1
 exact h2.kp
theorem zie (bw : Nat) (vw nm bs : Int) (im : ByteArray) (ea : Option Addr) (es : List Env) (ec : Nat) (rv rf rn : Int) (rim : ByteArray) (nu vi cl sq kk hh ii nn cc vv tt : Int) (ra : Option Addr) (rs : List Env) (rc : Nat) {R TT : List Blk} {w0 w : World} (hR : zD 31 11 (.slice ea es.length ec) es.length (es.flatMap Zi) R) (hec : es.length ≤ ec) (hes : es.length ≤ 1500) (him : im.size ≤ 1000000) (hrs : rs.length ≤ 1500) (hrc : rs.length ≤ rc) (hri : rim.size ≤ 1000000) (hok : okC ⟨vw, nm, bs, im, ea, es, ec⟩ = true) (kd : Int) (hkd : kd = 3) (hp : Hp w0.heap.size w0 w (⟨bw, [.int .i64 vw, .int .i64 nm, .int .i64 bs, .string im, .slice ea es.length ec], 103, 5⟩ :: (R ++ TT))) (ha : zr w0 ra (rs.flatMap Zi)) : Calls Tryz.prog 70 #[.pointer (some ⟨bw, 0, none⟩), .agg #[.int .i64 kd, .int .i64 rv, .int .i64 rf, .int .i64 rn, .string rim, .int .i64 nu, .int .i64 vi, .int .i64 cl, .int .i64 sq, .int .i64 kk, .int .i64 hh, .int .i64 ii, .int .i64 nn, .int .i64 cc, .int .i64 vv, .int .i64 tt, .slice ra rs.length rc]] w (zfw w0 bw (ZQ ⟨vw, nm, bs, im, ea, es, ec⟩ ⟨kd, rv, rf, rn, rim, ⟨nu, vi, cl, sq, ⟨kk, hh, ii, nn, cc, vv, tt⟩⟩, ra, rs, rc⟩) TT) := by
 subst hkd
 have HR := z0j hR
 have HRA := z0j ha
 have hok2 := zcj hok
 simp only at hok2
 have e0 : wrap64 (bs + es.length) = bs + es.length := by unfold wrap64; omega
 have HRL : Hid (rs.length ≤ 100000) := z0j (by omega)
 by_cases h1 : rv < vw
 ·have hf : ZQ ⟨vw, nm, bs, im, ea, es, ec⟩ ⟨3, rv, rf, rn, rim, ⟨nu, vi, cl, sq, ⟨kk, hh, ii, nn, cc, vv, tt⟩⟩, ra, rs, rc⟩ = (141, ⟨vw, nm, bs, im, ea, es, ec⟩) := by unfold ZQ Zf; simp [h1]
  rw [hf]
  have e1 : decide (rv < vw) = true := by simpa using h1
  clear h1 hf hok hec hes him hrs hrc hri ha hR hok2
  go_enter Tryz.func70, Tryz.ntmps70
  go_wp2_with (first | (go_at_call 71; (with_reducible refine (ZK vw nm bs im _ _ ec _).mono ?_); rintro e w1 ⟨rfl, hb⟩; replace hp := hp.call hb; clear hb) | go_skip | ((first | ((refine zh _ _ rfl ?_); refine lB hp rfl (za rfl) rfl ?_; clear hp; intro b w1 hp) | ((refine zf _ _ rfl ?_); first | refine lO hp rfl (za rfl) zaU aa5 ?_ | refine lA hp rfl (za rfl) Z4 aa5 ?_) | ((refine zd _ _ _ rfl ?_); (first | refine sO hp rfl (za rfl) zaU aa5 ?_ | refine sA hp rfl (za rfl) (za rfl) Z4 aa5 ?_ | refine sG hp rfl (za rfl) (za rfl) Z4 aa5 ?_); clear hp; intro w1 hp; simp only [spl, z0a, z0b] at hp) | ((refine zi _ _ _ rfl ?_); refine lS hp rfl (by intro w; go_simp; rfl) ?_; clear hp; intro b w1 hp; simp only [z0g, z0h, Nat.reduceAdd] at hp)); simp only [zc, zb, z0b, z0a]))
  refine zk [_, _] (zE.two hp.drew at0 at1) [] [(0, true), (1, true), (2, true), (3, true), (4, true), (5, true), (6, true), (7, true)] (by kernel_rfl) (by kernel_rfl) rfl (by kernel_rfl) (fun _ _ d _ _ h => by cases d <;> exact h) ?_
  replace hp := hp.drew
  repeat' (with_reducible refine zG ?_); first | (with_reducible refine zw ?_) | ((with_reducible refine zR ?_); refine zy rfl ?_; (first | ((with_reducible refine Zy _ rfl ?_); refine tM rfl ?_) | ((with_reducible refine Zt _ _ rfl ?_); refine tO rfl (za rfl) zq aa5 ?_) | refine tG (fun w _ => (by go_simp; try rfl)) ?_); try simp only [zc, zb, zm, zj, z0b, z0a, z0d, z0c, zn])
  go_wp2_with (first | (go_at_call 71; (with_reducible refine (ZK vw nm bs im _ _ ec _).mono ?_); rintro e w1 ⟨rfl, hb⟩; replace hp := hp.call hb; clear hb) | go_skip | ((first | ((refine zh _ _ rfl ?_); refine lB hp rfl (za rfl) rfl ?_; clear hp; intro b w1 hp) | ((refine zf _ _ rfl ?_); first | refine lO hp rfl (za rfl) zaU aa5 ?_ | refine lA hp rfl (za rfl) Z4 aa5 ?_) | ((refine zd _ _ _ rfl ?_); (first | refine sO hp rfl (za rfl) zaU aa5 ?_ | refine sA hp rfl (za rfl) (za rfl) Z4 aa5 ?_ | refine sG hp rfl (za rfl) (za rfl) Z4 aa5 ?_); clear hp; intro w1 hp; simp only [spl, z0a, z0b] at hp) | ((refine zi _ _ _ rfl ?_); refine lS hp rfl (by intro w; go_simp; rfl) ?_; clear hp; intro b w1 hp; simp only [z0g, z0h, Nat.reduceAdd] at hp)); simp only [zc, zb, z0b, z0a]))
  go_ret
  exact Z0 (by decide) hp.kp
 ·have e1 : decide (rv < vw) = false := by simpa using h1
  cases hi : inM rf bs (bs + es.length) with
  | false =>
   have hf : ZQ ⟨vw, nm, bs, im, ea, es, ec⟩ ⟨3, rv, rf, rn, rim, ⟨nu, vi, cl, sq, ⟨kk, hh, ii, nn, cc, vv, tt⟩⟩, ra, rs, rc⟩ = (140, ⟨vw, nm, bs, im, ea, es, ec⟩) := by unfold ZQ Zf zbb; simp [h1, hi]
   rw [hf]
   have HI := z0j hi
   clear h1 hf hi hok hec hes him hrs hrc hri ha hR hok2
   go_enter Tryz.func70, Tryz.ntmps70
   go_wp2_with (first | (go_at_call 71; (with_reducible refine (ZK vw nm bs im _ _ ec _).mono ?_); rintro e w1 ⟨rfl, hb⟩; replace hp := hp.call hb; clear hb) | go_skip | ((first | ((refine zh _ _ rfl ?_); refine lB hp rfl (za rfl) rfl ?_; clear hp; intro b w1 hp) | ((refine zf _ _ rfl ?_); first | refine lO hp rfl (za rfl) zaU aa5 ?_ | refine lA hp rfl (za rfl) Z4 aa5 ?_) | ((refine zd _ _ _ rfl ?_); (first | refine sO hp rfl (za rfl) zaU aa5 ?_ | refine sA hp rfl (za rfl) (za rfl) Z4 aa5 ?_ | refine sG hp rfl (za rfl) (za rfl) Z4 aa5 ?_); clear hp; intro w1 hp; simp only [spl, z0a, z0b] at hp) | ((refine zi _ _ _ rfl ?_); refine lS hp rfl (by intro w; go_simp; rfl) ?_; clear hp; intro b w1 hp; simp only [z0g, z0h, Nat.reduceAdd] at hp)); simp only [zc, zb, z0b, z0a]))
   refine zk [_, _] (zE.two hp.drew at0 at1) [] [(0, true), (1, true), (2, true), (3, true), (4, true), (5, true), (6, true), (7, true)] (by kernel_rfl) (by kernel_rfl) rfl (by kernel_rfl) (fun _ _ d _ _ h => by cases d <;> exact h) ?_
   replace hp := hp.drew
   repeat' (with_reducible refine zG ?_); first | (with_reducible refine zw ?_) | ((with_reducible refine zR ?_); refine zy rfl ?_; (first | ((with_reducible refine Zy _ rfl ?_); refine tM rfl ?_) | ((with_reducible refine Zt _ _ rfl ?_); refine tO rfl (za rfl) zq aa5 ?_) | refine tG (fun w _ => (by go_simp; try rfl)) ?_); try simp only [zc, zb, zm, zj, z0b, z0a, z0d, z0c, zn])
   go_wp2_with (first | (go_at_call 71; (with_reducible refine (ZK vw nm bs im _ _ ec _).mono ?_); rintro e w1 ⟨rfl, hb⟩; replace hp := hp.call hb; clear hb) | go_skip | ((first | ((refine zh _ _ rfl ?_); refine lB hp rfl (za rfl) rfl ?_; clear hp; intro b w1 hp) | ((refine zf _ _ rfl ?_); first | refine lO hp rfl (za rfl) zaU aa5 ?_ | refine lA hp rfl (za rfl) Z4 aa5 ?_) | ((refine zd _ _ _ rfl ?_); (first | refine sO hp rfl (za rfl) zaU aa5 ?_ | refine sA hp rfl (za rfl) (za rfl) Z4 aa5 ?_ | refine sG hp rfl (za rfl) (za rfl) Z4 aa5 ?_); clear hp; intro w1 hp; simp only [spl, z0a, z0b] at hp) | ((refine zi _ _ _ rfl ?_); refine lS hp rfl (by intro w; go_simp; rfl) ?_; clear hp; intro b w1 hp; simp only [z0g, z0h, Nat.reduceAdd] at hp)); simp only [zc, zb, z0b, z0a]))
   refine zk _ (zE.all hp.drew) [] [(0, true), (1, true), (2, true), (3, true), (4, true), (5, true), (6, true), (7, true), (8, false), (9, true), (10, true), (11, true), (12, true), (13, true), (14, true), (15, false), (16, true), (17, true)] (by kernel_rfl) (by kernel_rfl) rfl (by kernel_rfl) (fun _ _ d _ _ h => by cases d <;> exact h) ?_
   replace hp := hp.drew
   repeat' (with_reducible refine zG ?_); first | (with_reducible refine zw ?_) | ((with_reducible refine zR ?_); refine zy rfl ?_; (first | ((with_reducible refine za0 _ _ rfl ?_); refine tS (by first | exact Zc rfl rfl rfl rfl | exact Zm rfl rfl rfl rfl) ?_) | ((with_reducible refine Zy _ rfl ?_); refine tM rfl ?_) | ((with_reducible refine Zt _ _ rfl ?_); refine tO rfl (za rfl) (by with_reducible first | exact zq | exact zO) aa5 ?_) | refine tG (fun w _ => (by go_simp; try rfl)) ?_); try simp only [zc, zb, zm, zj, z0b, z0a, z0d, z0c, zn]) | (refine zQ rfl (fun K hK => ?_); go_wp2_with (first | (go_at_call 136; (with_reducible refine (zT rf bs (bs + es.length) _ HI.out _).mono ?_); rintro e w' ⟨rfl, rfl⟩) | (go_at_call 137; (with_reducible refine (ZN rs rf _ rc _ HF.out HRL.out _ (HRA.out.below hp.below)).mono ?_); rintro e w1 ⟨rfl, hb⟩; replace hp := hp.call hb; clear hb) | go_skip); (refine hK.out _ _ (.inr (zdp hp)) ?_); clear hK K; try simp only [zc, zb, zm, zj, z0b, z0a, z0d, z0c, zn])
   go_wp2_with (first | (go_at_call 71; (with_reducible refine (ZK vw nm bs im _ _ ec _).mono ?_); rintro e w1 ⟨rfl, hb⟩; replace hp := hp.call hb; clear hb) | go_skip | ((first | ((refine zh _ _ rfl ?_); refine lB hp rfl (za rfl) rfl ?_; clear hp; intro b w1 hp) | ((refine zf _ _ rfl ?_); first | refine lO hp rfl (za rfl) zaU aa5 ?_ | refine lA hp rfl (za rfl) Z4 aa5 ?_) | ((refine zd _ _ _ rfl ?_); (first | refine sO hp rfl (za rfl) zaU aa5 ?_ | refine sA hp rfl (za rfl) (za rfl) Z4 aa5 ?_ | refine sG hp rfl (za rfl) (za rfl) Z4 aa5 ?_); clear hp; intro w1 hp; simp only [spl, z0a, z0b] at hp) | ((refine zi _ _ _ rfl ?_); refine lS hp rfl (by intro w; go_simp; rfl) ?_; clear hp; intro b w1 hp; simp only [z0g, z0h, Nat.reduceAdd] at hp)); simp only [zc, zb, z0b, z0a]))
   go_ret
   exact Z0 (by decide) hp.kp
  | true =>
   have HI := z0j hi
   cases hfo : zc5 rf 0 rs with
   | false =>
    have hf : ZQ ⟨vw, nm, bs, im, ea, es, ec⟩ ⟨3, rv, rf, rn, rim, ⟨nu, vi, cl, sq, ⟨kk, hh, ii, nn, cc, vv, tt⟩⟩, ra, rs, rc⟩ = (140, ⟨vw, nm, bs, im, ea, es, ec⟩) := by unfold ZQ Zf zbb; simp [h1, hi, hfo]
    rw [hf]
    have HF := z0j hfo
    clear h1 hf hi hfo hok hec hes him hrs hrc hri ha hR hok2
    go_enter Tryz.func70, Tryz.ntmps70
    go_wp2_with (first | (go_at_call 71; (with_reducible refine (ZK vw nm bs im _ _ ec _).mono ?_); rintro e w1 ⟨rfl, hb⟩; replace hp := hp.call hb; clear hb) | go_skip | ((first | ((refine zh _ _ rfl ?_); refine lB hp rfl (za rfl) rfl ?_; clear hp; intro b w1 hp) | ((refine zf _ _ rfl ?_); first | refine lO hp rfl (za rfl) zaU aa5 ?_ | refine lA hp rfl (za rfl) Z4 aa5 ?_) | ((refine zd _ _ _ rfl ?_); (first | refine sO hp rfl (za rfl) zaU aa5 ?_ | refine sA hp rfl (za rfl) (za rfl) Z4 aa5 ?_ | refine sG hp rfl (za rfl) (za rfl) Z4 aa5 ?_); clear hp; intro w1 hp; simp only [spl, z0a, z0b] at hp) | ((refine zi _ _ _ rfl ?_); refine lS hp rfl (by intro w; go_simp; rfl) ?_; clear hp; intro b w1 hp; simp only [z0g, z0h, Nat.reduceAdd] at hp)); simp only [zc, zb, z0b, z0a]))
    refine zk [_, _] (zE.two hp.drew at0 at1) [] [(0, true), (1, true), (2, true), (3, true), (4, true), (5, true), (6, true), (7, true)] (by kernel_rfl) (by kernel_rfl) rfl (by kernel_rfl) (fun _ _ d _ _ h => by cases d <;> exact h) ?_
    replace hp := hp.drew
    repeat' (with_reducible refine zG ?_); first | (with_reducible refine zw ?_) | ((with_reducible refine zR ?_); refine zy rfl ?_; (first | ((with_reducible refine Zy _ rfl ?_); refine tM rfl ?_) | ((with_reducible refine Zt _ _ rfl ?_); refine tO rfl (za rfl) zq aa5 ?_) | refine tG (fun w _ => (by go_simp; try rfl)) ?_); try simp only [zc, zb, zm, zj, z0b, z0a, z0d, z0c, zn])
    go_wp2_with (first | (go_at_call 71; (with_reducible refine (ZK vw nm bs im _ _ ec _).mono ?_); rintro e w1 ⟨rfl, hb⟩; replace hp := hp.call hb; clear hb) | go_skip | ((first | ((refine zh _ _ rfl ?_); refine lB hp rfl (za rfl) rfl ?_; clear hp; intro b w1 hp) | ((refine zf _ _ rfl ?_); first | refine lO hp rfl (za rfl) zaU aa5 ?_ | refine lA hp rfl (za rfl) Z4 aa5 ?_) | ((refine zd _ _ _ rfl ?_); (first | refine sO hp rfl (za rfl) zaU aa5 ?_ | refine sA hp rfl (za rfl) (za rfl) Z4 aa5 ?_ | refine sG hp rfl (za rfl) (za rfl) Z4 aa5 ?_); clear hp; intro w1 hp; simp only [spl, z0a, z0b] at hp) | ((refine zi _ _ _ rfl ?_); refine lS hp rfl (by intro w; go_simp; rfl) ?_; clear hp; intro b w1 hp; simp only [z0g, z0h, Nat.reduceAdd] at hp)); simp only [zc, zb, z0b, z0a]))
    refine zk _ (zE.all hp.drew) [] [(0, true), (1, true), (2, true), (3, true), (4, true), (5, true), (6, true), (7, true), (8, false), (9, true), (10, true), (11, true), (12, true), (13, true), (14, true), (15, false), (16, true), (17, true)] (by kernel_rfl) (by kernel_rfl) rfl (by kernel_rfl) (fun _ _ d _ _ h => by cases d <;> exact h) ?_
    replace hp := hp.drew
    repeat' (with_reducible refine zG ?_); first | (with_reducible refine zw ?_) | ((with_reducible refine zR ?_); refine zy rfl ?_; (first | ((with_reducible refine za0 _ _ rfl ?_); refine tS (by first | exact Zc rfl rfl rfl rfl | exact Zm rfl rfl rfl rfl) ?_) | ((with_reducible refine Zy _ rfl ?_); refine tM rfl ?_) | ((with_reducible refine Zt _ _ rfl ?_); refine tO rfl (za rfl) (by with_reducible first | exact zq | exact zO) aa5 ?_) | refine tG (fun w _ => (by go_simp; try rfl)) ?_); try simp only [zc, zb, zm, zj, z0b, z0a, z0d, z0c, zn]) | (refine zQ rfl (fun K hK => ?_); go_wp2_with (first | (go_at_call 136; (with_reducible refine (zT rf bs (bs + es.length) _ HI.out _).mono ?_); rintro e w' ⟨rfl, rfl⟩) | (go_at_call 137; (with_reducible refine (ZN rs rf _ rc _ HF.out HRL.out _ (HRA.out.below hp.below)).mono ?_); rintro e w1 ⟨rfl, hb⟩; replace hp := hp.call hb; clear hb) | go_skip); (refine hK.out _ _ (.inr (zdp hp)) ?_); clear hK K; try simp only [zc, zb, zm, zj, z0b, z0a, z0d, z0c, zn])
    go_wp2_with (first | (go_at_call 71; (with_reducible refine (ZK vw nm bs im _ _ ec _).mono ?_); rintro e w1 ⟨rfl, hb⟩; replace hp := hp.call hb; clear hb) | go_skip | ((first | ((refine zh _ _ rfl ?_); refine lB hp rfl (za rfl) rfl ?_; clear hp; intro b w1 hp) | ((refine zf _ _ rfl ?_); first | refine lO hp rfl (za rfl) zaU aa5 ?_ | refine lA hp rfl (za rfl) Z4 aa5 ?_) | ((refine zd _ _ _ rfl ?_); (first | refine sO hp rfl (za rfl) zaU aa5 ?_ | refine sA hp rfl (za rfl) (za rfl) Z4 aa5 ?_ | refine sG hp rfl (za rfl) (za rfl) Z4 aa5 ?_); clear hp; intro w1 hp; simp only [spl, z0a, z0b] at hp) | ((refine zi _ _ _ rfl ?_); refine lS hp rfl (by intro w; go_simp; rfl) ?_; clear hp; intro b w1 hp; simp only [z0g, z0h, Nat.reduceAdd] at hp)); simp only [zc, zb, z0b, z0a]))
    go_ret
    exact Z0 (by decide) hp.kp
   | true =>
    have HF := z0j hfo
    have hin : bs ≤ rf ∧ rf ≤ bs + es.length := by simpa [inM] using hi
    obtain ⟨k, hk⟩ : ∃ k : Nat, rf - bs = k := ⟨(rf - bs).toNat, by omega⟩
    have hke : k ≤ es.length := by omega
    obtain ⟨b, hb⟩ : ∃ b, okC ⟨rv, rv, bs, im, ea, es.take k ++ rs, ec⟩ = b := ⟨_, rfl⟩
    have hf : ZQ ⟨vw, nm, bs, im, ea, es, ec⟩ ⟨3, rv, rf, rn, rim, ⟨nu, vi, cl, sq, ⟨kk, hh, ii, nn, cc, vv, tt⟩⟩, ra, rs, rc⟩ = if b = true then (0, ⟨rv, rv, bs, im, ea, es.take k ++ rs, ec⟩) else (141, ⟨vw, nm, bs, im, ea, es, ec⟩) := by
     unfold ZQ Zf zbb
     have hkk : (rf - bs).toNat = k := by omega
     simp [h1, hi, hfo, hb, hkk]
    rw [hf]
    obtain ⟨i0, hi0, hz0, hz1, hz2⟩ := info_parts zfh
    obtain ⟨Rc, hRc, hcut⟩ := hR.cut hke
    have HRC := z0j hRc
    have HCUT := z0j hcut
    have HW : Hid (wrap64 (rf - bs) = (k : Int)) := z0j (by rw [← hk]; unfold wrap64; omega)
    have HM1 : Hid (k + rs.length ≤ maxLen) := z0j (by unfold maxLen; omega)
    have HM2 : Hid ((k + rs.length) * 88 ≤ 140737488355328) := z0j (by omega)
    have HB : Hid (∀ a c, okC ⟨rv, rv, bs, im, a, es.take k ++ rs, c⟩ = b) := z0j (fun a c => by rw [← hb]; exact zdv ⟨rfl, rfl, rfl, rfl, rfl⟩)
    have hnl : (es.take k ++ rs).length = k + rs.length := by rw [List.length_append, List.length_take]; omega
    have HNL := z0j hnl
    have HSS : Hid (∀ a c, Kv.Small ⟨rv, rv, bs, im, a, es.take k ++ rs, c⟩) := z0j (fun a c => ⟨by simp only; omega, him⟩)
    have HX1 : Hid (((es.flatMap Zi).take (k * 11) ++ rs.flatMap Zi) = (es.take k ++ rs).flatMap Zi) := z0j (by rw [List.flatMap_append, zfF])
    have HSL : Hid ((rs.flatMap Zi).length = rs.length * 11) := z0j (ZH Zi 11 ZM rs)
    have HS1 : Hid ((rs.flatMap Zi).all (·.oneCell') = true) := z0j (by rw [List.all_flatMap]; exact List.all_eq_true.2 fun x _ => rfl)
    have e4 : decide ((4000 : Int) < (k : Int) + (rs.length : Int)) = false := by simp; omega
    have f1 : (0 : Int) ≤ (k : Int) := by omega
    have f2 : (k : Int) ≤ (ec : Int) := by omega
    clear h1 hf hi hfo hok hec hes him hrs hrc hri ha hR hok2 hb hnl hin hk hke hRc hcut
    cases b
    rw [if_neg (by decide)]
    rotate_left
    rw [if_pos rfl]
    all_goals
     go_enter Tryz.func70, Tryz.ntmps70
     go_wp2_with (first | (go_at_call 71; (with_reducible refine (ZK vw nm bs im _ _ ec _).mono ?_); rintro e w1 ⟨rfl, hb⟩; replace hp := hp.call hb; clear hb) | go_skip | ((first | ((refine zh _ _ rfl ?_); refine lB hp rfl (za rfl) rfl ?_; clear hp; intro b w1 hp) | ((refine zf _ _ rfl ?_); first | refine lO hp rfl (za rfl) zaU aa5 ?_ | refine lA hp rfl (za rfl) Z4 aa5 ?_) | ((refine zd _ _ _ rfl ?_); (first | refine sO hp rfl (za rfl) zaU aa5 ?_ | refine sA hp rfl (za rfl) (za rfl) Z4 aa5 ?_ | refine sG hp rfl (za rfl) (za rfl) Z4 aa5 ?_); clear hp; intro w1 hp; simp only [spl, z0a, z0b] at hp) | ((refine zi _ _ _ rfl ?_); refine lS hp rfl (by intro w; go_simp; rfl) ?_; clear hp; intro b w1 hp; simp only [z0g, z0h, Nat.reduceAdd] at hp)); simp only [zc, zb, z0b, z0a]))
     refine zk [_, _] (zE.two hp.drew at0 at1) [] [(0, true), (1, true), (2, true), (3, true), (4, true), (5, true), (6, true), (7, true)] (by kernel_rfl) (by kernel_rfl) rfl (by kernel_rfl) (fun _ _ d _ _ h => by cases d <;> exact h) ?_
     replace hp := hp.drew
     repeat' (with_reducible refine zG ?_); first | (with_reducible refine zw ?_) | ((with_reducible refine zR ?_); refine zy rfl ?_; (first | ((with_reducible refine Zy _ rfl ?_); refine tM rfl ?_) | ((with_reducible refine Zt _ _ rfl ?_); refine tO rfl (za rfl) zq aa5 ?_) | refine tG (fun w _ => (by go_simp; try rfl)) ?_); try simp only [zc, zb, zm, zj, z0b, z0a, z0d, z0c, zn])
     go_wp2_with (first | (go_at_call 71; (with_reducible refine (ZK vw nm bs im _ _ ec _).mono ?_); rintro e w1 ⟨rfl, hb⟩; replace hp := hp.call hb; clear hb) | go_skip | ((first | ((refine zh _ _ rfl ?_); refine lB hp rfl (za rfl) rfl ?_; clear hp; intro b w1 hp) | ((refine zf _ _ rfl ?_); first | refine lO hp rfl (za rfl) zaU aa5 ?_ | refine lA hp rfl (za rfl) Z4 aa5 ?_) | ((refine zd _ _ _ rfl ?_); (first | refine sO hp rfl (za rfl) zaU aa5 ?_ | refine sA hp rfl (za rfl) (za rfl) Z4 aa5 ?_ | refine sG hp rfl (za rfl) (za rfl) Z4 aa5 ?_); clear hp; intro w1 hp; simp only [spl, z0a, z0b] at hp) | ((refine zi _ _ _ rfl ?_); refine lS hp rfl (by intro w; go_simp; rfl) ?_; clear hp; intro b w1 hp; simp only [z0g, z0h, Nat.reduceAdd] at hp)); simp only [zc, zb, z0b, z0a]))
     refine zk _ (zE.all hp.drew) [] [(0, true), (1, true), (2, true), (3, true), (4, true), (5, true), (6, true), (7, true), (8, false), (9, true), (10, true), (11, true), (12, true), (13, true), (14, true), (15, false), (16, true), (17, true)] (by kernel_rfl) (by kernel_rfl) rfl (by kernel_rfl) (fun _ _ d _ _ h => by cases d <;> exact h) ?_
     replace hp := hp.drew
     repeat' (with_reducible refine zG ?_); first | (with_reducible refine zw ?_) | ((with_reducible refine zR ?_); refine zy rfl ?_; (first | ((with_reducible refine za0 _ _ rfl ?_); refine tS (by first | exact Zc rfl rfl rfl rfl | exact Zm rfl rfl rfl rfl) ?_) | ((with_reducible refine Zy _ rfl ?_); refine tM rfl ?_) | ((with_reducible refine Zt _ _ rfl ?_); refine tO rfl (za rfl) (by with_reducible first | exact zq | exact zO) aa5 ?_) | refine tG (fun w _ => (by go_simp; try rfl)) ?_); try simp only [zc, zb, zm, zj, z0b, z0a, z0d, z0c, zn]) | (refine zQ rfl (fun K hK => ?_); go_wp2_with (first | (go_at_call 136; (with_reducible refine (zT rf bs (bs + es.length) _ HI.out _).mono ?_); rintro e w' ⟨rfl, rfl⟩) | (go_at_call 137; (with_reducible refine (ZN rs rf _ rc _ HF.out HRL.out _ (HRA.out.below hp.below)).mono ?_); rintro e w1 ⟨rfl, hb⟩; replace hp := hp.call hb; clear hb) | go_skip); (refine hK.out _ _ (.inr (zdp hp)) ?_); clear hK K; try simp only [zc, zb, zm, zj, z0b, z0a, z0d, z0c, zn])
     go_wp2_with (first | (go_at_call 71; (with_reducible refine (ZK vw nm bs im _ _ ec _).mono ?_); rintro e w1 ⟨rfl, hb⟩; replace hp := hp.call hb; clear hb) | go_skip | ((first | ((refine zh _ _ rfl ?_); refine lB hp rfl (za rfl) rfl ?_; clear hp; intro b w1 hp) | ((refine zf _ _ rfl ?_); first | refine lO hp rfl (za rfl) zaU aa5 ?_ | refine lA hp rfl (za rfl) Z4 aa5 ?_) | ((refine zd _ _ _ rfl ?_); (first | refine sO hp rfl (za rfl) zaU aa5 ?_ | refine sA hp rfl (za rfl) (za rfl) Z4 aa5 ?_ | refine sG hp rfl (za rfl) (za rfl) Z4 aa5 ?_); clear hp; intro w1 hp; simp only [spl, z0a, z0b] at hp) | ((refine zi _ _ _ rfl ?_); refine lS hp rfl (by intro w; go_simp; rfl) ?_; clear hp; intro b w1 hp; simp only [z0g, z0h, Nat.reduceAdd] at hp)); simp only [zc, zb, z0b, z0a]))
     refine zk [_] (zE.one hp.drew at0) [13] [(0, true), (1, true), (2, true), (3, true), (4, true), (5, true), (6, true), (7, true), (8, true), (9, false), (10, true), (11, true), (12, true), (13, false)] (by kernel_rfl) (by kernel_rfl) rfl (by kernel_rfl) (fun _ _ d _ _ h => by cases d <;> exact h) ?_
     replace hp := hp.drew
     repeat' (with_reducible refine zG ?_); first | (with_reducible refine zw ?_) | ((with_reducible refine zR ?_); refine zy rfl ?_; (first | ((with_reducible refine Zy _ rfl ?_); refine tM rfl ?_) | ((with_reducible refine Zt _ _ rfl ?_); refine tO rfl (za rfl) zq aa5 ?_) | refine tG (fun w _ => (by go_simp; try rfl)) ?_); try simp only [zc, zb, zm, zj, z0b, z0a, z0d, z0c, zn]) | (refine zQ rfl (fun K hK => ?_); go_wp2_with (first | go_skip | (((refine zd _ _ _ rfl ?_); (first | refine sO hp rfl (za rfl) zaU aa5 ?_ | refine sA hp rfl (za rfl) (za rfl) Z4 aa5 ?_ | refine sG hp rfl (za rfl) (za rfl) Z4 aa5 ?_); clear hp; intro w1 hp; simp only [spl, z0a, z0b] at hp); simp only [zc, zb, z0b, z0a])); (first | refine hK.out _ _ (.inl rfl) ?_ | refine hK.out _ _ (.inr (zE.one hp aa5)) ?_); clear hK K; try simp only [zc, zb, zm, zj, z0b, z0a, z0d, z0c, zn])
     go_wp2_with (first | (go_at_call 71; (with_reducible refine (ZK vw nm bs im _ _ ec _).mono ?_); rintro e w1 ⟨rfl, hb⟩; replace hp := hp.call hb; clear hb) | go_skip | ((first | ((refine zh _ _ rfl ?_); refine lB hp rfl (za rfl) rfl ?_; clear hp; intro b w1 hp) | ((refine zf _ _ rfl ?_); first | refine lO hp rfl (za rfl) zaU aa5 ?_ | refine lA hp rfl (za rfl) Z4 aa5 ?_) | ((refine zd _ _ _ rfl ?_); (first | refine sO hp rfl (za rfl) zaU aa5 ?_ | refine sA hp rfl (za rfl) (za rfl) Z4 aa5 ?_ | refine sG hp rfl (za rfl) (za rfl) Z4 aa5 ?_); clear hp; intro w1 hp; simp only [spl, z0a, z0b] at hp) | ((refine zi _ _ _ rfl ?_); refine lS hp rfl (by intro w; go_simp; rfl) ?_; clear hp; intro b w1 hp; simp only [z0g, z0h, Nat.reduceAdd] at hp)); simp only [zc, zb, z0b, z0a]))
     refine zk [_, _] (zE.two hp.drew at0 at1) [21] [(0, true), (1, true), (2, true), (3, true), (4, true), (5, true), (6, true), (7, true), (8, true), (9, true), (10, true), (11, true), (12, true), (13, true), (14, true), (15, true), (16, true), (17, false), (18, true), (19, true), (20, true), (21, false)] (by kernel_rfl) (by kernel_rfl) rfl (by kernel_rfl) (fun _ _ d _ _ h => by cases d <;> exact h) ?_
     replace hp := hp.drew
     repeat' (with_reducible refine zG ?_); first | (with_reducible refine zw ?_) | ((with_reducible refine zR ?_); refine zy rfl ?_; (first | ((with_reducible refine Zy _ rfl ?_); refine tM rfl ?_) | ((with_reducible refine Zt _ _ rfl ?_); refine tO rfl (za rfl) (by with_reducible first | exact zq | exact zO) aa5 ?_) | refine tG (fun w _ => (by go_simp; try rfl)) ?_); try simp only [zc, zb, zm, zj, z0b, z0a, z0d, z0c, zn, HW.out]) | (refine zQ rfl (fun K hK => ?_); go_wp2_with (first | ((refine Z5 _ _ 22 22 rfl ?_); refine Zp (K := [_, _]) (M := TT) (zoC HCUT.out hp) _ _ _ _ rfl wy 31 i0 _ 11 88 Tryz.underlying22 hi0 hz0 hz1 hz2 rfl _ k _ (za rfl) HRC.out _ (za rfl) rs.length _ (Src.ofRow Tryz.underlying22 (by decide) _ rs.length rc _ HSL.out (HRA.out.below hp.below) HS1.out) HM1.out HM2.out ?_; clear hp; intro v' R' w1 hR' hp; obtain ⟨ae, ce, rfl, hce, _⟩ := hR'.kept; have HRE := z0j hR'; have HCE := z0j hce; clear hR' hce; simp only [z0f, z0e] at hp; simp only [zc, zb, z0b, z0a]) | go_skip | (((refine zd _ _ _ rfl ?_); (first | refine sO hp rfl (za rfl) zaU aa5 ?_ | refine sA hp rfl (za rfl) (za rfl) Z4 aa5 ?_ | refine sG hp rfl (za rfl) (za rfl) Z4 aa5 ?_); clear hp; intro w1 hp; simp only [spl, z0a, z0b] at hp); simp only [zc, zb, z0b, z0a])); (first | refine hK.out _ _ (.inl rfl) ?_ | refine hK.out _ _ (.inr (zE.two hp aa5 aa5)) ?_); clear hK K; try simp only [zc, zb, zm, zj, z0b, z0a, z0d, z0c, zn, HW.out])
     go_wp2_with (first | (go_at_call 64; (with_reducible refine (zdn rv rv bs im ae (es.take k ++ rs) _ ce HNL.out _ (HB.out _ _) (HSS.out _ _) _ ((HX1.out ▸ HRE.out).keptS.at hp (fun p hm => by simp [hm]))).mono ?_); rintro e w1 ⟨rfl, hb⟩; replace hp := hp.call hb; clear hb; simp only [if_true, Bool.false_eq_true, if_false]) | go_skip | ((first | ((refine zh _ _ rfl ?_); refine lB hp rfl (za rfl) rfl ?_; clear hp; intro b w1 hp) | ((refine zf _ _ rfl ?_); first | refine lO hp rfl (za rfl) zaU aa5 ?_ | refine lA hp rfl (za rfl) Z4 aa5 ?_) | ((refine zd _ _ _ rfl ?_); (first | refine sO hp rfl (za rfl) zaU aa5 ?_ | refine sA hp rfl (za rfl) (za rfl) Z4 aa5 ?_ | refine sG hp rfl (za rfl) (za rfl) Z4 aa5 ?_); clear hp; intro w1 hp; simp only [spl, z0a, z0b] at hp) | ((refine zi _ _ _ rfl ?_); refine lS hp rfl (by intro w; go_simp; rfl) ?_; clear hp; intro b w1 hp; simp only [z0g, z0h, Nat.reduceAdd] at hp)); simp only [zc, zb, z0b, z0a]))
    ·go_ret
     exact zbZ HCE.out (HX1.out ▸ HRE.out) hp.kp HNL.out
    ·go_ret
     exact Z0 (by decide) hp.kp
end Go.Proofs.YtaafajaadfgaoaaGreat
