import Derived.Test.YtaafajaadfgaoaaGreatFp34
set_option linter.unusedSimpArgs false
set_option linter.unusedVariables false
set_option maxRecDepth 100000
set_option maxHeartbeats 60000000
namespace Go.Proofs.YtaafajaadfgaoaaGreat
open Go.RowKit
theorem zoa {ty : TypeId} (h : zB Tryz.prog ty = true := by with_reducible first | exact zq | exact zO | exact ZL) : zB Tryz.prog ty = true := h
theorem zaB {ty : TypeId} {k : Nat} (h : zac Tryz.prog ty k = true := by with_reducible first | exact zF | exact Zr | exact Zq) : zac Tryz.prog ty k = true := h
theorem zbO {ty : TypeId} (h : zB Tryz.prog ty = true := by with_reducible first | exact zq | exact zA | exact zO | exact ZL | exact Ze | exact zaz) : zB Tryz.prog ty = true := h
theorem zg4 (bw : Nat) (vw nm bs : Int) (im : ByteArray) (ea : Option Addr) (es : List Env) (ec : Nat) (rv rf rn : Int) (rim : ByteArray) (nu vi cl sq kk hh ii nn cc vv tt : Int) (ra : Option Addr) (rs : List Env) (rc : Nat) {R TT : List Blk} {w0 w : World} (hR : zD 31 11 (.slice ea es.length ec) es.length (es.flatMap Zi) R) (hec : es.length ≤ ec) (hes : es.length ≤ 1500) (him : im.size ≤ 1000000) (hrs : rs.length ≤ 1500) (hrc : rs.length ≤ rc) (hri : rim.size ≤ 1000000) (hok : okC ⟨vw, nm, bs, im, ea, es, ec⟩ = true) (kd : Int) (hkd : kd = 5) (hp : Hp w0.heap.size w0 w (⟨bw, [.int .i64 vw, .int .i64 nm, .int .i64 bs, .string im, .slice ea es.length ec], 103, 5⟩ :: (R ++ TT))) (ha : zr w0 ra (rs.flatMap Zi)) : Calls Tryz.prog 70 #[.pointer (some ⟨bw, 0, none⟩), .agg #[.int .i64 kd, .int .i64 rv, .int .i64 rf, .int .i64 rn, .string rim, .int .i64 nu, .int .i64 vi, .int .i64 cl, .int .i64 sq, .int .i64 kk, .int .i64 hh, .int .i64 ii, .int .i64 nn, .int .i64 cc, .int .i64 vv, .int .i64 tt, .slice ra rs.length rc]] w (zfw w0 bw (ZQ ⟨vw, nm, bs, im, ea, es, ec⟩ ⟨kd, rv, rf, rn, rim, ⟨nu, vi, cl, sq, ⟨kk, hh, ii, nn, cc, vv, tt⟩⟩, ra, rs, rc⟩) TT) := by
 subst hkd
 have HR := z0j hR
 have HRA := z0j ha
 have hok2 := zcj hok
 simp only at hok2
 have e0 : wrap64 (bs + es.length) = bs + es.length := by unfold wrap64; omega
 have HRL : Hid (rs.length ≤ 100000) := z0j (by omega)
 by_cases h1 : rv < vw
 ·have hf : ZQ ⟨vw, nm, bs, im, ea, es, ec⟩ ⟨5, rv, rf, rn, rim, ⟨nu, vi, cl, sq, ⟨kk, hh, ii, nn, cc, vv, tt⟩⟩, ra, rs, rc⟩ = (141, ⟨vw, nm, bs, im, ea, es, ec⟩) := by unfold ZQ Zf; simp [h1]
  rw [hf]
  have e1 : decide (rv < vw) = true := by simpa using h1
  clear h1 hf hok hec hes him hrs hrc hri ha hR hok2
  go_enter Tryz.func70, Tryz.ntmps70
  go_wp2_with (first | (go_at_call 71; (with_reducible refine (ZK vw nm bs im _ _ _ _).mono ?_); rintro e w1 ⟨rfl, hb⟩; replace hp := hp.call hb; clear hb) | go_skip | ((first | ((refine zh _ _ rfl ?_); refine lB hp rfl (za rfl) rfl ?_; clear hp; intro b w1 hp) | ((refine zf _ _ rfl ?_); first | refine lO hp rfl (za rfl) zbO aa5 ?_ | refine lA hp rfl (za rfl) zaB aa5 ?_) | ((refine zd _ _ _ rfl ?_); (first | refine sO hp rfl (za rfl) zbO aa5 ?_ | refine sA hp rfl (za rfl) (za rfl) zaB aa5 ?_ | refine sG hp rfl (za rfl) (za rfl) zaB aa5 ?_); clear hp; intro w1 hp; simp only [spl, z0a, z0b] at hp) | ((refine zi _ _ _ rfl ?_); refine lS hp rfl (by intro w; go_simp; rfl) ?_; clear hp; intro b w1 hp; simp only [z0g, z0h, Nat.reduceAdd] at hp)); simp only [zc, zb, z0b, z0a]))
  refine zk [_, _] (zE.two hp.drew at0 at1) [] [(0, true), (1, true), (2, true), (3, true), (4, true), (5, true), (6, true), (7, true)] (by kernel_rfl) (by kernel_rfl) rfl (by kernel_rfl) (fun _ _ d _ _ h => by cases d <;> exact h) ?_
  replace hp := hp.drew
  repeat' (with_reducible refine zG ?_); first | (with_reducible refine zw ?_) | ((with_reducible refine zR ?_); refine zy rfl ?_; (first | ((with_reducible refine Zy _ rfl ?_); refine tM rfl ?_) | ((with_reducible refine Zt _ _ rfl ?_); refine tO rfl (za rfl) zq aa5 ?_) | refine tG (fun w _ => (by go_simp; try rfl)) ?_); try simp only [zc, zb, zm, zj, z0b, z0a, z0d, z0c, zn])
  go_wp2_with (first | (go_at_call 71; (with_reducible refine (ZK vw nm bs im _ _ _ _).mono ?_); rintro e w1 ⟨rfl, hb⟩; replace hp := hp.call hb; clear hb) | go_skip | ((first | ((refine zh _ _ rfl ?_); refine lB hp rfl (za rfl) rfl ?_; clear hp; intro b w1 hp) | ((refine zf _ _ rfl ?_); first | refine lO hp rfl (za rfl) zbO aa5 ?_ | refine lA hp rfl (za rfl) zaB aa5 ?_) | ((refine zd _ _ _ rfl ?_); (first | refine sO hp rfl (za rfl) zbO aa5 ?_ | refine sA hp rfl (za rfl) (za rfl) zaB aa5 ?_ | refine sG hp rfl (za rfl) (za rfl) zaB aa5 ?_); clear hp; intro w1 hp; simp only [spl, z0a, z0b] at hp) | ((refine zi _ _ _ rfl ?_); refine lS hp rfl (by intro w; go_simp; rfl) ?_; clear hp; intro b w1 hp; simp only [z0g, z0h, Nat.reduceAdd] at hp)); simp only [zc, zb, z0b, z0a]))
  go_ret
  exact Z0 (by decide) hp.kp
 ·have e1 : decide (rv < vw) = false := by simpa using h1
  cases hi : inM rn 0 900000000 with
  | false =>
   have hf : ZQ ⟨vw, nm, bs, im, ea, es, ec⟩ ⟨5, rv, rf, rn, rim, ⟨nu, vi, cl, sq, ⟨kk, hh, ii, nn, cc, vv, tt⟩⟩, ra, rs, rc⟩ = (140, ⟨vw, nm, bs, im, ea, es, ec⟩) := by unfold ZQ Zf zbb; simp [h1, hi]
   rw [hf]
   have HI := z0j hi
   clear h1 hf hi hok hec hes him hrs hrc hri ha hR hok2
   go_enter Tryz.func70, Tryz.ntmps70
   go_wp2_with (first | (go_at_call 71; (with_reducible refine (ZK vw nm bs im _ _ _ _).mono ?_); rintro e w1 ⟨rfl, hb⟩; replace hp := hp.call hb; clear hb) | go_skip | ((first | ((refine zh _ _ rfl ?_); refine lB hp rfl (za rfl) rfl ?_; clear hp; intro b w1 hp) | ((refine zf _ _ rfl ?_); first | refine lO hp rfl (za rfl) zbO aa5 ?_ | refine lA hp rfl (za rfl) zaB aa5 ?_) | ((refine zd _ _ _ rfl ?_); (first | refine sO hp rfl (za rfl) zbO aa5 ?_ | refine sA hp rfl (za rfl) (za rfl) zaB aa5 ?_ | refine sG hp rfl (za rfl) (za rfl) zaB aa5 ?_); clear hp; intro w1 hp; simp only [spl, z0a, z0b] at hp) | ((refine zi _ _ _ rfl ?_); refine lS hp rfl (by intro w; go_simp; rfl) ?_; clear hp; intro b w1 hp; simp only [z0g, z0h, Nat.reduceAdd] at hp)); simp only [zc, zb, z0b, z0a]))
   refine zk [_, _] (zE.two hp.drew at0 at1) [] [(0, true), (1, true), (2, true), (3, true), (4, true), (5, true), (6, true), (7, true)] (by kernel_rfl) (by kernel_rfl) rfl (by kernel_rfl) (fun _ _ d _ _ h => by cases d <;> exact h) ?_
   replace hp := hp.drew
   repeat' (with_reducible refine zG ?_); first | (with_reducible refine zw ?_) | ((with_reducible refine zR ?_); refine zy rfl ?_; (first | ((with_reducible refine Zy _ rfl ?_); refine tM rfl ?_) | ((with_reducible refine Zt _ _ rfl ?_); refine tO rfl (za rfl) zq aa5 ?_) | refine tG (fun w _ => (by go_simp; try rfl)) ?_); try simp only [zc, zb, zm, zj, z0b, z0a, z0d, z0c, zn])
   go_wp2_with (first | (go_at_call 71; (with_reducible refine (ZK vw nm bs im _ _ _ _).mono ?_); rintro e w1 ⟨rfl, hb⟩; replace hp := hp.call hb; clear hb) | (go_at_call 136; (with_reducible refine (zT rn 0 900000000 _ HI.out _).mono ?_); rintro e w' ⟨rfl, rfl⟩) | (go_at_call 137; (with_reducible refine (ZN rs rn _ rc _ HF.out HRL.out _ (HRA.out.below hp.below)).mono ?_); rintro e w1 ⟨rfl, hb⟩; replace hp := hp.call hb; clear hb) | go_skip | ((first | ((refine zh _ _ rfl ?_); refine lB hp rfl (za rfl) rfl ?_; clear hp; intro b w1 hp) | ((refine zf _ _ rfl ?_); first | refine lO hp rfl (za rfl) zbO aa5 ?_ | refine lA hp rfl (za rfl) zaB aa5 ?_) | ((refine zd _ _ _ rfl ?_); (first | refine sO hp rfl (za rfl) zbO aa5 ?_ | refine sA hp rfl (za rfl) (za rfl) zaB aa5 ?_ | refine sG hp rfl (za rfl) (za rfl) zaB aa5 ?_); clear hp; intro w1 hp; simp only [spl, z0a, z0b] at hp) | ((refine zi _ _ _ rfl ?_); refine lS hp rfl (by intro w; go_simp; rfl) ?_; clear hp; intro b w1 hp; simp only [z0g, z0h, Nat.reduceAdd] at hp)); simp only [zc, zb, z0b, z0a]))
   go_ret
   exact Z0 (by decide) hp.kp
  | true =>
   have HI := z0j hi
   cases hfo : zc5 rn 0 rs with
   | false =>
    have hf : ZQ ⟨vw, nm, bs, im, ea, es, ec⟩ ⟨5, rv, rf, rn, rim, ⟨nu, vi, cl, sq, ⟨kk, hh, ii, nn, cc, vv, tt⟩⟩, ra, rs, rc⟩ = (140, ⟨vw, nm, bs, im, ea, es, ec⟩) := by unfold ZQ Zf zbb; simp [h1, hi, hfo]
    rw [hf]
    have HF := z0j hfo
    clear h1 hf hi hfo hok hec hes him hrs hrc hri ha hR hok2
    go_enter Tryz.func70, Tryz.ntmps70
    go_wp2_with (first | (go_at_call 71; (with_reducible refine (ZK vw nm bs im _ _ _ _).mono ?_); rintro e w1 ⟨rfl, hb⟩; replace hp := hp.call hb; clear hb) | go_skip | ((first | ((refine zh _ _ rfl ?_); refine lB hp rfl (za rfl) rfl ?_; clear hp; intro b w1 hp) | ((refine zf _ _ rfl ?_); first | refine lO hp rfl (za rfl) zbO aa5 ?_ | refine lA hp rfl (za rfl) zaB aa5 ?_) | ((refine zd _ _ _ rfl ?_); (first | refine sO hp rfl (za rfl) zbO aa5 ?_ | refine sA hp rfl (za rfl) (za rfl) zaB aa5 ?_ | refine sG hp rfl (za rfl) (za rfl) zaB aa5 ?_); clear hp; intro w1 hp; simp only [spl, z0a, z0b] at hp) | ((refine zi _ _ _ rfl ?_); refine lS hp rfl (by intro w; go_simp; rfl) ?_; clear hp; intro b w1 hp; simp only [z0g, z0h, Nat.reduceAdd] at hp)); simp only [zc, zb, z0b, z0a]))
    refine zk [_, _] (zE.two hp.drew at0 at1) [] [(0, true), (1, true), (2, true), (3, true), (4, true), (5, true), (6, true), (7, true)] (by kernel_rfl) (by kernel_rfl) rfl (by kernel_rfl) (fun _ _ d _ _ h => by cases d <;> exact h) ?_
    replace hp := hp.drew
    repeat' (with_reducible refine zG ?_); first | (with_reducible refine zw ?_) | ((with_reducible refine zR ?_); refine zy rfl ?_; (first | ((with_reducible refine Zy _ rfl ?_); refine tM rfl ?_) | ((with_reducible refine Zt _ _ rfl ?_); refine tO rfl (za rfl) zq aa5 ?_) | refine tG (fun w _ => (by go_simp; try rfl)) ?_); try simp only [zc, zb, zm, zj, z0b, z0a, z0d, z0c, zn])
    go_wp2_with (first | (go_at_call 71; (with_reducible refine (ZK vw nm bs im _ _ _ _).mono ?_); rintro e w1 ⟨rfl, hb⟩; replace hp := hp.call hb; clear hb) | (go_at_call 136; (with_reducible refine (zT rn 0 900000000 _ HI.out _).mono ?_); rintro e w' ⟨rfl, rfl⟩) | (go_at_call 137; (with_reducible refine (ZN rs rn _ rc _ HF.out HRL.out _ (HRA.out.below hp.below)).mono ?_); rintro e w1 ⟨rfl, hb⟩; replace hp := hp.call hb; clear hb) | go_skip | ((first | ((refine zh _ _ rfl ?_); refine lB hp rfl (za rfl) rfl ?_; clear hp; intro b w1 hp) | ((refine zf _ _ rfl ?_); first | refine lO hp rfl (za rfl) zbO aa5 ?_ | refine lA hp rfl (za rfl) zaB aa5 ?_) | ((refine zd _ _ _ rfl ?_); (first | refine sO hp rfl (za rfl) zbO aa5 ?_ | refine sA hp rfl (za rfl) (za rfl) zaB aa5 ?_ | refine sG hp rfl (za rfl) (za rfl) zaB aa5 ?_); clear hp; intro w1 hp; simp only [spl, z0a, z0b] at hp) | ((refine zi _ _ _ rfl ?_); refine lS hp rfl (by intro w; go_simp; rfl) ?_; clear hp; intro b w1 hp; simp only [z0g, z0h, Nat.reduceAdd] at hp)); simp only [zc, zb, z0b, z0a]))
    go_ret
    exact Z0 (by decide) hp.kp
   | true =>
    have HF := z0j hfo
    obtain ⟨b, hb⟩ : ∃ b, okC ⟨rv, rv, rn, rim, ea, rs, ec⟩ = b := ⟨_, rfl⟩
    have hf : ZQ ⟨vw, nm, bs, im, ea, es, ec⟩ ⟨5, rv, rf, rn, rim, ⟨nu, vi, cl, sq, ⟨kk, hh, ii, nn, cc, vv, tt⟩⟩, ra, rs, rc⟩ = if b = true then (0, ⟨rv, rv, rn, rim, ea, rs, ec⟩) else (141, ⟨vw, nm, bs, im, ea, es, ec⟩) := by
     unfold ZQ Zf zbb
     simp [h1, hi, hfo, hb]
    rw [hf]
    have HB : Hid (∀ a c, okC ⟨rv, rv, rn, rim, a, rs, c⟩ = b) := z0j (fun a c => by rw [← hb]; exact zdv ⟨rfl, rfl, rfl, rfl, rfl⟩)
    have HSS : Hid (∀ a c, Kv.Small ⟨rv, rv, rn, rim, a, rs, c⟩) := z0j (fun a c => ⟨by simp only; omega, hri⟩)
    have e4 : decide ((4000 : Int) < (rs.length : Int)) = false := by simp; omega
    clear h1 hf hi hfo hok hec hes him hrs hrc hri ha hR hok2 hb
    cases b
    rw [if_neg (by decide)]
    rotate_left
    rw [if_pos rfl]
    all_goals
     go_enter Tryz.func70, Tryz.ntmps70
     go_wp2_with (first | (go_at_call 71; (with_reducible refine (ZK vw nm bs im _ _ _ _).mono ?_); rintro e w1 ⟨rfl, hb⟩; replace hp := hp.call hb; clear hb) | go_skip | ((first | ((refine zh _ _ rfl ?_); refine lB hp rfl (za rfl) rfl ?_; clear hp; intro b w1 hp) | ((refine zf _ _ rfl ?_); first | refine lO hp rfl (za rfl) zbO aa5 ?_ | refine lA hp rfl (za rfl) zaB aa5 ?_) | ((refine zd _ _ _ rfl ?_); (first | refine sO hp rfl (za rfl) zbO aa5 ?_ | refine sA hp rfl (za rfl) (za rfl) zaB aa5 ?_ | refine sG hp rfl (za rfl) (za rfl) zaB aa5 ?_); clear hp; intro w1 hp; simp only [spl, z0a, z0b] at hp) | ((refine zi _ _ _ rfl ?_); refine lS hp rfl (by intro w; go_simp; rfl) ?_; clear hp; intro b w1 hp; simp only [z0g, z0h, Nat.reduceAdd] at hp)); simp only [zc, zb, z0b, z0a]))
     refine zk [_, _] (zE.two hp.drew at0 at1) [] [(0, true), (1, true), (2, true), (3, true), (4, true), (5, true), (6, true), (7, true)] (by kernel_rfl) (by kernel_rfl) rfl (by kernel_rfl) (fun _ _ d _ _ h => by cases d <;> exact h) ?_
     replace hp := hp.drew
     repeat' (with_reducible refine zG ?_); first | (with_reducible refine zw ?_) | ((with_reducible refine zR ?_); refine zy rfl ?_; (first | ((with_reducible refine Zy _ rfl ?_); refine tM rfl ?_) | ((with_reducible refine Zt _ _ rfl ?_); refine tO rfl (za rfl) zq aa5 ?_) | refine tG (fun w _ => (by go_simp; try rfl)) ?_); try simp only [zc, zb, zm, zj, z0b, z0a, z0d, z0c, zn])
     go_wp2_with (first | (go_at_call 71; (with_reducible refine (ZK vw nm bs im _ _ _ _).mono ?_); rintro e w1 ⟨rfl, hb⟩; replace hp := hp.call hb; clear hb) | (go_at_call 136; (with_reducible refine (zT rn 0 900000000 _ HI.out _).mono ?_); rintro e w' ⟨rfl, rfl⟩) | (go_at_call 137; (with_reducible refine (ZN rs rn _ rc _ HF.out HRL.out _ (HRA.out.below hp.below)).mono ?_); rintro e w1 ⟨rfl, hb⟩; replace hp := hp.call hb; clear hb) | go_skip | ((first | ((refine zh _ _ rfl ?_); refine lB hp rfl (za rfl) rfl ?_; clear hp; intro b w1 hp) | ((refine zf _ _ rfl ?_); first | refine lO hp rfl (za rfl) zbO aa5 ?_ | refine lA hp rfl (za rfl) zaB aa5 ?_) | ((refine zd _ _ _ rfl ?_); (first | refine sO hp rfl (za rfl) zbO aa5 ?_ | refine sA hp rfl (za rfl) (za rfl) zaB aa5 ?_ | refine sG hp rfl (za rfl) (za rfl) zaB aa5 ?_); clear hp; intro w1 hp; simp only [spl, z0a, z0b] at hp) | ((refine zi _ _ _ rfl ?_); refine lS hp rfl (by intro w; go_simp; rfl) ?_; clear hp; intro b w1 hp; simp only [z0g, z0h, Nat.reduceAdd] at hp)); simp only [zc, zb, z0b, z0a]))
     refine zk [_] (zE.one hp.drew at0) [15] [(0, true), (1, true), (2, true), (3, true), (4, true), (5, true), (6, true), (7, true), (8, true), (9, true), (10, true), (11, false), (12, true), (13, true), (14, true), (15, false)] (by kernel_rfl) (by kernel_rfl) rfl (by kernel_rfl) (fun _ _ d _ _ h => by cases d <;> exact h) ?_
     replace hp := hp.drew
     repeat' (with_reducible refine zG ?_); first | (with_reducible refine zw ?_) | ((with_reducible refine zR ?_); refine zy rfl ?_; (first | ((with_reducible refine Zy _ rfl ?_); refine tM rfl ?_) | ((with_reducible refine Zt _ _ rfl ?_); refine tO rfl (za rfl) zoa aa5 ?_) | refine tG (fun w _ => (by go_simp; try rfl)) ?_); try simp only [zc, zb, zm, zj, z0b, z0a, z0d, z0c, zn]) | (refine zQ rfl (fun K hK => ?_); go_wp2_with (first | (go_at_call 67; (with_reducible refine (zdP rs _ _ rc rfl HRL.out _ (HRA.out.below hp.below)).mono ?_); rintro e w1 ⟨ad, cd, RD, rfl, hcd, hrd, hpn⟩; replace hp := hp.join hpn; have HCD := z0j hcd; have HRD := z0j (zD.of_own hrd); clear hpn hcd hrd; simp only [z0f, z0e, z0i] at hp) | go_skip | (((refine zd _ _ _ rfl ?_); (first | refine sO hp rfl (za rfl) zbO aa5 ?_ | refine sA hp rfl (za rfl) (za rfl) zaB aa5 ?_ | refine sG hp rfl (za rfl) (za rfl) zaB aa5 ?_); clear hp; intro w1 hp; simp only [spl, z0a, z0b] at hp); simp only [zc, zb, z0b, z0a])); (first | refine hK.out _ _ (.inl rfl) ?_ | refine hK.out _ _ (.inr (zE.one hp aa5)) ?_); clear hK K; try simp only [zc, zb, zm, zj, z0b, z0a, z0d, z0c, zn])
     go_wp2_with (first | (go_at_call 64; (with_reducible refine (zch rv rv rn rim _ rs _ _ (HB.out _ _) (HSS.out _ _) _ (HRD.out.keptS.at hp (fun p hm => by simp [hm]))).mono ?_); rintro e w1 ⟨rfl, hb⟩; replace hp := hp.call hb; clear hb; simp only [if_true, Bool.false_eq_true, if_false]) | go_skip | ((first | ((refine zh _ _ rfl ?_); refine lB hp rfl (za rfl) rfl ?_; clear hp; intro b w1 hp) | ((refine zf _ _ rfl ?_); first | refine lO hp rfl (za rfl) zbO aa5 ?_ | refine lA hp rfl (za rfl) zaB aa5 ?_) | ((refine zd _ _ _ rfl ?_); (first | refine sO hp rfl (za rfl) zbO aa5 ?_ | refine sA hp rfl (za rfl) (za rfl) zaB aa5 ?_ | refine sG hp rfl (za rfl) (za rfl) zaB aa5 ?_); clear hp; intro w1 hp; simp only [spl, z0a, z0b] at hp) | ((refine zi _ _ _ rfl ?_); refine lS hp rfl (by intro w; go_simp; rfl) ?_; clear hp; intro b w1 hp; simp only [z0g, z0h, Nat.reduceAdd] at hp)); simp only [zc, zb, z0b, z0a]))
    ·go_ret
     exact zbZ HCD.out HRD.out hp.kp
    ·go_ret
     exact Z0 (by decide) hp.kp
theorem zih (bw : Nat) (vw nm bs : Int) (im : ByteArray) (ea : Option Addr) (es : List Env) (ec : Nat) (rv rf rn : Int) (rim : ByteArray) (nu vi cl sq kk hh ii nn cc vv tt : Int) (ra : Option Addr) (rs : List Env) (rc : Nat) {R TT : List Blk} {w0 w : World} (hR : zD 31 11 (.slice ea es.length ec) es.length (es.flatMap Zi) R) (hec : es.length ≤ ec) (hes : es.length ≤ 1500) (him : im.size ≤ 1000000) (hrs : rs.length ≤ 1500) (hrc : rs.length ≤ rc) (hri : rim.size ≤ 1000000) (hok : okC ⟨vw, nm, bs, im, ea, es, ec⟩ = true) (kd : Int) (k1 : kd ≠ 1) (k2 : kd ≠ 2) (k3 : kd ≠ 3) (k4 : kd ≠ 4) (k5 : kd ≠ 5) (hp : Hp w0.heap.size w0 w (⟨bw, [.int .i64 vw, .int .i64 nm, .int .i64 bs, .string im, .slice ea es.length ec], 103, 5⟩ :: (R ++ TT))) (ha : zr w0 ra (rs.flatMap Zi)) : Calls Tryz.prog 70 #[.pointer (some ⟨bw, 0, none⟩), .agg #[.int .i64 kd, .int .i64 rv, .int .i64 rf, .int .i64 rn, .string rim, .int .i64 nu, .int .i64 vi, .int .i64 cl, .int .i64 sq, .int .i64 kk, .int .i64 hh, .int .i64 ii, .int .i64 nn, .int .i64 cc, .int .i64 vv, .int .i64 tt, .slice ra rs.length rc]] w (zfw w0 bw (ZQ ⟨vw, nm, bs, im, ea, es, ec⟩ ⟨kd, rv, rf, rn, rim, ⟨nu, vi, cl, sq, ⟨kk, hh, ii, nn, cc, vv, tt⟩⟩, ra, rs, rc⟩) TT) := by
 have hf : ZQ ⟨vw, nm, bs, im, ea, es, ec⟩ ⟨kd, rv, rf, rn, rim, ⟨nu, vi, cl, sq, ⟨kk, hh, ii, nn, cc, vv, tt⟩⟩, ra, rs, rc⟩ = (141, ⟨vw, nm, bs, im, ea, es, ec⟩) := by unfold ZQ Zf; simp [k1, k2, k3, k4, k5]
 rw [hf]
 have hok2 := zcj hok
 simp only at hok2
 have e0 : wrap64 (bs + es.length) = bs + es.length := by unfold wrap64; omega
 have e1 : (kd == 1) = false := by simpa using k1
 have e2 : (kd == 2) = false := by simpa using k2
 have e3 : (kd == 3) = false := by simpa using k3
 have e4 : (kd == 4) = false := by simpa using k4
 have e5 : (kd == 5) = false := by simpa using k5
 clear hf hok hec hes him hrs hrc hri ha hR hok2 k1 k2 k3 k4 k5
 go_enter Tryz.func70, Tryz.ntmps70
 go_wp2_with (first | (go_at_call 71; (with_reducible refine (ZK vw nm bs im _ _ _ _).mono ?_); rintro e w1 ⟨rfl, hb⟩; replace hp := hp.call hb; clear hb) | go_skip | ((first | ((refine zh _ _ rfl ?_); refine lB hp rfl (za rfl) rfl ?_; clear hp; intro b w1 hp) | ((refine zf _ _ rfl ?_); first | refine lO hp rfl (za rfl) zbO aa5 ?_ | refine lA hp rfl (za rfl) zaB aa5 ?_) | ((refine zd _ _ _ rfl ?_); (first | refine sO hp rfl (za rfl) zbO aa5 ?_ | refine sA hp rfl (za rfl) (za rfl) zaB aa5 ?_ | refine sG hp rfl (za rfl) (za rfl) zaB aa5 ?_); clear hp; intro w1 hp; simp only [spl, z0a, z0b] at hp) | ((refine zi _ _ _ rfl ?_); refine lS hp rfl (by intro w; go_simp; rfl) ?_; clear hp; intro b w1 hp; simp only [z0g, z0h, Nat.reduceAdd] at hp)); simp only [zc, zb, z0b, z0a]))
 go_ret
 exact Z0 (by decide) hp.kp
theorem znn (bw : Nat) (vw nm bs : Int) (im : ByteArray) (ea : Option Addr) (es : List Env) (ec : Nat) (rv rf rn : Int) (rim : ByteArray) (nu vi cl sq kk hh ii nn cc vv tt : Int) (ra : Option Addr) (rs : List Env) (rc : Nat) {R TT : List Blk} {w0 w : World} (hR : zD 31 11 (.slice ea es.length ec) es.length (es.flatMap Zi) R) (hec : es.length ≤ ec) (hes : es.length ≤ 1500) (him : im.size ≤ 1000000) (hrs : rs.length ≤ 1500) (hrc : rs.length ≤ rc) (hri : rim.size ≤ 1000000) (hok : okC ⟨vw, nm, bs, im, ea, es, ec⟩ = true) (kd : Int) (hp : Hp w0.heap.size w0 w (⟨bw, [.int .i64 vw, .int .i64 nm, .int .i64 bs, .string im, .slice ea es.length ec], 103, 5⟩ :: (R ++ TT))) (ha : zr w0 ra (rs.flatMap Zi)) : Calls Tryz.prog 70 #[.pointer (some ⟨bw, 0, none⟩), .agg #[.int .i64 kd, .int .i64 rv, .int .i64 rf, .int .i64 rn, .string rim, .int .i64 nu, .int .i64 vi, .int .i64 cl, .int .i64 sq, .int .i64 kk, .int .i64 hh, .int .i64 ii, .int .i64 nn, .int .i64 cc, .int .i64 vv, .int .i64 tt, .slice ra rs.length rc]] w (zfw w0 bw (ZQ ⟨vw, nm, bs, im, ea, es, ec⟩ ⟨kd, rv, rf, rn, rim, ⟨nu, vi, cl, sq, ⟨kk, hh, ii, nn, cc, vv, tt⟩⟩, ra, rs, rc⟩) TT) := by
 by_cases k1 : kd = 1
 ·exact zjp bw vw nm bs im ea es ec rv rf rn rim nu vi cl sq kk hh ii nn cc vv tt ra rs rc hR hec hes him hrs hrc hri hok kd k1 hp ha
 by_cases k2 : kd = 2
 ·exact zif bw vw nm bs im ea es ec rv rf rn rim nu vi cl sq kk hh ii nn cc vv tt ra rs rc hR hec hes him hrs hrc hri hok kd k2 hp ha
 by_cases k3 : kd = 3
 ·exact zie bw vw nm bs im ea es ec rv rf rn rim nu vi cl sq kk hh ii nn cc vv tt ra rs rc hR hec hes him hrs hrc hri hok kd k3 hp ha
 by_cases k4 : kd = 4
 ·exact zig bw vw nm bs im ea es ec rv rf rn rim nu vi cl sq kk hh ii nn cc vv tt ra rs rc hR hec hes him hrs hrc hri hok kd k4 hp ha
 by_cases k5 : kd = 5
 ·exact zg4 bw vw nm bs im ea es ec rv rf rn rim nu vi cl sq kk hh ii nn cc vv tt ra rs rc hR hec hes him hrs hrc hri hok kd k5 hp ha
 exact zih bw vw nm bs im ea es ec rv rf rn rim nu vi cl sq kk hh ii nn cc vv tt ra rs rc hR hec hes him hrs hrc hri hok kd k1 k2 k3 k4 k5 hp ha
open Go.RowKit
theorem zfK {ty : TypeId} {k : Nat} (h : zac Tryz.prog ty k = true := by with_reducible first | exact zF | exact Zr | exact zne) : zac Tryz.prog ty k = true := h
theorem zib {ty : TypeId} (h : zB Tryz.prog ty = true := by with_reducible first | exact zq | exact zA | exact zO | exact ZL | exact Ze) : zB Tryz.prog ty = true := h
noncomputable def zaW (x : Kv) (r : Rv) : Int × Kv := if okC x = true then ZQ x r else (1, x)
def zn3 (w : World) (r : Int × Kv) (e : Ending) (w' : World) : Prop :=
 (r.1 = 0 → ∃ a c R, e = .returned (.tuple #[.agg #[.int .i64 r.2.vw, .int .i64 r.2.nm, .int .i64 r.2.bs, .string r.2.im, .slice a r.2.es.length c], .int .i64 0]) ∧ r.2.es.length ≤ c ∧ zD 31 11 (.slice a r.2.es.length c) r.2.es.length (r.2.es.flatMap Zi) R ∧ Hp w.heap.size w w' R) ∧
 (r.1 ≠ 0 → e = .returned (.tuple #[.agg #[.int .i64 0, .int .i64 0, .int .i64 0, .string ⟨#[]⟩, .slice none 0 0], .int .i64 r.1]) ∧ Below w.heap.size w w')
def at_ (x : Kv) (a : Option Addr) (c : Nat) : Kv := ⟨x.vw, x.nm, x.bs, x.im, a, x.es, c⟩
theorem zjO (x : Kv) (r : Rv) (a : Option Addr) (c : Nat) : Zf (at_ x a c) r = ((Zf x r).1, at_ (Zf x r).2 a c) := by
 unfold Zf zbb at_
 simp only
 repeat' split
 all_goals rfl
theorem zjo (x : Kv) (r : Rv) (a : Option Addr) (c : Nat) : ZQ (at_ x a c) r = ((ZQ x r).1, at_ (ZQ x r).2 a c) := by
 unfold ZQ
 rw [zjO]
 simp only
 have : okC (at_ (Zf x r).2 a c) = okC (Zf x r).2 := zdv ⟨rfl, rfl, rfl, rfl, rfl⟩
 rw [this]
 repeat' split
 all_goals rfl
theorem zkn {B : Nat} {w0 w : World} {b1 b2 b3 b4 : Blk} {R : List Blk} (hp : Hp B w0 w (b1 :: b2 :: b3 :: b4 :: R)) : Hp B w0 w (b1 :: (R ++ [b2, b3, b4])) := hp.kp
theorem zmL {B : Nat} {w0 w : World} {b1 b2 b3 b4 : Blk} {R : List Blk} (hp : Hp B w0 w (b1 :: (R ++ [b2, b3, b4]))) : Hp B w0 w (b1 :: b2 :: b3 :: b4 :: R) := hp.kp
theorem zgd (bw : Nat) (vw nm bs : Int) (im : ByteArray) (ea ad : Option Addr) (es : List Env) (ec cd : Nat) (kd rv rf rn : Int) (rim : ByteArray) (nu vi cl sq kk hh ii nn cc vv tt : Int) (ra : Option Addr) (rs : List Env) (rc : Nat) {R TT : List Blk} {w0 w : World} (hR : zD 31 11 (.slice ad es.length cd) es.length (es.flatMap Zi) R) (hec : es.length ≤ cd) (hes : es.length ≤ 1500) (him : im.size ≤ 1000000) (hrs : rs.length ≤ 1500) (hrc : rs.length ≤ rc) (hri : rim.size ≤ 1000000) (hok : okC ⟨vw, nm, bs, im, ea, es, ec⟩ = true)
  (c : Int) (y : Kv) (hk : ZQ ⟨vw, nm, bs, im, ea, es, ec⟩ ⟨kd, rv, rf, rn, rim, ⟨nu, vi, cl, sq, ⟨kk, hh, ii, nn, cc, vv, tt⟩⟩, ra, rs, rc⟩ = (c, y)) (hp : Hp w0.heap.size w0 w (⟨bw, [.int .i64 vw, .int .i64 nm, .int .i64 bs, .string im, .slice ad es.length cd], 103, 5⟩ :: (R ++ TT))) (ha : zr w0 ra (rs.flatMap Zi)) :
  Calls Tryz.prog 70 #[.pointer (some ⟨bw, 0, none⟩), .agg #[.int .i64 kd, .int .i64 rv, .int .i64 rf, .int .i64 rn, .string rim, .int .i64 nu, .int .i64 vi, .int .i64 cl, .int .i64 sq, .int .i64 kk, .int .i64 hh, .int .i64 ii, .int .i64 nn, .int .i64 cc, .int .i64 vv, .int .i64 tt, .slice ra rs.length rc]] w fun e w' => e = .returned (.int .i64 c) ∧ (c = 0 → ∃ a cp R, y.es.length ≤ cp ∧ zD 31 11 (.slice a y.es.length cp) y.es.length (y.es.flatMap Zi) R ∧ Hp w0.heap.size w0 w' (⟨bw, [.int .i64 y.vw, .int .i64 y.nm, .int .i64 y.bs, .string y.im, .slice a y.es.length cp], 103, 5⟩ :: (R ++ TT))) ∧ (c ≠ 0 → Hp w0.heap.size w0 w' TT) := by
 have hok2 : okC ⟨vw, nm, bs, im, ad, es, cd⟩ = true := by rw [← hok]; exact zdv ⟨rfl, rfl, rfl, rfl, rfl⟩
 have h := znn bw vw nm bs im ad es cd rv rf rn rim nu vi cl sq kk hh ii nn cc vv tt ra rs rc hR hec hes him hrs hrc hri hok2 kd hp ha
 have h2 := zjo ⟨vw, nm, bs, im, ea, es, ec⟩ ⟨kd, rv, rf, rn, rim, ⟨nu, vi, cl, sq, ⟨kk, hh, ii, nn, cc, vv, tt⟩⟩, ra, rs, rc⟩ ad cd
 rw [hk] at h2
 rw [show (⟨vw, nm, bs, im, ad, es, cd⟩ : Kv) = at_ ⟨vw, nm, bs, im, ea, es, ec⟩ ad cd from rfl, h2] at h
 exact h
theorem zfI (vw nm bs : Int) (im : ByteArray) (ea : Option Addr) (es : List Env) (ec : Nat) (kd rv rf rn : Int) (rim : ByteArray) (nu vi cl sq kk hh ii nn cc vv tt : Int) (ra : Option Addr) (rs : List Env) (rc : Nat) (r : Int × Kv) (hr : zaW ⟨vw, nm, bs, im, ea, es, ec⟩ ⟨kd, rv, rf, rn, rim, ⟨nu, vi, cl, sq, ⟨kk, hh, ii, nn, cc, vv, tt⟩⟩, ra, rs, rc⟩ = r)
  (hes : es.length ≤ 1500) (him : im.size ≤ 1000000) (hrs : rs.length ≤ 1500) (hrc : rs.length ≤ rc) (hri : rim.size ≤ 1000000) (w : World) (ha : zr w ea (es.flatMap Zi)) (hra : zr w ra (rs.flatMap Zi)) :
  Calls Tryz.prog 16 #[.agg #[.int .i64 vw, .int .i64 nm, .int .i64 bs, .string im, .slice ea es.length ec], .agg #[.int .i64 kd, .int .i64 rv, .int .i64 rf, .int .i64 rn, .string rim, .int .i64 nu, .int .i64 vi, .int .i64 cl, .int .i64 sq, .int .i64 kk, .int .i64 hh, .int .i64 ii, .int .i64 nn, .int .i64 cc, .int .i64 vv, .int .i64 tt, .slice ra rs.length rc]] w (zn3 w r) := by
 subst hr
 have hp := Hp.start w
 have HA := z0j ha
 have HRA := z0j hra
 have HEL : Hid (es.length ≤ 100000) := z0j (by omega)
 have HE1 := z0j hes
 have HR1 := z0j hrs
 have HIM := z0j him
 have HRC := z0j hrc
 have HRI := z0j hri
 have HSS : Hid (Kv.Small ⟨vw, nm, bs, im, ea, es, ec⟩) := z0j ⟨by simp only; omega, him⟩
 cases hok : okC ⟨vw, nm, bs, im, ea, es, ec⟩ with
 | false =>
  have hf : zaW ⟨vw, nm, bs, im, ea, es, ec⟩ ⟨kd, rv, rf, rn, rim, ⟨nu, vi, cl, sq, ⟨kk, hh, ii, nn, cc, vv, tt⟩⟩, ra, rs, rc⟩ = (1, ⟨vw, nm, bs, im, ea, es, ec⟩) := by unfold zaW; rw [if_neg (by rw [hok]; decide)]
  rw [hf]
  have HB := z0j hok
  clear hok hf hes him hrs hrc hri ha hra
  go_enter Tryz.func16, Tryz.ntmps16
  go_wp2_with (first | (go_at_call 64; (with_reducible refine (zch vw nm bs im ea es ec _ HB.out HSS.out _ (HA.out.below hp.below)).mono ?_); rintro e w1 ⟨rfl, hb⟩; replace hp := hp.call hb; clear hb; simp only [if_true, Bool.false_eq_true, if_false]) | go_skip | ((first | ((refine zg _ rfl ?_); refine lZ hp rfl zW ?_; clear hp; intro b w1 hp) | ((refine zh _ _ rfl ?_); refine lB hp rfl (za rfl) rfl ?_; clear hp; intro b w1 hp) | ((refine zf _ _ rfl ?_); first | refine lO hp rfl (za rfl) zib aa5 ?_ | refine lA hp rfl (za rfl) zfK aa5 ?_) | ((refine zd _ _ _ rfl ?_); (first | refine sO hp rfl (za rfl) zib aa5 ?_ | refine sA hp rfl (za rfl) (za rfl) zfK aa5 ?_ | refine sG hp rfl (za rfl) (za rfl) zfK aa5 ?_); clear hp; intro w1 hp; simp only [spl, z0a, z0b] at hp)); simp only [zc, zb, z0b, z0a]))
  exact bodyPost_ret (zl (rs := [.cell 4 24, .tmp 5]) Tryz.results16 (.cell rfl (hp.loadAgg zF at0 0 _ (by rfl) (by rfl)) (.tmp rfl .nil))) rfl ⟨fun h => absurd h (by show (1 : Int) ≠ 0; decide), fun _ => ⟨rfl, hp.below⟩⟩
 | true =>
  have HB := z0j hok
  have HOK : Hid (∀ a c, okC ⟨vw, nm, bs, im, a, es, c⟩ = true) := z0j (fun a c => by rw [← hok]; exact zdv ⟨rfl, rfl, rfl, rfl, rfl⟩)
  have hfo : zaW ⟨vw, nm, bs, im, ea, es, ec⟩ ⟨kd, rv, rf, rn, rim, ⟨nu, vi, cl, sq, ⟨kk, hh, ii, nn, cc, vv, tt⟩⟩, ra, rs, rc⟩ = ZQ ⟨vw, nm, bs, im, ea, es, ec⟩ ⟨kd, rv, rf, rn, rim, ⟨nu, vi, cl, sq, ⟨kk, hh, ii, nn, cc, vv, tt⟩⟩, ra, rs, rc⟩ := by unfold zaW; rw [if_pos hok]
  rw [hfo]
  obtain ⟨⟨c, ⟨vw', nm', bs', im', ea', es', ec'⟩⟩, hk⟩ : ∃ p, ZQ ⟨vw, nm, bs, im, ea, es, ec⟩ ⟨kd, rv, rf, rn, rim, ⟨nu, vi, cl, sq, ⟨kk, hh, ii, nn, cc, vv, tt⟩⟩, ra, rs, rc⟩ = p := ⟨_, rfl⟩
  rw [hk]
  have HFK := z0j hk
  clear hok hfo hes him hrs hrc hri ha hra hk
  by_cases hc : c = 0
  ·subst hc
   go_enter Tryz.func16, Tryz.ntmps16
   go_wp2_with (first | (go_at_call 64; (with_reducible refine (zch vw nm bs im ea es ec _ HB.out HSS.out _ (HA.out.below hp.below)).mono ?_); rintro e w1 ⟨rfl, hb⟩; replace hp := hp.call hb; clear hb; simp only [if_true, Bool.false_eq_true, if_false]) | (go_at_call 67; (with_reducible refine (zdP es _ _ ec rfl HEL.out _ (HA.out.below hp.below)).mono ?_); rintro e w1 ⟨ad, cd, RD, rfl, hcd, hrd, hpn⟩; replace hp := hp.join hpn; have HCD := z0j hcd; have HRD := z0j (zD.of_own hrd); clear hpn hcd hrd; simp only [z0f, z0e, z0i] at hp) | (go_at_call 70; (with_reducible refine (zgd _ vw nm bs im ea ad es ec cd kd rv rf rn rim nu vi cl sq kk hh ii nn cc vv tt ra rs rc HRD.out HCD.out HE1.out HIM.out HR1.out HRC.out HRI.out HB.out 0 _ HFK.out (zkn hp) HRA.out).mono ?_); rintro e w1 ⟨rfl, hq, _⟩; clear hp; obtain ⟨ax, cx, RX, hcx, hrx, hp⟩ := hq rfl; clear hq; have HCX := z0j hcx; have HRX := z0j hrx; clear hcx hrx; replace hp := zmL hp) | go_skip | ((first | ((refine zg _ rfl ?_); refine lZ hp rfl zW ?_; clear hp; intro b w1 hp) | ((refine zh _ _ rfl ?_); refine lB hp rfl (za rfl) rfl ?_; clear hp; intro b w1 hp) | ((refine zf _ _ rfl ?_); first | refine lO hp rfl (za rfl) zib aa5 ?_ | refine lA hp rfl (za rfl) zfK aa5 ?_) | ((refine zd _ _ _ rfl ?_); (first | refine sO hp rfl (za rfl) zib aa5 ?_ | refine sA hp rfl (za rfl) (za rfl) zfK aa5 ?_ | refine sG hp rfl (za rfl) (za rfl) zfK aa5 ?_); clear hp; intro w1 hp; simp only [spl, z0a, z0b] at hp)); simp only [zc, zb, z0b, z0a]))
   exact bodyPost_ret (zl (rs := [.cell 4 24, .tmp 5]) Tryz.results16 (.cell rfl (hp.loadAgg zF at1 0 _ (by rfl) (by rfl)) (.tmp rfl .nil))) rfl ⟨fun _ => ⟨ax, cx, RX, rfl, HCX.out, HRX.out, hp.kp⟩, fun h => absurd rfl h⟩
  ·have HC0 : Hid (c ≠ 0) := z0j hc
   have e1 : (c == 0) = false := by simpa using hc
   clear hc
   go_enter Tryz.func16, Tryz.ntmps16
   go_wp2_with (first | (go_at_call 64; (with_reducible refine (zch vw nm bs im ea es ec _ HB.out HSS.out _ (HA.out.below hp.below)).mono ?_); rintro e w1 ⟨rfl, hb⟩; replace hp := hp.call hb; clear hb; simp only [if_true, Bool.false_eq_true, if_false]) | (go_at_call 67; (with_reducible refine (zdP es _ _ ec rfl HEL.out _ (HA.out.below hp.below)).mono ?_); rintro e w1 ⟨ad, cd, RD, rfl, hcd, hrd, hpn⟩; replace hp := hp.join hpn; have HCD := z0j hcd; have HRD := z0j (zD.of_own hrd); clear hpn hcd hrd; simp only [z0f, z0e, z0i] at hp) | (go_at_call 70; (with_reducible refine (zgd _ vw nm bs im ea ad es ec cd kd rv rf rn rim nu vi cl sq kk hh ii nn cc vv tt ra rs rc HRD.out HCD.out HE1.out HIM.out HR1.out HRC.out HRI.out HB.out c _ HFK.out (zkn hp) HRA.out).mono ?_); rintro e w1 ⟨rfl, _, hq⟩; clear hp; have hp := hq HC0.out; clear hq) | go_skip | ((first | ((refine zg _ rfl ?_); refine lZ hp rfl zW ?_; clear hp; intro b w1 hp) | ((refine zh _ _ rfl ?_); refine lB hp rfl (za rfl) rfl ?_; clear hp; intro b w1 hp) | ((refine zf _ _ rfl ?_); first | refine lO hp rfl (za rfl) zib aa5 ?_ | refine lA hp rfl (za rfl) zfK aa5 ?_) | ((refine zd _ _ _ rfl ?_); (first | refine sO hp rfl (za rfl) zib aa5 ?_ | refine sA hp rfl (za rfl) (za rfl) zfK aa5 ?_ | refine sG hp rfl (za rfl) (za rfl) zfK aa5 ?_); clear hp; intro w1 hp; simp only [spl, z0a, z0b] at hp)); simp only [zc, zb, z0b, z0a]))
   exact bodyPost_ret (zl (rs := [.cell 4 24, .tmp 5]) Tryz.results16 (.cell rfl (hp.loadAgg zF at0 0 _ (by rfl) (by rfl)) (.tmp rfl .nil))) rfl ⟨fun h => absurd h HC0.out, fun _ => ⟨rfl, hp.below⟩⟩
end Go.Proofs.YtaafajaadfgaoaaGreat
