import Derived.Test.YtaafajaadfgaoaaGreatFp33
set_option linter.unusedSimpArgs false
set_option linter.unusedVariables false
set_option maxRecDepth 100000
set_option maxHeartbeats 60000000
namespace Go.Proofs.YtaafajaadfgaoaaGreat
open Go.RowKit
theorem Z1 {ty : TypeId} {k : Nat} (h : zac Tryz.prog ty k = true := by with_reducible first | exact zF | exact Zr | exact Zq) : zac Tryz.prog ty k = true := h
theorem zaV {ty : TypeId} (h : zB Tryz.prog ty = true := by with_reducible first | exact zq | exact zA | exact zO | exact ZL | exact Ze | exact zaz) : zB Tryz.prog ty = true := h
theorem zig (bw : Nat) (vw nm bs : Int) (im : ByteArray) (ea : Option Addr) (es : List Env) (ec : Nat) (rv rf rn : Int) (rim : ByteArray) (nu vi cl sq kk hh ii nn cc vv tt : Int) (ra : Option Addr) (rs : List Env) (rc : Nat) {R TT : List Blk} {w0 w : World} (hR : zD 31 11 (.slice ea es.length ec) es.length (es.flatMap Zi) R) (hec : es.length ≤ ec) (hes : es.length ≤ 1500) (him : im.size ≤ 1000000) (hrs : rs.length ≤ 1500) (hrc : rs.length ≤ rc) (hri : rim.size ≤ 1000000) (hok : okC ⟨vw, nm, bs, im, ea, es, ec⟩ = true) (kd : Int) (hkd : kd = 4) (hp : Hp w0.heap.size w0 w (⟨bw, [.int .i64 vw, .int .i64 nm, .int .i64 bs, .string im, .slice ea es.length ec], 103, 5⟩ :: (R ++ TT))) (ha : zr w0 ra (rs.flatMap Zi)) : Calls Tryz.prog 70 #[.pointer (some ⟨bw, 0, none⟩), .agg #[.int .i64 kd, .int .i64 rv, .int .i64 rf, .int .i64 rn, .string rim, .int .i64 nu, .int .i64 vi, .int .i64 cl, .int .i64 sq, .int .i64 kk, .int .i64 hh, .int .i64 ii, .int .i64 nn, .int .i64 cc, .int .i64 vv, .int .i64 tt, .slice ra rs.length rc]] w (zfw w0 bw (ZQ ⟨vw, nm, bs, im, ea, es, ec⟩ ⟨kd, rv, rf, rn, rim, ⟨nu, vi, cl, sq, ⟨kk, hh, ii, nn, cc, vv, tt⟩⟩, ra, rs, rc⟩) TT) := by
 subst hkd
 have HR := z0j hR
 have hok2 := zcj hok
 simp only at hok2
 have e0 : wrap64 (bs + es.length) = bs + es.length := by unfold wrap64; omega
 by_cases h1 : rn ≤ bs
 ·have hf : ZQ ⟨vw, nm, bs, im, ea, es, ec⟩ ⟨4, rv, rf, rn, rim, ⟨nu, vi, cl, sq, ⟨kk, hh, ii, nn, cc, vv, tt⟩⟩, ra, rs, rc⟩ = (140, ⟨vw, nm, bs, im, ea, es, ec⟩) := by unfold ZQ Zf; simp [h1]
  rw [hf]
  have e1 : decide (rn ≤ bs) = true := by simpa using h1
  clear h1 hf hok hec hes him hrs hrc hri ha hR hok2
  go_enter Tryz.func70, Tryz.ntmps70
  go_wp2_with (first | (go_at_call 71; (with_reducible refine (ZK vw nm bs im _ _ _ _).mono ?_); rintro e w1 ⟨rfl, hb⟩; replace hp := hp.call hb; clear hb) | go_skip | ((first | ((refine zh _ _ rfl ?_); refine lB hp rfl (za rfl) rfl ?_; clear hp; intro b w1 hp) | ((refine zf _ _ rfl ?_); first | refine lO hp rfl (za rfl) zaV aa5 ?_ | refine lA hp rfl (za rfl) Z1 aa5 ?_) | ((refine zd _ _ _ rfl ?_); (first | refine sO hp rfl (za rfl) zaV aa5 ?_ | refine sA hp rfl (za rfl) (za rfl) Z1 aa5 ?_ | refine sG hp rfl (za rfl) (za rfl) Z1 aa5 ?_); clear hp; intro w1 hp; simp only [spl, z0a, z0b] at hp) | ((refine zi _ _ _ rfl ?_); refine lS hp rfl (by intro w; go_simp; rfl) ?_; clear hp; intro b w1 hp; simp only [z0g, z0h, Nat.reduceAdd] at hp)); simp only [zc, zb, z0b, z0a]))
  refine zk _ (zE.all hp.drew) [] [(0, true), (1, true), (2, true), (3, true), (4, true), (5, true), (6, true), (7, true), (8, true), (9, true), (10, true), (11, true), (12, true), (13, true)] (by kernel_rfl) (by kernel_rfl) rfl (by kernel_rfl) (fun _ _ d _ _ h => by cases d <;> exact h) ?_
  replace hp := hp.drew
  repeat' (with_reducible refine zG ?_); first | (with_reducible refine zw ?_) | ((with_reducible refine zR ?_); refine zy rfl ?_; (first | ((with_reducible refine za0 _ _ rfl ?_); refine tS (by first | exact Zc rfl rfl rfl rfl | exact Zm rfl rfl rfl rfl) ?_) | ((with_reducible refine Zy _ rfl ?_); refine tM rfl ?_) | ((with_reducible refine Zt _ _ rfl ?_); refine tO rfl (za rfl) zq aa5 ?_) | refine tG (fun w _ => (by go_simp; try rfl)) ?_); try simp only [zc, zb, zm, zj, z0b, z0a, z0d, z0c, zn])
  go_wp2_with (first | (go_at_call 71; (with_reducible refine (ZK vw nm bs im _ _ _ _).mono ?_); rintro e w1 ⟨rfl, hb⟩; replace hp := hp.call hb; clear hb) | go_skip | ((first | ((refine zh _ _ rfl ?_); refine lB hp rfl (za rfl) rfl ?_; clear hp; intro b w1 hp) | ((refine zf _ _ rfl ?_); first | refine lO hp rfl (za rfl) zaV aa5 ?_ | refine lA hp rfl (za rfl) Z1 aa5 ?_) | ((refine zd _ _ _ rfl ?_); (first | refine sO hp rfl (za rfl) zaV aa5 ?_ | refine sA hp rfl (za rfl) (za rfl) Z1 aa5 ?_ | refine sG hp rfl (za rfl) (za rfl) Z1 aa5 ?_); clear hp; intro w1 hp; simp only [spl, z0a, z0b] at hp) | ((refine zi _ _ _ rfl ?_); refine lS hp rfl (by intro w; go_simp; rfl) ?_; clear hp; intro b w1 hp; simp only [z0g, z0h, Nat.reduceAdd] at hp)); simp only [zc, zb, z0b, z0a]))
  go_ret
  exact Z0 (by decide) hp.kp
 ·have e1 : decide (rn ≤ bs) = false := by simpa using h1
  by_cases h2 : bs + es.length < rn
  ·have hf : ZQ ⟨vw, nm, bs, im, ea, es, ec⟩ ⟨4, rv, rf, rn, rim, ⟨nu, vi, cl, sq, ⟨kk, hh, ii, nn, cc, vv, tt⟩⟩, ra, rs, rc⟩ = (140, ⟨vw, nm, bs, im, ea, es, ec⟩) := by unfold ZQ Zf zbb; simp [h1, h2]
   rw [hf]
   have e2 : decide (bs + (es.length : Int) < rn) = true := by simpa using h2
   clear h1 h2 hf hok hec hes him hrs hrc hri ha hR hok2
   go_enter Tryz.func70, Tryz.ntmps70
   go_wp2_with (first | (go_at_call 71; (with_reducible refine (ZK vw nm bs im _ _ _ _).mono ?_); rintro e w1 ⟨rfl, hb⟩; replace hp := hp.call hb; clear hb) | go_skip | ((first | ((refine zh _ _ rfl ?_); refine lB hp rfl (za rfl) rfl ?_; clear hp; intro b w1 hp) | ((refine zf _ _ rfl ?_); first | refine lO hp rfl (za rfl) zaV aa5 ?_ | refine lA hp rfl (za rfl) Z1 aa5 ?_) | ((refine zd _ _ _ rfl ?_); (first | refine sO hp rfl (za rfl) zaV aa5 ?_ | refine sA hp rfl (za rfl) (za rfl) Z1 aa5 ?_ | refine sG hp rfl (za rfl) (za rfl) Z1 aa5 ?_); clear hp; intro w1 hp; simp only [spl, z0a, z0b] at hp) | ((refine zi _ _ _ rfl ?_); refine lS hp rfl (by intro w; go_simp; rfl) ?_; clear hp; intro b w1 hp; simp only [z0g, z0h, Nat.reduceAdd] at hp)); simp only [zc, zb, z0b, z0a]))
   refine zk _ (zE.all hp.drew) [] [(0, true), (1, true), (2, true), (3, true), (4, true), (5, true), (6, true), (7, true), (8, true), (9, true), (10, true), (11, true), (12, true), (13, true)] (by kernel_rfl) (by kernel_rfl) rfl (by kernel_rfl) (fun _ _ d _ _ h => by cases d <;> exact h) ?_
   replace hp := hp.drew
   repeat' (with_reducible refine zG ?_); first | (with_reducible refine zw ?_) | ((with_reducible refine zR ?_); refine zy rfl ?_; (first | ((with_reducible refine za0 _ _ rfl ?_); refine tS (by first | exact Zc rfl rfl rfl rfl | exact Zm rfl rfl rfl rfl) ?_) | ((with_reducible refine Zy _ rfl ?_); refine tM rfl ?_) | ((with_reducible refine Zt _ _ rfl ?_); refine tO rfl (za rfl) zq aa5 ?_) | refine tG (fun w _ => (by go_simp; try rfl)) ?_); try simp only [zc, zb, zm, zj, z0b, z0a, z0d, z0c, zn])
   go_wp2_with (first | (go_at_call 71; (with_reducible refine (ZK vw nm bs im _ _ _ _).mono ?_); rintro e w1 ⟨rfl, hb⟩; replace hp := hp.call hb; clear hb) | go_skip | ((first | ((refine zh _ _ rfl ?_); refine lB hp rfl (za rfl) rfl ?_; clear hp; intro b w1 hp) | ((refine zf _ _ rfl ?_); first | refine lO hp rfl (za rfl) zaV aa5 ?_ | refine lA hp rfl (za rfl) Z1 aa5 ?_) | ((refine zd _ _ _ rfl ?_); (first | refine sO hp rfl (za rfl) zaV aa5 ?_ | refine sA hp rfl (za rfl) (za rfl) Z1 aa5 ?_ | refine sG hp rfl (za rfl) (za rfl) Z1 aa5 ?_); clear hp; intro w1 hp; simp only [spl, z0a, z0b] at hp) | ((refine zi _ _ _ rfl ?_); refine lS hp rfl (by intro w; go_simp; rfl) ?_; clear hp; intro b w1 hp; simp only [z0g, z0h, Nat.reduceAdd] at hp)); simp only [zc, zb, z0b, z0a]))
   go_ret
   exact Z0 (by decide) hp.kp
  ·have e2 : decide (bs + (es.length : Int) < rn) = false := by simpa using h2
   obtain ⟨k, hk⟩ : ∃ k : Nat, rn - bs = k := ⟨(rn - bs).toNat, by omega⟩
   have hke : k ≤ es.length := by omega
   obtain ⟨b, hb⟩ : ∃ b, okC ⟨vw, nm, rn, rim, ea, es.drop k, ec⟩ = b := ⟨_, rfl⟩
   have hf : ZQ ⟨vw, nm, bs, im, ea, es, ec⟩ ⟨4, rv, rf, rn, rim, ⟨nu, vi, cl, sq, ⟨kk, hh, ii, nn, cc, vv, tt⟩⟩, ra, rs, rc⟩ = if b = true then (0, ⟨vw, nm, rn, rim, ea, es.drop k, ec⟩) else (141, ⟨vw, nm, bs, im, ea, es, ec⟩) := by
    unfold ZQ Zf zbb
    have hkk : (rn - bs).toNat = k := by omega
    simp [h1, h2, hb, hkk]
   rw [hf]
   obtain ⟨bq, off, rfl⟩ : ∃ bq off, ea = some ⟨bq, off, none⟩ := by
    obtain ⟨hl, ⟨h0, _, _⟩ | ⟨g', off', cap', pre, hv, _⟩⟩ := hR
    ·omega
    ·injection hv with hv _ _
     exact ⟨g', off', hv⟩
   have HW : Hid (wrap64 (rn - bs) = (k : Int)) := z0j (by rw [← hk]; unfold wrap64; omega)
   have HB : Hid (∀ a c, okC ⟨vw, nm, rn, rim, a, es.drop k, c⟩ = b) := z0j (fun a c => by rw [← hb]; exact zdv ⟨rfl, rfl, rfl, rfl, rfl⟩)
   have hnl : (es.drop k).length = es.length - k := List.length_drop ..
   have HSS : Hid (∀ a c, Kv.Small ⟨vw, nm, rn, rim, a, es.drop k, c⟩) := z0j (fun a c => ⟨by simp only; omega, hri⟩)
   by_cases hck : ec = k
   ·obtain rfl : k = es.length := by omega
    subst hck
    have hnil : es.drop es.length = [] := List.drop_length
    rw [hnil] at HB HSS ⊢
    have HNL : Hid (([] : List Env).length = 0) := z0j rfl
    have f1 : (0 : Int) ≤ (es.length : Int) := by omega
    clear h1 h2 hf hok hec hes him hrs hrc hri ha hR hok2 hb hnl hk hke hnil
    cases b
    rw [if_neg (by decide)]
    rotate_left
    rw [if_pos rfl]
    all_goals
     go_enter Tryz.func70, Tryz.ntmps70
     go_wp2_with (first | (go_at_call 71; (with_reducible refine (ZK vw nm bs im _ _ _ _).mono ?_); rintro e w1 ⟨rfl, hb⟩; replace hp := hp.call hb; clear hb) | go_skip | ((first | ((refine zh _ _ rfl ?_); refine lB hp rfl (za rfl) rfl ?_; clear hp; intro b w1 hp) | ((refine zf _ _ rfl ?_); first | refine lO hp rfl (za rfl) zaV aa5 ?_ | refine lA hp rfl (za rfl) Z1 aa5 ?_) | ((refine zd _ _ _ rfl ?_); (first | refine sO hp rfl (za rfl) zaV aa5 ?_ | refine sA hp rfl (za rfl) (za rfl) Z1 aa5 ?_ | refine sG hp rfl (za rfl) (za rfl) Z1 aa5 ?_); clear hp; intro w1 hp; simp only [spl, z0a, z0b] at hp) | ((refine zi _ _ _ rfl ?_); refine lS hp rfl (by intro w; go_simp; rfl) ?_; clear hp; intro b w1 hp; simp only [z0g, z0h, Nat.reduceAdd] at hp)); simp only [zc, zb, z0b, z0a]))
     refine zk _ (zE.all hp.drew) [] [(0, true), (1, true), (2, true), (3, true), (4, true), (5, true), (6, true), (7, true), (8, true), (9, true), (10, true), (11, true), (12, true), (13, true)] (by kernel_rfl) (by kernel_rfl) rfl (by kernel_rfl) (fun _ _ d _ _ h => by cases d <;> exact h) ?_
     replace hp := hp.drew
     repeat' (with_reducible refine zG ?_); first | (with_reducible refine zw ?_) | ((with_reducible refine zR ?_); refine zy rfl ?_; (first | ((with_reducible refine za0 _ _ rfl ?_); refine tS (by first | exact Zc rfl rfl rfl rfl | exact Zm rfl rfl rfl rfl) ?_) | ((with_reducible refine Zy _ rfl ?_); refine tM rfl ?_) | ((with_reducible refine Zt _ _ rfl ?_); refine tO rfl (za rfl) zq aa5 ?_) | refine tG (fun w _ => (by go_simp; try rfl)) ?_); try simp only [zc, zb, zm, zj, z0b, z0a, z0d, z0c, zn])
     go_wp2_with (first | (go_at_call 71; (with_reducible refine (ZK vw nm bs im _ _ _ _).mono ?_); rintro e w1 ⟨rfl, hb⟩; replace hp := hp.call hb; clear hb) | go_skip | ((first | ((refine zh _ _ rfl ?_); refine lB hp rfl (za rfl) rfl ?_; clear hp; intro b w1 hp) | ((refine zf _ _ rfl ?_); first | refine lO hp rfl (za rfl) zaV aa5 ?_ | refine lA hp rfl (za rfl) Z1 aa5 ?_) | ((refine zd _ _ _ rfl ?_); (first | refine sO hp rfl (za rfl) zaV aa5 ?_ | refine sA hp rfl (za rfl) (za rfl) Z1 aa5 ?_ | refine sG hp rfl (za rfl) (za rfl) Z1 aa5 ?_); clear hp; intro w1 hp; simp only [spl, z0a, z0b] at hp) | ((refine zi _ _ _ rfl ?_); refine lS hp rfl (by intro w; go_simp; rfl) ?_; clear hp; intro b w1 hp; simp only [z0g, z0h, Nat.reduceAdd] at hp)); simp only [zc, zb, z0b, z0a]))
     refine zk [_, _] (zE.two hp.drew at0 at1) [18] [(0, true), (1, true), (2, true), (3, true), (4, true), (5, true), (6, true), (7, true), (8, true), (9, true), (10, true), (11, true), (12, true), (13, true), (14, true), (15, true), (16, true), (17, true), (18, false)] (by kernel_rfl) (by kernel_rfl) rfl (by kernel_rfl) (fun _ _ d _ _ h => by cases d <;> exact h) ?_
     replace hp := hp.drew
     repeat' (with_reducible refine zG ?_); first | (with_reducible refine zw ?_) | ((with_reducible refine zR ?_); refine zy rfl ?_; (first | ((with_reducible refine Zy _ rfl ?_); refine tM rfl ?_) | ((with_reducible refine Zt _ _ rfl ?_); refine tO rfl (za rfl) (by with_reducible first | exact zq | exact zO) aa5 ?_) | refine tG (fun w _ => (by go_simp; try rfl)) ?_); try simp only [zc, zb, zm, zj, z0b, z0a, z0d, z0c, zn, HW.out]) | (refine zQ rfl (fun K hK => ?_); go_wp2_with (first | go_skip | (((refine zd _ _ _ rfl ?_); (first | refine sO hp rfl (za rfl) zaV aa5 ?_ | refine sA hp rfl (za rfl) (za rfl) Z1 aa5 ?_ | refine sG hp rfl (za rfl) (za rfl) Z1 aa5 ?_); clear hp; intro w1 hp; simp only [spl, z0a, z0b] at hp); simp only [zc, zb, z0b, z0a])); (first | refine hK.out _ _ (.inl rfl) ?_ | refine hK.out _ _ (.inr (zE.two hp aa5 aa5)) ?_); clear hK K; try simp only [zc, zb, zm, zj, z0b, z0a, z0d, z0c, zn, HW.out])
     go_wp2_with (first | (go_at_call 71; (with_reducible refine (ZK vw nm bs im _ _ _ _).mono ?_); rintro e w1 ⟨rfl, hb⟩; replace hp := hp.call hb; clear hb) | go_skip | ((first | ((refine zh _ _ rfl ?_); refine lB hp rfl (za rfl) rfl ?_; clear hp; intro b w1 hp) | ((refine zf _ _ rfl ?_); first | refine lO hp rfl (za rfl) zaV aa5 ?_ | refine lA hp rfl (za rfl) Z1 aa5 ?_) | ((refine zd _ _ _ rfl ?_); (first | refine sO hp rfl (za rfl) zaV aa5 ?_ | refine sA hp rfl (za rfl) (za rfl) Z1 aa5 ?_ | refine sG hp rfl (za rfl) (za rfl) Z1 aa5 ?_); clear hp; intro w1 hp; simp only [spl, z0a, z0b] at hp) | ((refine zi _ _ _ rfl ?_); refine lS hp rfl (by intro w; go_simp; rfl) ?_; clear hp; intro b w1 hp; simp only [z0g, z0h, Nat.reduceAdd] at hp)); simp only [zc, zb, z0b, z0a]))
     refine zk [_] (zE.one hp.drew at0) [13] [(0, true), (1, true), (2, true), (3, true), (4, true), (5, true), (6, true), (7, true), (8, true), (9, false), (10, true), (11, true), (12, true), (13, false)] (by kernel_rfl) (by kernel_rfl) rfl (by kernel_rfl) (fun _ _ d _ _ h => by cases d <;> exact h) ?_
     replace hp := hp.drew
     repeat' (with_reducible refine zG ?_); first | (with_reducible refine zw ?_) | ((with_reducible refine zR ?_); refine zy rfl ?_; (first | ((with_reducible refine Zy _ rfl ?_); refine tM rfl ?_) | ((with_reducible refine Zt _ _ rfl ?_); refine tO rfl (za rfl) (by with_reducible first | exact zq | exact ZL) aa5 ?_) | refine tG (fun w _ => (by go_simp; try rfl)) ?_); try simp only [zc, zb, zm, zj, z0b, z0a, z0d, z0c, zn]) | (refine zQ rfl (fun K hK => ?_); go_wp2_with (first | go_skip | (((refine zd _ _ _ rfl ?_); (first | refine sO hp rfl (za rfl) zaV aa5 ?_ | refine sA hp rfl (za rfl) (za rfl) Z1 aa5 ?_ | refine sG hp rfl (za rfl) (za rfl) Z1 aa5 ?_); clear hp; intro w1 hp; simp only [spl, z0a, z0b] at hp); simp only [zc, zb, z0b, z0a])); (first | refine hK.out _ _ (.inl rfl) ?_ | refine hK.out _ _ (.inr (zE.one hp aa5)) ?_); clear hK K; try simp only [zc, zb, zm, zj, z0b, z0a, z0d, z0c, zn])
     go_wp2_with (first | (go_at_call 64; (with_reducible refine (zdn vw nm rn rim _ [] 0 0 HNL.out _ (HB.out _ _) (HSS.out _ _) _ (zr.nil _ _)).mono ?_); rintro e w1 ⟨rfl, hb⟩; replace hp := hp.call hb; clear hb; simp only [if_true, Bool.false_eq_true, if_false]) | go_skip | ((first | ((refine zh _ _ rfl ?_); refine lB hp rfl (za rfl) rfl ?_; clear hp; intro b w1 hp) | ((refine zf _ _ rfl ?_); first | refine lO hp rfl (za rfl) zaV aa5 ?_ | refine lA hp rfl (za rfl) Z1 aa5 ?_) | ((refine zd _ _ _ rfl ?_); (first | refine sO hp rfl (za rfl) zaV aa5 ?_ | refine sA hp rfl (za rfl) (za rfl) Z1 aa5 ?_ | refine sG hp rfl (za rfl) (za rfl) Z1 aa5 ?_); clear hp; intro w1 hp; simp only [spl, z0a, z0b] at hp) | ((refine zi _ _ _ rfl ?_); refine lS hp rfl (by intro w; go_simp; rfl) ?_; clear hp; intro b w1 hp; simp only [z0g, z0h, Nat.reduceAdd] at hp)); simp only [zc, zb, z0b, z0a]))
    ·go_ret
     exact zbZ (a := some ⟨bq, off, none⟩) (n := 0) (c := 0) (R := []) (Nat.le_refl _) (zD.nil _ _ _) hp.kp rfl
    ·go_ret
     exact Z0 (by decide) hp.kp
   ·have hRd := hR.drop hke (by omega)
    rw [zfE] at hRd
    have HRD := z0j hRd
    have HNL := z0j hnl
    have HLE : Hid (es.length - k ≤ ec - k) := z0j (by omega)
    have e4 : decide ((4000 : Int) < ((es.length - k : Nat) : Int)) = false := by simp; omega
    have f1 : (0 : Int) ≤ (k : Int) := by omega
    have f2 : (k : Int) ≤ (es.length : Int) := by omega
    have f3 : ¬ ec = k := hck
    clear h1 h2 hf hok hec hes him hrs hrc hri ha hR hok2 hb hnl hk hke hRd hck
    cases b
    rw [if_neg (by decide)]
    rotate_left
    rw [if_pos rfl]
    all_goals
     go_enter Tryz.func70, Tryz.ntmps70
     go_wp2_with (first | (go_at_call 71; (with_reducible refine (ZK vw nm bs im _ _ _ _).mono ?_); rintro e w1 ⟨rfl, hb⟩; replace hp := hp.call hb; clear hb) | go_skip | ((first | ((refine zh _ _ rfl ?_); refine lB hp rfl (za rfl) rfl ?_; clear hp; intro b w1 hp) | ((refine zf _ _ rfl ?_); first | refine lO hp rfl (za rfl) zaV aa5 ?_ | refine lA hp rfl (za rfl) Z1 aa5 ?_) | ((refine zd _ _ _ rfl ?_); (first | refine sO hp rfl (za rfl) zaV aa5 ?_ | refine sA hp rfl (za rfl) (za rfl) Z1 aa5 ?_ | refine sG hp rfl (za rfl) (za rfl) Z1 aa5 ?_); clear hp; intro w1 hp; simp only [spl, z0a, z0b] at hp) | ((refine zi _ _ _ rfl ?_); refine lS hp rfl (by intro w; go_simp; rfl) ?_; clear hp; intro b w1 hp; simp only [z0g, z0h, Nat.reduceAdd] at hp)); simp only [zc, zb, z0b, z0a]))
     refine zk _ (zE.all hp.drew) [] [(0, true), (1, true), (2, true), (3, true), (4, true), (5, true), (6, true), (7, true), (8, true), (9, true), (10, true), (11, true), (12, true), (13, true)] (by kernel_rfl) (by kernel_rfl) rfl (by kernel_rfl) (fun _ _ d _ _ h => by cases d <;> exact h) ?_
     replace hp := hp.drew
     repeat' (with_reducible refine zG ?_); first | (with_reducible refine zw ?_) | ((with_reducible refine zR ?_); refine zy rfl ?_; (first | ((with_reducible refine za0 _ _ rfl ?_); refine tS (by first | exact Zc rfl rfl rfl rfl | exact Zm rfl rfl rfl rfl) ?_) | ((with_reducible refine Zy _ rfl ?_); refine tM rfl ?_) | ((with_reducible refine Zt _ _ rfl ?_); refine tO rfl (za rfl) zq aa5 ?_) | refine tG (fun w _ => (by go_simp; try rfl)) ?_); try simp only [zc, zb, zm, zj, z0b, z0a, z0d, z0c, zn])
     go_wp2_with (first | (go_at_call 71; (with_reducible refine (ZK vw nm bs im _ _ _ _).mono ?_); rintro e w1 ⟨rfl, hb⟩; replace hp := hp.call hb; clear hb) | go_skip | ((first | ((refine zh _ _ rfl ?_); refine lB hp rfl (za rfl) rfl ?_; clear hp; intro b w1 hp) | ((refine zf _ _ rfl ?_); first | refine lO hp rfl (za rfl) zaV aa5 ?_ | refine lA hp rfl (za rfl) Z1 aa5 ?_) | ((refine zd _ _ _ rfl ?_); (first | refine sO hp rfl (za rfl) zaV aa5 ?_ | refine sA hp rfl (za rfl) (za rfl) Z1 aa5 ?_ | refine sG hp rfl (za rfl) (za rfl) Z1 aa5 ?_); clear hp; intro w1 hp; simp only [spl, z0a, z0b] at hp) | ((refine zi _ _ _ rfl ?_); refine lS hp rfl (by intro w; go_simp; rfl) ?_; clear hp; intro b w1 hp; simp only [z0g, z0h, Nat.reduceAdd] at hp)); simp only [zc, zb, z0b, z0a]))
     refine zk [_, _] (zE.two hp.drew at0 at1) [18] [(0, true), (1, true), (2, true), (3, true), (4, true), (5, true), (6, true), (7, true), (8, true), (9, true), (10, true), (11, true), (12, true), (13, true), (14, true), (15, true), (16, true), (17, true), (18, false)] (by kernel_rfl) (by kernel_rfl) rfl (by kernel_rfl) (fun _ _ d _ _ h => by cases d <;> exact h) ?_
     replace hp := hp.drew
     repeat' (with_reducible refine zG ?_); first | (with_reducible refine zw ?_) | ((with_reducible refine zR ?_); refine zy rfl ?_; (first | ((with_reducible refine Zy _ rfl ?_); refine tM rfl ?_) | ((with_reducible refine Zt _ _ rfl ?_); refine tO rfl (za rfl) (by with_reducible first | exact zq | exact zO) aa5 ?_) | refine tG (fun w _ => (by go_simp; try rfl)) ?_); try simp only [zc, zb, zm, zj, z0b, z0a, z0d, z0c, zn, HW.out]) | (refine zQ rfl (fun K hK => ?_); go_wp2_with (first | go_skip | (((refine zd _ _ _ rfl ?_); (first | refine sO hp rfl (za rfl) zaV aa5 ?_ | refine sA hp rfl (za rfl) (za rfl) Z1 aa5 ?_ | refine sG hp rfl (za rfl) (za rfl) Z1 aa5 ?_); clear hp; intro w1 hp; simp only [spl, z0a, z0b] at hp); simp only [zc, zb, z0b, z0a])); (first | refine hK.out _ _ (.inl rfl) ?_ | refine hK.out _ _ (.inr (zE.two hp aa5 aa5)) ?_); clear hK K; try simp only [zc, zb, zm, zj, z0b, z0a, z0d, z0c, zn, HW.out])
     go_wp2_with (first | (go_at_call 71; (with_reducible refine (ZK vw nm bs im _ _ _ _).mono ?_); rintro e w1 ⟨rfl, hb⟩; replace hp := hp.call hb; clear hb) | go_skip | ((first | ((refine zh _ _ rfl ?_); refine lB hp rfl (za rfl) rfl ?_; clear hp; intro b w1 hp) | ((refine zf _ _ rfl ?_); first | refine lO hp rfl (za rfl) zaV aa5 ?_ | refine lA hp rfl (za rfl) Z1 aa5 ?_) | ((refine zd _ _ _ rfl ?_); (first | refine sO hp rfl (za rfl) zaV aa5 ?_ | refine sA hp rfl (za rfl) (za rfl) Z1 aa5 ?_ | refine sG hp rfl (za rfl) (za rfl) Z1 aa5 ?_); clear hp; intro w1 hp; simp only [spl, z0a, z0b] at hp) | ((refine zi _ _ _ rfl ?_); refine lS hp rfl (by intro w; go_simp; rfl) ?_; clear hp; intro b w1 hp; simp only [z0g, z0h, Nat.reduceAdd] at hp)); simp only [zc, zb, z0b, z0a]))
     refine zk [_] (zE.one hp.drew at0) [13] [(0, true), (1, true), (2, true), (3, true), (4, true), (5, true), (6, true), (7, true), (8, true), (9, false), (10, true), (11, true), (12, true), (13, false)] (by kernel_rfl) (by kernel_rfl) rfl (by kernel_rfl) (fun _ _ d _ _ h => by cases d <;> exact h) ?_
     replace hp := hp.drew
     repeat' (with_reducible refine zG ?_); first | (with_reducible refine zw ?_) | ((with_reducible refine zR ?_); refine zy rfl ?_; (first | ((with_reducible refine Zy _ rfl ?_); refine tM rfl ?_) | ((with_reducible refine Zt _ _ rfl ?_); refine tO rfl (za rfl) (by with_reducible first | exact zq | exact ZL) aa5 ?_) | refine tG (fun w _ => (by go_simp; try rfl)) ?_); try simp only [zc, zb, zm, zj, z0b, z0a, z0d, z0c, zn]) | (refine zQ rfl (fun K hK => ?_); go_wp2_with (first | go_skip | (((refine zd _ _ _ rfl ?_); (first | refine sO hp rfl (za rfl) zaV aa5 ?_ | refine sA hp rfl (za rfl) (za rfl) Z1 aa5 ?_ | refine sG hp rfl (za rfl) (za rfl) Z1 aa5 ?_); clear hp; intro w1 hp; simp only [spl, z0a, z0b] at hp); simp only [zc, zb, z0b, z0a])); (first | refine hK.out _ _ (.inl rfl) ?_ | refine hK.out _ _ (.inr (zE.one hp aa5)) ?_); clear hK K; try simp only [zc, zb, zm, zj, z0b, z0a, z0d, z0c, zn])
     go_wp2_with (first | (go_at_call 64; (with_reducible refine (zdn vw nm rn rim _ (es.drop k) _ (ec - k) HNL.out _ (HB.out _ _) (HSS.out _ _) _ (HRD.out.keptS.at hp (fun p hm => by simp [hm]))).mono ?_); rintro e w1 ⟨rfl, hb⟩; replace hp := hp.call hb; clear hb; simp only [if_true, Bool.false_eq_true, if_false]) | go_skip | ((first | ((refine zh _ _ rfl ?_); refine lB hp rfl (za rfl) rfl ?_; clear hp; intro b w1 hp) | ((refine zf _ _ rfl ?_); first | refine lO hp rfl (za rfl) zaV aa5 ?_ | refine lA hp rfl (za rfl) Z1 aa5 ?_) | ((refine zd _ _ _ rfl ?_); (first | refine sO hp rfl (za rfl) zaV aa5 ?_ | refine sA hp rfl (za rfl) (za rfl) Z1 aa5 ?_ | refine sG hp rfl (za rfl) (za rfl) Z1 aa5 ?_); clear hp; intro w1 hp; simp only [spl, z0a, z0b] at hp) | ((refine zi _ _ _ rfl ?_); refine lS hp rfl (by intro w; go_simp; rfl) ?_; clear hp; intro b w1 hp; simp only [z0g, z0h, Nat.reduceAdd] at hp)); simp only [zc, zb, z0b, z0a]))
    ·go_ret
     exact zbZ HLE.out HRD.out hp.kp HNL.out
    ·go_ret
     exact Z0 (by decide) hp.kp
end Go.Proofs.YtaafajaadfgaoaaGreat
