import Derived.Test.YtaafajaadfgaoaaGreatCx35
set_option linter.unusedSimpArgs false
set_option linter.unusedVariables false
set_option maxRecDepth 100000
set_option maxHeartbeats 60000000
namespace Go.Proofs.YtaafajaadfgaoaaGreat
open Go.RowKit
theorem zlc {ty : TypeId} {k : Nat} (h : ZB Tryz.prog ty k = true := by with_reducible first | exact zbf | exact zfM | exact zc6) : ZB Tryz.prog ty k = true := h
theorem zfT {ty : TypeId} (h : zy Tryz.prog ty = true := by with_reducible first | exact zr | exact Ze | exact zaj | exact zd2 | exact Zb | exact zeu) : zy Tryz.prog ty = true := h
theorem zk8 (bw : Nat) (vw nm bs : Int) (im : ByteArray) (ea : Option Addr) (es : List Env) (ec : Nat) (rv rf rn : Int) (rim : ByteArray) (nu vi cl sq kk hh ii nn cc vv tt : Int) (ra : Option Addr) (rs : List Env) (rc : Nat) {R TT : List Blk} {w0 w : World} (hR : zB 31 11 (.slice ea es.length ec) es.length (es.flatMap Zy) R) (hec : es.length ≤ ec) (hes : es.length ≤ 1500) (him : im.size ≤ 1000000) (hrs : rs.length ≤ 1500) (hrc : rs.length ≤ rc) (hri : rim.size ≤ 1000000) (hok : okC ⟨vw, nm, bs, im, ea, es, ec⟩ = true) (kd : Int) (hkd : kd = 4) (hp : Hp w0.heap.size w0 w (⟨bw, [.int .i64 vw, .int .i64 nm, .int .i64 bs, .string im, .slice ea es.length ec], 103, 5⟩ :: (R ++ TT))) (ha : zm w0 ra (rs.flatMap Zy)) : Calls Tryz.prog 70 #[.pointer (some ⟨bw, 0, none⟩), .agg #[.int .i64 kd, .int .i64 rv, .int .i64 rf, .int .i64 rn, .string rim, .int .i64 nu, .int .i64 vi, .int .i64 cl, .int .i64 sq, .int .i64 kk, .int .i64 hh, .int .i64 ii, .int .i64 nn, .int .i64 cc, .int .i64 vv, .int .i64 tt, .slice ra rs.length rc]] w (zgw w0 bw (Zu ⟨vw, nm, bs, im, ea, es, ec⟩ ⟨kd, rv, rf, rn, rim, ⟨nu, vi, cl, sq, ⟨kk, hh, ii, nn, cc, vv, tt⟩⟩, ra, rs, rc⟩) TT) := by
 subst hkd
 have HR := z0j hR
 have hok2 := zbh hok
 simp only at hok2
 have e0 : wrap64 (bs + es.length) = bs + es.length := by unfold wrap64; omega
 by_cases h1 : rn ≤ bs
 ·have hf : Zu ⟨vw, nm, bs, im, ea, es, ec⟩ ⟨4, rv, rf, rn, rim, ⟨nu, vi, cl, sq, ⟨kk, hh, ii, nn, cc, vv, tt⟩⟩, ra, rs, rc⟩ = (140, ⟨vw, nm, bs, im, ea, es, ec⟩) := by unfold Zu zat; simp [h1]
  rw [hf]
  have e1 : decide (rn ≤ bs) = true := by simpa using h1
  clear h1 hf hok hec hes him hrs hrc hri ha hR hok2
  go_enter Tryz.func70, Tryz.ntmps70
  go_wp2_with (first | (go_at_call 71; (with_reducible refine (za3 vw nm bs im _ _ _ _).mono ?_); rintro e w1 ⟨rfl, hb⟩; replace hp := hp.call hb; clear hb) | ((first | ((refine zk _ _ rfl ?_); refine lB hp rfl (za rfl) rfl ?_; clear hp; intro b w1 hp) | ((refine zd _ _ rfl ?_); first | refine lO hp rfl (za rfl) zfT aa5 ?_ | refine lA hp rfl (za rfl) zlc aa5 ?_)); simp only [zc, zb, z0b, z0a]))
  refine zf _ (zt.all hp.drew) [] [(0, true), (1, true), (2, true), (3, true), (4, true), (5, true), (6, true), (7, true), (8, true), (9, true), (10, true), (11, true), (12, true), (13, true)] (by kernel_rfl) (by kernel_rfl) rfl (by kernel_rfl) (fun _ _ d _ _ h => by cases d <;> exact h) ?_
  replace hp := hp.drew
  repeat' (with_reducible refine zq ?_); first | (with_reducible refine zl ?_) | ((with_reducible refine zw ?_); refine zn rfl ?_; (first | ((with_reducible refine zcQ _ _ rfl ?_); refine tS (by first | exact Zr rfl rfl rfl rfl) ?_) | ((with_reducible refine zH _ rfl ?_); refine tM rfl ?_) | ((with_reducible refine zI _ _ rfl ?_); refine tO rfl (za rfl) zr aa5 ?_) | refine tG (fun w _ => (by go_simp; try rfl)) ?_); try simp only [zc, zb, zh, ze, z0b, z0a, z0d, z0c, zj])
  go_wp2_with (first | fail)
  go_ret
  exact ZN (by decide) hp.kp
 ·have e1 : decide (rn ≤ bs) = false := by simpa using h1
  by_cases h2 : bs + es.length < rn
  ·have hf : Zu ⟨vw, nm, bs, im, ea, es, ec⟩ ⟨4, rv, rf, rn, rim, ⟨nu, vi, cl, sq, ⟨kk, hh, ii, nn, cc, vv, tt⟩⟩, ra, rs, rc⟩ = (140, ⟨vw, nm, bs, im, ea, es, ec⟩) := by unfold Zu zat zaM; simp [h1, h2]
   rw [hf]
   have e2 : decide (bs + (es.length : Int) < rn) = true := by simpa using h2
   clear h1 h2 hf hok hec hes him hrs hrc hri ha hR hok2
   go_enter Tryz.func70, Tryz.ntmps70
   go_wp2_with (first | (go_at_call 71; (with_reducible refine (za3 vw nm bs im _ _ _ _).mono ?_); rintro e w1 ⟨rfl, hb⟩; replace hp := hp.call hb; clear hb) | ((first | ((refine zk _ _ rfl ?_); refine lB hp rfl (za rfl) rfl ?_; clear hp; intro b w1 hp) | ((refine zd _ _ rfl ?_); first | refine lO hp rfl (za rfl) zfT aa5 ?_ | refine lA hp rfl (za rfl) zlc aa5 ?_)); simp only [zc, zb, z0b, z0a]))
   refine zf _ (zt.all hp.drew) [] [(0, true), (1, true), (2, true), (3, true), (4, true), (5, true), (6, true), (7, true), (8, true), (9, true), (10, true), (11, true), (12, true), (13, true)] (by kernel_rfl) (by kernel_rfl) rfl (by kernel_rfl) (fun _ _ d _ _ h => by cases d <;> exact h) ?_
   replace hp := hp.drew
   repeat' (with_reducible refine zq ?_); first | (with_reducible refine zl ?_) | ((with_reducible refine zw ?_); refine zn rfl ?_; (first | ((with_reducible refine zH _ rfl ?_); refine tM rfl ?_) | ((with_reducible refine zI _ _ rfl ?_); refine tO rfl (za rfl) zr aa5 ?_) | refine tG (fun w _ => (by go_simp; try rfl)) ?_); try simp only [zc, zb, zh, ze, z0b, z0a, z0d, z0c, zj])
   go_wp2_with (first | fail)
   go_ret
   exact ZN (by decide) hp.kp
  ·have e2 : decide (bs + (es.length : Int) < rn) = false := by simpa using h2
   obtain ⟨k, hk⟩ : ∃ k : Nat, rn - bs = k := ⟨(rn - bs).toNat, by omega⟩
   have hke : k ≤ es.length := by omega
   obtain ⟨b, hb⟩ : ∃ b, okC ⟨vw, nm, rn, rim, ea, es.drop k, ec⟩ = b := ⟨_, rfl⟩
   have hf : Zu ⟨vw, nm, bs, im, ea, es, ec⟩ ⟨4, rv, rf, rn, rim, ⟨nu, vi, cl, sq, ⟨kk, hh, ii, nn, cc, vv, tt⟩⟩, ra, rs, rc⟩ = if b = true then (0, ⟨vw, nm, rn, rim, ea, es.drop k, ec⟩) else (141, ⟨vw, nm, bs, im, ea, es, ec⟩) := by
    unfold Zu zat zaM
    have hkk : (rn - bs).toNat = k := by omega
    simp [h1, h2, hb, hkk]
   rw [hf]
   obtain ⟨bq, off, rfl⟩ : ∃ bq off, ea = some ⟨bq, off, none⟩ := by
    obtain ⟨hl, ⟨h0, _, _⟩ | ⟨g', off', cap', pre, hv, _⟩⟩ := hR
    ·omega
    ·injection hv with hv _ _
     exact ⟨g', off', hv⟩
   have HW : Hid (wrap64 (rn - bs) = (k : Int)) := z0j (by rw [← hk]; unfold wrap64; omega)
   have HB : Hid (∀ a c, okC ⟨vw, nm, rn, rim, a, es.drop k, c⟩ = b) := z0j (fun a c => by rw [← hb]; exact zfp ⟨rfl, rfl, rfl, rfl, rfl⟩)
   have hnl : (es.drop k).length = es.length - k := List.length_drop ..
   have HSS : Hid (∀ a c, Kv.Small ⟨vw, nm, rn, rim, a, es.drop k, c⟩) := z0j (fun a c => ⟨by simp only; omega, hri⟩)
   by_cases hck : ec = k
   ·obtain rfl : k = es.length := by omega
    subst hck
    have hnil : es.drop es.length = [] := List.drop_length
    rw [hnil] at HB HSS ⊢
    have HNL : Hid (([] : List Env).length = 0) := z0j rfl
    have f1 : (0 : Int) ≤ (es.length : Int) := by omega
    clear h1 h2 hf hok hec hes him hrs hrc hri ha hR hok2 hb hnl hk hke hnil
    cases b
    rw [if_neg (by decide)]
    rotate_left
    rw [if_pos rfl]
    all_goals
     go_enter Tryz.func70, Tryz.ntmps70
     go_wp2_with (first | (go_at_call 71; (with_reducible refine (za3 vw nm bs im _ _ _ _).mono ?_); rintro e w1 ⟨rfl, hb⟩; replace hp := hp.call hb; clear hb) | ((first | ((refine zk _ _ rfl ?_); refine lB hp rfl (za rfl) rfl ?_; clear hp; intro b w1 hp) | ((refine zd _ _ rfl ?_); first | refine lO hp rfl (za rfl) zfT aa5 ?_ | refine lA hp rfl (za rfl) zlc aa5 ?_)); simp only [zc, zb, z0b, z0a]))
     refine zf _ (zt.all hp.drew) [] [(0, true), (1, true), (2, true), (3, true), (4, true), (5, true), (6, true), (7, true), (8, true), (9, true), (10, true), (11, true), (12, true), (13, true)] (by kernel_rfl) (by kernel_rfl) rfl (by kernel_rfl) (fun _ _ d _ _ h => by cases d <;> exact h) ?_
     replace hp := hp.drew
     repeat' (with_reducible refine zq ?_); first | (with_reducible refine zl ?_) | ((with_reducible refine zw ?_); refine zn rfl ?_; (first | ((with_reducible refine zH _ rfl ?_); refine tM rfl ?_) | ((with_reducible refine zI _ _ rfl ?_); refine tO rfl (za rfl) zr aa5 ?_) | refine tG (fun w _ => (by go_simp; try rfl)) ?_); try simp only [zc, zb, zh, ze, z0b, z0a, z0d, z0c, zj])
     go_wp2_with (first | fail)
     refine zf [_, _] (zt.two hp.drew at0 at1) [18] [(0, true), (1, true), (2, true), (3, true), (4, true), (5, true), (6, true), (7, true), (8, true), (9, true), (10, true), (11, true), (12, true), (13, true), (14, true), (15, true), (16, true), (17, true), (18, false)] (by kernel_rfl) (by kernel_rfl) rfl (by kernel_rfl) (fun _ _ d _ _ h => by cases d <;> exact h) ?_
     replace hp := hp.drew
     repeat' (with_reducible refine zq ?_); first | (with_reducible refine zl ?_) | ((with_reducible refine zw ?_); refine zn rfl ?_; (first | ((with_reducible refine zH _ rfl ?_); refine tM rfl ?_) | ((with_reducible refine zI _ _ rfl ?_); refine tO rfl (za rfl) (by with_reducible first | exact zr | exact zaj) aa5 ?_) | refine tG (fun w _ => (by go_simp; try rfl)) ?_); try simp only [zc, zb, zh, ze, z0b, z0a, z0d, z0c, zj, HW.out]) | (refine zv rfl (fun K hK => ?_); go_wp2_with (first | (((refine zg _ _ _ rfl ?_); (first | refine sO hp rfl (za rfl) zfT aa5 ?_); clear hp; intro w1 hp; simp only [spl, z0a, z0b] at hp); simp only [zc, zb, z0b, z0a])); (first | refine hK.out _ _ (.inl rfl) ?_); clear hK K; try simp only [zc, zb, zh, ze, z0b, z0a, z0d, z0c, zj, HW.out])
     go_wp2_with (first | fail)
     refine zf [_] (zt.one hp.drew at0) [13] [(0, true), (1, true), (2, true), (3, true), (4, true), (5, true), (6, true), (7, true), (8, true), (9, false), (10, true), (11, true), (12, true), (13, false)] (by kernel_rfl) (by kernel_rfl) rfl (by kernel_rfl) (fun _ _ d _ _ h => by cases d <;> exact h) ?_
     replace hp := hp.drew
     repeat' (with_reducible refine zq ?_); first | (with_reducible refine zl ?_) | ((with_reducible refine zw ?_); refine zn rfl ?_; (first | ((with_reducible refine zH _ rfl ?_); refine tM rfl ?_) | ((with_reducible refine zI _ _ rfl ?_); refine tO rfl (za rfl) (by with_reducible first | exact zr | exact zd2) aa5 ?_) | refine tG (fun w _ => (by go_simp; try rfl)) ?_); try simp only [zc, zb, zh, ze, z0b, z0a, z0d, z0c, zj]) | (refine zv rfl (fun K hK => ?_); go_wp2_with (first | (((refine zg _ _ _ rfl ?_); (first | refine sO hp rfl (za rfl) zfT aa5 ?_); clear hp; intro w1 hp; simp only [spl, z0a, z0b] at hp); simp only [zc, zb, z0b, z0a])); (first | refine hK.out _ _ (.inl rfl) ?_ | refine hK.out _ _ (.inr (zt.one hp aa5)) ?_); clear hK K; try simp only [zc, zb, zh, ze, z0b, z0a, z0d, z0c, zj])
     go_wp2_with (first | (go_at_call 64; (with_reducible refine (zdC vw nm rn rim _ [] 0 0 HNL.out _ (HB.out _ _) (HSS.out _ _) _ (zm.nil _ _)).mono ?_); rintro e w1 ⟨rfl, hb⟩; replace hp := hp.call hb; clear hb; simp only [if_true, Bool.false_eq_true, if_false]) | ((first | ((refine zd _ _ rfl ?_); first | refine lO hp rfl (za rfl) zfT aa5 ?_ | refine lA hp rfl (za rfl) zlc aa5 ?_)); simp only [zc, zb, z0b, z0a]))
    ·go_ret
     exact zb1 (a := some ⟨bq, off, none⟩) (n := 0) (c := 0) (R := []) (Nat.le_refl _) (zB.nil _ _ _) hp.kp rfl
    ·go_ret
     exact ZN (by decide) hp.kp
   ·have hRd := hR.drop hke (by omega)
    rw [zj0] at hRd
    have HRD := z0j hRd
    have HNL := z0j hnl
    have HLE : Hid (es.length - k ≤ ec - k) := z0j (by omega)
    have e4 : decide ((4000 : Int) < ((es.length - k : Nat) : Int)) = false := by simp; omega
    have f1 : (0 : Int) ≤ (k : Int) := by omega
    have f2 : (k : Int) ≤ (es.length : Int) := by omega
    have f3 : ¬ ec = k := hck
    clear h1 h2 hf hok hec hes him hrs hrc hri ha hR hok2 hb hnl hk hke hRd hck
    cases b
    rw [if_neg (by decide)]
    rotate_left
    rw [if_pos rfl]
    all_goals
     go_enter Tryz.func70, Tryz.ntmps70
     go_wp2_with (first | (go_at_call 71; (with_reducible refine (za3 vw nm bs im _ _ _ _).mono ?_); rintro e w1 ⟨rfl, hb⟩; replace hp := hp.call hb; clear hb) | ((first | ((refine zk _ _ rfl ?_); refine lB hp rfl (za rfl) rfl ?_; clear hp; intro b w1 hp) | ((refine zd _ _ rfl ?_); first | refine lO hp rfl (za rfl) zfT aa5 ?_ | refine lA hp rfl (za rfl) zlc aa5 ?_)); simp only [zc, zb, z0b, z0a]))
     refine zf _ (zt.all hp.drew) [] [(0, true), (1, true), (2, true), (3, true), (4, true), (5, true), (6, true), (7, true), (8, true), (9, true), (10, true), (11, true), (12, true), (13, true)] (by kernel_rfl) (by kernel_rfl) rfl (by kernel_rfl) (fun _ _ d _ _ h => by cases d <;> exact h) ?_
     replace hp := hp.drew
     repeat' (with_reducible refine zq ?_); first | (with_reducible refine zl ?_) | ((with_reducible refine zw ?_); refine zn rfl ?_; (first | ((with_reducible refine zH _ rfl ?_); refine tM rfl ?_) | ((with_reducible refine zI _ _ rfl ?_); refine tO rfl (za rfl) zr aa5 ?_) | refine tG (fun w _ => (by go_simp; try rfl)) ?_); try simp only [zc, zb, zh, ze, z0b, z0a, z0d, z0c, zj])
     go_wp2_with (first | fail)
     refine zf [_, _] (zt.two hp.drew at0 at1) [18] [(0, true), (1, true), (2, true), (3, true), (4, true), (5, true), (6, true), (7, true), (8, true), (9, true), (10, true), (11, true), (12, true), (13, true), (14, true), (15, true), (16, true), (17, true), (18, false)] (by kernel_rfl) (by kernel_rfl) rfl (by kernel_rfl) (fun _ _ d _ _ h => by cases d <;> exact h) ?_
     replace hp := hp.drew
     repeat' (with_reducible refine zq ?_); first | (with_reducible refine zl ?_) | ((with_reducible refine zw ?_); refine zn rfl ?_; (first | ((with_reducible refine zH _ rfl ?_); refine tM rfl ?_) | ((with_reducible refine zI _ _ rfl ?_); refine tO rfl (za rfl) (by with_reducible first | exact zr | exact zaj) aa5 ?_) | refine tG (fun w _ => (by go_simp; try rfl)) ?_); try simp only [zc, zb, zh, ze, z0b, z0a, z0d, z0c, zj, HW.out]) | (refine zv rfl (fun K hK => ?_); go_wp2_with (first | (((refine zg _ _ _ rfl ?_); (first | refine sO hp rfl (za rfl) zfT aa5 ?_); clear hp; intro w1 hp; simp only [spl, z0a, z0b] at hp); simp only [zc, zb, z0b, z0a])); (first | refine hK.out _ _ (.inl rfl) ?_); clear hK K; try simp only [zc, zb, zh, ze, z0b, z0a, z0d, z0c, zj, HW.out])
     go_wp2_with (first | fail)
     refine zf [_] (zt.one hp.drew at0) [13] [(0, true), (1, true), (2, true), (3, true), (4, true), (5, true), (6, true), (7, true), (8, true), (9, false), (10, true), (11, true), (12, true), (13, false)] (by kernel_rfl) (by kernel_rfl) rfl (by kernel_rfl) (fun _ _ d _ _ h => by cases d <;> exact h) ?_
     replace hp := hp.drew
     repeat' (with_reducible refine zq ?_); first | (with_reducible refine zl ?_) | ((with_reducible refine zw ?_); refine zn rfl ?_; (first | ((with_reducible refine zH _ rfl ?_); refine tM rfl ?_) | ((with_reducible refine zI _ _ rfl ?_); refine tO rfl (za rfl) (by with_reducible first | exact zr | exact zd2) aa5 ?_) | refine tG (fun w _ => (by go_simp; try rfl)) ?_); try simp only [zc, zb, zh, ze, z0b, z0a, z0d, z0c, zj]) | (refine zv rfl (fun K hK => ?_); go_wp2_with (first | (((refine zg _ _ _ rfl ?_); (first | refine sO hp rfl (za rfl) zfT aa5 ?_); clear hp; intro w1 hp; simp only [spl, z0a, z0b] at hp); simp only [zc, zb, z0b, z0a])); (first | refine hK.out _ _ (.inl rfl) ?_ | refine hK.out _ _ (.inr (zt.one hp aa5)) ?_); clear hK K; try simp only [zc, zb, zh, ze, z0b, z0a, z0d, z0c, zj])
     go_wp2_with (first | (go_at_call 64; (with_reducible refine (zdC vw nm rn rim _ (es.drop k) _ (ec - k) HNL.out _ (HB.out _ _) (HSS.out _ _) _ (HRD.out.keptS.at hp (fun p hm => by simp [hm]))).mono ?_); rintro e w1 ⟨rfl, hb⟩; replace hp := hp.call hb; clear hb; simp only [if_true, Bool.false_eq_true, if_false]) | ((first | ((refine zd _ _ rfl ?_); first | refine lO hp rfl (za rfl) zfT aa5 ?_ | refine lA hp rfl (za rfl) zlc aa5 ?_)); simp only [zc, zb, z0b, z0a]))
    ·go_ret
     exact zb1 HLE.out HRD.out hp.kp HNL.out
    ·go_ret
     exact ZN (by decide) hp.kp
open Go.RowKit
theorem zux {ty : TypeId} (h : zy Tryz.prog ty = true := by with_reducible first | exact zr | exact zaj | exact zd2) : zy Tryz.prog ty = true := h
theorem zld {ty : TypeId} {k : Nat} (h : ZB Tryz.prog ty k = true := by with_reducible first | exact zbf | exact zfM | exact zc6) : ZB Tryz.prog ty k = true := h
theorem zgF {ty : TypeId} (h : zy Tryz.prog ty = true := by with_reducible first | exact zr | exact Ze | exact zaj | exact zd2 | exact Zb | exact zeu) : zy Tryz.prog ty = true := h
theorem zi8 (bw : Nat) (vw nm bs : Int) (im : ByteArray) (ea : Option Addr) (es : List Env) (ec : Nat) (rv rf rn : Int) (rim : ByteArray) (nu vi cl sq kk hh ii nn cc vv tt : Int) (ra : Option Addr) (rs : List Env) (rc : Nat) {R TT : List Blk} {w0 w : World} (hR : zB 31 11 (.slice ea es.length ec) es.length (es.flatMap Zy) R) (hec : es.length ≤ ec) (hes : es.length ≤ 1500) (him : im.size ≤ 1000000) (hrs : rs.length ≤ 1500) (hrc : rs.length ≤ rc) (hri : rim.size ≤ 1000000) (hok : okC ⟨vw, nm, bs, im, ea, es, ec⟩ = true) (kd : Int) (hkd : kd = 5) (hp : Hp w0.heap.size w0 w (⟨bw, [.int .i64 vw, .int .i64 nm, .int .i64 bs, .string im, .slice ea es.length ec], 103, 5⟩ :: (R ++ TT))) (ha : zm w0 ra (rs.flatMap Zy)) : Calls Tryz.prog 70 #[.pointer (some ⟨bw, 0, none⟩), .agg #[.int .i64 kd, .int .i64 rv, .int .i64 rf, .int .i64 rn, .string rim, .int .i64 nu, .int .i64 vi, .int .i64 cl, .int .i64 sq, .int .i64 kk, .int .i64 hh, .int .i64 ii, .int .i64 nn, .int .i64 cc, .int .i64 vv, .int .i64 tt, .slice ra rs.length rc]] w (zgw w0 bw (Zu ⟨vw, nm, bs, im, ea, es, ec⟩ ⟨kd, rv, rf, rn, rim, ⟨nu, vi, cl, sq, ⟨kk, hh, ii, nn, cc, vv, tt⟩⟩, ra, rs, rc⟩) TT) := by
 subst hkd
 have HR := z0j hR
 have HRA := z0j ha
 have hok2 := zbh hok
 simp only at hok2
 have e0 : wrap64 (bs + es.length) = bs + es.length := by unfold wrap64; omega
 have HRL : Hid (rs.length ≤ 100000) := z0j (by omega)
 by_cases h1 : rv < vw
 ·have hf : Zu ⟨vw, nm, bs, im, ea, es, ec⟩ ⟨5, rv, rf, rn, rim, ⟨nu, vi, cl, sq, ⟨kk, hh, ii, nn, cc, vv, tt⟩⟩, ra, rs, rc⟩ = (141, ⟨vw, nm, bs, im, ea, es, ec⟩) := by unfold Zu zat; simp [h1]
  rw [hf]
  have e1 : decide (rv < vw) = true := by simpa using h1
  clear h1 hf hok hec hes him hrs hrc hri ha hR hok2
  go_enter Tryz.func70, Tryz.ntmps70
  go_wp2_with (first | ((first | ((refine zk _ _ rfl ?_); refine lB hp rfl (za rfl) rfl ?_; clear hp; intro b w1 hp) | ((refine zd _ _ rfl ?_); first | refine lO hp rfl (za rfl) zgF aa5 ?_)); simp only [zc, zb, z0b, z0a]))
  refine zf [_, _] (zt.two hp.drew at0 at1) [] [(0, true), (1, true), (2, true), (3, true), (4, true), (5, true), (6, true), (7, true)] (by kernel_rfl) (by kernel_rfl) rfl (by kernel_rfl) (fun _ _ d _ _ h => by cases d <;> exact h) ?_
  replace hp := hp.drew
  repeat' (with_reducible refine zq ?_); first | (with_reducible refine zl ?_) | ((with_reducible refine zw ?_); refine zn rfl ?_; (first | ((with_reducible refine zH _ rfl ?_); refine tM rfl ?_) | ((with_reducible refine zI _ _ rfl ?_); refine tO rfl (za rfl) zr aa5 ?_) | refine tG (fun w _ => (by go_simp; try rfl)) ?_); try simp only [zc, zb, zh, ze, z0b, z0a, z0d, z0c, zj])
  go_wp2_with (first | fail)
  go_ret
  exact ZN (by decide) hp.kp
 ·have e1 : decide (rv < vw) = false := by simpa using h1
  cases hi : inM rn 0 900000000 with
  | false =>
   have hf : Zu ⟨vw, nm, bs, im, ea, es, ec⟩ ⟨5, rv, rf, rn, rim, ⟨nu, vi, cl, sq, ⟨kk, hh, ii, nn, cc, vv, tt⟩⟩, ra, rs, rc⟩ = (140, ⟨vw, nm, bs, im, ea, es, ec⟩) := by unfold Zu zat zaM; simp [h1, hi]
   rw [hf]
   have HI := z0j hi
   clear h1 hf hi hok hec hes him hrs hrc hri ha hR hok2
   go_enter Tryz.func70, Tryz.ntmps70
   go_wp2_with (first | ((first | ((refine zk _ _ rfl ?_); refine lB hp rfl (za rfl) rfl ?_; clear hp; intro b w1 hp) | ((refine zd _ _ rfl ?_); first | refine lO hp rfl (za rfl) zgF aa5 ?_)); simp only [zc, zb, z0b, z0a]))
   refine zf [_, _] (zt.two hp.drew at0 at1) [] [(0, true), (1, true), (2, true), (3, true), (4, true), (5, true), (6, true), (7, true)] (by kernel_rfl) (by kernel_rfl) rfl (by kernel_rfl) (fun _ _ d _ _ h => by cases d <;> exact h) ?_
   replace hp := hp.drew
   repeat' (with_reducible refine zq ?_); first | (with_reducible refine zl ?_) | ((with_reducible refine zw ?_); refine zn rfl ?_; (first | ((with_reducible refine zH _ rfl ?_); refine tM rfl ?_) | ((with_reducible refine zI _ _ rfl ?_); refine tO rfl (za rfl) zr aa5 ?_) | refine tG (fun w _ => (by go_simp; try rfl)) ?_); try simp only [zc, zb, zh, ze, z0b, z0a, z0d, z0c, zj])
   go_wp2_with (first | (go_at_call 71; (with_reducible refine (za3 vw nm bs im _ _ _ _).mono ?_); rintro e w1 ⟨rfl, hb⟩; replace hp := hp.call hb; clear hb) | (go_at_call 136; (with_reducible refine (zT rn 0 900000000 _ HI.out _).mono ?_); rintro e w' ⟨rfl, rfl⟩) | go_skip | ((first | ((refine zd _ _ rfl ?_); first | refine lO hp rfl (za rfl) zgF aa5 ?_ | refine lA hp rfl (za rfl) zld aa5 ?_)); simp only [zc, zb, z0b, z0a]))
   go_ret
   exact ZN (by decide) hp.kp
  | true =>
   have HI := z0j hi
   cases hfo : zeP rn 0 rs with
   | false =>
    have hf : Zu ⟨vw, nm, bs, im, ea, es, ec⟩ ⟨5, rv, rf, rn, rim, ⟨nu, vi, cl, sq, ⟨kk, hh, ii, nn, cc, vv, tt⟩⟩, ra, rs, rc⟩ = (140, ⟨vw, nm, bs, im, ea, es, ec⟩) := by unfold Zu zat zaM; simp [h1, hi, hfo]
    rw [hf]
    have HF := z0j hfo
    clear h1 hf hi hfo hok hec hes him hrs hrc hri ha hR hok2
    go_enter Tryz.func70, Tryz.ntmps70
    go_wp2_with (first | ((first | ((refine zk _ _ rfl ?_); refine lB hp rfl (za rfl) rfl ?_; clear hp; intro b w1 hp) | ((refine zd _ _ rfl ?_); first | refine lO hp rfl (za rfl) zgF aa5 ?_)); simp only [zc, zb, z0b, z0a]))
    refine zf [_, _] (zt.two hp.drew at0 at1) [] [(0, true), (1, true), (2, true), (3, true), (4, true), (5, true), (6, true), (7, true)] (by kernel_rfl) (by kernel_rfl) rfl (by kernel_rfl) (fun _ _ d _ _ h => by cases d <;> exact h) ?_
    replace hp := hp.drew
    repeat' (with_reducible refine zq ?_); first | (with_reducible refine zl ?_) | ((with_reducible refine zw ?_); refine zn rfl ?_; (first | ((with_reducible refine zH _ rfl ?_); refine tM rfl ?_) | ((with_reducible refine zI _ _ rfl ?_); refine tO rfl (za rfl) zr aa5 ?_) | refine tG (fun w _ => (by go_simp; try rfl)) ?_); try simp only [zc, zb, zh, ze, z0b, z0a, z0d, z0c, zj])
    go_wp2_with (first | (go_at_call 71; (with_reducible refine (za3 vw nm bs im _ _ _ _).mono ?_); rintro e w1 ⟨rfl, hb⟩; replace hp := hp.call hb; clear hb) | (go_at_call 136; (with_reducible refine (zT rn 0 900000000 _ HI.out _).mono ?_); rintro e w' ⟨rfl, rfl⟩) | (go_at_call 137; (with_reducible refine (zaB rs rn _ rc _ HF.out HRL.out _ (HRA.out.below hp.below)).mono ?_); rintro e w1 ⟨rfl, hb⟩; replace hp := hp.call hb; clear hb) | ((first | ((refine zd _ _ rfl ?_); first | refine lO hp rfl (za rfl) zgF aa5 ?_ | refine lA hp rfl (za rfl) zld aa5 ?_)); simp only [zc, zb, z0b, z0a]))
    go_ret
    exact ZN (by decide) hp.kp
   | true =>
    have HF := z0j hfo
    obtain ⟨b, hb⟩ : ∃ b, okC ⟨rv, rv, rn, rim, ea, rs, ec⟩ = b := ⟨_, rfl⟩
    have hf : Zu ⟨vw, nm, bs, im, ea, es, ec⟩ ⟨5, rv, rf, rn, rim, ⟨nu, vi, cl, sq, ⟨kk, hh, ii, nn, cc, vv, tt⟩⟩, ra, rs, rc⟩ = if b = true then (0, ⟨rv, rv, rn, rim, ea, rs, ec⟩) else (141, ⟨vw, nm, bs, im, ea, es, ec⟩) := by
     unfold Zu zat zaM
     simp [h1, hi, hfo, hb]
    rw [hf]
    have HB : Hid (∀ a c, okC ⟨rv, rv, rn, rim, a, rs, c⟩ = b) := z0j (fun a c => by rw [← hb]; exact zfp ⟨rfl, rfl, rfl, rfl, rfl⟩)
    have HSS : Hid (∀ a c, Kv.Small ⟨rv, rv, rn, rim, a, rs, c⟩) := z0j (fun a c => ⟨by simp only; omega, hri⟩)
    have e4 : decide ((4000 : Int) < (rs.length : Int)) = false := by simp; omega
    clear h1 hf hi hfo hok hec hes him hrs hrc hri ha hR hok2 hb
    cases b
    rw [if_neg (by decide)]
    rotate_left
    rw [if_pos rfl]
    all_goals
     go_enter Tryz.func70, Tryz.ntmps70
     go_wp2_with (first | ((first | ((refine zk _ _ rfl ?_); refine lB hp rfl (za rfl) rfl ?_; clear hp; intro b w1 hp) | ((refine zd _ _ rfl ?_); first | refine lO hp rfl (za rfl) zgF aa5 ?_)); simp only [zc, zb, z0b, z0a]))
     refine zf [_, _] (zt.two hp.drew at0 at1) [] [(0, true), (1, true), (2, true), (3, true), (4, true), (5, true), (6, true), (7, true)] (by kernel_rfl) (by kernel_rfl) rfl (by kernel_rfl) (fun _ _ d _ _ h => by cases d <;> exact h) ?_
     replace hp := hp.drew
     repeat' (with_reducible refine zq ?_); first | (with_reducible refine zl ?_) | ((with_reducible refine zw ?_); refine zn rfl ?_; (first | ((with_reducible refine zH _ rfl ?_); refine tM rfl ?_) | ((with_reducible refine zI _ _ rfl ?_); refine tO rfl (za rfl) zr aa5 ?_) | refine tG (fun w _ => (by go_simp; try rfl)) ?_); try simp only [zc, zb, zh, ze, z0b, z0a, z0d, z0c, zj])
     go_wp2_with (first | (go_at_call 71; (with_reducible refine (za3 vw nm bs im _ _ _ _).mono ?_); rintro e w1 ⟨rfl, hb⟩; replace hp := hp.call hb; clear hb) | (go_at_call 136; (with_reducible refine (zT rn 0 900000000 _ HI.out _).mono ?_); rintro e w' ⟨rfl, rfl⟩) | (go_at_call 137; (with_reducible refine (zaB rs rn _ rc _ HF.out HRL.out _ (HRA.out.below hp.below)).mono ?_); rintro e w1 ⟨rfl, hb⟩; replace hp := hp.call hb; clear hb) | ((first | ((refine zd _ _ rfl ?_); first | refine lO hp rfl (za rfl) zgF aa5 ?_ | refine lA hp rfl (za rfl) zld aa5 ?_)); simp only [zc, zb, z0b, z0a]))
     refine zf [_] (zt.one hp.drew at0) [15] [(0, true), (1, true), (2, true), (3, true), (4, true), (5, true), (6, true), (7, true), (8, true), (9, true), (10, true), (11, false), (12, true), (13, true), (14, true), (15, false)] (by kernel_rfl) (by kernel_rfl) rfl (by kernel_rfl) (fun _ _ d _ _ h => by cases d <;> exact h) ?_
     replace hp := hp.drew
     repeat' (with_reducible refine zq ?_); first | (with_reducible refine zl ?_) | ((with_reducible refine zw ?_); refine zn rfl ?_; (first | ((with_reducible refine zH _ rfl ?_); refine tM rfl ?_) | ((with_reducible refine zI _ _ rfl ?_); refine tO rfl (za rfl) zux aa5 ?_) | refine tG (fun w _ => (by go_simp; try rfl)) ?_); try simp only [zc, zb, zh, ze, z0b, z0a, z0d, z0c, zj]) | (refine zv rfl (fun K hK => ?_); go_wp2_with (first | (go_at_call 67; (with_reducible refine (zd3 rs _ _ rc rfl HRL.out _ (HRA.out.below hp.below)).mono ?_); rintro e w1 ⟨ad, cd, RD, rfl, hcd, hrd, hpn⟩; replace hp := hp.join hpn; have HCD := z0j hcd; have HRD := z0j (zB.of_own hrd); clear hpn hcd hrd; simp only [z0f, z0e, z0i] at hp) | (((refine zg _ _ _ rfl ?_); (first | refine sA hp rfl (za rfl) (za rfl) zld aa5 ?_); clear hp; intro w1 hp; simp only [spl, z0a, z0b] at hp); simp only [zc, zb, z0b, z0a])); (first | refine hK.out _ _ (.inl rfl) ?_ | refine hK.out _ _ (.inr (zt.one hp aa5)) ?_); clear hK K; try simp only [zc, zb, zh, ze, z0b, z0a, z0d, z0c, zj])
     go_wp2_with (first | (go_at_call 64; (with_reducible refine (zaK rv rv rn rim _ rs _ _ (HB.out _ _) (HSS.out _ _) _ (HRD.out.keptS.at hp (fun p hm => by simp [hm]))).mono ?_); rintro e w1 ⟨rfl, hb⟩; replace hp := hp.call hb; clear hb; simp only [if_true, Bool.false_eq_true, if_false]) | ((first | ((refine zd _ _ rfl ?_); first | refine lO hp rfl (za rfl) zgF aa5 ?_ | refine lA hp rfl (za rfl) zld aa5 ?_)); simp only [zc, zb, z0b, z0a]))
    ·go_ret
     exact zb1 HCD.out HRD.out hp.kp
    ·go_ret
     exact ZN (by decide) hp.kp
theorem zk9 (bw : Nat) (vw nm bs : Int) (im : ByteArray) (ea : Option Addr) (es : List Env) (ec : Nat) (rv rf rn : Int) (rim : ByteArray) (nu vi cl sq kk hh ii nn cc vv tt : Int) (ra : Option Addr) (rs : List Env) (rc : Nat) {R TT : List Blk} {w0 w : World} (hR : zB 31 11 (.slice ea es.length ec) es.length (es.flatMap Zy) R) (hec : es.length ≤ ec) (hes : es.length ≤ 1500) (him : im.size ≤ 1000000) (hrs : rs.length ≤ 1500) (hrc : rs.length ≤ rc) (hri : rim.size ≤ 1000000) (hok : okC ⟨vw, nm, bs, im, ea, es, ec⟩ = true) (kd : Int) (k1 : kd ≠ 1) (k2 : kd ≠ 2) (k3 : kd ≠ 3) (k4 : kd ≠ 4) (k5 : kd ≠ 5) (hp : Hp w0.heap.size w0 w (⟨bw, [.int .i64 vw, .int .i64 nm, .int .i64 bs, .string im, .slice ea es.length ec], 103, 5⟩ :: (R ++ TT))) (ha : zm w0 ra (rs.flatMap Zy)) : Calls Tryz.prog 70 #[.pointer (some ⟨bw, 0, none⟩), .agg #[.int .i64 kd, .int .i64 rv, .int .i64 rf, .int .i64 rn, .string rim, .int .i64 nu, .int .i64 vi, .int .i64 cl, .int .i64 sq, .int .i64 kk, .int .i64 hh, .int .i64 ii, .int .i64 nn, .int .i64 cc, .int .i64 vv, .int .i64 tt, .slice ra rs.length rc]] w (zgw w0 bw (Zu ⟨vw, nm, bs, im, ea, es, ec⟩ ⟨kd, rv, rf, rn, rim, ⟨nu, vi, cl, sq, ⟨kk, hh, ii, nn, cc, vv, tt⟩⟩, ra, rs, rc⟩) TT) := by
 have hf : Zu ⟨vw, nm, bs, im, ea, es, ec⟩ ⟨kd, rv, rf, rn, rim, ⟨nu, vi, cl, sq, ⟨kk, hh, ii, nn, cc, vv, tt⟩⟩, ra, rs, rc⟩ = (141, ⟨vw, nm, bs, im, ea, es, ec⟩) := by unfold Zu zat; simp [k1, k2, k3, k4, k5]
 rw [hf]
 have hok2 := zbh hok
 simp only at hok2
 have e0 : wrap64 (bs + es.length) = bs + es.length := by unfold wrap64; omega
 have e1 : (kd == 1) = false := by simpa using k1
 have e2 : (kd == 2) = false := by simpa using k2
 have e3 : (kd == 3) = false := by simpa using k3
 have e4 : (kd == 4) = false := by simpa using k4
 have e5 : (kd == 5) = false := by simpa using k5
 clear hf hok hec hes him hrs hrc hri ha hR hok2 k1 k2 k3 k4 k5
 go_enter Tryz.func70, Tryz.ntmps70
 go_wp2_with (first | (go_at_call 71; (with_reducible refine (za3 vw nm bs im _ _ _ _).mono ?_); rintro e w1 ⟨rfl, hb⟩; replace hp := hp.call hb; clear hb) | ((first | ((refine zk _ _ rfl ?_); refine lB hp rfl (za rfl) rfl ?_; clear hp; intro b w1 hp) | ((refine zd _ _ rfl ?_); first | refine lO hp rfl (za rfl) zgF aa5 ?_ | refine lA hp rfl (za rfl) zld aa5 ?_)); simp only [zc, zb, z0b, z0a]))
 go_ret
 exact ZN (by decide) hp.kp
theorem zs5 (bw : Nat) (vw nm bs : Int) (im : ByteArray) (ea : Option Addr) (es : List Env) (ec : Nat) (rv rf rn : Int) (rim : ByteArray) (nu vi cl sq kk hh ii nn cc vv tt : Int) (ra : Option Addr) (rs : List Env) (rc : Nat) {R TT : List Blk} {w0 w : World} (hR : zB 31 11 (.slice ea es.length ec) es.length (es.flatMap Zy) R) (hec : es.length ≤ ec) (hes : es.length ≤ 1500) (him : im.size ≤ 1000000) (hrs : rs.length ≤ 1500) (hrc : rs.length ≤ rc) (hri : rim.size ≤ 1000000) (hok : okC ⟨vw, nm, bs, im, ea, es, ec⟩ = true) (kd : Int) (hp : Hp w0.heap.size w0 w (⟨bw, [.int .i64 vw, .int .i64 nm, .int .i64 bs, .string im, .slice ea es.length ec], 103, 5⟩ :: (R ++ TT))) (ha : zm w0 ra (rs.flatMap Zy)) : Calls Tryz.prog 70 #[.pointer (some ⟨bw, 0, none⟩), .agg #[.int .i64 kd, .int .i64 rv, .int .i64 rf, .int .i64 rn, .string rim, .int .i64 nu, .int .i64 vi, .int .i64 cl, .int .i64 sq, .int .i64 kk, .int .i64 hh, .int .i64 ii, .int .i64 nn, .int .i64 cc, .int .i64 vv, .int .i64 tt, .slice ra rs.length rc]] w (zgw w0 bw (Zu ⟨vw, nm, bs, im, ea, es, ec⟩ ⟨kd, rv, rf, rn, rim, ⟨nu, vi, cl, sq, ⟨kk, hh, ii, nn, cc, vv, tt⟩⟩, ra, rs, rc⟩) TT) := by
 by_cases k1 : kd = 1
 ·exact zmM bw vw nm bs im ea es ec rv rf rn rim nu vi cl sq kk hh ii nn cc vv tt ra rs rc hR hec hes him hrs hrc hri hok kd k1 hp ha
 by_cases k2 : kd = 2
 ·exact zk7 bw vw nm bs im ea es ec rv rf rn rim nu vi cl sq kk hh ii nn cc vv tt ra rs rc hR hec hes him hrs hrc hri hok kd k2 hp ha
 by_cases k3 : kd = 3
 ·exact zk6 bw vw nm bs im ea es ec rv rf rn rim nu vi cl sq kk hh ii nn cc vv tt ra rs rc hR hec hes him hrs hrc hri hok kd k3 hp ha
 by_cases k4 : kd = 4
 ·exact zk8 bw vw nm bs im ea es ec rv rf rn rim nu vi cl sq kk hh ii nn cc vv tt ra rs rc hR hec hes him hrs hrc hri hok kd k4 hp ha
 by_cases k5 : kd = 5
 ·exact zi8 bw vw nm bs im ea es ec rv rf rn rim nu vi cl sq kk hh ii nn cc vv tt ra rs rc hR hec hes him hrs hrc hri hok kd k5 hp ha
 exact zk9 bw vw nm bs im ea es ec rv rf rn rim nu vi cl sq kk hh ii nn cc vv tt ra rs rc hR hec hes him hrs hrc hri hok kd k1 k2 k3 k4 k5 hp ha
end Go.Proofs.YtaafajaadfgaoaaGreat
