import Derived.Test.YtjcbpfbifbfkcaaGreatTx25
set_option linter.unusedSimpArgs false
set_option linter.unusedVariables false
set_option maxRecDepth 100000
set_option maxHeartbeats 60000000
namespace Go.Proofs.YtjcbpfbifbfkcaaGreat
open Go.RowKit
theorem zcD {ty : TypeId} {k : Nat} (h : Z6 Tryz.prog ty k = true := by with_reducible first | exact zk | exact zF | exact zr) : Z6 Tryz.prog ty k = true := h
theorem Z7 {ty : TypeId} (h : zx Tryz.prog ty = true := by with_reducible first | exact zn | exact Zy | exact zB | exact zaj | exact zX | exact zaQ) : zx Tryz.prog ty = true := h
theorem zgO (bw : Nat) (vw nm bs : Int) (im : ByteArray) (ea : Option Addr) (es : List Env) (ec : Nat) (rv rf rn : Int) (rim : ByteArray) (nu vi cl sq kk hh ii nn cc vv tt : Int) (ra : Option Addr) (rs : List Env) (rc : Nat) {R TT : List Blk} {w0 w : World} (hR : zw 38 11 (.slice ea es.length ec) es.length (es.flatMap zQ) R) (hec : es.length ≤ ec) (hes : es.length ≤ 1500) (him : im.size ≤ 1000000) (hrs : rs.length ≤ 1500) (hrc : rs.length ≤ rc) (hri : rim.size ≤ 1000000) (hok : okC ⟨vw, nm, bs, im, ea, es, ec⟩ = true) (kd : Int) (hkd : kd = 4) (hp : Hp w0.heap.size w0 w (⟨bw, [.int .i64 vw, .int .i64 nm, .int .i64 bs, .string im, .slice ea es.length ec], 108, 5⟩ :: (R ++ TT))) (ha : zm w0 ra (rs.flatMap zQ)) : Calls Tryz.prog 63 #[.pointer (some ⟨bw, 0, none⟩), .agg #[.int .i64 kd, .int .i64 rv, .int .i64 rf, .int .i64 rn, .string rim, .int .i64 nu, .int .i64 vi, .int .i64 cl, .int .i64 sq, .int .i64 kk, .int .i64 hh, .int .i64 ii, .int .i64 nn, .int .i64 cc, .int .i64 vv, .int .i64 tt, .slice ra rs.length rc]] w (zem w0 bw (Zh ⟨vw, nm, bs, im, ea, es, ec⟩ ⟨kd, rv, rf, rn, rim, ⟨nu, vi, cl, sq, ⟨kk, hh, ii, nn, cc, vv, tt⟩⟩, ra, rs, rc⟩) TT) := by
 subst hkd
 have HR := z0j hR
 have hok2 := Ze hok
 simp only at hok2
 have e0 : wrap64 (bs + es.length) = bs + es.length := by unfold wrap64; omega
 by_cases h1 : rn ≤ bs
 ·have hf : Zh ⟨vw, nm, bs, im, ea, es, ec⟩ ⟨4, rv, rf, rn, rim, ⟨nu, vi, cl, sq, ⟨kk, hh, ii, nn, cc, vv, tt⟩⟩, ra, rs, rc⟩ = (140, ⟨vw, nm, bs, im, ea, es, ec⟩) := by unfold Zh ZW; simp [h1]
  rw [hf]
  have e1 : decide (rn ≤ bs) = true := by simpa using h1
  clear h1 hf hok hec hes him hrs hrc hri ha hR hok2
  go_enter Tryz.func63, Tryz.ntmps63
  go_wp2_with (first | (go_at_call 71; (with_reducible refine (zS vw nm bs im _ _ _ _).mono ?_); rintro e w1 ⟨rfl, hb⟩; replace hp := hp.call hb; clear hb) | go_skip | ((first | ((refine zg _ _ rfl ?_); refine lB hp rfl (za rfl) rfl ?_; clear hp; intro b w1 hp) | ((refine ze _ _ rfl ?_); first | refine lO hp rfl (za rfl) Z7 aa5 ?_ | refine lA hp rfl (za rfl) zcD aa5 ?_) | ((refine zd _ _ _ rfl ?_); (first | refine sO hp rfl (za rfl) Z7 aa5 ?_ | refine sA hp rfl (za rfl) (za rfl) zk aa5 ?_ | refine sG hp rfl (za rfl) (za rfl) zk aa5 ?_); clear hp; intro w1 hp; simp only [spl, z0a, z0b] at hp) | ((refine zj _ _ _ rfl ?_); refine lS hp rfl (by intro w; go_simp; rfl) ?_; clear hp; intro b w1 hp; simp only [z0g, z0h, Nat.reduceAdd] at hp)); simp only [zc, zb, z0b, z0a]))
  refine zi _ (zC.all hp.drew) [] [(0, true), (1, true), (2, true), (3, true), (4, true), (5, true), (6, true), (7, true), (8, true), (9, true), (10, true), (11, true), (12, true), (13, true)] (by kernel_rfl) (by kernel_rfl) rfl (by kernel_rfl) (fun _ _ d _ _ h => by cases d <;> exact h) ?_
  replace hp := hp.drew
  repeat' (with_reducible refine zD ?_); first | (with_reducible refine zv ?_) | ((with_reducible refine zM ?_); refine zA rfl ?_; (first | ((with_reducible refine zad _ _ rfl ?_); refine tS (by first | exact zI rfl rfl rfl rfl | exact zJ rfl rfl rfl rfl) ?_) | ((with_reducible refine Zk _ rfl ?_); refine tM rfl ?_) | ((with_reducible refine Zg _ _ rfl ?_); refine tO rfl (za rfl) zn aa5 ?_) | refine tG (fun w _ => (by go_simp; try rfl)) ?_); try simp only [zc, zb, zl, zh, z0b, z0a, z0d, z0c, zq])
  go_wp2_with (first | (go_at_call 71; (with_reducible refine (zS vw nm bs im _ _ _ _).mono ?_); rintro e w1 ⟨rfl, hb⟩; replace hp := hp.call hb; clear hb) | go_skip | ((first | ((refine zg _ _ rfl ?_); refine lB hp rfl (za rfl) rfl ?_; clear hp; intro b w1 hp) | ((refine ze _ _ rfl ?_); first | refine lO hp rfl (za rfl) Z7 aa5 ?_ | refine lA hp rfl (za rfl) zcD aa5 ?_) | ((refine zd _ _ _ rfl ?_); (first | refine sO hp rfl (za rfl) Z7 aa5 ?_ | refine sA hp rfl (za rfl) (za rfl) zk aa5 ?_ | refine sG hp rfl (za rfl) (za rfl) zk aa5 ?_); clear hp; intro w1 hp; simp only [spl, z0a, z0b] at hp) | ((refine zj _ _ _ rfl ?_); refine lS hp rfl (by intro w; go_simp; rfl) ?_; clear hp; intro b w1 hp; simp only [z0g, z0h, Nat.reduceAdd] at hp)); simp only [zc, zb, z0b, z0a]))
  go_ret
  exact Zu (by decide) hp.kp
 ·have e1 : decide (rn ≤ bs) = false := by simpa using h1
  by_cases h2 : bs + es.length < rn
  ·have hf : Zh ⟨vw, nm, bs, im, ea, es, ec⟩ ⟨4, rv, rf, rn, rim, ⟨nu, vi, cl, sq, ⟨kk, hh, ii, nn, cc, vv, tt⟩⟩, ra, rs, rc⟩ = (140, ⟨vw, nm, bs, im, ea, es, ec⟩) := by unfold Zh ZW zO; simp [h1, h2]
   rw [hf]
   have e2 : decide (bs + (es.length : Int) < rn) = true := by simpa using h2
   clear h1 h2 hf hok hec hes him hrs hrc hri ha hR hok2
   go_enter Tryz.func63, Tryz.ntmps63
   go_wp2_with (first | (go_at_call 71; (with_reducible refine (zS vw nm bs im _ _ _ _).mono ?_); rintro e w1 ⟨rfl, hb⟩; replace hp := hp.call hb; clear hb) | go_skip | ((first | ((refine zg _ _ rfl ?_); refine lB hp rfl (za rfl) rfl ?_; clear hp; intro b w1 hp) | ((refine ze _ _ rfl ?_); first | refine lO hp rfl (za rfl) Z7 aa5 ?_ | refine lA hp rfl (za rfl) zcD aa5 ?_) | ((refine zd _ _ _ rfl ?_); (first | refine sO hp rfl (za rfl) Z7 aa5 ?_ | refine sA hp rfl (za rfl) (za rfl) zk aa5 ?_ | refine sG hp rfl (za rfl) (za rfl) zk aa5 ?_); clear hp; intro w1 hp; simp only [spl, z0a, z0b] at hp) | ((refine zj _ _ _ rfl ?_); refine lS hp rfl (by intro w; go_simp; rfl) ?_; clear hp; intro b w1 hp; simp only [z0g, z0h, Nat.reduceAdd] at hp)); simp only [zc, zb, z0b, z0a]))
   refine zi _ (zC.all hp.drew) [] [(0, true), (1, true), (2, true), (3, true), (4, true), (5, true), (6, true), (7, true), (8, true), (9, true), (10, true), (11, true), (12, true), (13, true)] (by kernel_rfl) (by kernel_rfl) rfl (by kernel_rfl) (fun _ _ d _ _ h => by cases d <;> exact h) ?_
   replace hp := hp.drew
   repeat' (with_reducible refine zD ?_); first | (with_reducible refine zv ?_) | ((with_reducible refine zM ?_); refine zA rfl ?_; (first | ((with_reducible refine zad _ _ rfl ?_); refine tS (by first | exact zI rfl rfl rfl rfl | exact zJ rfl rfl rfl rfl) ?_) | ((with_reducible refine Zk _ rfl ?_); refine tM rfl ?_) | ((with_reducible refine Zg _ _ rfl ?_); refine tO rfl (za rfl) zn aa5 ?_) | refine tG (fun w _ => (by go_simp; try rfl)) ?_); try simp only [zc, zb, zl, zh, z0b, z0a, z0d, z0c, zq])
   go_wp2_with (first | (go_at_call 71; (with_reducible refine (zS vw nm bs im _ _ _ _).mono ?_); rintro e w1 ⟨rfl, hb⟩; replace hp := hp.call hb; clear hb) | go_skip | ((first | ((refine zg _ _ rfl ?_); refine lB hp rfl (za rfl) rfl ?_; clear hp; intro b w1 hp) | ((refine ze _ _ rfl ?_); first | refine lO hp rfl (za rfl) Z7 aa5 ?_ | refine lA hp rfl (za rfl) zcD aa5 ?_) | ((refine zd _ _ _ rfl ?_); (first | refine sO hp rfl (za rfl) Z7 aa5 ?_ | refine sA hp rfl (za rfl) (za rfl) zk aa5 ?_ | refine sG hp rfl (za rfl) (za rfl) zk aa5 ?_); clear hp; intro w1 hp; simp only [spl, z0a, z0b] at hp) | ((refine zj _ _ _ rfl ?_); refine lS hp rfl (by intro w; go_simp; rfl) ?_; clear hp; intro b w1 hp; simp only [z0g, z0h, Nat.reduceAdd] at hp)); simp only [zc, zb, z0b, z0a]))
   go_ret
   exact Zu (by decide) hp.kp
  ·have e2 : decide (bs + (es.length : Int) < rn) = false := by simpa using h2
   obtain ⟨k, hk⟩ : ∃ k : Nat, rn - bs = k := ⟨(rn - bs).toNat, by omega⟩
   have hke : k ≤ es.length := by omega
   obtain ⟨b, hb⟩ : ∃ b, okC ⟨vw, nm, rn, rim, ea, es.drop k, ec⟩ = b := ⟨_, rfl⟩
   have hf : Zh ⟨vw, nm, bs, im, ea, es, ec⟩ ⟨4, rv, rf, rn, rim, ⟨nu, vi, cl, sq, ⟨kk, hh, ii, nn, cc, vv, tt⟩⟩, ra, rs, rc⟩ = if b = true then (0, ⟨vw, nm, rn, rim, ea, es.drop k, ec⟩) else (141, ⟨vw, nm, bs, im, ea, es, ec⟩) := by
    unfold Zh ZW zO
    have hkk : (rn - bs).toNat = k := by omega
    simp [h1, h2, hb, hkk]
   rw [hf]
   obtain ⟨bq, off, rfl⟩ : ∃ bq off, ea = some ⟨bq, off, none⟩ := by
    obtain ⟨hl, ⟨h0, _, _⟩ | ⟨g', off', cap', pre, hv, _⟩⟩ := hR
    ·omega
    ·injection hv with hv _ _
     exact ⟨g', off', hv⟩
   have HW : Hid (wrap64 (rn - bs) = (k : Int)) := z0j (by rw [← hk]; unfold wrap64; omega)
   have HB : Hid (∀ a c, okC ⟨vw, nm, rn, rim, a, es.drop k, c⟩ = b) := z0j (fun a c => by rw [← hb]; exact zbm ⟨rfl, rfl, rfl, rfl, rfl⟩)
   have hnl : (es.drop k).length = es.length - k := List.length_drop ..
   have HSS : Hid (∀ a c, Kv.Small ⟨vw, nm, rn, rim, a, es.drop k, c⟩) := z0j (fun a c => ⟨by simp only; omega, hri⟩)
   by_cases hck : ec = k
   ·obtain rfl : k = es.length := by omega
    subst hck
    have hnil : es.drop es.length = [] := List.drop_length
    rw [hnil] at HB HSS ⊢
    have HNL : Hid (([] : List Env).length = 0) := z0j rfl
    have f1 : (0 : Int) ≤ (es.length : Int) := by omega
    clear h1 h2 hf hok hec hes him hrs hrc hri ha hR hok2 hb hnl hk hke hnil
    cases b
    rw [if_neg (by decide)]
    rotate_left
    rw [if_pos rfl]
    all_goals
     go_enter Tryz.func63, Tryz.ntmps63
     go_wp2_with (first | (go_at_call 71; (with_reducible refine (zS vw nm bs im _ _ _ _).mono ?_); rintro e w1 ⟨rfl, hb⟩; replace hp := hp.call hb; clear hb) | go_skip | ((first | ((refine zg _ _ rfl ?_); refine lB hp rfl (za rfl) rfl ?_; clear hp; intro b w1 hp) | ((refine ze _ _ rfl ?_); first | refine lO hp rfl (za rfl) Z7 aa5 ?_ | refine lA hp rfl (za rfl) zcD aa5 ?_) | ((refine zd _ _ _ rfl ?_); (first | refine sO hp rfl (za rfl) Z7 aa5 ?_ | refine sA hp rfl (za rfl) (za rfl) zk aa5 ?_ | refine sG hp rfl (za rfl) (za rfl) zk aa5 ?_); clear hp; intro w1 hp; simp only [spl, z0a, z0b] at hp) | ((refine zj _ _ _ rfl ?_); refine lS hp rfl (by intro w; go_simp; rfl) ?_; clear hp; intro b w1 hp; simp only [z0g, z0h, Nat.reduceAdd] at hp)); simp only [zc, zb, z0b, z0a]))
     refine zi _ (zC.all hp.drew) [] [(0, true), (1, true), (2, true), (3, true), (4, true), (5, true), (6, true), (7, true), (8, true), (9, true), (10, true), (11, true), (12, true), (13, true)] (by kernel_rfl) (by kernel_rfl) rfl (by kernel_rfl) (fun _ _ d _ _ h => by cases d <;> exact h) ?_
     replace hp := hp.drew
     repeat' (with_reducible refine zD ?_); first | (with_reducible refine zv ?_) | ((with_reducible refine zM ?_); refine zA rfl ?_; (first | ((with_reducible refine zad _ _ rfl ?_); refine tS (by first | exact zI rfl rfl rfl rfl | exact zJ rfl rfl rfl rfl) ?_) | ((with_reducible refine Zk _ rfl ?_); refine tM rfl ?_) | ((with_reducible refine Zg _ _ rfl ?_); refine tO rfl (za rfl) zn aa5 ?_) | refine tG (fun w _ => (by go_simp; try rfl)) ?_); try simp only [zc, zb, zl, zh, z0b, z0a, z0d, z0c, zq])
     go_wp2_with (first | (go_at_call 71; (with_reducible refine (zS vw nm bs im _ _ _ _).mono ?_); rintro e w1 ⟨rfl, hb⟩; replace hp := hp.call hb; clear hb) | go_skip | ((first | ((refine zg _ _ rfl ?_); refine lB hp rfl (za rfl) rfl ?_; clear hp; intro b w1 hp) | ((refine ze _ _ rfl ?_); first | refine lO hp rfl (za rfl) Z7 aa5 ?_ | refine lA hp rfl (za rfl) zcD aa5 ?_) | ((refine zd _ _ _ rfl ?_); (first | refine sO hp rfl (za rfl) Z7 aa5 ?_ | refine sA hp rfl (za rfl) (za rfl) zk aa5 ?_ | refine sG hp rfl (za rfl) (za rfl) zk aa5 ?_); clear hp; intro w1 hp; simp only [spl, z0a, z0b] at hp) | ((refine zj _ _ _ rfl ?_); refine lS hp rfl (by intro w; go_simp; rfl) ?_; clear hp; intro b w1 hp; simp only [z0g, z0h, Nat.reduceAdd] at hp)); simp only [zc, zb, z0b, z0a]))
     refine zi [_, _] (zC.two hp.drew at0 at1) [18] [(0, true), (1, true), (2, true), (3, true), (4, true), (5, true), (6, true), (7, true), (8, true), (9, true), (10, true), (11, true), (12, true), (13, true), (14, true), (15, true), (16, true), (17, true), (18, false)] (by kernel_rfl) (by kernel_rfl) rfl (by kernel_rfl) (fun _ _ d _ _ h => by cases d <;> exact h) ?_
     replace hp := hp.drew
     repeat' (with_reducible refine zD ?_); first | (with_reducible refine zv ?_) | ((with_reducible refine zM ?_); refine zA rfl ?_; (first | ((with_reducible refine Zk _ rfl ?_); refine tM rfl ?_) | ((with_reducible refine Zg _ _ rfl ?_); refine tO rfl (za rfl) (by with_reducible first | exact zn | exact zB) aa5 ?_) | refine tG (fun w _ => (by go_simp; try rfl)) ?_); try simp only [zc, zb, zl, zh, z0b, z0a, z0d, z0c, zq, HW.out]) | (refine zT rfl (fun K hK => ?_); go_wp2_with (first | go_skip | (((refine zd _ _ _ rfl ?_); (first | refine sO hp rfl (za rfl) Z7 aa5 ?_ | refine sA hp rfl (za rfl) (za rfl) zk aa5 ?_ | refine sG hp rfl (za rfl) (za rfl) zk aa5 ?_); clear hp; intro w1 hp; simp only [spl, z0a, z0b] at hp); simp only [zc, zb, z0b, z0a])); (first | refine hK.out _ _ (.inl rfl) ?_ | refine hK.out _ _ (.inr (zC.two hp aa5 aa5)) ?_); clear hK K; try simp only [zc, zb, zl, zh, z0b, z0a, z0d, z0c, zq, HW.out])
     go_wp2_with (first | (go_at_call 71; (with_reducible refine (zS vw nm bs im _ _ _ _).mono ?_); rintro e w1 ⟨rfl, hb⟩; replace hp := hp.call hb; clear hb) | go_skip | ((first | ((refine zg _ _ rfl ?_); refine lB hp rfl (za rfl) rfl ?_; clear hp; intro b w1 hp) | ((refine ze _ _ rfl ?_); first | refine lO hp rfl (za rfl) Z7 aa5 ?_ | refine lA hp rfl (za rfl) zcD aa5 ?_) | ((refine zd _ _ _ rfl ?_); (first | refine sO hp rfl (za rfl) Z7 aa5 ?_ | refine sA hp rfl (za rfl) (za rfl) zk aa5 ?_ | refine sG hp rfl (za rfl) (za rfl) zk aa5 ?_); clear hp; intro w1 hp; simp only [spl, z0a, z0b] at hp) | ((refine zj _ _ _ rfl ?_); refine lS hp rfl (by intro w; go_simp; rfl) ?_; clear hp; intro b w1 hp; simp only [z0g, z0h, Nat.reduceAdd] at hp)); simp only [zc, zb, z0b, z0a]))
     refine zi [_] (zC.one hp.drew at0) [13] [(0, true), (1, true), (2, true), (3, true), (4, true), (5, true), (6, true), (7, true), (8, true), (9, false), (10, true), (11, true), (12, true), (13, false)] (by kernel_rfl) (by kernel_rfl) rfl (by kernel_rfl) (fun _ _ d _ _ h => by cases d <;> exact h) ?_
     replace hp := hp.drew
     repeat' (with_reducible refine zD ?_); first | (with_reducible refine zv ?_) | ((with_reducible refine zM ?_); refine zA rfl ?_; (first | ((with_reducible refine Zk _ rfl ?_); refine tM rfl ?_) | ((with_reducible refine Zg _ _ rfl ?_); refine tO rfl (za rfl) (by with_reducible first | exact zn | exact zaj) aa5 ?_) | refine tG (fun w _ => (by go_simp; try rfl)) ?_); try simp only [zc, zb, zl, zh, z0b, z0a, z0d, z0c, zq]) | (refine zT rfl (fun K hK => ?_); go_wp2_with (first | go_skip | (((refine zd _ _ _ rfl ?_); (first | refine sO hp rfl (za rfl) Z7 aa5 ?_ | refine sA hp rfl (za rfl) (za rfl) zk aa5 ?_ | refine sG hp rfl (za rfl) (za rfl) zk aa5 ?_); clear hp; intro w1 hp; simp only [spl, z0a, z0b] at hp); simp only [zc, zb, z0b, z0a])); (first | refine hK.out _ _ (.inl rfl) ?_ | refine hK.out _ _ (.inr (zC.one hp aa5)) ?_); clear hK K; try simp only [zc, zb, zl, zh, z0b, z0a, z0d, z0c, zq])
     go_wp2_with (first | (go_at_call 21; (with_reducible refine (zas vw nm rn rim _ [] 0 0 HNL.out _ (HB.out _ _) (HSS.out _ _) _ (zm.nil _ _)).mono ?_); rintro e w1 ⟨rfl, hb⟩; replace hp := hp.call hb; clear hb; simp only [if_true, Bool.false_eq_true, if_false]) | go_skip | ((first | ((refine zg _ _ rfl ?_); refine lB hp rfl (za rfl) rfl ?_; clear hp; intro b w1 hp) | ((refine ze _ _ rfl ?_); first | refine lO hp rfl (za rfl) Z7 aa5 ?_ | refine lA hp rfl (za rfl) zcD aa5 ?_) | ((refine zd _ _ _ rfl ?_); (first | refine sO hp rfl (za rfl) Z7 aa5 ?_ | refine sA hp rfl (za rfl) (za rfl) zk aa5 ?_ | refine sG hp rfl (za rfl) (za rfl) zk aa5 ?_); clear hp; intro w1 hp; simp only [spl, z0a, z0b] at hp) | ((refine zj _ _ _ rfl ?_); refine lS hp rfl (by intro w; go_simp; rfl) ?_; clear hp; intro b w1 hp; simp only [z0g, z0h, Nat.reduceAdd] at hp)); simp only [zc, zb, z0b, z0a]))
    ·go_ret
     exact zaP (a := some ⟨bq, off, none⟩) (n := 0) (c := 0) (R := []) (Nat.le_refl _) (zw.nil _ _ _) hp.kp rfl
    ·go_ret
     exact Zu (by decide) hp.kp
   ·have hRd := hR.drop hke (by omega)
    rw [zed] at hRd
    have HRD := z0j hRd
    have HNL := z0j hnl
    have HLE : Hid (es.length - k ≤ ec - k) := z0j (by omega)
    have e4 : decide ((4000 : Int) < ((es.length - k : Nat) : Int)) = false := by simp; omega
    have f1 : (0 : Int) ≤ (k : Int) := by omega
    have f2 : (k : Int) ≤ (es.length : Int) := by omega
    have f3 : ¬ ec = k := hck
    clear h1 h2 hf hok hec hes him hrs hrc hri ha hR hok2 hb hnl hk hke hRd hck
    cases b
    rw [if_neg (by decide)]
    rotate_left
    rw [if_pos rfl]
    all_goals
     go_enter Tryz.func63, Tryz.ntmps63
     go_wp2_with (first | (go_at_call 71; (with_reducible refine (zS vw nm bs im _ _ _ _).mono ?_); rintro e w1 ⟨rfl, hb⟩; replace hp := hp.call hb; clear hb) | go_skip | ((first | ((refine zg _ _ rfl ?_); refine lB hp rfl (za rfl) rfl ?_; clear hp; intro b w1 hp) | ((refine ze _ _ rfl ?_); first | refine lO hp rfl (za rfl) Z7 aa5 ?_ | refine lA hp rfl (za rfl) zcD aa5 ?_) | ((refine zd _ _ _ rfl ?_); (first | refine sO hp rfl (za rfl) Z7 aa5 ?_ | refine sA hp rfl (za rfl) (za rfl) zk aa5 ?_ | refine sG hp rfl (za rfl) (za rfl) zk aa5 ?_); clear hp; intro w1 hp; simp only [spl, z0a, z0b] at hp) | ((refine zj _ _ _ rfl ?_); refine lS hp rfl (by intro w; go_simp; rfl) ?_; clear hp; intro b w1 hp; simp only [z0g, z0h, Nat.reduceAdd] at hp)); simp only [zc, zb, z0b, z0a]))
     refine zi _ (zC.all hp.drew) [] [(0, true), (1, true), (2, true), (3, true), (4, true), (5, true), (6, true), (7, true), (8, true), (9, true), (10, true), (11, true), (12, true), (13, true)] (by kernel_rfl) (by kernel_rfl) rfl (by kernel_rfl) (fun _ _ d _ _ h => by cases d <;> exact h) ?_
     replace hp := hp.drew
     repeat' (with_reducible refine zD ?_); first | (with_reducible refine zv ?_) | ((with_reducible refine zM ?_); refine zA rfl ?_; (first | ((with_reducible refine zad _ _ rfl ?_); refine tS (by first | exact zI rfl rfl rfl rfl | exact zJ rfl rfl rfl rfl) ?_) | ((with_reducible refine Zk _ rfl ?_); refine tM rfl ?_) | ((with_reducible refine Zg _ _ rfl ?_); refine tO rfl (za rfl) zn aa5 ?_) | refine tG (fun w _ => (by go_simp; try rfl)) ?_); try simp only [zc, zb, zl, zh, z0b, z0a, z0d, z0c, zq])
     go_wp2_with (first | (go_at_call 71; (with_reducible refine (zS vw nm bs im _ _ _ _).mono ?_); rintro e w1 ⟨rfl, hb⟩; replace hp := hp.call hb; clear hb) | go_skip | ((first | ((refine zg _ _ rfl ?_); refine lB hp rfl (za rfl) rfl ?_; clear hp; intro b w1 hp) | ((refine ze _ _ rfl ?_); first | refine lO hp rfl (za rfl) Z7 aa5 ?_ | refine lA hp rfl (za rfl) zcD aa5 ?_) | ((refine zd _ _ _ rfl ?_); (first | refine sO hp rfl (za rfl) Z7 aa5 ?_ | refine sA hp rfl (za rfl) (za rfl) zk aa5 ?_ | refine sG hp rfl (za rfl) (za rfl) zk aa5 ?_); clear hp; intro w1 hp; simp only [spl, z0a, z0b] at hp) | ((refine zj _ _ _ rfl ?_); refine lS hp rfl (by intro w; go_simp; rfl) ?_; clear hp; intro b w1 hp; simp only [z0g, z0h, Nat.reduceAdd] at hp)); simp only [zc, zb, z0b, z0a]))
     refine zi [_, _] (zC.two hp.drew at0 at1) [18] [(0, true), (1, true), (2, true), (3, true), (4, true), (5, true), (6, true), (7, true), (8, true), (9, true), (10, true), (11, true), (12, true), (13, true), (14, true), (15, true), (16, true), (17, true), (18, false)] (by kernel_rfl) (by kernel_rfl) rfl (by kernel_rfl) (fun _ _ d _ _ h => by cases d <;> exact h) ?_
     replace hp := hp.drew
     repeat' (with_reducible refine zD ?_); first | (with_reducible refine zv ?_) | ((with_reducible refine zM ?_); refine zA rfl ?_; (first | ((with_reducible refine Zk _ rfl ?_); refine tM rfl ?_) | ((with_reducible refine Zg _ _ rfl ?_); refine tO rfl (za rfl) (by with_reducible first | exact zn | exact zB) aa5 ?_) | refine tG (fun w _ => (by go_simp; try rfl)) ?_); try simp only [zc, zb, zl, zh, z0b, z0a, z0d, z0c, zq, HW.out]) | (refine zT rfl (fun K hK => ?_); go_wp2_with (first | go_skip | (((refine zd _ _ _ rfl ?_); (first | refine sO hp rfl (za rfl) Z7 aa5 ?_ | refine sA hp rfl (za rfl) (za rfl) zk aa5 ?_ | refine sG hp rfl (za rfl) (za rfl) zk aa5 ?_); clear hp; intro w1 hp; simp only [spl, z0a, z0b] at hp); simp only [zc, zb, z0b, z0a])); (first | refine hK.out _ _ (.inl rfl) ?_ | refine hK.out _ _ (.inr (zC.two hp aa5 aa5)) ?_); clear hK K; try simp only [zc, zb, zl, zh, z0b, z0a, z0d, z0c, zq, HW.out])
     go_wp2_with (first | (go_at_call 71; (with_reducible refine (zS vw nm bs im _ _ _ _).mono ?_); rintro e w1 ⟨rfl, hb⟩; replace hp := hp.call hb; clear hb) | go_skip | ((first | ((refine zg _ _ rfl ?_); refine lB hp rfl (za rfl) rfl ?_; clear hp; intro b w1 hp) | ((refine ze _ _ rfl ?_); first | refine lO hp rfl (za rfl) Z7 aa5 ?_ | refine lA hp rfl (za rfl) zcD aa5 ?_) | ((refine zd _ _ _ rfl ?_); (first | refine sO hp rfl (za rfl) Z7 aa5 ?_ | refine sA hp rfl (za rfl) (za rfl) zk aa5 ?_ | refine sG hp rfl (za rfl) (za rfl) zk aa5 ?_); clear hp; intro w1 hp; simp only [spl, z0a, z0b] at hp) | ((refine zj _ _ _ rfl ?_); refine lS hp rfl (by intro w; go_simp; rfl) ?_; clear hp; intro b w1 hp; simp only [z0g, z0h, Nat.reduceAdd] at hp)); simp only [zc, zb, z0b, z0a]))
     refine zi [_] (zC.one hp.drew at0) [13] [(0, true), (1, true), (2, true), (3, true), (4, true), (5, true), (6, true), (7, true), (8, true), (9, false), (10, true), (11, true), (12, true), (13, false)] (by kernel_rfl) (by kernel_rfl) rfl (by kernel_rfl) (fun _ _ d _ _ h => by cases d <;> exact h) ?_
     replace hp := hp.drew
     repeat' (with_reducible refine zD ?_); first | (with_reducible refine zv ?_) | ((with_reducible refine zM ?_); refine zA rfl ?_; (first | ((with_reducible refine Zk _ rfl ?_); refine tM rfl ?_) | ((with_reducible refine Zg _ _ rfl ?_); refine tO rfl (za rfl) (by with_reducible first | exact zn | exact zaj) aa5 ?_) | refine tG (fun w _ => (by go_simp; try rfl)) ?_); try simp only [zc, zb, zl, zh, z0b, z0a, z0d, z0c, zq]) | (refine zT rfl (fun K hK => ?_); go_wp2_with (first | go_skip | (((refine zd _ _ _ rfl ?_); (first | refine sO hp rfl (za rfl) Z7 aa5 ?_ | refine sA hp rfl (za rfl) (za rfl) zk aa5 ?_ | refine sG hp rfl (za rfl) (za rfl) zk aa5 ?_); clear hp; intro w1 hp; simp only [spl, z0a, z0b] at hp); simp only [zc, zb, z0b, z0a])); (first | refine hK.out _ _ (.inl rfl) ?_ | refine hK.out _ _ (.inr (zC.one hp aa5)) ?_); clear hK K; try simp only [zc, zb, zl, zh, z0b, z0a, z0d, z0c, zq])
     go_wp2_with (first | (go_at_call 21; (with_reducible refine (zas vw nm rn rim _ (es.drop k) _ (ec - k) HNL.out _ (HB.out _ _) (HSS.out _ _) _ (HRD.out.keptS.at hp (fun p hm => by simp [hm]))).mono ?_); rintro e w1 ⟨rfl, hb⟩; replace hp := hp.call hb; clear hb; simp only [if_true, Bool.false_eq_true, if_false]) | go_skip | ((first | ((refine zg _ _ rfl ?_); refine lB hp rfl (za rfl) rfl ?_; clear hp; intro b w1 hp) | ((refine ze _ _ rfl ?_); first | refine lO hp rfl (za rfl) Z7 aa5 ?_ | refine lA hp rfl (za rfl) zcD aa5 ?_) | ((refine zd _ _ _ rfl ?_); (first | refine sO hp rfl (za rfl) Z7 aa5 ?_ | refine sA hp rfl (za rfl) (za rfl) zk aa5 ?_ | refine sG hp rfl (za rfl) (za rfl) zk aa5 ?_); clear hp; intro w1 hp; simp only [spl, z0a, z0b] at hp) | ((refine zj _ _ _ rfl ?_); refine lS hp rfl (by intro w; go_simp; rfl) ?_; clear hp; intro b w1 hp; simp only [z0g, z0h, Nat.reduceAdd] at hp)); simp only [zc, zb, z0b, z0a]))
    ·go_ret
     exact zaP HLE.out HRD.out hp.kp HNL.out
    ·go_ret
     exact Zu (by decide) hp.kp
end Go.Proofs.YtjcbpfbifbfkcaaGreat
