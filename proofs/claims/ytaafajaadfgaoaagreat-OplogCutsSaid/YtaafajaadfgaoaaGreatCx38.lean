import Derived.Test.YtaafajaadfgaoaaGreatCx30
import Derived.Test.YtaafajaadfgaoaaGreatCx33
import Derived.Test.YtaafajaadfgaoaaGreatCx37
import Derived.Test.YtaafajaadfgaoaaGreatCx2
import Derived.Test.YtaafajaadfgaoaaGreatCx19
set_option linter.unusedSimpArgs false
set_option linter.unusedVariables false
set_option maxRecDepth 100000
set_option maxHeartbeats 60000000
namespace Go.Proofs.YtaafajaadfgaoaaGreat
open Go.RowKit
theorem zoy (od : Int) (oa : Option Addr) (os : List Ob) (oc : Nat) (nx t0 t1 t2 t3 : Int) (fa : Option Addr) (fs : List Bl) (fc : Nat) (ra : Option Addr) (rs : List Rw) (rc : Nat) (nu vi cl sq kk hh ii nn cc vv tt : Int) (r : Sv × Int × Int)
  (hr : Z8 ⟨⟨od, oa, os, oc, nx, t0, t1, t2, t3, fa, fs, fc⟩, ra, rs, rc⟩ ⟨nu, vi, cl, sq, ⟨kk, hh, ii, nn, cc, vv, tt⟩⟩ = r) (hs : Sv.Small ⟨⟨od, oa, os, oc, nx, t0, t1, t2, t3, fa, fs, fc⟩, ra, rs, rc⟩) (w : World) (hx0 : Sv.Is w ⟨⟨od, oa, os, oc, nx, t0, t1, t2, t3, fa, fs, fc⟩, ra, rs, rc⟩) : Calls Tryz.prog 47 #[.agg #[.int .i64 od, .slice oa os.length oc, .int .i64 nx, .int .i64 t0, .int .i64 t1, .int .i64 t2, .int .i64 t3, .slice fa fs.length fc, .slice ra rs.length rc], .agg #[.int .i64 nu, .int .i64 vi, .int .i64 cl, .int .i64 sq, .int .i64 kk, .int .i64 hh, .int .i64 ii, .int .i64 nn, .int .i64 cc, .int .i64 vv, .int .i64 tt]] w (zcA w r) := by
 subst hr
 cases h1 : stB ⟨⟨od, oa, os, oc, nx, t0, t1, t2, t3, fa, fs, fc⟩, ra, rs, rc⟩ with
 | false =>
  have e : Z8 ⟨⟨od, oa, os, oc, nx, t0, t1, t2, t3, fa, fs, fc⟩, ra, rs, rc⟩ ⟨nu, vi, cl, sq, ⟨kk, hh, ii, nn, cc, vv, tt⟩⟩ = (zbO, 1, 0) := by unfold Z8; rw [if_neg (by rw [h1]; simp)]
  rw [e]
  exact zf7 od oa os oc nx t0 t1 t2 t3 fa fs fc ra rs rc nu vi cl sq kk hh ii nn cc vv tt hs w hx0 (.inl h1)
 | true =>
  cases h2 : zc0 ⟨nu, vi, cl, sq, ⟨kk, hh, ii, nn, cc, vv, tt⟩⟩ with
  | false =>
   have e : Z8 ⟨⟨od, oa, os, oc, nx, t0, t1, t2, t3, fa, fs, fc⟩, ra, rs, rc⟩ ⟨nu, vi, cl, sq, ⟨kk, hh, ii, nn, cc, vv, tt⟩⟩ = (zbO, 1, 0) := by unfold Z8; rw [if_neg (by rw [h2]; simp)]
   rw [e]
   exact zf7 od oa os oc nx t0 t1 t2 t3 fa fs fc ra rs rc nu vi cl sq kk hh ii nn cc vv tt hs w hx0 (.inr ⟨h1, h2⟩)
  | true =>
   have e : Z8 ⟨⟨od, oa, os, oc, nx, t0, t1, t2, t3, fa, fs, fc⟩, ra, rs, rc⟩ ⟨nu, vi, cl, sq, ⟨kk, hh, ii, nn, cc, vv, tt⟩⟩ = zcq ⟨⟨od, oa, os, oc, nx, t0, t1, t2, t3, fa, fs, fc⟩, ra, rs, rc⟩ cl sq ⟨kk, hh, ii, nn, cc, vv, tt⟩ := by unfold Z8; rw [if_pos ⟨h1, h2⟩]
   rw [e]
   have hst := zfz h1
   obtain ⟨⟨⟨r1, r2, r3, r4⟩, b⟩, hf⟩ : ∃ q, zdk rs cl = q := ⟨_, rfl⟩
   unfold zcq
   simp only [hf]
   by_cases hA : sq < r2
   ·rw [if_pos hA]
    exact zcC od oa os oc nx t0 t1 t2 t3 fa fs fc ra rs rc nu vi cl sq kk hh ii nn cc vv tt hs w hx0 h1 h2 r1 r2 r3 r4 b hf 0 130 0 (.inl ⟨decide_eq_true hA, rfl, rfl⟩)
   ·rw [if_neg hA]
    by_cases hC : cl = 0
    ·rw [if_pos (.inl hC)]
     exact zcC od oa os oc nx t0 t1 t2 t3 fa fs fc ra rs rc nu vi cl sq kk hh ii nn cc vv tt hs w hx0 h1 h2 r1 r2 r3 r4 b hf 0 r3 r4 (.inr (.inl ⟨decide_eq_false hA, by simp [hC], rfl, rfl⟩))
    ·by_cases hE : r2 = sq
     ·rw [if_pos (.inr hE)]
      exact zcC od oa os oc nx t0 t1 t2 t3 fa fs fc ra rs rc nu vi cl sq kk hh ii nn cc vv tt hs w hx0 h1 h2 r1 r2 r3 r4 b hf 0 r3 r4 (.inr (.inr ⟨decide_eq_false hA, by simp [hC], by simp [hE], rfl, rfl⟩))
     ·rw [if_neg (by intro h; rcases h with h | h; exact hC h; exact hE h)]
      obtain ⟨⟨s, c, v⟩, hd⟩ : ∃ q, doC ⟨od, oa, os, oc, nx, t0, t1, t2, t3, fa, fs, fc⟩ ⟨kk, hh, ii, nn, cc, vv, tt⟩ = q := ⟨_, rfl⟩
      have hd' : doP ⟨od, oa, os, oc, nx, t0, t1, t2, t3, fa, fs, fc⟩ ⟨kk, hh, ii, nn, cc, vv, tt⟩ = (s, c, v) := by rw [zi2 hst.hv]; exact hd
      rw [hd]
      obtain ⟨k, hat⟩ := zsR (zdQ hst.rows) cl
      cases hb : zb2 rs cl k with
      | true => exact ziJ od oa os oc nx t0 t1 t2 t3 fa fs fc ra rs rc nu vi cl sq kk hh ii nn cc vv tt hs w hx0 h1 h2 r1 r2 r3 r4 b hf s c v (decide_eq_false hA) (by simp [hC]) (by simp [hE]) hd' k hat hb
      | false => exact ziK od oa os oc nx t0 t1 t2 t3 fa fs fc ra rs rc nu vi cl sq kk hh ii nn cc vv tt hs w hx0 h1 h2 r1 r2 r3 r4 b hf s c v (decide_eq_false hA) (by simp [hC]) (by simp [hE]) hd' k hat hb
theorem zsh (odx : Int) (oax : Option Addr) (osx : List Ob) (ocx : Nat) (nxx t0x t1x t2x t3x : Int) (fax : Option Addr) (fsx : List Bl) (fcx : Nat) (rax : Option Addr) (rsx : List Rw) (rcx : Nat) (ody : Int) (oay : Option Addr) (osy : List Ob) (ocy : Nat) (nxy t0y t1y t2y t3y : Int) (fay : Option Addr) (fsy : List Bl) (fcy : Nat) (ray : Option Addr) (rsy : List Rw) (rcy : Nat) (hs : Sv.Small ⟨⟨odx, oax, osx, ocx, nxx, t0x, t1x, t2x, t3x, fax, fsx, fcx⟩, rax, rsx, rcx⟩) (hxy : Sv.Sm ⟨⟨odx, oax, osx, ocx, nxx, t0x, t1x, t2x, t3x, fax, fsx, fcx⟩, rax, rsx, rcx⟩ ⟨⟨ody, oay, osy, ocy, nxy, t0y, t1y, t2y, t3y, fay, fsy, fcy⟩, ray, rsy, rcy⟩) (w : World) (hx0 : Sv.Is w ⟨⟨odx, oax, osx, ocx, nxx, t0x, t1x, t2x, t3x, fax, fsx, fcx⟩, rax, rsx, rcx⟩) (hy0 : Sv.Is w ⟨⟨ody, oay, osy, ocy, nxy, t0y, t1y, t2y, t3y, fay, fsy, fcy⟩, ray, rsy, rcy⟩) :
  Calls Tryz.prog 26 #[.agg #[.int .i64 odx, .slice oax osx.length ocx, .int .i64 nxx, .int .i64 t0x, .int .i64 t1x, .int .i64 t2x, .int .i64 t3x, .slice fax fsx.length fcx, .slice rax rsx.length rcx], .agg #[.int .i64 ody, .slice oay osy.length ocy, .int .i64 nxy, .int .i64 t0y, .int .i64 t1y, .int .i64 t2y, .int .i64 t3y, .slice fay fsy.length fcy, .slice ray rsy.length rcy]] w fun e w' => e = .returned (.bool true) ∧ Below w.heap.size w w' := ztM _ _ hs hxy w hx0 hy0
open Go.RowKit
theorem zd7 {ty : TypeId} {k : Nat} (h : ZB Tryz.prog ty k = true := by with_reducible first | exact zbf | exact zap | exact zc6) : ZB Tryz.prog ty k = true := h
theorem zrb {ty : TypeId} (h : zy Tryz.prog ty = true := by with_reducible first | exact zr | exact Ze | exact zaj | exact zd2 | exact Zb) : zy Tryz.prog ty = true := h
def zjS (w : World) (c : Int) (e : Ending) (w' : World) : Prop := e = .returned (.tuple #[.agg #[.int .i64 0, .slice none 0 0, .int .i64 0, .int .i64 0, .int .i64 0, .int .i64 0, .int .i64 0, .slice none 0 0, .slice none 0 0], .int .i64 c]) ∧ Below w.heap.size w w'
theorem zlM (vw nm bs : Int) (im : ByteArray) (ea : Option Addr) (es : List Env) (ec : Nat) (n : Int) (hb : okC ⟨vw, nm, bs, im, ea, es, ec⟩ = false) (hs : Kv.Small ⟨vw, nm, bs, im, ea, es, ec⟩) (w : World) (ha : zm w ea (es.flatMap Zy)) :
  Calls Tryz.prog 28 #[.agg #[.int .i64 vw, .int .i64 nm, .int .i64 bs, .string im, .slice ea es.length ec], .int .i64 n] w (zjS w 1) := by
 have hp := Hp.start w
 have HB := z0j hb
 have HSS := z0j hs
 have HA := z0j ha
 clear hb hs ha
 go_enter Tryz.func28, Tryz.ntmps28
 go_wp2_with (first | (go_at_call 64; (with_reducible refine (zaK vw nm bs im ea es ec _ HB.out HSS.out _ (HA.out.below hp.below)).mono ?_); rintro e w1 ⟨rfl, hb⟩; replace hp := hp.call hb; clear hb; simp only [if_true, Bool.false_eq_true, if_false]) | ((first | ((refine zi _ rfl ?_); refine lZ hp rfl (by with_reducible first | exact Zt) ?_; clear hp; intro b w1 hp) | ((refine zk _ _ rfl ?_); refine lB hp rfl (za rfl) rfl ?_; clear hp; intro b w1 hp) | ((refine zd _ _ rfl ?_); first | refine lA hp rfl (za rfl) zd7 aa5 ?_) | ((refine zg _ _ _ rfl ?_); (first | refine sA hp rfl (za rfl) (za rfl) zd7 aa5 ?_); clear hp; intro w1 hp; simp only [spl, z0a, z0b] at hp)); simp only [zc, zb, z0b, z0a]))
 exact bodyPost_ret (zx (rs := [.cell 4 50, .tmp 5]) Tryz.results28 (.cell rfl (hp.loadAgg zap at0 0 _ (by rfl) (by rfl)) (.tmp rfl .nil))) rfl ⟨rfl, hp.below⟩
theorem zh9 {x : Kv} (h : okC x = true) : 0 ≤ x.bs ∧ x.bs ≤ 900000000 := by
 unfold okC at h
 simp only [Bool.and_eq_true, inM, decide_eq_true_eq] at h
 exact h.2.2.1
theorem zjB (vw nm bs : Int) (im : ByteArray) (ea : Option Addr) (es : List Env) (ec : Nat) (n : Int) (hb : okC ⟨vw, nm, bs, im, ea, es, ec⟩ = true) (hg : n < bs ∨ bs + es.length < n) (hs : Kv.Small ⟨vw, nm, bs, im, ea, es, ec⟩) (w : World) (ha : zm w ea (es.flatMap Zy)) :
  Calls Tryz.prog 28 #[.agg #[.int .i64 vw, .int .i64 nm, .int .i64 bs, .string im, .slice ea es.length ec], .int .i64 n] w (zjS w 140) := by
 have hp := Hp.start w
 have hok := zh9 hb
 simp only at hok
 have hl : es.length ≤ 100000 := hs.1
 have e0 : wrap64 (bs + es.length) = bs + es.length := by unfold wrap64; omega
 have HB := z0j hb
 have HSS := z0j hs
 have HA := z0j ha
 by_cases h1 : n < bs
 ·have e1 : decide (n < bs) = true := by simpa using h1
  clear hb hs ha hg h1 hok
  go_enter Tryz.func28, Tryz.ntmps28
  go_wp2_with (first | (go_at_call 64; (with_reducible refine (zaK vw nm bs im ea es ec _ HB.out HSS.out _ (HA.out.below hp.below)).mono ?_); rintro e w1 ⟨rfl, hb⟩; replace hp := hp.call hb; clear hb; simp only [if_true, Bool.false_eq_true, if_false]) | ((first | ((refine zi _ rfl ?_); refine lZ hp rfl (by with_reducible first | exact Zt) ?_; clear hp; intro b w1 hp) | ((refine zk _ _ rfl ?_); refine lB hp rfl (za rfl) rfl ?_; clear hp; intro b w1 hp) | ((refine zd _ _ rfl ?_); first | refine lO hp rfl (za rfl) zrb aa5 ?_ | refine lA hp rfl (za rfl) zd7 aa5 ?_) | ((refine zg _ _ _ rfl ?_); (first | refine sA hp rfl (za rfl) (za rfl) zd7 aa5 ?_); clear hp; intro w1 hp; simp only [spl, z0a, z0b] at hp)); simp only [zc, zb, z0b, z0a]))
  exact bodyPost_ret (zx (rs := [.cell 4 50, .tmp 5]) Tryz.results28 (.cell rfl (hp.loadAgg zap at0 0 _ (by rfl) (by rfl)) (.tmp rfl .nil))) rfl ⟨rfl, hp.below⟩
 ·have e1 : decide (n < bs) = false := by simpa using h1
  have e2 : decide (bs + (es.length : Int) < n) = true := by simp; omega
  clear hb hs ha hg h1 hok
  go_enter Tryz.func28, Tryz.ntmps28
  go_wp2_with (first | (go_at_call 64; (with_reducible refine (zaK vw nm bs im ea es ec _ HB.out HSS.out _ (HA.out.below hp.below)).mono ?_); rintro e w1 ⟨rfl, hb⟩; replace hp := hp.call hb; clear hb; simp only [if_true, Bool.false_eq_true, if_false]) | (go_at_call 71; (with_reducible refine (za3 vw nm bs im _ _ _ _).mono ?_); rintro e w1 ⟨rfl, hb⟩; replace hp := hp.call hb; clear hb) | ((first | ((refine zi _ rfl ?_); refine lZ hp rfl (by with_reducible first | exact Zt) ?_; clear hp; intro b w1 hp) | ((refine zk _ _ rfl ?_); refine lB hp rfl (za rfl) rfl ?_; clear hp; intro b w1 hp) | ((refine zd _ _ rfl ?_); first | refine lO hp rfl (za rfl) zrb aa5 ?_ | refine lA hp rfl (za rfl) zd7 aa5 ?_) | ((refine zg _ _ _ rfl ?_); (first | refine sA hp rfl (za rfl) (za rfl) zd7 aa5 ?_); clear hp; intro w1 hp; simp only [spl, z0a, z0b] at hp)); simp only [zc, zb, z0b, z0a]))
  exact bodyPost_ret (zx (rs := [.cell 4 50, .tmp 5]) Tryz.results28 (.cell rfl (hp.loadAgg zap at0 0 _ (by rfl) (by rfl)) (.tmp rfl .nil))) rfl ⟨rfl, hp.below⟩
def zui (w : World) (s : Sv) (e : Ending) (w' : World) : Prop := ∃ y R, e = .returned (.tuple #[.agg (svL y).toArray, .int .i64 0]) ∧ y.Sm s ∧ ZK R (fun w => y.Is w) ∧ Hp w.heap.size w w' R
theorem zgb : ∀ {l : List Env} {nm v : Int}, zbP nm v l = true → ∀ e ∈ l, zc0 e = true
 | [], _, _, _, e, he => by cases he
 | x :: r, nm, v, h, e, he => by
  unfold zbP at h
  simp only [Bool.and_eq_true] at h
  rcases List.mem_cons.1 he with rfl | he
  ·exact h.1
  ·exact zgb h.2.2 e he
theorem zfb {x : Kv} (h : okC x = true) : ∀ e ∈ x.es, zc0 e = true := by
 unfold okC at h
 simp only [Bool.and_eq_true] at h
 exact zgb h.2.2.2.2.2.1
theorem SvO.kept2 {y : Sv} {R : List Blk} (h : SvO y R) : ZK R fun w => y.Is w := by
 obtain ⟨RR, RH, rfl, h1, h2⟩ := h
 obtain ⟨a, c, hv, hk⟩ := h1.kept
 injection hv with e1 e2 e3
 rw [← e1] at hk
 intro B w0 w L hp hm
 exact ⟨h2.kept.at hp (fun p hp2 => hm p (List.mem_append_right _ hp2)), hk.at hp (fun p hp2 => hm p (List.mem_append_left _ hp2))⟩
theorem zjC (vw nm bs : Int) (im : ByteArray) (ea : Option Addr) (es : List Env) (ec : Nat) (n : Int) (hb : okC ⟨vw, nm, bs, im, ea, es, ec⟩ = true) (h1 : bs ≤ n) (h2 : n ≤ bs + es.length) (hec : es.length ≤ ec) (s0 : Sv) (hs0 : ZQ (zbz im) = some s0) (hst : StR s0) (hs : Kv.Small ⟨vw, nm, bs, im, ea, es, ec⟩) (w : World) (ha : zm w ea (es.flatMap Zy)) :
  Calls Tryz.prog 28 #[.agg #[.int .i64 vw, .int .i64 nm, .int .i64 bs, .string im, .slice ea es.length ec], .int .i64 n] w (zui w (zhf s0 (es.take (n - bs).toNat))) := by
 have hp := Hp.start w
 have hok := zh9 hb
 simp only at hok
 have hl : es.length ≤ 100000 := hs.1
 have e0 : wrap64 (bs + es.length) = bs + es.length := by unfold wrap64; omega
 have e1 : decide (n < bs) = false := by simpa using h1
 have e2 : decide (bs + (es.length : Int) < n) = false := by simp; omega
 obtain ⟨k, hk⟩ : ∃ k : Nat, n - bs = k := ⟨(n - bs).toNat, by omega⟩
 have e3 : wrap64 (n - bs) = (k : Int) := by rw [← hk]; unfold wrap64; omega
 have hkl : k ≤ es.length := by omega
 rw [show (n - bs).toNat = k by omega]
 have f1 : (0 : Int) ≤ (k : Int) := by omega
 have f2 : (k : Int) ≤ (ec : Int) := by omega
 have HB := z0j hb
 have HSS := z0j hs
 have HA := z0j ha
 have HS := z0j hs0
 have HIM : Hid (im.size ≤ 1000000000) := z0j (by have := hs.2; simp only at this; omega)
 clear hb hs ha h1 h2 hok hk hs0
 go_enter Tryz.func28, Tryz.ntmps28
 go_wp2_with (first | (go_at_call 64; (with_reducible refine (zaK vw nm bs im ea es ec _ HB.out HSS.out _ (HA.out.below hp.below)).mono ?_); rintro e w1 ⟨rfl, hb⟩; replace hp := hp.call hb; clear hb; simp only [if_true, Bool.false_eq_true, if_false]) | (go_at_call 71; (with_reducible refine (za3 vw nm bs im _ _ _ _).mono ?_); rintro e w1 ⟨rfl, hb⟩; replace hp := hp.call hb; clear hb) | ((refine z8 _ _ _ rfl ?_); refine Z5 hp 9 57 5 _ rfl wy Tryz.underlying9 Tryz.underlying57 Tryz.underlying5 _ (za rfl) ?_; clear hp; intro ad cb w1 hcb had hp; have HCB := z0j hcb; have HAD := z0j had; clear hcb had; simp only [zc, zb, z0b, z0a]) | (go_at_call 37; (with_reducible refine (zj6 im _ HS.out ad cb HCB.out HIM.out _ HAD.out).mono ?_); rintro e w1 ⟨odX, oaX, osX, ocX, nxX, t0X, t1X, t2X, t3X, faX, fsX, fcX, raX, rsX, rcX, RX, rfl, hsm, hso, hpn⟩; replace hp := hp.join hpn; have HSX := z0j hsm; have HSO := z0j hso; clear hpn hsm hso; simp only [z0f, z0e] at hp) | ((first | ((refine zi _ rfl ?_); refine lZ hp rfl (by with_reducible first | exact Zt) ?_; clear hp; intro b w1 hp) | ((refine zk _ _ rfl ?_); refine lB hp rfl (za rfl) rfl ?_; clear hp; intro b w1 hp) | ((refine zd _ _ rfl ?_); first | refine lO hp rfl (za rfl) zrb aa5 ?_ | refine lA hp rfl (za rfl) zd7 aa5 ?_) | ((refine zg _ _ _ rfl ?_); (first | refine sA hp rfl (za rfl) (za rfl) zd7 aa5 ?_); clear hp; intro w1 hp; simp only [spl, z0a, z0b] at hp)); simp only [zc, zb, z0b, z0a]))
 obtain ⟨bS, hbS⟩ := hp.id0
 obtain ⟨b4, hb4⟩ := hp.id1
 obtain ⟨bk, hbk⟩ := hp.id2
 subst hbS hb4 hbk
 have HST := z0j hst
 have hmay : ∀ e ∈ es, zc0 e = true := zfb HB.out
 have HMAY := z0j hmay
 clear hst hmay
 simp only [e3]
 go_loopg [42] k (fun kq i wr => ∃ (q : Nat) (y : Sv) (R : List Blk), kq + q = k ∧ i = .int .i64 q ∧ Hid (y.Sm (zhf s0 (es.take q))) ∧ Hid (ZK R fun w => y.Is w) ∧ Hp w.heap.size w wr (⟨bS, svL y, 50, 9⟩ :: ⟨b4, [.int .i64 0, .slice none 0 0, .int .i64 0, .int .i64 0, .int .i64 0, .int .i64 0, .int .i64 0, .slice none 0 0, .slice none 0 0], 50, 9⟩ :: ⟨bk, [.int .i64 vw, .int .i64 nm, .int .i64 bs, .string im, .slice ea es.length ec], 24, 5⟩ :: R))
 case atStart => exact ⟨0, ⟨⟨odX, oaX, osX, ocX, nxX, t0X, t1X, t2X, t3X, faX, fsX, fcX⟩, raX, rsX, rcX⟩, RX, by omega, rfl, z0j HSX.out, z0j HSO.out.kept2, hp⟩
 case round =>
  clear hp
  obtain ⟨q, y, R, hkq, rfl, HY, HKY, hp⟩ := hrel
  by_cases hlt : q < k
  ·obtain ⟨bq, off, rfl, hx⟩ := HA.out.elems 11 zaD (by omega) (by omega)
   have hj := List.getElem?_eq_getElem (l := es) (i := q) (by omega)
   replace hx := hx q _ hj
   have htk : es.take (q + 1) = es.take q ++ [es[q]] := by rw [List.take_add_one, hj]; rfl
   clear hj
   have hme := HMAY.out _ (List.getElem_mem (l := es) (n := q) (by omega))
   generalize es[q]'(by omega) = en at hx htk hme
   obtain ⟨nu, vi, cl, sq, ⟨kk, hh, ii, nn, cc, vv, tt⟩⟩ := en
   simp only [Zy, opL, z0f, z0e] at hx
   have HX := z0j hx
   have hright : StR (zhf s0 (es.take q)) := zfw HST.out (fun e he => HMAY.out e (List.mem_of_mem_take he))
   have HSY := z0j (hright.small.sm HY.out.symm)
   obtain ⟨rr, hd⟩ : ∃ rr, Z8 y ⟨nu, vi, cl, sq, ⟨kk, hh, ii, nn, cc, vv, tt⟩⟩ = rr := ⟨_, rfl⟩
   have hnext : rr.1.Sm (zhf s0 (es.take (q + 1))) := by
    rw [htk, zik, ← hd]
    exact (zhm HY.out _).2
   have HNX := z0j hnext
   obtain ⟨⟨odY, oaY, osY, ocY, nxY, t0Y, t1Y, t2Y, t3Y, faY, fsY, fcY⟩, raY, rsY, rcY⟩ := y
   obtain ⟨ss, rcc, rvv⟩ := rr
   have HD1 := z0j hd
   have f3 : (0 : Int) ≤ (q : Int) := by omega
   have f4 : (q : Int) < (k : Int) := by omega
   clear hx hd hnext hright htk hme HY
   simp only [svL, hvL, z0f, z0e] at hp
   go_wp2_with (first | (go_at_call 47; (with_reducible refine (zoy odY oaY osY ocY nxY t0Y t1Y t2Y t3Y faY fsY fcY raY rsY rcY nu vi cl sq kk hh ii nn cc vv tt _ HD1.out HSY.out _ (HKY.out.at hp (fun p hm => by simp [hm]))).mono ?_); rintro e w1 ⟨yA, RA, rfl, hyA, hkA, _, hpA⟩; replace hp := hp.join hpA; have HYA := z0j hyA; have HKA := z0j hkA; clear hpA hyA hkA; simp only [z0f, z0e, z0i] at hp) | ((first | ((refine zi _ rfl ?_); refine lZ hp rfl (by with_reducible first | exact zeB) ?_; clear hp; intro b w1 hp) | ((refine zd _ _ rfl ?_); first | refine lA hp rfl (za rfl) zd7 aa5 ?_ | refine lR hp rfl (za rfl) zd7 HX.out ?_) | ((refine zg _ _ _ rfl ?_); (first | refine sA hp rfl (za rfl) (za rfl) zd7 aa5 ?_); clear hp; intro w1 hp; simp only [spl, z0a, z0b] at hp)); simp only [zc, zb, z0b, z0a]))
   go_roundg (gk - 1)
   case measure => omega
   case rel => exact ⟨q + 1, yA, RA, by omega, by go_num, z0j (HYA.out.trans HNX.out), HKA, hp.kp⟩
  ·obtain rfl : q = k := by omega
   obtain ⟨⟨odY, oaY, osY, ocY, nxY, t0Y, t1Y, t2Y, t3Y, faY, fsY, fcY⟩, raY, rsY, rcY⟩ := y
   have f3 : decide ((q : Int) < (q : Int)) = false := by simp
   simp only [svL, hvL, z0f, z0e] at hp
   clear hkq hlt
   go_wp2_with (first | ((first | ((refine zd _ _ rfl ?_); first | refine lA hp rfl (za rfl) zd7 aa5 ?_) | ((refine zg _ _ _ rfl ?_); (first | refine sA hp rfl (za rfl) (za rfl) zd7 aa5 ?_); clear hp; intro w1 hp; simp only [spl, z0a, z0b] at hp)); simp only [zc, zb, z0b, z0a]))
   exact bodyPost_ret (zx (rs := [.cell 4 50, .tmp 5]) Tryz.results28 (.cell rfl (hp.loadAgg zap at1 0 _ (by rfl) (by rfl)) (.tmp rfl .nil))) rfl ⟨⟨⟨odY, oaY, osY, ocY, nxY, t0Y, t1Y, t2Y, t3Y, faY, fsY, fcY⟩, raY, rsY, rcY⟩, R, rfl, HY.out, HKY.out, hp.kp⟩
open Go.RowKit
theorem zgP {ty : TypeId} {k : Nat} (h : ZB Tryz.prog ty k = true := by with_reducible first | exact zap | exact zW | exact zF) : ZB Tryz.prog ty k = true := h
theorem zt9 {ty : TypeId} (h : zy Tryz.prog ty = true := by with_reducible first | exact zr | exact Ze | exact z7 | exact Zz | exact zaC | exact Zb) : zy Tryz.prog ty = true := h
theorem zly (o : Int) (h : zZ o = false) (w : World) : Calls Tryz.prog 127 #[.int .i64 o] w (zjQ w zam 1) := by
 have hp := Hp.start w
 have K := z0j (znu o h)
 clear h
 go_enter Tryz.func127, Tryz.ntmps127
 go_wp2_with (first | (go_at_call 81; ((with_reducible refine (K.out _).mono ?_); rintro e w1 ⟨⟨od, oa, os, oc, nx, t0, t1, t2, t3, fa, fs, fc⟩, R, rfl, hsm, hk, hp5⟩; replace hp := hp.join hp5; have HSM := z0j hsm; have HK := z0j hk; clear hp5 hsm hk; simp only [z0f, z0e, hvL] at hp ⊢)) | ((first | ((refine zi _ rfl ?_); refine lZ hp rfl (by with_reducible first | exact Zt | exact Z7) ?_; clear hp; intro b w1 hp) | ((refine zg _ _ _ rfl ?_); (first | refine sA hp rfl (za rfl) (za rfl) zgP zK ?_); clear hp; intro w1 hp; simp only [spl, z0a, z0b] at hp)); simp only [zc, zb, z0b, z0a]))
 exact bodyPost_ret (zx (rs := [.cell 2 50, .tmp 3]) Tryz.results127 (.cell rfl (hp.loadAgg zap at1 0 _ (by rfl) (by rfl)) (.tmp rfl .nil))) rfl ⟨⟨zam, none, [], 0⟩, [], rfl, ⟨Hv.Sm.refl _, rfl⟩, (zd9.mono (fun _ h => h) (fun w h => ⟨h, zm.nil _ _⟩)), (hp.tail.tail).sub0⟩
theorem zjr (o : Int) (h : zZ o = true) (w : World) : Calls Tryz.prog 127 #[.int .i64 o] w (zjQ w (zc8 o) 0) := by
 have hp := Hp.start w
 have K := z0j (zlx o h)
 clear h
 go_enter Tryz.func127, Tryz.ntmps127
 go_wp2_with (first | (go_at_call 81; ((with_reducible refine (K.out _).mono ?_); rintro e w1 ⟨⟨od, oa, os, oc, nx, t0, t1, t2, t3, fa, fs, fc⟩, R, rfl, hsm, hk, hp5⟩; replace hp := hp.join hp5; have HSM := z0j hsm; have HK := z0j hk; clear hp5 hsm hk; simp only [z0f, z0e, hvL] at hp ⊢)) | ((first | ((refine zi _ rfl ?_); refine lZ hp rfl (by with_reducible first | exact Zt | exact Z7) ?_; clear hp; intro b w1 hp) | ((refine zd _ _ rfl ?_); first | refine lA hp rfl (za rfl) zgP zK ?_) | ((refine zg _ _ _ rfl ?_); (first | refine sA hp rfl (za rfl) (za rfl) zgP zK ?_); clear hp; intro w1 hp; simp only [spl, z0a, z0b] at hp)); simp only [zc, zb, z0b, z0a]))
 exact bodyPost_ret (zx (rs := [.cell 2 50, .tmp 3]) Tryz.results127 (.cell rfl (hp.loadAgg zap at1 0 _ (by rfl) (by rfl)) (.tmp rfl .nil))) rfl ⟨⟨⟨od, oa, os, oc, nx, t0, t1, t2, t3, fa, fs, fc⟩, none, [], 0⟩, R, rfl, ⟨HSM.out, rfl⟩, (HK.out.mono (fun _ h => h) (fun w h => ⟨h, zm.nil _ _⟩)), hp.tail.tail⟩
open Go.RowKit
theorem zmS {ty : TypeId} {k : Nat} (h : ZB Tryz.prog ty k = true := by with_reducible first | exact zbf | exact zap | exact zfM | exact zc6) : ZB Tryz.prog ty k = true := h
theorem zvc {ty : TypeId} (h : zy Tryz.prog ty = true := by with_reducible first | exact zr | exact Ze | exact Zb) : zy Tryz.prog ty = true := h
theorem zqX : zbB Tryz.prog 33 = some ([.int .i64 0, .int .i64 0, .int .i64 0, .int .i64 0, .string ⟨#[]⟩, .int .i64 0, .int .i64 0, .int .i64 0, .int .i64 0, .int .i64 0, .int .i64 0, .int .i64 0, .int .i64 0, .int .i64 0, .int .i64 0, .int .i64 0, .slice none 0 0], 17) := by kernel_rfl
def st3 : Sv := ⟨zc8 3, none, [], 0⟩
def b36 : List Nat := zav st3
theorem zmg : zan b36 := by
 intro x hx
 have : b36 = [0, 0, 0, 28] ++ b28 ++ [0, 0, 0, 0] := rfl
 rw [this] at hx
 simp [b28] at hx
 omega
theorem zin : StR st3 := ⟨zb4 zlJ, rfl⟩
theorem zn4 : ZQ b36 = some (zcr st3) := zgn zin ⟨(fun o ho => by cases ho), (fun r hr => by cases hr)⟩
def im3 : ByteArray := strOfNums (nI b36)
theorem zky : zbz im3 = b36 := zbt zmg
theorem zpj : im3.size = 36 := by rw [← ZR, zky]; rfl
theorem zgm : ZQ (zbz im3) = some (zcr st3) := by rw [zky]; exact zn4
def zug (w : World) (e : Ending) (w' : World) : Prop := ∃ od oa os oc nx t0 t1 t2 t3 fa fs fc ra rs rc R, e = .returned (.tuple #[.agg #[.int .i64 od, .slice oa (List.length os) oc, .int .i64 nx, .int .i64 t0, .int .i64 t1, .int .i64 t2, .int .i64 t3, .slice fa (List.length fs) fc, .slice ra (List.length rs) rc], .int .i64 0]) ∧ Sv.Sm ⟨⟨od, oa, os, oc, nx, t0, t1, t2, t3, fa, fs, fc⟩, ra, rs, rc⟩ st3 ∧ ZK R (fun w => Sv.Is w ⟨⟨od, oa, os, oc, nx, t0, t1, t2, t3, fa, fs, fc⟩, ra, rs, rc⟩) ∧ Hp w.heap.size w w' R
theorem ztr (w : World) : Calls Tryz.prog 127 #[.int .i64 3] w (zug w) := by
 refine (zjr 3 rfl w).mono fun e w' h => ?_
 obtain ⟨y, R, h1, h2, h3, h4⟩ := h
 obtain ⟨⟨od, oa, os, oc, nx, t0, t1, t2, t3, fa, fs, fc⟩, ra, rs, rc⟩ := y
 exact ⟨od, oa, os, oc, nx, t0, t1, t2, t3, fa, fs, fc, ra, rs, rc, R, h1, h2, h3, h4⟩
theorem zts (w : World) : Calls Tryz.prog 127 #[.int .i64 9] w fun e w' => ∃ od oa on oc nx t0 t1 t2 t3 fa fn fc ra rn rc R, e = .returned (.tuple #[.agg #[.int .i64 od, .slice oa on oc, .int .i64 nx, .int .i64 t0, .int .i64 t1, .int .i64 t2, .int .i64 t3, .slice fa fn fc, .slice ra rn rc], .int .i64 1]) ∧ Hp w.heap.size w w' R := by
 refine (zly 9 rfl w).mono fun e w' h => ?_
 obtain ⟨y, R, h1, h2, h3, h4⟩ := h
 obtain ⟨⟨od, oa, os, oc, nx, t0, t1, t2, t3, fa, fs, fc⟩, ra, rs, rc⟩ := y
 exact ⟨od, oa, _, oc, nx, t0, t1, t2, t3, fa, _, fc, ra, _, rc, R, h1, h4⟩
theorem ztE (od : Int) (oa : Option Addr) (os : List Ob) (oc : Nat) (nx t0 t1 t2 t3 : Int) (fa : Option Addr) (fs : List Bl) (fc : Nat) (ra : Option Addr) (rs : List Rw) (rc : Nat) (hsm : Sv.Sm ⟨⟨od, oa, os, oc, nx, t0, t1, t2, t3, fa, fs, fc⟩, ra, rs, rc⟩ st3) (w : World) (hx0 : Sv.Is w ⟨⟨od, oa, os, oc, nx, t0, t1, t2, t3, fa, fs, fc⟩, ra, rs, rc⟩) :
  Calls Tryz.prog 22 #[.agg #[.int .i64 od, .slice oa os.length oc, .int .i64 nx, .int .i64 t0, .int .i64 t1, .int .i64 t2, .int .i64 t3, .slice fa fs.length fc, .slice ra rs.length rc]] w fun e w' => ∃ a c R, e = .returned (.tuple #[.slice a 36 c, .int .i64 0]) ∧ ZK R (fun w => zm w a (b36.flatMap byV)) ∧ Hp w.heap.size w w' R := by
 have hb : stB ⟨⟨od, oa, os, oc, nx, t0, t1, t2, t3, fa, fs, fc⟩, ra, rs, rc⟩ = true := (zio hsm).trans (zkx zin)
 have h := zlF _ hb w hx0
 rw [ziq hsm] at h
 refine h.mono fun e w' h => ?_
 obtain ⟨a, c, R, h1, h2, h3⟩ := h
 exact ⟨a, c, R, h1, h2.keptS, h3⟩
theorem zqP (w : World) : Calls Tryz.prog 89 #[.int .i64 3] w fun e w' => e = .returned (.tuple #[.agg #[.int .i64 0, .int .i64 0, .int .i64 0, .string im3, .slice none 0 0], .int .i64 0]) ∧ Below w.heap.size w w' := by
 have hp := Hp.start w
 have HNI : Hid ((nI b36).length = 36) := z0j (by rw [zh5]; rfl)
 go_enter Tryz.func89, Tryz.ntmps89
 go_wp2_with (first | (go_at_call 127; (with_reducible refine (ztr _).mono ?_); rintro e w1 ⟨od, oa, os, oc, nx, t0, t1, t2, t3, fa, fs, fc, ra, rs, rc, RN, rfl, hsm, hk, hpn⟩; replace hp := hp.join hpn; have HSM := z0j hsm; have HK := z0j hk; clear hpn hsm hk; simp only [z0f, z0e] at hp) | (go_at_call 22; (with_reducible refine (ztE od oa os oc nx t0 t1 t2 t3 fa fs fc ra rs rc HSM.out _ (HK.out.at hp (fun p hm => by simp [hm]))).mono ?_); rintro e w1 ⟨ab, cb, RB, rfl, hkb, hpn⟩; replace hp := hp.join hpn; have HKB := z0j hkb; clear hpn hkb; simp only [z0f, z0e] at hp) | ((refine z8 _ _ _ rfl ?_); refine Zs 57 9 5 _ rfl wy Tryz.underlying57 Tryz.underlying5 Tryz.underlying9 ab 36 cb (za rfl) (nI b36) HNI.out (by rw [zbG]; exact HKB.out.at hp (by intro p hp2; simp [hp2])) ?_; simp only [zc, zb, z0b, z0a]) | ((first | ((refine zi _ rfl ?_); refine lZ hp rfl (by with_reducible first | exact zaR | exact Zt) ?_; clear hp; intro b w1 hp) | ((refine zd _ _ rfl ?_); first | refine lA hp rfl (za rfl) zmS aa5 ?_) | ((refine zg _ _ _ rfl ?_); (first | refine sA hp rfl (za rfl) (za rfl) zmS aa5 ?_); clear hp; intro w1 hp; simp only [spl, z0a, z0b] at hp)); simp only [zc, zb, z0b, z0a]))
 exact bodyPost_ret (zx (rs := [.cell 2 24, .tmp 3]) Tryz.results89 (.cell rfl (hp.loadAgg zbf at1 0 _ (by rfl) (by rfl)) (.tmp rfl .nil))) rfl ⟨rfl, hp.below⟩
theorem ztq (w : World) : Calls Tryz.prog 89 #[.int .i64 9] w fun e w' => e = .returned (.tuple #[.agg #[.int .i64 0, .int .i64 0, .int .i64 0, .string ⟨#[]⟩, .slice none 0 0], .int .i64 1]) ∧ Below w.heap.size w w' := by
 have hp := Hp.start w
 go_enter Tryz.func89, Tryz.ntmps89
 go_wp2_with (first | (go_at_call 127; (with_reducible refine (zts _).mono ?_); rintro e w1 ⟨od, oa, on, oc, nx, t0, t1, t2, t3, fa, fn, fc, ra, rn, rc, RN, rfl, hpn⟩; replace hp := hp.join hpn; clear hpn; simp only [z0f, z0e] at hp) | ((first | ((refine zi _ rfl ?_); refine lZ hp rfl (by with_reducible first | exact zaR | exact Zt) ?_; clear hp; intro b w1 hp) | ((refine zg _ _ _ rfl ?_); (first | refine sA hp rfl (za rfl) (za rfl) zmS aa5 ?_); clear hp; intro w1 hp; simp only [spl, z0a, z0b] at hp)); simp only [zc, zb, z0b, z0a]))
 exact bodyPost_ret (zx (rs := [.cell 2 24, .tmp 3]) Tryz.results89 (.cell rfl (hp.loadAgg zbf at1 0 _ (by rfl) (by rfl)) (.tmp rfl .nil))) rfl ⟨rfl, hp.below⟩
theorem zmF (n : Int) (w : World) : Calls Tryz.prog 91 #[.int .i64 n] w fun e w' => e = .returned (.agg #[.int .i64 n, .int .i64 0, .int .i64 0, .int .i64 0, .int .i64 0, .int .i64 0, .int .i64 0, .int .i64 0, .int .i64 0, .int .i64 0, .int .i64 0]) ∧ Below w.heap.size w w' := by
 have hp := Hp.start w
 go_enter Tryz.func91, Tryz.ntmps91
 go_wp2_with (first | ((first | ((refine zi _ rfl ?_); refine lZ hp rfl (by with_reducible first | exact zeB) ?_; clear hp; intro b w1 hp) | ((refine zg _ _ _ rfl ?_); (first | refine sA hp rfl (za rfl) (za rfl) zmS aa5 ?_); clear hp; intro w1 hp; simp only [spl, z0a, z0b] at hp)); simp only [zc, zb, z0b, z0a]))
 exact bodyPost_ret (zu (rs := [.cell 2 31]) Tryz.results91 (.cell rfl (hp.loadAgg zc6 at0 0 _ (by rfl) (by rfl)) .nil)) rfl ⟨rfl, hp.below⟩
theorem znc (n : Int) (w : World) : Calls Tryz.prog 90 #[.int .i64 n] w fun e w' => e = .returned (.agg #[.int .i64 2, .int .i64 0, .int .i64 0, .int .i64 0, .string ⟨#[]⟩, .int .i64 n, .int .i64 0, .int .i64 0, .int .i64 0, .int .i64 0, .int .i64 0, .int .i64 0, .int .i64 0, .int .i64 0, .int .i64 0, .int .i64 0, .slice none 0 0]) ∧ Below w.heap.size w w' := by
 have hp := Hp.start w
 go_enter Tryz.func90, Tryz.ntmps90
 go_wp2_with (first | (go_at_call 91; (with_reducible refine (zmF _ _).mono ?_); rintro e w1 ⟨rfl, hb⟩; replace hp := hp.call hb; clear hb) | ((first | ((refine zi _ rfl ?_); refine lZ hp rfl (by with_reducible first | exact zqX) ?_; clear hp; intro b w1 hp) | ((refine zg _ _ _ rfl ?_); (first | refine sA hp rfl (za rfl) (za rfl) zmS aa5 ?_); clear hp; intro w1 hp; simp only [spl, z0a, z0b] at hp)); simp only [zc, zb, z0b, z0a]))
 exact bodyPost_ret (zu (rs := [.cell 2 33]) Tryz.results90 (.cell rfl (hp.loadAgg zfM at0 0 _ (by rfl) (by rfl)) .nil)) rfl ⟨rfl, hp.below⟩
end Go.Proofs.YtaafajaadfgaoaaGreat
