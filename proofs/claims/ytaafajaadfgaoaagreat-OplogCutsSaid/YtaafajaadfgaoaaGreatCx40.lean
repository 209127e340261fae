import Derived.Test.YtaafajaadfgaoaaGreatCx39
import Derived.Test.YtaafajaadfgaoaaGreatCx37
import Derived.Test.YtaafajaadfgaoaaGreatCx38
import Derived.Test.YtaafajaadfgaoaaGreatCx5
import Derived.Test.YtaafajaadfgaoaaGreatCx4
import Derived.Test.YtaafajaadfgaoaaGreatCx26
set_option linter.unusedSimpArgs false
set_option linter.unusedVariables false
set_option maxRecDepth 100000
set_option maxHeartbeats 60000000
namespace Go.Proofs.YtaafajaadfgaoaaGreat
open Go.RowKit
theorem zhw {ty : TypeId} (h : zy Tryz.prog ty = true := by with_reducible first | exact zr | exact Ze | exact zaj | exact zd2) : zy Tryz.prog ty = true := h
def zuU (w : World) (n m p q : Nat) (e : Ending) (w' : World) : Prop := ∃ bb, e = .returned (.bool bb) ∧ (bb = false → n ≤ 300 ∧ m ≤ 300 ∧ p ≤ 100000 ∧ q ≤ 100000) ∧ Below w.heap.size w w'
theorem zur (vw nm bs : Int) (im : ByteArray) (ea : Option Addr) (es : List Env) (ec : Nat) (kd rv rf rn : Int) (rim : ByteArray) (nu vi cl sq kk hh ii nn cc vv tt : Int) (ra : Option Addr) (rs : List Env) (rc : Nat) (w : World) : Calls Tryz.prog 13 #[.agg #[.int .i64 vw, .int .i64 nm, .int .i64 bs, .string im, .slice ea es.length ec], .agg #[.int .i64 kd, .int .i64 rv, .int .i64 rf, .int .i64 rn, .string rim, .int .i64 nu, .int .i64 vi, .int .i64 cl, .int .i64 sq, .int .i64 kk, .int .i64 hh, .int .i64 ii, .int .i64 nn, .int .i64 cc, .int .i64 vv, .int .i64 tt, .slice ra rs.length rc]] w (zuU w es.length rs.length im.size rim.size) := by
 have hp := Hp.start w
 by_cases h1 : es.length ≤ 300
 ·have e1 : decide ((300 : Int) < (es.length : Int)) = false := by simp; omega
  by_cases h2 : rs.length ≤ 300
  ·have e2 : decide ((300 : Int) < (rs.length : Int)) = false := by simp; omega
   by_cases h3 : im.size ≤ 100000
   ·have e3 : decide ((100000 : Int) < (im.size : Int)) = false := by simp; omega
    by_cases h4 : rim.size ≤ 100000
    ·have e4 : decide ((100000 : Int) < (rim.size : Int)) = false := by simp; omega
     go_enter Tryz.func13, Tryz.ntmps13
     go_wp2_with (first | ((first | ((refine zk _ _ rfl ?_); refine lB hp rfl (za rfl) rfl ?_; clear hp; intro b w1 hp) | ((refine zd _ _ rfl ?_); first | refine lO hp rfl (za rfl) zhw aa5 ?_)); simp only [zc, zb, z0b, z0a]))
     go_ret
     exact ⟨_, rfl, fun _ => ⟨h1, h2, h3, h4⟩, hp.below⟩
    ·have e4 : decide ((100000 : Int) < (rim.size : Int)) = true := by simp; omega
     go_enter Tryz.func13, Tryz.ntmps13
     go_wp2_with (first | ((first | ((refine zk _ _ rfl ?_); refine lB hp rfl (za rfl) rfl ?_; clear hp; intro b w1 hp) | ((refine zd _ _ rfl ?_); first | refine lO hp rfl (za rfl) zhw aa5 ?_)); simp only [zc, zb, z0b, z0a]))
     go_ret
     exact ⟨true, rfl, fun h => (by cases h), hp.below⟩
   ·have e3 : decide ((100000 : Int) < (im.size : Int)) = true := by simp; omega
    go_enter Tryz.func13, Tryz.ntmps13
    go_wp2_with (first | go_skip | ((first | ((refine zk _ _ rfl ?_); refine lB hp rfl (za rfl) rfl ?_; clear hp; intro b w1 hp) | ((refine zd _ _ rfl ?_); first | refine lO hp rfl (za rfl) zhw aa5 ?_)); simp only [zc, zb, z0b, z0a]))
    go_ret
    exact ⟨true, rfl, fun h => (by cases h), hp.below⟩
  ·have e2 : decide ((300 : Int) < (rs.length : Int)) = true := by simp; omega
   go_enter Tryz.func13, Tryz.ntmps13
   go_wp2_with (first | go_skip | ((first | ((refine zk _ _ rfl ?_); refine lB hp rfl (za rfl) rfl ?_; clear hp; intro b w1 hp) | ((refine zd _ _ rfl ?_); first | refine lO hp rfl (za rfl) zhw aa5 ?_)); simp only [zc, zb, z0b, z0a]))
   go_ret
   exact ⟨true, rfl, fun h => (by cases h), hp.below⟩
 ·have e1 : decide ((300 : Int) < (es.length : Int)) = true := by simp; omega
  go_enter Tryz.func13, Tryz.ntmps13
  go_wp2_with (first | go_skip | ((first | ((refine zk _ _ rfl ?_); refine lB hp rfl (za rfl) rfl ?_; clear hp; intro b w1 hp) | ((refine zd _ _ rfl ?_); first | refine lO hp rfl (za rfl) zhw aa5 ?_)); simp only [zc, zb, z0b, z0a]))
  go_ret
  exact ⟨true, rfl, fun h => (by cases h), hp.below⟩
open Go.RowKit
theorem zt0 {ty : TypeId} {l : List Value} {n : Nat} (h : zbB Tryz.prog ty = some (l, n) := by with_reducible first | exact zaR | exact Zt | exact zqX | exact zeB | exact Zi) : zbB Tryz.prog ty = some (l, n) := h
theorem zqx {ty : TypeId} {k : Nat} (h : ZB Tryz.prog ty k = true := by with_reducible first | exact zbf | exact zap | exact zfM | exact zc6 | exact Zf) : ZB Tryz.prog ty k = true := h
theorem zs0 {ty : TypeId} (h : zy Tryz.prog ty = true := by with_reducible first | exact zr | exact Ze | exact Zb | exact zaj | exact z7 | exact zaC) : zy Tryz.prog ty = true := h
noncomputable def zbS (x : Kv) (n : Int) : Int := if okC x = true then (if n < x.bs ∨ zaM x < n then 140 else 0) else 1
theorem zej {x : Kv} {n : Int} (h : zbS x n = 0) : okC x = true ∧ x.bs ≤ n ∧ n ≤ zaM x := by
 unfold zbS at h
 split at h
 ·rename_i h1
  split at h
  ·cases h
  ·exact ⟨h1, by omega, by omega⟩
 ·cases h
theorem zp9 {x : Kv} {n : Int} (h : okC x = true) (h1 : x.bs ≤ n) (h2 : n ≤ zaM x) : zbS x n = 0 := by
 unfold zbS; rw [if_pos h, if_neg (by omega)]
theorem zfA (vw nm bs : Int) (im : ByteArray) (ea : Option Addr) (es : List Env) (ec : Nat) (n : Int) (c : Int) (hc : c ≠ 0) (he : zbS ⟨vw, nm, bs, im, ea, es, ec⟩ n = c) (hs : Kv.Small ⟨vw, nm, bs, im, ea, es, ec⟩) (w : World) (ha : zm w ea (es.flatMap Zy)) :
  Calls Tryz.prog 28 #[.agg #[.int .i64 vw, .int .i64 nm, .int .i64 bs, .string im, .slice ea es.length ec], .int .i64 n] w fun e w' => e = .returned (.tuple #[.agg #[.int .i64 0, .slice none 0 0, .int .i64 0, .int .i64 0, .int .i64 0, .int .i64 0, .int .i64 0, .slice none 0 0, .slice none 0 0], .int .i64 c]) ∧ Below w.heap.size w w' := by
 subst he
 cases hb : okC ⟨vw, nm, bs, im, ea, es, ec⟩ with
 | false =>
  have e : zbS ⟨vw, nm, bs, im, ea, es, ec⟩ n = 1 := by unfold zbS; rw [if_neg (by rw [hb]; decide)]
  rw [e]
  exact zlM vw nm bs im ea es ec n hb hs w ha
 | true =>
  by_cases hg : n < bs ∨ bs + es.length < n
  ·have e : zbS ⟨vw, nm, bs, im, ea, es, ec⟩ n = 140 := by unfold zbS; rw [if_pos hb]; exact if_pos hg
   rw [e]
   exact zjB vw nm bs im ea es ec n hb hg hs w ha
  ·exact absurd (by unfold zbS; rw [if_pos hb]; exact if_neg hg) hc
noncomputable def zip (x : Kv) : Sv := (ZQ (zbz x.im)).getD zbO
noncomputable def stC (x : Kv) (n : Int) : Sv := zhf (zip x) (x.es.take (n - x.bs).toNat)
theorem zg8 {x : Kv} (h : okC x = true) : ZQ (zbz x.im) = some (zip x) := by
 unfold okC at h
 simp only [Bool.and_eq_true] at h
 obtain ⟨_, _, _, _, _, _, h7⟩ := h
 unfold zip
 cases e : ZQ (zbz x.im) with
 | none => rw [e] at h7; cases h7
 | some y => rfl
theorem zbs {x : Kv} (h : okC x = true) : StR (zip x) ∧ (zip x).W64 := zir (zg8 h)
theorem zfy {x : Kv} (h : okC x = true) (n : Int) : StR (stC x n) := zfw (zbs h).1 fun e he => zfb h e (List.mem_of_mem_take he)
theorem zsk {x : Kv} (h : okC x = true) (ho : ∀ e ∈ x.es, I64 e.op.v) (n : Int) : (stC x n).W64 := znU (zbs h).1 (zbs h).2 (fun e he => zfb h e (List.mem_of_mem_take he)) (fun e he => ho e (List.mem_of_mem_take he))
def zuh (w : World) (s : Sv) (e : Ending) (w' : World) : Prop := ∃ od oa os oc nx t0 t1 t2 t3 fa fs fc ra rs rc R, e = .returned (.tuple #[.agg #[.int .i64 od, .slice oa (List.length os) oc, .int .i64 nx, .int .i64 t0, .int .i64 t1, .int .i64 t2, .int .i64 t3, .slice fa (List.length fs) fc, .slice ra (List.length rs) rc], .int .i64 0]) ∧ Sv.Sm ⟨⟨od, oa, os, oc, nx, t0, t1, t2, t3, fa, fs, fc⟩, ra, rs, rc⟩ s ∧ ZK R (fun w => Sv.Is w ⟨⟨od, oa, os, oc, nx, t0, t1, t2, t3, fa, fs, fc⟩, ra, rs, rc⟩) ∧ Hp w.heap.size w w' R
theorem zfB (vw nm bs : Int) (im : ByteArray) (ea : Option Addr) (es : List Env) (ec : Nat) (n : Int) (s : Sv) (hsc : stC ⟨vw, nm, bs, im, ea, es, ec⟩ n = s) (he : zbS ⟨vw, nm, bs, im, ea, es, ec⟩ n = 0) (hs : Kv.Small ⟨vw, nm, bs, im, ea, es, ec⟩) (hec : es.length ≤ ec) (w : World) (ha : zm w ea (es.flatMap Zy)) :
  Calls Tryz.prog 28 #[.agg #[.int .i64 vw, .int .i64 nm, .int .i64 bs, .string im, .slice ea es.length ec], .int .i64 n] w (zuh w s) := by
 subst hsc
 obtain ⟨h1, h2, h3⟩ := zej he
 refine (zjC vw nm bs im ea es ec n h1 h2 h3 hec _ (zg8 h1) (zbs h1).1 hs w ha).mono fun e w' h => ?_
 obtain ⟨y, R, g1, g2, g3, g4⟩ := h
 obtain ⟨⟨od, oa, os, oc, nx, t0, t1, t2, t3, fa, fs, fc⟩, ra, rs, rc⟩ := y
 exact ⟨od, oa, os, oc, nx, t0, t1, t2, t3, fa, fs, fc, ra, rs, rc, R, g1, g2, g3, g4⟩
def Ea : Env := ⟨1, 0, 1, 1, ⟨1, 0, 0, 0, 0, 0, 0⟩⟩
theorem g_1 (a : Option Addr) (c : Nat) (b : Option Addr) (d : Nat) : zbm ⟨0, 0, 0, im3, a, [], c⟩ ⟨2, 0, 0, 0, ⟨#[]⟩, ⟨1, 0, 1, 1, ⟨1, 0, 0, 0, 0, 0, 0⟩⟩, b, [], d⟩ = (0, ⟨0, 0, 0, im3, a, [Ea], c⟩) := zcX (by kernel_rfl) rfl (by kernel_rfl) (by kernel_rfl) rfl
theorem zud (a : Option Addr) (c : Nat) : okC ⟨0, 0, 0, im3, a, [Ea], c⟩ = true := zdq (by kernel_rfl) rfl
theorem zn3 (a : Option Addr) (c : Nat) : zip ⟨0, 0, 0, im3, a, [Ea], c⟩ = zcr st3 := by
 have h := zg8 (zud a c)
 rw [show (⟨0, 0, 0, im3, a, [Ea], c⟩ : Kv).im = im3 from rfl, zgm] at h
 injection h with h
 exact h.symm
theorem zhz : StR (zcr st3) := by
 have := zbs (zud none 0)
 rw [zn3] at this; exact this.1
theorem zuO (a : Option Addr) (c : Nat) : (stC ⟨0, 0, 0, im3, a, [Ea], c⟩ 1).hv.os.length = 1 ∧ (stC ⟨0, 0, 0, im3, a, [Ea], c⟩ 1).rs.length = 1 := by
 unfold stC
 rw [zn3]
 have e : ((⟨0, 0, 0, im3, a, [Ea], c⟩ : Kv).es.take ((1 : Int) - (⟨0, 0, 0, im3, a, [Ea], c⟩ : Kv).bs).toNat) = [Ea] := rfl
 rw [e]
 show (Z8 (zcr st3) Ea).1.hv.os.length = 1 ∧ (Z8 (zcr st3) Ea).1.rs.length = 1
 rw [zdZ zhz (by kernel_rfl)]
 exact ⟨by kernel_rfl, by kernel_rfl⟩
theorem fdE (w : World) : Calls Tryz.prog 16 #[.agg #[.int .i64 0, .int .i64 0, .int .i64 0, .string im3, .slice none 0 0], .agg #[.int .i64 2, .int .i64 0, .int .i64 0, .int .i64 0, .string ⟨#[]⟩, .int .i64 1, .int .i64 0, .int .i64 1, .int .i64 1, .int .i64 1, .int .i64 0, .int .i64 0, .int .i64 0, .int .i64 0, .int .i64 0, .int .i64 0, .slice none 0 0]] w fun e w' => ∃ a c R, e = .returned (.tuple #[.agg #[.int .i64 0, .int .i64 0, .int .i64 0, .string im3, .slice a 1 c], .int .i64 0]) ∧ 1 ≤ c ∧ zB 31 11 (.slice a 1 c) 1 ([Ea].flatMap Zy) R ∧ Hp w.heap.size w w' R :=
 zdF 0 0 0 im3 none [] 0 0 rfl 2 0 0 0 ⟨#[]⟩ 1 0 1 1 1 0 0 0 0 0 0 none [] 0 0 rfl 0 0 0 im3 [Ea] 1 rfl _ _ (g_1 _ _ _ _) (by decide) ZC (by decide) (by decide) zci w (zm.nil _ _) (zm.nil _ _)
theorem zvp (a : Option Addr) (c : Nat) (hc : 1 ≤ c) (w : World) (ha : zm w a ([Ea].flatMap Zy)) : Calls Tryz.prog 28 #[.agg #[.int .i64 0, .int .i64 0, .int .i64 0, .string im3, .slice a 1 c], .int .i64 1] w fun e w' => ∃ od oa oc nx t0 t1 t2 t3 fa fn fc ra rc R, e = .returned (.tuple #[.agg #[.int .i64 od, .slice oa 1 oc, .int .i64 nx, .int .i64 t0, .int .i64 t1, .int .i64 t2, .int .i64 t3, .slice fa fn fc, .slice ra 1 rc], .int .i64 0]) ∧ Hp w.heap.size w w' R :=
 (zfB 0 0 0 im3 a [Ea] c 1 _ rfl (zp9 (zud a c) (show (0 : Int) ≤ 1 by decide) (show (1 : Int) ≤ 0 + ((1 : Nat) : Int) by decide)) ⟨Nat.le_of_ble_eq_true rfl, ZC⟩ hc w ha).mono fun e w' h => by
  obtain ⟨od, oa, os, oc, nx, t0, t1, t2, t3, fa, fs, fc, ra, rs, rc, R, rfl, hsm, _, hp⟩ := h
  obtain ⟨h1, h2⟩ := zuO a c
  have e1 : os.length = 1 := hsm.1.os.1.trans h1
  have e2 : rs.length = 1 := (congrArg List.length hsm.2).trans h2
  rw [e1, e2]
  exact ⟨od, oa, oc, nx, t0, t1, t2, t3, fa, _, fc, ra, rc, R, rfl, hp⟩
theorem zvq (a : Option Addr) (c : Nat) (w : World) (ha : zm w a ([Ea].flatMap Zy)) : Calls Tryz.prog 28 #[.agg #[.int .i64 0, .int .i64 0, .int .i64 0, .string im3, .slice a 1 c], .int .i64 2] w fun e w' => e = .returned (.tuple #[.agg #[.int .i64 0, .slice none 0 0, .int .i64 0, .int .i64 0, .int .i64 0, .int .i64 0, .int .i64 0, .slice none 0 0, .slice none 0 0], .int .i64 140]) ∧ Below w.heap.size w w' :=
 zfA 0 0 0 im3 a [Ea] c 2 140 (by decide) (by unfold zbS; rw [if_pos (zud a c)]; rfl) ⟨Nat.le_of_ble_eq_true rfl, ZC⟩ w ha
theorem zdR (w : World) : Calls Tryz.prog 31 #[] w fun e w' => e = .returned (.bool true) ∧ Below w.heap.size w w' := by
 have hp := Hp.start w
 go_enter Tryz.func31, Tryz.ntmps31
 go_wp2_with (first | (go_at_call 89; (with_reducible refine (zqP _).mono ?_); rintro e w1 ⟨rfl, hb⟩; replace hp := hp.call hb; clear hb) | (go_at_call 16; (with_reducible refine (fdE _).mono ?_); rintro e w1 ⟨aN, cN, RN, rfl, hcn, hrn, hpn⟩; replace hp := hp.join hpn; have HRN := z0j hrn; have HCN := z0j hcn; clear hpn hrn hcn; simp only [z0f, z0e, z0i] at hp) | (go_at_call 28; (with_reducible refine (zvp _ _ HCN.out _ (HRN.out.keptS.at hp (fun p hm => by simp [hm]))).mono ?_); rintro e w1 ⟨od, oa, oc, nx, t0, t1, t2, t3, fa, fn, fc, ra, rc, RS, rfl, hpn⟩; replace hp := hp.join hpn; clear hpn; simp only [z0f, z0e, z0i] at hp) | (go_at_call 28; (with_reducible refine (zvq _ _ _ (HRN.out.keptS.at hp (fun p hm => by simp [hm]))).mono ?_); rintro e w1 ⟨rfl, hb⟩; replace hp := hp.call hb; clear hb) | ((first | ((refine zi _ rfl ?_); refine lZ hp rfl zt0 ?_; clear hp; intro b w1 hp) | ((refine zd _ _ rfl ?_); first | refine lO hp rfl (za rfl) zs0 zK ?_ | refine lA hp rfl (za rfl) zqx zK ?_) | ((refine zg _ _ _ rfl ?_); (first | refine sA hp rfl (za rfl) (za rfl) zqx zK ?_); clear hp; intro w1 hp; simp only [spl, z0a, z0b] at hp)); simp only [zc, zb, z0b, z0a]))
 go_ret
 exact ⟨rfl, hp.below⟩
open Go.RowKit
theorem zmG {nm v v' : Int} (h : v' ≤ v) : ∀ {l : List Env}, zbP nm v l = true → zbP nm v' l = true
 | [], _ => rfl
 | e :: r, h1 => by
  unfold zbP inM at h1 ⊢
  simp only [Bool.and_eq_true, decide_eq_true_eq] at h1 ⊢
  obtain ⟨a, ⟨b, c⟩, d⟩ := h1
  exact ⟨a, ⟨by omega, c⟩, d⟩
theorem zhJ {nm v : Int} : ∀ (k : Nat) {l : List Env}, zbP nm v l = true → zbP nm v (l.drop k) = true
 | 0, _, h => by simpa using h
 | k + 1, [], _ => by simp [zbP]
 | k + 1, e :: r, h => by
  rw [List.drop_succ_cons]
  unfold zbP inM at h
  simp only [Bool.and_eq_true, decide_eq_true_eq] at h
  obtain ⟨_, ⟨b, _⟩, d⟩ := h
  exact zhJ k (zmG b d)
def zkT (x : Kv) (c : Int) (im : ByteArray) : Kv := ⟨x.vw, x.nm, c, im, x.ea, x.es.drop (c - x.bs).toNat, x.ec⟩
theorem zoW {x : Kv} {c : Int} (im : ByteArray) (h1 : x.bs ≤ c) (h2 : c ≤ zaM x) : zaM (zkT x c im) = zaM x := by
 unfold zaM at h2 ⊢
 unfold zkT
 simp only [List.length_drop]
 omega
theorem zoV {x : Kv} {c : Int} (h : okC x = true) (h1 : x.bs ≤ c) (h2 : c ≤ zaM x) : 0 ≤ c ∧ c ≤ 900000000 := by
 have hf := zbh h
 refine ⟨by omega, ?_⟩
 by_cases he : c = x.bs
 ·omega
 ·unfold zaM at h2
  have hi : (c - x.bs).toNat - 1 < x.es.length := by omega
  have hn := (ztu h _ hi).1
  unfold okC at h
  simp only [Bool.and_eq_true] at h
  have hm := (zqN (zgK h.2.2.2.2.2.1 _ (List.getElem_mem hi))).2
  omega
theorem zmy {x : Kv} {c : Int} {im : ByteArray} (h : okC x = true) (h1 : x.bs ≤ c) (h2 : c ≤ zaM x) (hi : (ZQ (zbz im)).isSome = true) : okC (zkT x c im) = true := by
 have hf := zbh h
 have hh := zoV h h1 h2
 have hl := h2
 unfold zaM at hl
 have hfol : zeP c 0 (x.es.drop (c - x.bs).toNat) = true := by
  refine zhO hh.1 (by omega) (by rw [List.length_drop]; omega) fun i hi => ?_
  rw [List.length_drop] at hi
  rw [List.getElem_drop, (ztu h _ (by omega)).1]
  push_cast; omega
 have h6 : zbP x.nm 0 x.es = true := by
  unfold okC at h
  simp only [Bool.and_eq_true] at h
  exact h.2.2.2.2.2.1
 unfold okC zkT
 simp only [Bool.and_eq_true, inM, decide_eq_true_eq]
 exact ⟨hf.1, hf.2.1, hh, by rw [List.length_drop]; omega, hfol, zhJ _ h6, hi⟩
def ztL (c : Int) (im : ByteArray) (en : Env) (ra : Option Addr) (rc : Nat) : Rv := ⟨4, 0, 0, c, im, en, ra, [], rc⟩
theorem zpb {x : Kv} {c : Int} {im : ByteArray} (h : okC x = true) (h1 : x.bs ≤ c) (h2 : c ≤ zaM x) (hi : (ZQ (zbz im)).isSome = true) (en : Env) (ra : Option Addr) (rc : Nat) :
  zbm x (ztL c im en ra rc) = if c = x.bs then (140, x) else (0, zkT x c im) := by
 unfold zbm
 rw [if_pos h]
 by_cases he : c = x.bs
 ·rw [if_pos he]
  have hm : zat x (ztL c im en ra rc) = (140, x) := by
   unfold zat ztL
   simp only
   rw [if_neg (by omega), if_neg (by omega), if_neg (by omega), if_neg (by omega), if_pos trivial, if_pos (.inl (by omega))]
  unfold Zu
  rw [hm, if_neg (by simp)]
 ·rw [if_neg he]
  have hm : zat x (ztL c im en ra rc) = (0, zkT x c im) := by
   unfold zat ztL zkT
   simp only
   rw [if_neg (by omega), if_neg (by omega), if_neg (by omega), if_neg (by omega), if_pos trivial, if_neg (by omega)]
  unfold Zu
  rw [hm]
  simp only [if_true, zmy h h1 h2 hi]
theorem zmx {x : Kv} {c : Int} {im : ByteArray} (h : okC x = true) (ho : ∀ e ∈ x.es, I64 e.op.v) (hi : zbz im = zav (stC x c)) : ZQ (zbz im) = some (zcr (stC x c)) := by
 rw [hi]
 exact zgn (zfy h c) (zsk h ho c)
theorem zmz {x : Kv} {c : Int} {im : ByteArray} (h : okC x = true) (h1 : x.bs ≤ c) (ho : ∀ e ∈ x.es, I64 e.op.v) (hi : zbz im = zav (stC x c)) {n : Int} (h3 : c ≤ n) :
  (stC (zkT x c im) n).Sm (stC x n) := by
 have hs : zip (zkT x c im) = zcr (stC x c) := by
  unfold zip zkT
  simp only
  rw [zmx h ho hi]; rfl
 have e1 : stC (zkT x c im) n = zhf (zcr (stC x c)) ((x.es.drop (c - x.bs).toNat).take (n - c).toNat) := by
  rw [← hs]; rfl
 have e2 : stC x n = zhf (stC x c) ((x.es.drop (c - x.bs).toNat).take (n - c).toNat) := by
  unfold stC
  rw [← zku]
  congr 1
  rw [show (n - x.bs).toNat = (c - x.bs).toNat + (n - c).toNat by omega, List.take_add]
 rw [e1, e2]
 exact zqW (zhB _)
theorem zri {x : Kv} {c : Int} {im : ByteArray} (h : okC x = true) (h1 : x.bs ≤ c) (h2 : c ≤ zaM x) (hi : (ZQ (zbz im)).isSome = true) (n : Int) :
  zbS (zkT x c im) n = if n < c ∨ zaM x < n then 140 else 0 := by
 unfold zbS
 rw [if_pos (zmy h h1 h2 hi), zoW im h1 h2]
 rfl
open Go.RowKit
theorem zu9 {ty : TypeId} (h : zy Tryz.prog ty = true := by with_reducible first | exact zr | exact Ze | exact zev | exact zkQ) : zy Tryz.prog ty = true := h
def zun (w : World) (bs : List Nat) (e : Ending) (w' : World) : Prop := ∃ a m c R, e = .returned (.slice a m c) ∧ bs.length = m ∧ zB 5 1 (.slice a m c) m (bs.flatMap byV) R ∧ Hp w.heap.size w w' R
theorem zB.built {e : TypeId} {b n : Nat} {xs : List Value} (hx : xs.length = n) (hn : n ≤ maxLen) : zB e 1 (.slice (some ⟨b, 0, none⟩) n n) n xs [⟨b, xs, e, n⟩] :=
 ⟨by omega, .inr ⟨b, 0, n, [], rfl, Nat.le_refl _, hn, rfl, by simp⟩⟩
theorem zq7 (n : Nat) : beS 4 n = [n / 16777216 % 256, n / 65536 % 256, n / 256 % 256, n % 256] := by
 have e : beS 4 n = [n / 2 ^ 24 % 256, n / 2 ^ 16 % 256, n / 2 ^ 8 % 256, n / 2 ^ 0 % 256] := rfl
 rw [e]; simp
theorem zmN (n : Nat) (hn : n ≤ 2147483647) (w : World) : Calls Tryz.prog 86 #[.int .i64 n] w (zun w (beS 4 n)) := by
 have hp := Hp.start w
 have hx : (beS 4 n).flatMap byV = [.int .u8 ((n : Int) / 16777216), .int .u8 ((n : Int) / 65536 % 256), .int .u8 ((n : Int) / 256 % 256), .int .u8 ((n : Int) % 256)] := by
  rw [zq7]
  simp only [List.flatMap_cons, List.flatMap_nil, byV, z0f, z0e, List.cons.injEq, Value.int.injEq, true_and, and_true]
  omega
 have f1 : Int.tdiv (n : Int) 16777216 = ((n / 16777216 : Nat) : Int) := by rw [Int.tdiv_eq_ediv_of_nonneg (by omega)]; rfl
 have f2 : Int.tdiv (n : Int) 65536 = ((n / 65536 : Nat) : Int) := by rw [Int.tdiv_eq_ediv_of_nonneg (by omega)]; rfl
 have f3 : Int.tdiv (n : Int) 256 = ((n / 256 : Nat) : Int) := by rw [Int.tdiv_eq_ediv_of_nonneg (by omega)]; rfl
 have hl := Zp 4 n
 have HX := z0j hx
 clear hx
 go_enter Tryz.func86, Tryz.ntmps86
 go_wp2_with (first | ((first | ((refine zC _ _ _ rfl ?_); refine lS hp rfl (by intro w; go_simp; rfl) ?_; clear hp; intro b w1 hp; simp only [z0g, z0h, Nat.reduceAdd] at hp)); simp only [zc, zb, z0b, z0a]))
 go_ret
 refine ⟨_, 4, 4, _, rfl, hl, ?_, hp⟩
 have hb := @zB.built 5 b 4 ((beS 4 n).flatMap byV) (by rw [HX.out]; rfl) (by unfold maxLen; omega)
 rw [HX.out] at hb ⊢
 exact hb
def zkD (w : World) (b off : Nat) (v : Value) : Prop := w.cell? ⟨b, off, none⟩ = some v
theorem zkD.below {w w' : World} {b off : Nat} {v : Value} (h : zkD w b off v) (hb : Below w.heap.size w w') : zkD w' b off v := (hb.cell (World.block_lt_of_cell? w _ h)).trans h
theorem zkD.now {w : World} {b off : Nat} {v : Value} (h : zkD w b off v) : w.cell? ⟨b, off, none⟩ = some v := h
theorem zkt {w : World} {a : Option Addr} {xs : List Value} (h : zm w a xs) {j : Nat} {v : Value} (hj : xs[j]? = some v) : ∃ b off, a = some ⟨b, off, none⟩ ∧ zkD w b (off + j) v := by
 obtain ⟨b, off, he, hc⟩ := h j v hj
 exact ⟨b, off, he, hc⟩
theorem zkg : ∀ l : List Nat, l.flatMap zeb = l.map fun (n : Nat) => Value.int .i64 (n : Int)
 | [] => rfl
 | x :: l => by rw [List.flatMap_cons, zkg l]; rfl
theorem zfo (l : List Nat) (hl : l.length ≤ 1000) (hb : ∀ x ∈ l, x ≤ 2147483647) (al : Option Addr) (cl : Nat) (w : World) (ha : zm w al (l.flatMap zeb)) :
  Calls Tryz.prog 87 #[.slice al l.length cl] w (zun w (bn4 l)) := by
 obtain ⟨i0, hi0, hz0, hz1, hz2⟩ := info_parts zhY
 have hp := Hp.start w
 have HA := z0j ha
 have HB := z0j hb
 clear ha hb
 go_enter Tryz.func87, Tryz.ntmps87
 go_wp2_with (first | fail)
 go_loopg [3, 4] l.length (fun k v i wr => ∃ (j m : Nat) (a : Option Addr) (c : Nat) (R M : List Blk), k + j = l.length ∧ i = .int .i64 j ∧ v = .slice a m c ∧ Hid (m = 4 * j) ∧ Hid (zB 5 1 (.slice a m c) m ((bn4 (l.take j)).flatMap byV) R) ∧ Hp w.heap.size w wr (R ++ M))
 case atStart => exact ⟨0, 0, none, 0, [], [], by omega, rfl, rfl, z0j rfl, z0j (zB.nil _ _ _), hp⟩
 case round =>
  clear hp
  obtain ⟨j, m, a, c, R, M, hkj, rfl, rfl, HMJ, HR, hp⟩ := hrel
  by_cases hlt : j < l.length
  ·have hj := List.getElem?_eq_getElem hlt
   generalize l[j] = x at hj
   have hnat : (l.flatMap zeb)[j]? = some (.int .i64 (x : Int)) := by rw [zkg, List.getElem?_map, hj]; rfl
   obtain ⟨bq, off, rfl, hcx⟩ := zkt HA.out hnat
   have HX := z0j hcx
   have HXB := z0j (HB.out x (List.mem_of_getElem? hj))
   have HT := z0j (zjV hj)
   have HMB : Hid (m ≤ 100000 ∧ (beS 4 x).length = 4) := z0j ⟨by have := HMJ.out; omega, Zp 4 x⟩
   clear hj hcx hnat
   have e1 : (0 : Int) ≤ (j : Int) := by omega
   have e2 : (j : Int) < (l.length : Int) := by omega
   go_wp2_with (first | (go_at_call 86; (with_reducible refine (zmN x HXB.out _).mono ?_); rintro e w1 ⟨a2, m2, c2, R2, rfl, hm2, hr2, hp2⟩; replace hp := hp.join hp2; have HM2 := z0j hm2; have HR2 := z0j hr2; clear hm2 hr2 hp2; simp only [z0f, z0e, z0i] at hp) | ((refine zd 3 _ rfl ?_); refine lRO (Hp.start _) rfl (za rfl) zr ((HX.out.below hp.below).now) ?_; simp only [zc, zb, z0b, z0a]) | ((refine Zl _ _ 57 57 rfl ?_); refine zP (K := []) (R := R) hp _ _ _ _ rfl wy 5 i0 _ 1 1 Tryz.underlying57 hi0 hz0 hz1 hz2 rfl _ _ _ (za rfl) HR.out _ (za rfl) m2 _ (Src.ofRow Tryz.underlying57 (by decide) a2 m2 c2 _ (by rw [zS byV 1 zbl, HM2.out]) (HR2.out.keptS.at hp (fun p hm => by simp [hm])) (zdB _)) (by have := HM2.out; have := HMB.out; unfold maxLen; omega) (by have := HM2.out; have := HMB.out; omega) ?_; clear hp; intro v' R' w1 hR' hp; obtain ⟨a', c', rfl, _⟩ := hR'.kept; have HR' := z0j hR'; clear hR'; simp only [z0f, z0e, z0i] at hp; simp only [zc, zb, z0b, z0a]))
   go_roundg (gk - 1)
   case measure => omega
   case rel => exact ⟨j + 1, m + m2, a', c', R', _, by omega, by go_num, rfl, z0j (by have := HM2.out; have := HMB.out; have := HMJ.out; omega), z0j (by rw [HT.out, List.flatMap_append]; exact HR'.out), hp⟩
  ·obtain rfl : j = l.length := by omega
   have e2 : decide ((l.length : Int) < (l.length : Int)) = false := by simp
   have hr := HR.out
   rw [List.take_length] at hr
   have HR2 := z0j hr
   have HLN : Hid ((bn4 l).length = m) := z0j (by rw [ZZ]; have := HMJ.out; omega)
   clear hr hkj hlt
   go_wp2_with (first | fail)
   go_ret
   exact ⟨a, m, c, R, rfl, HLN.out, HR2.out, hp.sub (List.sublist_append_left _ _)⟩
theorem zo2 (n : Int) (w : World) : Calls Tryz.prog 88 #[.int .i64 n] w (zun w (beS 8 (uN n))) := by
 obtain ⟨i0, hi0, hz0, hz1, hz2⟩ := info_parts zhY
 have hp := Hp.start w
 have e1 := zql n
 have hu := zsp n
 obtain ⟨u, hun⟩ : ∃ u, u = uN n := ⟨_, rfl⟩
 rw [← hun] at e1 hu ⊢
 clear hun
 go_enter Tryz.func88, Tryz.ntmps88
 go_wp2_with (first | fail)
 clear e1
 go_loopg [4, 5] 8 (fun k v i wr => ∃ (j : Nat) (R : List Blk), k + j = 8 ∧ i = .int .i64 (8 - 1 - (j : Int)) ∧ Hid (zA 5 1 v j (((beS 8 u).take j).flatMap byV) R) ∧ Hp w.heap.size w wr ([] ++ (R ++ [])))
 case atStart => exact ⟨0, [], by omega, rfl, z0j (zA.nil _ _), hp⟩
 case round =>
  clear hp
  obtain ⟨j, R, hkj, rfl, HR, hp⟩ := hrel
  by_cases hlt : j < 8
  ·obtain ⟨m, hm⟩ : ∃ m : Nat, 8 - 1 - (j : Int) = m := ⟨8 - 1 - j, by omega⟩
   have hm7 : m ≤ 7 := by omega
   have HM := z0j hm
   rw [hm]
   have HB : Hid ((zhu 8 u j : Nat) = u / 2 ^ (8 * m) % 256) := z0j (by unfold zhu; rw [show 8 - 1 - j = m by omega])
   clear hm
   have e1 : (0 : Int) ≤ (m : Int) := by omega
   have e2 : wrap64 (8 * (m : Int)) = 8 * (m : Int) := by unfold wrap64; omega
   have e3 : (8 * (m : Int)).toNat = 8 * m := by omega
   go_wp2_with (first | ((refine zG _ _ 57 rfl ?_); refine zE (K := []) hp _ _ _ rfl wy i0 _ 1 Tryz.underlying57 hi0 hz0 hz1 hz2 rfl (by decide) (za rfl) HR.out 1 1 (za rfl) (by rfl) (by decide) (by rfl) (by unfold maxLen; omega) (by omega) ?_; clear hp HR; intro v' R' w1 hR' hp; have HR' := z0j hR'; clear hR'; simp only [zc, zb, z0b, z0a]) | ((first | ((refine zC _ _ _ rfl ?_); refine lS hp rfl (by intro w; go_simp; rfl) ?_; clear hp; intro b w1 hp; simp only [z0g, z0h, Nat.reduceAdd] at hp)); simp only [zc, zb, z0b, z0a]))
   go_roundg (gk - 1)
   case measure => omega
   case rel => exact ⟨j + 1, R', by omega, congrArg (Value.int .i64) (by have := HM.out; omega), z0j (by have h := HR'.out; rw [zgC 8 u j hlt, List.flatMap_append]; simp only [List.flatMap_cons, List.flatMap_nil, List.append_nil, byV]; rw [HB.out]; push_cast; exact h), hp⟩
  ·have hj : j = 8 := by omega
   subst hj
   have e1 : decide ((0 : Int) ≤ 8 - 1 - ((8 : Nat) : Int)) = false := by decide
   have h := HR.out
   rw [List.take_of_length_le (by rw [Zp]; omega)] at h
   obtain ⟨a, c, rfl, _⟩ := h.kept
   have HR2 := z0j h
   clear h
   go_wp2_with (first | fail)
   go_ret
   exact ⟨a, 8, c, R, rfl, Zp 8 u, zB.of_own HR2.out, by simpa using hp⟩
theorem ztT (s : ByteArray) (hs : s.size ≤ 65536) (w : World) :
  Calls Tryz.prog 85 #[.string s] w fun e w' => ∃ a m c R, e = .returned (.tuple #[.slice a m c, .int .i64 0]) ∧ (beS 4 s.size ++ zbz s).length = m ∧ zB 5 1 (.slice a m c) m ((beS 4 s.size ++ zbz s).flatMap byV) R ∧ Hp w.heap.size w w' R := by
 obtain ⟨i0, hi0, hz0, hz1, hz2⟩ := info_parts zhY
 have hp := Hp.start w
 have e1 : decide ((65536 : Int) < (s.size : Int)) = false := by simp; omega
 have HXB : Hid (s.size ≤ 2147483647) := z0j (by omega)
 have HMB : Hid (s.size ≤ 65536 ∧ (beS 4 s.size).length = 4 ∧ (zbz s).length = s.size) := z0j ⟨hs, Zp 4 _, ZR s⟩
 clear hs
 go_enter Tryz.func85, Tryz.ntmps85
 go_wp2_with (first | (go_at_call 86; (with_reducible refine (zmN s.size HXB.out _).mono ?_); rintro e w1 ⟨a2, m2, c2, R2, rfl, hm2, hr2, hp2⟩; replace hp := hp.join hp2; have HM2 := z0j hm2; have HR2 := z0j hr2; clear hm2 hr2 hp2; replace hp : Hp _ _ _ ([] ++ (R2 ++ [])) := (by simpa using hp)) | ((refine Zl _ _ 57 9 rfl ?_); refine zP (K := []) hp _ _ _ _ rfl wy 5 i0 _ 1 1 Tryz.underlying57 hi0 hz0 hz1 hz2 rfl _ _ _ (za rfl) HR2.out _ (za rfl) s.size (byteCells s) (Src.ofString _ Tryz.underlying9 s) (by have := HM2.out; have := HMB.out; unfold maxLen; omega) (by have := HM2.out; have := HMB.out; omega) ?_; clear hp; intro v3 R3 w1 hr3 hp; obtain ⟨a3, c3, rfl, _⟩ := hr3.kept; have HR3 := z0j hr3; clear hr3; simp only [zc, zb, z0b, z0a]))
 go_ret2
 refine ⟨a3, m2 + s.size, c3, R3, rfl, ?_, ?_, by simpa using hp⟩
 ·rw [List.length_append]; have := HM2.out; have := HMB.out; omega
 ·have h := HR3.out
  rw [List.flatMap_append, ← zgo]; exact h
open Go.RowKit
def ziF {α : Type} (one : List Nat → Option (α × List Nat)) (st : Option (List Nat)) (x : α) (st' : Option (List Nat)) : Prop := match st.bind one with
 | some (y, b1) => x = y ∧ st' = some b1
 | none => st' = none
theorem ziF.none_ {α : Type} {one : List Nat → Option (α × List Nat)} {x : α} {st' : Option (List Nat)} (h : ziF one none x st') : st' = none := h
theorem ziF.bad {α : Type} {one : List Nat → Option (α × List Nat)} {b : List Nat} {x : α} {st' : Option (List Nat)} (h : ziF one (some b) x st') (hn : one b = none) : st' = none := by
 unfold ziF at h
 rw [show (some b).bind one = none from hn] at h
 exact h
theorem ziF.good {α : Type} {one : List Nat → Option (α × List Nat)} {b b1 : List Nat} {x y : α} {st' : Option (List Nat)} (h : ziF one (some b) x st') (hn : one b = some (y, b1)) : x = y ∧ st' = some b1 := by
 unfold ziF at h
 rw [show (some b).bind one = some (y, b1) from hn] at h
 exact h
open Go.RowKit
theorem ziF.step {α : Type} {one : List Nat → Option (α × List Nat)} {q : Nat} {st st1 st2 : Option (List Nat)} {l : List α} {x : α} (h1 : ziF (zaI one q) st l st1) (h2 : ziF one st1 x st2) : ziF (zaI one (q + 1)) st (l ++ [x]) st2 := by
 cases st with
 | none =>
  obtain rfl := h1.none_
  obtain rfl := h2.none_
  rfl
 | some b =>
  cases e1 : zaI one q b with
  | none =>
   obtain rfl := h1.bad e1
   obtain rfl := h2.none_
   have e2 : zaI one (q + 1) b = none := by unfold zaI; rw [e1]
   unfold ziF
   rw [show (some b).bind (zaI one (q + 1)) = none from e2]
  | some p =>
   obtain ⟨l0, b1⟩ := p
   obtain ⟨rfl, rfl⟩ := h1.good e1
   cases e2 : one b1 with
   | none =>
    obtain rfl := h2.bad e2
    unfold ziF
    rw [show (some b).bind (zaI one (q + 1)) = none from za7 e1 e2 (q + 1) (Nat.lt_succ_self q)]
   | some p2 =>
    obtain ⟨x0, b2⟩ := p2
    obtain ⟨rfl, rfl⟩ := h2.good e2
    unfold ziF
    rw [show (some b).bind (zaI one (q + 1)) = some (l ++ [x], b2) from za8 e1 e2]
    exact ⟨rfl, rfl⟩
def zuj (st : Option (List Nat)) (y : Ob) (st' : Option (List Nat)) : Prop := match st.bind zey with
 | some (o, b1) => y.Sm o ∧ st' = some b1
 | none => st' = none
end Go.Proofs.YtaafajaadfgaoaaGreat
