import Derived.Test.YtjcbpfbifbfkcaaGreatTv22
import Derived.Test.YtjcbpfbifbfkcaaGreatTv19
import Derived.Test.YtjcbpfbifbfkcaaGreatTv15
set_option linter.unusedSimpArgs false
set_option linter.unusedVariables false
set_option maxRecDepth 100000
set_option maxHeartbeats 60000000
namespace Go.Proofs.YtjcbpfbifbfkcaaGreat
open Go.RowKit
theorem zkw {ty : TypeId} {k : Nat} (h : ZZ Tryz.prog ty k = true := by with_reducible first | exact zk | exact Zx | exact zc0 | exact zD) : ZZ Tryz.prog ty k = true := h
theorem zl6 {ty : TypeId} (h : zv Tryz.prog ty = true := by with_reducible first | exact zq | exact ZF | exact zV) : zv Tryz.prog ty = true := h
theorem zjh : zbf Tryz.prog 40 = some ([.int .i64 0, .int .i64 0, .int .i64 0, .int .i64 0, .string ⟨#[]⟩, .int .i64 0, .int .i64 0, .int .i64 0, .int .i64 0, .int .i64 0, .int .i64 0, .int .i64 0, .int .i64 0, .int .i64 0, .int .i64 0, .int .i64 0, .slice none 0 0], 17) := by kernel_rfl
def st3 : Sv := ⟨zbg 3, none, [], 0⟩
def b36 : List Nat := zbC st3
theorem zg2 : zaf b36 := by
 intro x hx
 have : b36 = [0, 0, 0, 28] ++ b28 ++ [0, 0, 0, 0] := rfl
 rw [this] at hx
 simp [b28] at hx
 omega
theorem zeC : StR st3 := ⟨zbE zfP, rfl⟩
theorem zhg : Z2 b36 = some (zd5 st3) := zfT zeC ⟨(fun o ho => by cases ho), (fun r hr => by cases hr)⟩
def im3 : ByteArray := strOfNums (nI b36)
theorem zfo : zbA im3 = b36 := zbX zg2
theorem zhZ : im3.size = 36 := by rw [← ZE, zfo]; rfl
theorem zgn : Z2 (zbA im3) = some (zd5 st3) := by rw [zfo]; exact zhg
def zlJ (w : World) (e : Ending) (w' : World) : Prop := ∃ od oa os oc nx t0 t1 t2 t3 fa fs fc ra rs rc R, e = .returned (.tuple #[.agg #[.int .i64 od, .slice oa (List.length os) oc, .int .i64 nx, .int .i64 t0, .int .i64 t1, .int .i64 t2, .int .i64 t3, .slice fa (List.length fs) fc, .slice ra (List.length rs) rc], .int .i64 0]) ∧ Sv.Sm ⟨⟨od, oa, os, oc, nx, t0, t1, t2, t3, fa, fs, fc⟩, ra, rs, rc⟩ st3 ∧ Z9 R (fun w => Sv.Is w ⟨⟨od, oa, os, oc, nx, t0, t1, t2, t3, fa, fs, fc⟩, ra, rs, rc⟩) ∧ Hp w.heap.size w w' R
theorem zky (w : World) : Calls Tryz.prog 114 #[.int .i64 3] w (zlJ w) := by
 refine (zfj 3 rfl w).mono fun e w' h => ?_
 obtain ⟨y, R, h1, h2, h3, h4⟩ := h
 obtain ⟨⟨od, oa, os, oc, nx, t0, t1, t2, t3, fa, fs, fc⟩, ra, rs, rc⟩ := y
 exact ⟨od, oa, os, oc, nx, t0, t1, t2, t3, fa, fs, fc, ra, rs, rc, R, h1, h2, h3, h4⟩
theorem zkX (od : Int) (oa : Option Addr) (os : List Ob) (oc : Nat) (nx t0 t1 t2 t3 : Int) (fa : Option Addr) (fs : List Bl) (fc : Nat) (ra : Option Addr) (rs : List Rw) (rc : Nat) (hsm : Sv.Sm ⟨⟨od, oa, os, oc, nx, t0, t1, t2, t3, fa, fs, fc⟩, ra, rs, rc⟩ st3) (w : World) (hx0 : Sv.Is w ⟨⟨od, oa, os, oc, nx, t0, t1, t2, t3, fa, fs, fc⟩, ra, rs, rc⟩) :
  Calls Tryz.prog 35 #[.agg #[.int .i64 od, .slice oa os.length oc, .int .i64 nx, .int .i64 t0, .int .i64 t1, .int .i64 t2, .int .i64 t3, .slice fa fs.length fc, .slice ra rs.length rc]] w fun e w' => ∃ a c R, e = .returned (.tuple #[.slice a 36 c, .int .i64 0]) ∧ Z9 R (fun w => zm w a (b36.flatMap byV)) ∧ Hp w.heap.size w w' R := by
 have hb : stB ⟨⟨od, oa, os, oc, nx, t0, t1, t2, t3, fa, fs, fc⟩, ra, rs, rc⟩ = true := (zgQ hsm).trans (zjd zeC)
 have h := zgj _ hb w hx0
 rw [zgZ hsm] at h
 refine h.mono fun e w' h => ?_
 obtain ⟨a, c, R, h1, h2, h3⟩ := h
 exact ⟨a, c, R, h1, h2.keptS, h3⟩
theorem zkY (w : World) : Calls Tryz.prog 64 #[.int .i64 3] w fun e w' => e = .returned (.tuple #[.agg #[.int .i64 0, .int .i64 0, .int .i64 0, .string im3, .slice none 0 0], .int .i64 0]) ∧ Below w.heap.size w w' := by
 have hp := Hp.start w
 have HNI : Hid ((nI b36).length = 36) := z0j (by rw [zhq]; rfl)
 go_enter Tryz.func64, Tryz.ntmps64
 go_wp2_with (first | (go_at_call 114; (with_reducible refine (zky _).mono ?_); rintro e w1 ⟨od, oa, os, oc, nx, t0, t1, t2, t3, fa, fs, fc, ra, rs, rc, RN, rfl, hsm, hk, hpn⟩; replace hp := hp.join hpn; have HSM := z0j hsm; have HK := z0j hk; clear hpn hsm hk; simp only [z0f, z0e] at hp) | (go_at_call 35; (with_reducible refine (zkX od oa os oc nx t0 t1 t2 t3 fa fs fc ra rs rc HSM.out _ (HK.out.at hp (fun p hm => by simp [hm]))).mono ?_); rintro e w1 ⟨ab, cb, RB, rfl, hkb, hpn⟩; replace hp := hp.join hpn; have HKB := z0j hkb; clear hpn hkb; simp only [z0f, z0e] at hp) | ((refine Zo _ _ _ rfl ?_); refine zam 74 9 5 _ rfl wy Tryz.underlying74 Tryz.underlying5 Tryz.underlying9 ab 36 cb (za rfl) (nI b36) HNI.out (by rw [zdE]; exact HKB.out.at hp (by intro p hp2; simp [hp2])) ?_; simp only [zc, zb, z0b, z0a]) | go_skip | ((first | ((refine zf _ rfl ?_); refine lZ hp rfl (by with_reducible first | exact ZT | exact z6 | exact zjh | exact zX) ?_; clear hp; intro b w1 hp) | ((refine ze _ _ rfl ?_); refine lA hp rfl (za rfl) Zx aa5 ?_) | ((refine zd _ _ _ rfl ?_); (first | refine sA hp rfl (za rfl) (za rfl) zkw aa5 ?_ | refine sG hp rfl (za rfl) (za rfl) zkw aa5 ?_); clear hp; intro w1 hp; simp only [spl, z0a, z0b] at hp)); simp only [zc, zb, z0b, z0a]))
 exact bodyPost_ret (zw (rs := [.cell 2 28, .tmp 3]) Tryz.results64 (.cell rfl (hp.loadAgg zk at1 0 _ (by rfl) (by rfl)) (.tmp rfl .nil))) rfl ⟨rfl, hp.below⟩
open Go.RowKit
def En (n : Int) : Env := ⟨n, 0, 0, 0, ⟨0, 0, 0, 0, 0, 0, 0⟩⟩
def okP (x : Kv) : Bool := inM x.vw 0 900000000 && (inM x.nm 0 x.vw && (inM x.bs 0 900000000 && (decide (x.es.length ≤ 4000) && (zbj x.bs 0 x.es && zdU x.nm 0 x.es))))
theorem zb8 {x : Kv} (h : okP x = true) (hi : x.im = im3) : okC x = true := by
 unfold okP at h
 simp only [Bool.and_eq_true] at h
 obtain ⟨h1, h2, h3, h4, h5, h6⟩ := h
 unfold okC
 rw [h1, h2, h3, h4, h5, h6, hi, zgn]; rfl
theorem zdV {x y : Kv} {r : Rv} (hx : okP x = true) (hi : x.im = im3) (hm : ZV x r = (0, y)) (hy : okP y = true) (hj : y.im = im3) : zbh x r = (0, y) := by
 unfold zbh
 rw [if_pos (zb8 hx hi)]
 unfold Zb
 rw [hm, if_pos rfl, if_pos (zb8 hy hj)]
theorem zjc (vw nm bs : Int) (im : ByteArray) (ea : Option Addr) (es : List Env) (n ec : Nat) (hn : es.length = n) (kd rv rf rn : Int) (rim : ByteArray) (nu vi cl sq kk hh ii nn cc vv tt : Int) (ra : Option Addr) (rs : List Env) (m rc : Nat) (hm : rs.length = m) (vw' nm' bs' : Int) (im' : ByteArray) (es' : List Env) (q : Nat) (hq : es'.length = q) (a0 : Option Addr) (c0 : Nat) (hr : zbh ⟨vw, nm, bs, im, ea, es, ec⟩ ⟨kd, rv, rf, rn, rim, ⟨nu, vi, cl, sq, ⟨kk, hh, ii, nn, cc, vv, tt⟩⟩, ra, rs, rc⟩ = (0, ⟨vw', nm', bs', im', a0, es', c0⟩)) (hes : n ≤ 1500) (him : im.size ≤ 1000000) (hrs : m ≤ 1500) (hrc : m ≤ rc) (hri : rim.size ≤ 1000000) (w : World) (ha : zm w ea (es.flatMap z8)) (hra : zm w ra (rs.flatMap z8)) :
  Calls Tryz.prog 19 #[.agg #[.int .i64 vw, .int .i64 nm, .int .i64 bs, .string im, .slice ea n ec], .agg #[.int .i64 kd, .int .i64 rv, .int .i64 rf, .int .i64 rn, .string rim, .int .i64 nu, .int .i64 vi, .int .i64 cl, .int .i64 sq, .int .i64 kk, .int .i64 hh, .int .i64 ii, .int .i64 nn, .int .i64 cc, .int .i64 vv, .int .i64 tt, .slice ra m rc]] w fun e w' => ∃ a c R, e = .returned (.tuple #[.agg #[.int .i64 vw', .int .i64 nm', .int .i64 bs', .string im', .slice a q c], .int .i64 0]) ∧ q ≤ c ∧ zt 38 11 (.slice a q c) q (es'.flatMap z8) R ∧ Hp w.heap.size w w' R := by
 subst hn hm hq
 refine (zgR vw nm bs im ea es ec kd rv rf rn rim nu vi cl sq kk hh ii nn cc vv tt ra rs rc _ hr hes him hrs hrc hri w ha hra).mono fun e w' h => ?_
 obtain ⟨a, c, R, h1, h2, h3, h4⟩ := h.1 rfl
 exact ⟨a, c, R, h1, h2, h3, h4⟩
theorem zkq (vw nm bs : Int) (im : ByteArray) (ea : Option Addr) (es : List Env) (n ec : Nat) (hn : es.length = n) (kd rv rf rn : Int) (rim : ByteArray) (nu vi cl sq kk hh ii nn cc vv tt : Int) (ra : Option Addr) (rs : List Env) (m rc : Nat) (hm : rs.length = m) (c0 : Int) (y : Kv) (hc : c0 ≠ 0) (hr : zbh ⟨vw, nm, bs, im, ea, es, ec⟩ ⟨kd, rv, rf, rn, rim, ⟨nu, vi, cl, sq, ⟨kk, hh, ii, nn, cc, vv, tt⟩⟩, ra, rs, rc⟩ = (c0, y)) (hes : n ≤ 1500) (him : im.size ≤ 1000000) (hrs : m ≤ 1500) (hrc : m ≤ rc) (hri : rim.size ≤ 1000000) (w : World) (ha : zm w ea (es.flatMap z8)) (hra : zm w ra (rs.flatMap z8)) :
  Calls Tryz.prog 19 #[.agg #[.int .i64 vw, .int .i64 nm, .int .i64 bs, .string im, .slice ea n ec], .agg #[.int .i64 kd, .int .i64 rv, .int .i64 rf, .int .i64 rn, .string rim, .int .i64 nu, .int .i64 vi, .int .i64 cl, .int .i64 sq, .int .i64 kk, .int .i64 hh, .int .i64 ii, .int .i64 nn, .int .i64 cc, .int .i64 vv, .int .i64 tt, .slice ra m rc]] w fun e w' => e = .returned (.tuple #[.agg #[.int .i64 0, .int .i64 0, .int .i64 0, .string ⟨#[]⟩, .slice none 0 0], .int .i64 c0]) ∧ Below w.heap.size w w' := by
 subst hn hm
 refine (zgR vw nm bs im ea es ec kd rv rf rn rim nu vi cl sq kk hh ii nn cc vv tt ra rs rc _ hr hes him hrs hrc hri w ha hra).mono fun e w' h => ?_
 exact h.2 hc
theorem zeo : im3.size ≤ 1000000 := by rw [zhZ]; decide
open Go.RowKit
theorem zdF : (⟨#[]⟩ : ByteArray).size ≤ 1000000 := by decide
theorem zdY {P : Program} {c : Code} {Q : Exit → Act → World → Prop} {a : Act} {w : World} {A : Nat → Option Addr → Nat → Act} (R : Nat → Option Addr → Nat → World → Prop)
  (h : c.wp P (fun e a' w' => match e with | .normal => ∃ x y z, a' = A x y z ∧ R x y z w' | _ => False) a w) (k : ∀ x y z w', R x y z w' → Q .normal (A x y z) w') : c.wp P Q a w :=
 Code.wp_mono (fun e a' w' hq => by cases e <;> first | exact hq.elim | (obtain ⟨x, y, z, ha, hr⟩ := hq; subst ha; exact k x y z w' hr)) h
theorem zdR {P : Program} {c : Code} {Q : Exit → Act → World → Prop} {a : Act} {w : World} {A : Nat → Act} (R : Nat → World → Prop)
  (h : c.wp P (fun e a' w' => match e with | .normal => ∃ x, a' = A x ∧ R x w' | _ => False) a w) (k : ∀ x w', R x w' → Q .normal (A x) w') : c.wp P Q a w :=
 Code.wp_mono (fun e a' w' hq => by cases e <;> first | exact hq.elim | (obtain ⟨x, ha, hr⟩ := hq; subst ha; exact k x w' hr)) h
open Go.RowKit
theorem zhF {ty : TypeId} (h : zv Tryz.prog ty = true := by with_reducible first | exact zq | exact ZF | exact zK | exact zab) : zv Tryz.prog ty = true := h
def zlL (w : World) (n m p q : Nat) (e : Ending) (w' : World) : Prop := ∃ bb, e = .returned (.bool bb) ∧ (bb = false → n ≤ 300 ∧ m ≤ 300 ∧ p ≤ 100000 ∧ q ≤ 100000) ∧ Below w.heap.size w w'
theorem zlv (vw nm bs : Int) (im : ByteArray) (ea : Option Addr) (es : List Env) (ec : Nat) (kd rv rf rn : Int) (rim : ByteArray) (nu vi cl sq kk hh ii nn cc vv tt : Int) (ra : Option Addr) (rs : List Env) (rc : Nat) (w : World) : Calls Tryz.prog 18 #[.agg #[.int .i64 vw, .int .i64 nm, .int .i64 bs, .string im, .slice ea es.length ec], .agg #[.int .i64 kd, .int .i64 rv, .int .i64 rf, .int .i64 rn, .string rim, .int .i64 nu, .int .i64 vi, .int .i64 cl, .int .i64 sq, .int .i64 kk, .int .i64 hh, .int .i64 ii, .int .i64 nn, .int .i64 cc, .int .i64 vv, .int .i64 tt, .slice ra rs.length rc]] w (zlL w es.length rs.length im.size rim.size) := by
 have hp := Hp.start w
 by_cases h1 : es.length ≤ 300
 ·have e1 : decide ((300 : Int) < (es.length : Int)) = false := by simp; omega
  by_cases h2 : rs.length ≤ 300
  ·have e2 : decide ((300 : Int) < (rs.length : Int)) = false := by simp; omega
   by_cases h3 : im.size ≤ 100000
   ·have e3 : decide ((100000 : Int) < (im.size : Int)) = false := by simp; omega
    by_cases h4 : rim.size ≤ 100000
    ·have e4 : decide ((100000 : Int) < (rim.size : Int)) = false := by simp; omega
     go_enter Tryz.func18, Tryz.ntmps18
     go_wp2_with (first | go_skip | ((first | ((refine zh _ _ rfl ?_); refine lB hp rfl (za rfl) rfl ?_; clear hp; intro b w1 hp) | ((refine ze _ _ rfl ?_); refine lO hp rfl (za rfl) zhF aa5 ?_)); simp only [zc, zb, z0b, z0a]))
     go_ret
     exact ⟨_, rfl, fun _ => ⟨h1, h2, h3, h4⟩, hp.below⟩
    ·have e4 : decide ((100000 : Int) < (rim.size : Int)) = true := by simp; omega
     go_enter Tryz.func18, Tryz.ntmps18
     go_wp2_with (first | go_skip | ((first | ((refine zh _ _ rfl ?_); refine lB hp rfl (za rfl) rfl ?_; clear hp; intro b w1 hp) | ((refine ze _ _ rfl ?_); refine lO hp rfl (za rfl) zhF aa5 ?_)); simp only [zc, zb, z0b, z0a]))
     go_ret
     exact ⟨true, rfl, fun h => (by cases h), hp.below⟩
   ·have e3 : decide ((100000 : Int) < (im.size : Int)) = true := by simp; omega
    go_enter Tryz.func18, Tryz.ntmps18
    go_wp2_with (first | go_skip | ((first | ((refine zh _ _ rfl ?_); refine lB hp rfl (za rfl) rfl ?_; clear hp; intro b w1 hp) | ((refine ze _ _ rfl ?_); refine lO hp rfl (za rfl) zhF aa5 ?_)); simp only [zc, zb, z0b, z0a]))
    go_ret
    exact ⟨true, rfl, fun h => (by cases h), hp.below⟩
  ·have e2 : decide ((300 : Int) < (rs.length : Int)) = true := by simp; omega
   go_enter Tryz.func18, Tryz.ntmps18
   go_wp2_with (first | go_skip | ((first | ((refine zh _ _ rfl ?_); refine lB hp rfl (za rfl) rfl ?_; clear hp; intro b w1 hp) | ((refine ze _ _ rfl ?_); refine lO hp rfl (za rfl) zhF aa5 ?_)); simp only [zc, zb, z0b, z0a]))
   go_ret
   exact ⟨true, rfl, fun h => (by cases h), hp.below⟩
 ·have e1 : decide ((300 : Int) < (es.length : Int)) = true := by simp; omega
  go_enter Tryz.func18, Tryz.ntmps18
  go_wp2_with (first | go_skip | ((first | ((refine zh _ _ rfl ?_); refine lB hp rfl (za rfl) rfl ?_; clear hp; intro b w1 hp) | ((refine ze _ _ rfl ?_); refine lO hp rfl (za rfl) zhF aa5 ?_)); simp only [zc, zb, z0b, z0a]))
  go_ret
  exact ⟨true, rfl, fun h => (by cases h), hp.below⟩
open Go.RowKit
theorem Hp.joinF {B : Nat} {w0 w w' : World} {L R : List Blk} (hp : Hp B w0 w L) (hpn : Hp w.heap.size w w' R) : Hp B w0 w' (R ++ L) := (hp.join hpn).kp
open Go.RowKit
theorem zlV {ty : TypeId} (h : zv Tryz.prog ty = true := by with_reducible first | exact zq | exact ZF | exact zV | exact zK) : zv Tryz.prog ty = true := h
theorem zjF {ty : TypeId} {l : List Value} {n : Nat} (h : zbf Tryz.prog ty = some (l, n) := by with_reducible first | exact ZT | exact zjh | exact zX) : zbf Tryz.prog ty = some (l, n) := h
theorem zl1 {ty : TypeId} {k : Nat} (h : ZZ Tryz.prog ty k = true := by with_reducible first | exact zk | exact zc0 | exact zD) : ZZ Tryz.prog ty k = true := h
def kE (n : Nat) : List Env := (List.range n).map fun (j : Nat) => En ((j : Int) + 1)
theorem zcD (n : Nat) : (kE n).length = n := by simp [kE]
theorem zjs (j : Nat) (h : j < 3) (a : Option Addr) (c : Nat) : zbh ⟨0, 0, 0, im3, a, kE j, c⟩ ⟨2, 0, 0, 0, ⟨#[]⟩, ⟨(j : Int) + 1, 0, 0, 0, ⟨0, 0, 0, 0, 0, 0, 0⟩⟩, none, [], 0⟩ = (0, ⟨0, 0, 0, im3, a, kE (j + 1), c⟩) := by
 match j, h with
 | 0, _ => exact zdV (by kernel_rfl) rfl (by kernel_rfl) (by kernel_rfl) rfl
 | 1, _ => exact zdV (by kernel_rfl) rfl (by kernel_rfl) (by kernel_rfl) rfl
 | 2, _ => exact zdV (by kernel_rfl) rfl (by kernel_rfl) (by kernel_rfl) rfl
theorem zkc (j : Nat) (h : j < 3) (a : Option Addr) (c : Nat) (w : World) (ha : zm w a ((kE j).flatMap z8)) : Calls Tryz.prog 19 #[.agg #[.int .i64 0, .int .i64 0, .int .i64 0, .string im3, .slice a j c], .agg #[.int .i64 2, .int .i64 0, .int .i64 0, .int .i64 0, .string ⟨#[]⟩, .int .i64 ((j : Int) + 1), .int .i64 0, .int .i64 0, .int .i64 0, .int .i64 0, .int .i64 0, .int .i64 0, .int .i64 0, .int .i64 0, .int .i64 0, .int .i64 0, .slice none 0 0]] w fun e w' => ∃ a c R, e = .returned (.tuple #[.agg #[.int .i64 0, .int .i64 0, .int .i64 0, .string im3, .slice a (j + 1) c], .int .i64 0]) ∧ j + 1 ≤ c ∧ zt 38 11 (.slice a (j + 1) c) (j + 1) ((kE (j + 1)).flatMap z8) R ∧ Hp w.heap.size w w' R :=
 zjc 0 0 0 im3 a (kE j) j c (zcD j) 2 0 0 0 ⟨#[]⟩ ((j : Int) + 1) 0 0 0 0 0 0 0 0 0 0 none [] 0 0 rfl 0 0 0 im3 (kE (j + 1)) (j + 1) (zcD _) _ _ (zjs j h a c) (by omega) zeo (by decide) (by decide) zdF w ha (zm.nil _ _)
def zkZ (w : World) (n : Nat) (e : Ending) (w' : World) : Prop := ∃ a c R, e = .returned (.agg #[.int .i64 0, .int .i64 0, .int .i64 0, .string im3, .slice a n c]) ∧ n ≤ c ∧ Z9 R (fun w => zm w a ((kE n).flatMap z8)) ∧ Hp w.heap.size w w' R
theorem zkn (n : Nat) (hn : n ≤ 3) (w : World) : Calls Tryz.prog 73 #[.int .i64 n] w (zkZ w n) := by
 have hp := Hp.start w
 go_enter Tryz.func73, Tryz.ntmps73
 go_wp2_with (first | (go_at_call 64; (with_reducible refine (zkY _).mono ?_); rintro e w1 ⟨rfl, hb⟩; replace hp := hp.call hb; clear hb) | go_skip | ((first | ((refine zf _ rfl ?_); refine lZ hp rfl zjF ?_; clear hp; intro b w1 hp) | ((refine ze _ _ rfl ?_); refine lA hp rfl (za rfl) zk zL ?_) | ((refine zd _ _ _ rfl ?_); (first | refine sA hp rfl (za rfl) (za rfl) zk zL ?_ | refine sG hp rfl (za rfl) (za rfl) zk zL ?_); clear hp; intro w1 hp; simp only [spl, z0a, z0b] at hp)); simp only [zc, zb, z0b, z0a]))
 obtain ⟨b3, hb3⟩ := hp.id0
 obtain ⟨b2, hb2⟩ := hp.id1
 subst hb3 hb2
 go_loopg [5] n (fun k i wr => ∃ (j : Nat) (a : Option Addr) (c : Nat) (R : List Blk), k + j = n ∧ i = .int .i64 ((j : Int) + 1) ∧ Hid (j ≤ c) ∧ Hid (Z9 R fun w => zm w a ((kE j).flatMap z8)) ∧ Hp w.heap.size w wr (⟨b3, [.int .i64 0, .int .i64 0, .int .i64 0, .string im3, .slice a j c], 28, 5⟩ :: ⟨b2, [.int .i64 0, .int .i64 0, .int .i64 0, .string ⟨#[]⟩, .slice none 0 0], 28, 5⟩ :: R))
 case atStart => exact ⟨0, none, 0, [], by omega, rfl, z0j (Nat.le_refl _), z0j (Z9.none_ (fun w => zm.nil _ _) _), hp⟩
 case round =>
  clear hp
  obtain ⟨j, a, c, R, hkj, rfl, HC, HK, hp⟩ := hrel
  by_cases hlt : j < n
  ·have HJ3 : Hid (j < 3) := z0j (by omega)
   have e1 : decide ((j : Int) + 1 ≤ (n : Int)) = true := by simp; omega
   go_wp2_with (first | (go_at_call 19; (with_reducible refine (zkc j HJ3.out _ _ _ (HK.out.at hp (fun p hm => by simp [hm]))).mono ?_); rintro e w1 ⟨aN, cN, RN, rfl, hcn, hrn, hpn⟩; replace hp := hp.join hpn; have HKN := z0j hrn.keptS; have HCN := z0j hcn; clear hpn hrn hcn; simp only [z0f, z0e, z0i] at hp) | go_skip | ((first | ((refine zf _ rfl ?_); refine lZ hp rfl zjF ?_; clear hp; intro b w1 hp) | ((refine ze _ _ rfl ?_); refine lA hp rfl (za rfl) zk zL ?_) | ((refine zd _ _ _ rfl ?_); (first | refine sA hp rfl (za rfl) (za rfl) zk zL ?_ | refine sG hp rfl (za rfl) (za rfl) zk zL ?_); clear hp; intro w1 hp; simp only [spl, z0a, z0b] at hp)); simp only [zc, zb, z0b, z0a]))
   go_roundg (gk - 1)
   case measure => omega
   case rel => exact ⟨j + 1, aN, cN, RN, by omega, by go_num, HCN, HKN, hp.kp⟩
  ·obtain rfl : j = n := by omega
   have e1 : decide ((j : Int) + 1 ≤ (j : Int)) = false := by simp; omega
   go_wp2_with (first | go_skip | ((first | ((refine zf _ rfl ?_); refine lZ hp rfl zjF ?_; clear hp; intro b w1 hp) | ((refine ze _ _ rfl ?_); refine lA hp rfl (za rfl) zk zL ?_) | ((refine zd _ _ _ rfl ?_); (first | refine sA hp rfl (za rfl) (za rfl) zk zL ?_ | refine sG hp rfl (za rfl) (za rfl) zk zL ?_); clear hp; intro w1 hp; simp only [spl, z0a, z0b] at hp)); simp only [zc, zb, z0b, z0a]))
   exact bodyPost_ret (ZQ (rs := [.cell 2 28]) Tryz.results73 (.cell rfl (hp.loadAgg zk at1 0 _ (by rfl) (by rfl)) .nil)) rfl ⟨a, c, R, rfl, HC.out, HK.out, hp.kp⟩
theorem zkD (n : Nat) (h : n ≤ 3) (a : Option Addr) (c : Nat) : okC ⟨0, 0, 0, im3, a, kE n, c⟩ = true := by
 match n, h with
 | 0, _ => exact zb8 (by kernel_rfl) rfl
 | 1, _ => exact zb8 (by kernel_rfl) rfl
 | 2, _ => exact zb8 (by kernel_rfl) rfl
 | 3, _ => exact zb8 (by kernel_rfl) rfl
theorem zfB (n : Nat) (h : n ≤ 3) (a : Option Addr) (c : Nat) : Kv.Small ⟨0, 0, 0, im3, a, kE n, c⟩ := ⟨by simp only [zcD]; omega, zeo⟩
open Go.RowKit
theorem zdH {fr : Int} (h0 : 0 ≤ fr) (h1 : fr ≤ 2000000000) : ∀ {l : List Env} {q : Nat}, q + l.length ≤ 100000 → (∀ e ∈ l, I64 e.nu) → zbj fr q l = true → ∀ (i : Nat) (h : i < l.length), l[i].nu = fr + 1 + (q + i : Nat)
 | [], _, _, _, _, i, h => by simp at h
 | e :: r, q, hq, hn, hf, i, h => by
  unfold zbj at hf
  rw [Bool.and_eq_true, decide_eq_true_eq] at hf
  obtain ⟨h2, h3⟩ := hf
  obtain ⟨g1, g2⟩ := hn e (by simp)
  simp only [z0g] at hq
  have e1 : e.nu = fr + 1 + (q : Int) := by unfold wrap64 at h2; omega
  cases i with
  | zero => simp only [List.getElem_cons_zero]; omega
  | succ i =>
   have h4 := zdH h0 h1 (l := r) (q := q + 1) (by omega) (fun x hx => hn x (by simp [hx])) h3 i (by simpa using h)
   simp only [List.getElem_cons_succ]
   rw [h4]; push_cast; omega
def joinF (x : Kv) (l : List Env) : List Env := l.filter fun e => decide (zP x < e.nu)
noncomputable def zan (x : Kv) (n : Int) (l : List Env) : Bool := okC x && (decide (0 ≤ n) && (decide (n ≤ zP x) && zbj n 0 l))
theorem zao {x : Kv} {n : Int} {l : List Env} (h : zan x n l = true) : okC x = true ∧ 0 ≤ n ∧ n ≤ zP x ∧ zbj n 0 l = true := by
 unfold zan at h
 simp only [Bool.and_eq_true, decide_eq_true_eq] at h
 exact h
theorem zbW {x : Kv} {n : Int} {l : List Env} (h : zan x n l = true) (hl : l.length ≤ 100000) (hn : ∀ e ∈ l, I64 e.nu) : joinF x l = l.drop (zP x - n).toNat := by
 obtain ⟨h1, h2, h3, h4⟩ := zao h
 have hf := ZM h1
 have hk : zP x ≤ 2000000000 := by unfold zP; omega
 have hnu := zdH h2 (by omega) (q := 0) (by omega) hn h4
 unfold joinF
 conv => lhs; rw [← List.take_append_drop (zP x - n).toNat l]
 rw [List.filter_append]
 have e1 : (l.take (zP x - n).toNat).filter (fun e => decide (zP x < e.nu)) = [] := by
  rw [List.filter_eq_nil_iff]
  intro e he
  obtain ⟨i, hi, rfl⟩ := List.getElem_of_mem he
  rw [List.length_take] at hi
  rw [List.getElem_take, decide_eq_true_eq, hnu i (by omega)]
  omega
 have e2 : (l.drop (zP x - n).toNat).filter (fun e => decide (zP x < e.nu)) = l.drop (zP x - n).toNat := by
  rw [List.filter_eq_self]
  intro e he
  obtain ⟨i, hi, rfl⟩ := List.getElem_of_mem he
  rw [List.length_drop] at hi
  rw [List.getElem_drop, decide_eq_true_eq, hnu _ (by omega)]
  omega
 rw [e1, e2, List.nil_append]
def zhY (e : Env) : Rv := ⟨2, 0, 0, 0, ⟨#[]⟩, e, none, [], 0⟩
def zck (x : Kv) (l : List Env) : Kv := ⟨x.vw, x.nm, x.bs, x.im, x.ea, x.es ++ l, x.ec⟩
theorem ziV {x : Kv} {e : Env} (h : okC x = true) (he : e.nu = zP x + 1) : zbh x (zhY e) = (if okC (zck x [e]) = true then (0, zck x [e]) else (141, x)) := by
 have hf := ZM h
 have hfol : zbj (zP x) 0 [e] = true := by
  unfold zbj zbj
  rw [he]
  have : wrap64 (wrap64 (zP x + 1 - 1) - ((0 : Nat) : Int)) = zP x := by unfold zP wrap64; omega
  rw [this]; simp
 have hm : ZV x (zhY e) = (0, zck x [e]) := by
  unfold ZV zhY zck
  simp only
  rw [if_neg (by omega), if_neg (by omega), if_pos trivial, if_pos hfol]
 unfold zbh Zb
 rw [if_pos h, hm]
 simp only [if_true]
theorem zeu (x : Kv) (l : List Env) : zP (zck x l) = zP x + l.length := by
 unfold zP zck; simp only [List.length_append]; push_cast; omega
theorem zgT {x : Kv} {n : Int} {l : List Env} (h : zan x n l = true) (hl : l.length ≤ 100000) (hn : ∀ e ∈ l, I64 e.nu) (i : Nat) (hi : i < (joinF x l).length) : (joinF x l)[i].nu = zP (zck x ((joinF x l).take i)) + 1 := by
 obtain ⟨h1, h2, h3, h4⟩ := zao h
 have hf := ZM h1
 have hk : zP x ≤ 2000000000 := by unfold zP; omega
 have hnu := zdH h2 (by omega) (q := 0) (by omega) hn h4
 have hd := zbW h hl hn
 rw [zeu, List.length_take]
 have e1 : (joinF x l)[i] = l[(zP x - n).toNat + i]'(by rw [hd, List.length_drop] at hi; omega) := by
  simp only [hd]; rw [List.getElem_drop]
 rw [e1, hnu]
 push_cast; omega
theorem zf0 {x : Kv} {n : Int} {l : List Env} (h : zan x n l = true) (hl : l.length ≤ 100000) (hn : ∀ e ∈ l, I64 e.nu) (hok : okC (zck x (joinF x l)) = true) :
  zan (zck x (joinF x l)) n l = true ∧ joinF (zck x (joinF x l)) l = [] ∧ zP (zck x (joinF x l)) = max (zP x) (n + l.length) := by
 obtain ⟨h1, h2, h3, h4⟩ := zao h
 have hd := zbW h hl hn
 have hlast : zP (zck x (joinF x l)) = max (zP x) (n + l.length) := by
  rw [zeu, hd, List.length_drop]; omega
 have hb : zan (zck x (joinF x l)) n l = true := by
  unfold zan
  rw [hok, h4, hlast, decide_eq_true h2, decide_eq_true (by omega)]; rfl
 refine ⟨hb, ?_, hlast⟩
 rw [zbW hb hl hn, hlast]
 exact List.drop_eq_nil_of_le (by omega)
end Go.Proofs.YtjcbpfbifbfkcaaGreat
