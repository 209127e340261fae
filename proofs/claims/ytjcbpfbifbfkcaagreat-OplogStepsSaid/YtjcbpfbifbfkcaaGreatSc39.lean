import Derived.Test.YtjcbpfbifbfkcaaGreatSc34
import Derived.Test.YtjcbpfbifbfkcaaGreatSc38
set_option linter.unusedSimpArgs false
set_option linter.unusedVariables false
set_option maxRecDepth 100000
set_option maxHeartbeats 60000000
namespace Go.Proofs.YtjcbpfbifbfkcaaGreat
open Go.RowKit
theorem zdW {ty : TypeId} {l : List Value} {n : Nat} (h : zbu Tryz.prog ty = some (l, n) := by with_reducible first | exact zhQ | exact Za | exact zo8 | exact ZH | exact zJ) : zbu Tryz.prog ty = some (l, n) := h
theorem Z9 {ty : TypeId} {k : Nat} (h : ZU Tryz.prog ty k = true := by with_reducible first | exact zH | exact Zu | exact ziw | exact zaa | exact zv) : ZU Tryz.prog ty k = true := h
theorem zr6 {ty : TypeId} (h : zF Tryz.prog ty = true := by with_reducible first | exact zm | exact Zv | exact z7 | exact Zh | exact Zi | exact Z7) : zF Tryz.prog ty = true := h
noncomputable def zdq (x : Kv) (n : Int) : Int := if okC x = true then (if n < x.bs ∨ zb4 x < n then 140 else 0) else 1
theorem zd7 {x : Kv} {n : Int} (h : zdq x n = 0) : okC x = true ∧ x.bs ≤ n ∧ n ≤ zb4 x := by
 unfold zdq at h
 split at h
 ·rename_i h1
  split at h
  ·cases h
  ·exact ⟨h1, by omega, by omega⟩
 ·cases h
theorem zor {x : Kv} {n : Int} (h : okC x = true) (h1 : x.bs ≤ n) (h2 : n ≤ zb4 x) : zdq x n = 0 := by
 unfold zdq; rw [if_pos h, if_neg (by omega)]
theorem zeT (vw nm bs : Int) (im : ByteArray) (ea : Option Addr) (es : List Env) (ec : Nat) (n : Int) (c : Int) (hc : c ≠ 0) (he : zdq ⟨vw, nm, bs, im, ea, es, ec⟩ n = c) (hs : Kv.Small ⟨vw, nm, bs, im, ea, es, ec⟩) (w : World) (ha : zt w ea (es.flatMap Z1)) :
  Calls Tryz.prog 42 #[.agg #[.int .i64 vw, .int .i64 nm, .int .i64 bs, .string im, .slice ea es.length ec], .int .i64 n] w fun e w' => e = .returned (.tuple #[.agg #[.int .i64 0, .slice none 0 0, .int .i64 0, .int .i64 0, .int .i64 0, .int .i64 0, .int .i64 0, .slice none 0 0, .slice none 0 0], .int .i64 c]) ∧ Below w.heap.size w w' := by
 subst he
 cases hb : okC ⟨vw, nm, bs, im, ea, es, ec⟩ with
 | false =>
  have e : zdq ⟨vw, nm, bs, im, ea, es, ec⟩ n = 1 := by unfold zdq; rw [if_neg (by rw [hb]; decide)]
  rw [e]
  exact zj5 vw nm bs im ea es ec n hb hs w ha
 | true =>
  by_cases hg : n < bs ∨ bs + es.length < n
  ·have e : zdq ⟨vw, nm, bs, im, ea, es, ec⟩ n = 140 := by unfold zdq; rw [if_pos hb]; exact if_pos hg
   rw [e]
   exact zh8 vw nm bs im ea es ec n hb hg hs w ha
  ·exact absurd (by unfold zdq; rw [if_pos hb]; exact if_neg hg) hc
noncomputable def zjY (x : Kv) : Sv := (zab (zcT x.im)).getD zcu
noncomputable def stC (x : Kv) (n : Int) : Sv := zm0 (zjY x) (x.es.take (n - x.bs).toNat)
theorem zgt {x : Kv} (h : okC x = true) : zab (zcT x.im) = some (zjY x) := by
 unfold okC at h
 simp only [Bool.and_eq_true] at h
 obtain ⟨_, _, _, _, _, _, h7⟩ := h
 unfold zjY
 cases e : zab (zcT x.im) with
 | none => rw [e] at h7; cases h7
 | some y => rfl
theorem zde {x : Kv} (h : okC x = true) : StR (zjY x) ∧ (zjY x).W64 := zhZ (zgt h)
theorem zhN {x : Kv} (h : okC x = true) (n : Int) : StR (stC x n) := zeD (zde h).1 fun e he => zhi h e (List.mem_of_mem_take he)
theorem zns {x : Kv} {n : Int} (h1 : x.bs ≤ n) {e : Env} (he : x.es[(n - x.bs).toNat]? = some e) : stC x (n + 1) = (Z4 (stC x n) e).1 := by
 unfold stC
 rw [show (n + 1 - x.bs).toNat = (n - x.bs).toNat + 1 by omega, List.take_add_one, he]
 exact zfb e _ _
def zsw (w : World) (s : Sv) (e : Ending) (w' : World) : Prop := ∃ od oa os oc nx t0 t1 t2 t3 fa fs fc ra rs rc R, e = .returned (.tuple #[.agg #[.int .i64 od, .slice oa (List.length os) oc, .int .i64 nx, .int .i64 t0, .int .i64 t1, .int .i64 t2, .int .i64 t3, .slice fa (List.length fs) fc, .slice ra (List.length rs) rc], .int .i64 0]) ∧ Sv.Sm ⟨⟨od, oa, os, oc, nx, t0, t1, t2, t3, fa, fs, fc⟩, ra, rs, rc⟩ s ∧ ZF R (fun w => Sv.Is w ⟨⟨od, oa, os, oc, nx, t0, t1, t2, t3, fa, fs, fc⟩, ra, rs, rc⟩) ∧ Hp w.heap.size w w' R
theorem zfe (vw nm bs : Int) (im : ByteArray) (ea : Option Addr) (es : List Env) (ec : Nat) (n : Int) (s : Sv) (hsc : stC ⟨vw, nm, bs, im, ea, es, ec⟩ n = s) (he : zdq ⟨vw, nm, bs, im, ea, es, ec⟩ n = 0) (hs : Kv.Small ⟨vw, nm, bs, im, ea, es, ec⟩) (hec : es.length ≤ ec) (w : World) (ha : zt w ea (es.flatMap Z1)) :
  Calls Tryz.prog 42 #[.agg #[.int .i64 vw, .int .i64 nm, .int .i64 bs, .string im, .slice ea es.length ec], .int .i64 n] w (zsw w s) := by
 subst hsc
 obtain ⟨h1, h2, h3⟩ := zd7 he
 refine (ziV vw nm bs im ea es ec n h1 h2 h3 hec _ (zgt h1) (zde h1).1 hs w ha).mono fun e w' h => ?_
 obtain ⟨y, R, g1, g2, g3, g4⟩ := h
 obtain ⟨⟨od, oa, os, oc, nx, t0, t1, t2, t3, fa, fs, fc⟩, ra, rs, rc⟩ := y
 exact ⟨od, oa, os, oc, nx, t0, t1, t2, t3, fa, fs, fc, ra, rs, rc, R, g1, g2, g3, g4⟩
def Ea : Env := ⟨1, 0, 1, 1, ⟨1, 0, 0, 0, 0, 0, 0⟩⟩
theorem g_1 (a : Option Addr) (c : Nat) (b : Option Addr) (d : Nat) : zgx ⟨0, 0, 0, im3, a, [], c⟩ ⟨2, 0, 0, 0, ⟨#[]⟩, ⟨1, 0, 1, 1, ⟨1, 0, 0, 0, 0, 0, 0⟩⟩, b, [], d⟩ = (0, ⟨0, 0, 0, im3, a, [Ea], c⟩) := zok (by kernel_rfl) rfl (by kernel_rfl) (by kernel_rfl) rfl
theorem zrZ (a : Option Addr) (c : Nat) : okC ⟨0, 0, 0, im3, a, [Ea], c⟩ = true := zi3 (by kernel_rfl) rfl
theorem zlD (a : Option Addr) (c : Nat) : zjY ⟨0, 0, 0, im3, a, [Ea], c⟩ = zdH st3 := by
 have h := zgt (zrZ a c)
 rw [show (⟨0, 0, 0, im3, a, [Ea], c⟩ : Kv).im = im3 from rfl, zfI] at h
 injection h with h
 exact h.symm
theorem zgP : StR (zdH st3) := by
 have := zde (zrZ none 0)
 rw [zlD] at this; exact this.1
theorem zsl (a : Option Addr) (c : Nat) : (stC ⟨0, 0, 0, im3, a, [Ea], c⟩ 1).hv.os.length = 1 ∧ (stC ⟨0, 0, 0, im3, a, [Ea], c⟩ 1).rs.length = 1 := by
 unfold stC
 rw [zlD]
 have e : ((⟨0, 0, 0, im3, a, [Ea], c⟩ : Kv).es.take ((1 : Int) - (⟨0, 0, 0, im3, a, [Ea], c⟩ : Kv).bs).toNat) = [Ea] := rfl
 rw [e]
 show (Z4 (zdH st3) Ea).1.hv.os.length = 1 ∧ (Z4 (zdH st3) Ea).1.rs.length = 1
 rw [zfJ zgP (by kernel_rfl)]
 exact ⟨by kernel_rfl, by kernel_rfl⟩
theorem fdE (w : World) : Calls Tryz.prog 19 #[.agg #[.int .i64 0, .int .i64 0, .int .i64 0, .string im3, .slice none 0 0], .agg #[.int .i64 2, .int .i64 0, .int .i64 0, .int .i64 0, .string ⟨#[]⟩, .int .i64 1, .int .i64 0, .int .i64 1, .int .i64 1, .int .i64 1, .int .i64 0, .int .i64 0, .int .i64 0, .int .i64 0, .int .i64 0, .int .i64 0, .slice none 0 0]] w fun e w' => ∃ a c R, e = .returned (.tuple #[.agg #[.int .i64 0, .int .i64 0, .int .i64 0, .string im3, .slice a 1 c], .int .i64 0]) ∧ 1 ≤ c ∧ zI 38 11 (.slice a 1 c) 1 ([Ea].flatMap Z1) R ∧ Hp w.heap.size w w' R :=
 zrM 0 0 0 im3 none [] 0 0 rfl 2 0 0 0 ⟨#[]⟩ 1 0 1 1 1 0 0 0 0 0 0 none [] 0 0 rfl 0 0 0 im3 [Ea] 1 rfl _ _ (g_1 _ _ _ _) (by decide) ze9 (by decide) (by decide) zm8 w (zt.nil _ _) (zt.nil _ _)
theorem zsS (a : Option Addr) (c : Nat) (hc : 1 ≤ c) (w : World) (ha : zt w a ([Ea].flatMap Z1)) : Calls Tryz.prog 42 #[.agg #[.int .i64 0, .int .i64 0, .int .i64 0, .string im3, .slice a 1 c], .int .i64 1] w fun e w' => ∃ od oa oc nx t0 t1 t2 t3 fa fn fc ra rc R, e = .returned (.tuple #[.agg #[.int .i64 od, .slice oa 1 oc, .int .i64 nx, .int .i64 t0, .int .i64 t1, .int .i64 t2, .int .i64 t3, .slice fa fn fc, .slice ra 1 rc], .int .i64 0]) ∧ Hp w.heap.size w w' R :=
 (zfe 0 0 0 im3 a [Ea] c 1 _ rfl (zor (zrZ a c) (show (0 : Int) ≤ 1 by decide) (show (1 : Int) ≤ 0 + ((1 : Nat) : Int) by decide)) ⟨Nat.le_of_ble_eq_true rfl, ze9⟩ hc w ha).mono fun e w' h => by
  obtain ⟨od, oa, os, oc, nx, t0, t1, t2, t3, fa, fs, fc, ra, rs, rc, R, rfl, hsm, _, hp⟩ := h
  obtain ⟨h1, h2⟩ := zsl a c
  have e1 : os.length = 1 := hsm.1.os.1.trans h1
  have e2 : rs.length = 1 := (congrArg List.length hsm.2).trans h2
  rw [e1, e2]
  exact ⟨od, oa, oc, nx, t0, t1, t2, t3, fa, _, fc, ra, rc, R, rfl, hp⟩
theorem zsP (a : Option Addr) (c : Nat) (w : World) (ha : zt w a ([Ea].flatMap Z1)) : Calls Tryz.prog 42 #[.agg #[.int .i64 0, .int .i64 0, .int .i64 0, .string im3, .slice a 1 c], .int .i64 2] w fun e w' => e = .returned (.tuple #[.agg #[.int .i64 0, .slice none 0 0, .int .i64 0, .int .i64 0, .int .i64 0, .int .i64 0, .int .i64 0, .slice none 0 0, .slice none 0 0], .int .i64 140]) ∧ Below w.heap.size w w' :=
 zeT 0 0 0 im3 a [Ea] c 2 140 (by decide) (by unfold zdq; rw [if_pos (zrZ a c)]; rfl) ⟨Nat.le_of_ble_eq_true rfl, ze9⟩ w ha
theorem zer (w : World) : Calls Tryz.prog 44 #[] w fun e w' => e = .returned (.bool true) ∧ Below w.heap.size w w' := by
 have hp := Hp.start w
 go_enter Tryz.func44, Tryz.ntmps44
 go_wp2_with (first | (go_at_call 64; (with_reducible refine (zrn _).mono ?_); rintro e w1 ⟨rfl, hb⟩; replace hp := hp.call hb; clear hb) | (go_at_call 19; (with_reducible refine (fdE _).mono ?_); rintro e w1 ⟨aN, cN, RN, rfl, hcn, hrn, hpn⟩; replace hp := hp.join hpn; have HRN := z0j hrn; have HCN := z0j hcn; clear hpn hrn hcn; simp only [z0f, z0e, z0i] at hp) | (go_at_call 42; (with_reducible refine (zsS _ _ HCN.out _ (HRN.out.keptS.at hp (fun p hm => by simp [hm]))).mono ?_); rintro e w1 ⟨od, oa, oc, nx, t0, t1, t2, t3, fa, fn, fc, ra, rc, RS, rfl, hpn⟩; replace hp := hp.join hpn; clear hpn; simp only [z0f, z0e, z0i] at hp) | (go_at_call 42; (with_reducible refine (zsP _ _ _ (HRN.out.keptS.at hp (fun p hm => by simp [hm]))).mono ?_); rintro e w1 ⟨rfl, hb⟩; replace hp := hp.call hb; clear hb) | go_skip | ((first | ((refine zf _ rfl ?_); refine lZ hp rfl zdW ?_; clear hp; intro b w1 hp) | ((refine ze _ _ rfl ?_); first | refine lO hp rfl (za rfl) zr6 zn ?_ | refine lA hp rfl (za rfl) zH zn ?_) | ((refine zd _ _ _ rfl ?_); (first | refine sA hp rfl (za rfl) (za rfl) Z9 zn ?_ | refine sG hp rfl (za rfl) (za rfl) Z9 zn ?_); clear hp; intro w1 hp; simp only [spl, z0a, z0b] at hp)); simp only [zc, zb, z0b, z0a]))
 go_ret
 exact ⟨rfl, hp.below⟩
theorem zqs (vw nm bs : Int) (im : ByteArray) (ea : Option Addr) (es : List Env) (ec : Nat) (w : World) : Calls Tryz.prog 18 #[.agg #[.int .i64 vw, .int .i64 nm, .int .i64 bs, .string im, .slice ea es.length ec], .agg #[.int .i64 0, .int .i64 0, .int .i64 0, .int .i64 0, .string ⟨#[]⟩, .int .i64 0, .int .i64 0, .int .i64 0, .int .i64 0, .int .i64 0, .int .i64 0, .int .i64 0, .int .i64 0, .int .i64 0, .int .i64 0, .int .i64 0, .slice none 0 0]] w (zsG w es.length 0 im.size 0) := zsC vw nm bs im ea es ec 0 0 0 0 ⟨#[]⟩ 0 0 0 0 0 0 0 0 0 0 0 none [] 0 w
theorem zf0 {P : Program} {c : Code} {Q : Exit → Act → World → Prop} {a : Act} {w : World} {A : Nat → Nat → Sv → Act} (R : Nat → Nat → Sv → World → Prop)
  (h : c.wp P (fun e a' w' => match e with | .normal => ∃ x y z, a' = A x y z ∧ R x y z w' | _ => False) a w) (k : ∀ x y z w', R x y z w' → Q .normal (A x y z) w') : c.wp P Q a w :=
 Code.wp_mono (fun e a' w' hq => by cases e <;> first | exact hq.elim | (obtain ⟨x, y, z, ha, hr⟩ := hq; subst ha; exact k x y z w' hr)) h
theorem zlk (vw nm bs : Int) (im : ByteArray) (ea : Option Addr) (es : List Env) (ec : Nat) (n : Int) (en : Env) (hb : okC ⟨vw, nm, bs, im, ea, es, ec⟩ = true) (hl : zlL ⟨vw, nm, bs, im, ea, es, ec⟩ n 1 = [en]) (hs : Kv.Small ⟨vw, nm, bs, im, ea, es, ec⟩) (hec : es.length ≤ ec) (h3 : -1000000000 ≤ n) (w : World) (ha : zt w ea (es.flatMap Z1)) :
  Calls Tryz.prog 23 #[.agg #[.int .i64 vw, .int .i64 nm, .int .i64 bs, .string im, .slice ea es.length ec], .int .i64 n, .int .i64 1] w fun e w' => ∃ g c, e = .returned (.slice (some ⟨g, 0, none⟩) 1 c) ∧ Hp w.heap.size w w' [⟨g, [.int .i64 en.nu, .int .i64 en.vi, .int .i64 en.cl, .int .i64 en.sq, .int .i64 en.op.k, .int .i64 en.op.h, .int .i64 en.op.i, .int .i64 en.op.n, .int .i64 en.op.m, .int .i64 en.op.v, .int .i64 en.op.t], 38, c * 11⟩] := by
 refine (zoz vw nm bs im ea es ec n 1 [en] hb hl hs hec h3 w ha).mono fun e w' h => ?_
 obtain ⟨a, c, R, h1, _, h3, h4⟩ := h
 obtain ⟨_, ⟨h0, _, _, _⟩ | ⟨g, cap, hv, _, _, hr⟩⟩ := h3
 ·cases h0
 ·injection hv with e1 _ e3
  subst e1 e3 hr
  exact ⟨g, c, h1, h4⟩
theorem Hp.joinF {B : Nat} {w0 w w' : World} {L R : List Blk} (hp : Hp B w0 w L) (hpn : Hp w.heap.size w w' R) : Hp B w0 w' (R ++ L) := (hp.join hpn).kp
theorem zss (vw nm bs : Int) (im : ByteArray) (ea : Option Addr) (es : List Env) (ec : Nat) (n : Int) (hec : es.length ≤ ec) (w : World) (ha : zt w ea (es.flatMap Z1)) :
  Calls Tryz.prog 11 #[.agg #[.int .i64 vw, .int .i64 nm, .int .i64 bs, .string im, .slice ea es.length ec], .int .i64 n] w fun e w' => e = .returned (.bool true) ∧ Below w.heap.size w w' := by
 have hp := Hp.start w
 have HA := z0j ha
 have HEC := z0j hec
 clear ha hec
 by_cases hn1 : n < 0
 ·have e1 : decide (n < 0) = true := by simpa using hn1
  clear hn1
  go_enter Tryz.func11, Tryz.ntmps11
  go_wp2_with (first | (go_at_call 18; (with_reducible refine (zqs vw nm bs im ea es ec _).mono ?_); rintro e w1 ⟨bb, rfl, hbb, hb⟩; replace hp := hp.call hb; clear hb; cases bb) | go_skip | ((first | ((refine zf _ rfl ?_); refine lZ hp rfl zdW ?_; clear hp; intro b w1 hp) | ((refine zi _ _ rfl ?_); refine lB hp rfl (za rfl) rfl ?_; clear hp; intro b w1 hp) | ((refine ze _ _ rfl ?_); refine lA hp rfl (za rfl) Z9 zn ?_) | ((refine zd _ _ _ rfl ?_); (first | refine sA hp rfl (za rfl) (za rfl) Z9 zn ?_ | refine sG hp rfl (za rfl) (za rfl) Z9 zn ?_); clear hp; intro w1 hp; simp only [spl, z0a, z0b] at hp)); simp only [zc, zb, z0b, z0a]))
  all_goals
   go_wp2_with (first | go_skip | ((first | ((refine zf _ rfl ?_); refine lZ hp rfl zdW ?_; clear hp; intro b w1 hp) | ((refine zi _ _ rfl ?_); refine lB hp rfl (za rfl) rfl ?_; clear hp; intro b w1 hp) | ((refine ze _ _ rfl ?_); refine lA hp rfl (za rfl) Z9 zn ?_) | ((refine zd _ _ _ rfl ?_); (first | refine sA hp rfl (za rfl) (za rfl) Z9 zn ?_ | refine sG hp rfl (za rfl) (za rfl) Z9 zn ?_); clear hp; intro w1 hp; simp only [spl, z0a, z0b] at hp)); simp only [zc, zb, z0b, z0a]))
   go_ret
   exact ⟨rfl, hp.below⟩
 ·have e1 : decide (n < 0) = false := by simpa using hn1
  by_cases hn2 : 900000000 < n
  ·have e2 : decide (900000000 < n) = true := by simpa using hn2
   clear hn2 hn1
   go_enter Tryz.func11, Tryz.ntmps11
   go_wp2_with (first | (go_at_call 18; (with_reducible refine (zqs vw nm bs im ea es ec _).mono ?_); rintro e w1 ⟨bb, rfl, hbb, hb⟩; replace hp := hp.call hb; clear hb; cases bb) | go_skip | ((first | ((refine zf _ rfl ?_); refine lZ hp rfl zdW ?_; clear hp; intro b w1 hp) | ((refine zi _ _ rfl ?_); refine lB hp rfl (za rfl) rfl ?_; clear hp; intro b w1 hp) | ((refine ze _ _ rfl ?_); refine lA hp rfl (za rfl) Z9 zn ?_) | ((refine zd _ _ _ rfl ?_); (first | refine sA hp rfl (za rfl) (za rfl) Z9 zn ?_ | refine sG hp rfl (za rfl) (za rfl) Z9 zn ?_); clear hp; intro w1 hp; simp only [spl, z0a, z0b] at hp)); simp only [zc, zb, z0b, z0a]))
   all_goals
    go_wp2_with (first | go_skip | ((first | ((refine zf _ rfl ?_); refine lZ hp rfl zdW ?_; clear hp; intro b w1 hp) | ((refine zi _ _ rfl ?_); refine lB hp rfl (za rfl) rfl ?_; clear hp; intro b w1 hp) | ((refine ze _ _ rfl ?_); refine lA hp rfl (za rfl) Z9 zn ?_) | ((refine zd _ _ _ rfl ?_); (first | refine sA hp rfl (za rfl) (za rfl) Z9 zn ?_ | refine sG hp rfl (za rfl) (za rfl) Z9 zn ?_); clear hp; intro w1 hp; simp only [spl, z0a, z0b] at hp)); simp only [zc, zb, z0b, z0a]))
    go_ret
    exact ⟨rfl, hp.below⟩
  ·have e2 : decide (900000000 < n) = false := by simpa using hn2
   have e3 : wrap64 (n + 1) = n + 1 := by unfold wrap64; omega
   have HN1 : Hid (-1000000000 ≤ n) := z0j (by omega)
   have HN2 := z0j hn1
   clear hn1 hn2
   obtain ⟨c1, hc1⟩ : ∃ c, zdq ⟨vw, nm, bs, im, ea, es, ec⟩ n = c := ⟨_, rfl⟩
   obtain ⟨c2, hc2⟩ : ∃ c, zdq ⟨vw, nm, bs, im, ea, es, ec⟩ (n + 1) = c := ⟨_, rfl⟩
   have HE1 := z0j hc1
   have HE2 := z0j hc2
   obtain ⟨s1, hs1⟩ : ∃ s, stC ⟨vw, nm, bs, im, ea, es, ec⟩ n = s := ⟨_, rfl⟩
   obtain ⟨s2, hs2⟩ : ∃ s, stC ⟨vw, nm, bs, im, ea, es, ec⟩ (n + 1) = s := ⟨_, rfl⟩
   have HS1 := z0j hs1
   have HS2 := z0j hs2
   clear hs1 hs2 hc1 hc2
   go_enter Tryz.func11, Tryz.ntmps11
   go_wp2_with (first | (go_at_call 18; (with_reducible refine (zqs vw nm bs im ea es ec _).mono ?_); rintro e w1 ⟨bb, rfl, hbb, hb⟩; replace hp := hp.call hb; clear hb; cases bb) | go_skip | ((first | ((refine zf _ rfl ?_); refine lZ hp rfl zdW ?_; clear hp; intro b w1 hp) | ((refine zi _ _ rfl ?_); refine lB hp rfl (za rfl) rfl ?_; clear hp; intro b w1 hp) | ((refine ze _ _ rfl ?_); refine lA hp rfl (za rfl) Z9 zn ?_) | ((refine zd _ _ _ rfl ?_); (first | refine sA hp rfl (za rfl) (za rfl) Z9 zn ?_ | refine sG hp rfl (za rfl) (za rfl) Z9 zn ?_); clear hp; intro w1 hp; simp only [spl, z0a, z0b] at hp)); simp only [zc, zb, z0b, z0a]))
   ·obtain ⟨b1, b2, b3, b4⟩ := hbb (by first | rfl | trivial)
    have HSX : Hid (Kv.Small ⟨vw, nm, bs, im, ea, es, ec⟩) := z0j ⟨by simp only; omega, by simp only; omega⟩
    clear hbb b1 b2 b3 b4
    by_cases z1 : c1 = 0
    case neg =>
     have f1 : (c1 == 0) = false := by simpa using z1
     have HC1 := z0j z1
     clear z1
     by_cases z2 : c2 = 0
     ·subst z2
      go_wp2_with (first | (go_at_call 42; (with_reducible refine (zeT vw nm bs im ea es ec n c1 HC1.out HE1.out HSX.out _ (HA.out.below hp.below)).mono ?_); rintro e w1 ⟨rfl, hb⟩; replace hp := hp.call hb; clear hb) | (go_at_call 42; (with_reducible refine (zfe vw nm bs im ea es ec (n + 1) s2 HS2.out HE2.out HSX.out HEC.out _ (HA.out.below hp.below)).mono ?_); rintro e w1 ⟨odZ, oaZ, osZ, ocZ, nxZ, t0Z, t1Z, t2Z, t3Z, faZ, fsZ, fcZ, raZ, rsZ, rcZ, RZ, rfl, hyZ, hkZ, hpZ⟩; replace hp := hp.join hpZ; have HYZ := z0j hyZ; have HKZ := z0j hkZ; clear hpZ hyZ hkZ; simp only [z0f, z0e, z0i] at hp) | (go_at_call 44; (with_reducible refine (zer _).mono ?_); rintro e w1 ⟨rfl, hb⟩; replace hp := hp.call hb; clear hb) | go_skip | ((first | ((refine zf _ rfl ?_); refine lZ hp rfl zdW ?_; clear hp; intro b w1 hp) | ((refine zi _ _ rfl ?_); refine lB hp rfl (za rfl) rfl ?_; clear hp; intro b w1 hp) | ((refine ze _ _ rfl ?_); refine lA hp rfl (za rfl) Z9 zn ?_) | ((refine zd _ _ _ rfl ?_); (first | refine sA hp rfl (za rfl) (za rfl) Z9 zn ?_ | refine sG hp rfl (za rfl) (za rfl) Z9 zn ?_); clear hp; intro w1 hp; simp only [spl, z0a, z0b] at hp)); simp only [zc, zb, z0b, z0a]))
      go_ret
      exact ⟨rfl, hp.below⟩
     ·have f2 : (c2 == 0) = false := by simpa using z2
      have HC2 := z0j z2
      clear z2
      go_wp2_with (first | (go_at_call 42; (with_reducible refine (zeT vw nm bs im ea es ec n c1 HC1.out HE1.out HSX.out _ (HA.out.below hp.below)).mono ?_); rintro e w1 ⟨rfl, hb⟩; replace hp := hp.call hb; clear hb) | (go_at_call 42; (with_reducible refine (zeT vw nm bs im ea es ec (n + 1) c2 HC2.out HE2.out HSX.out _ (HA.out.below hp.below)).mono ?_); rintro e w1 ⟨rfl, hb⟩; replace hp := hp.call hb; clear hb) | (go_at_call 44; (with_reducible refine (zer _).mono ?_); rintro e w1 ⟨rfl, hb⟩; replace hp := hp.call hb; clear hb) | go_skip | ((first | ((refine zf _ rfl ?_); refine lZ hp rfl zdW ?_; clear hp; intro b w1 hp) | ((refine zi _ _ rfl ?_); refine lB hp rfl (za rfl) rfl ?_; clear hp; intro b w1 hp) | ((refine ze _ _ rfl ?_); refine lA hp rfl (za rfl) Z9 zn ?_) | ((refine zd _ _ _ rfl ?_); (first | refine sA hp rfl (za rfl) (za rfl) Z9 zn ?_ | refine sG hp rfl (za rfl) (za rfl) Z9 zn ?_); clear hp; intro w1 hp; simp only [spl, z0a, z0b] at hp)); simp only [zc, zb, z0b, z0a]))
      go_ret
      exact ⟨rfl, hp.below⟩
    subst z1
    by_cases z2 : c2 = 0
    case neg =>
     have f2 : (c2 == 0) = false := by simpa using z2
     have HC2 := z0j z2
     clear z2
     go_wp2_with (first | (go_at_call 42; (with_reducible refine (zfe vw nm bs im ea es ec n s1 HS1.out HE1.out HSX.out HEC.out _ (HA.out.below hp.below)).mono ?_); rintro e w1 ⟨odX, oaX, osX, ocX, nxX, t0X, t1X, t2X, t3X, faX, fsX, fcX, raX, rsX, rcX, RX, rfl, hyX, hkX, hpX⟩; replace hp := hp.join hpX; have HYX := z0j hyX; have HKX := z0j hkX; clear hpX hyX hkX; simp only [z0f, z0e, z0i] at hp) | (go_at_call 42; (with_reducible refine (zeT vw nm bs im ea es ec (n + 1) c2 HC2.out HE2.out HSX.out _ (HA.out.below hp.below)).mono ?_); rintro e w1 ⟨rfl, hb⟩; replace hp := hp.call hb; clear hb) | (go_at_call 44; (with_reducible refine (zer _).mono ?_); rintro e w1 ⟨rfl, hb⟩; replace hp := hp.call hb; clear hb) | go_skip | ((first | ((refine zf _ rfl ?_); refine lZ hp rfl zdW ?_; clear hp; intro b w1 hp) | ((refine zi _ _ rfl ?_); refine lB hp rfl (za rfl) rfl ?_; clear hp; intro b w1 hp) | ((refine ze _ _ rfl ?_); refine lA hp rfl (za rfl) Z9 zn ?_) | ((refine zd _ _ _ rfl ?_); (first | refine sA hp rfl (za rfl) (za rfl) Z9 zn ?_ | refine sG hp rfl (za rfl) (za rfl) Z9 zn ?_); clear hp; intro w1 hp; simp only [spl, z0a, z0b] at hp)); simp only [zc, zb, z0b, z0a]))
     go_ret
     exact ⟨rfl, hp.below⟩
    subst z2
    obtain ⟨g1, g2, g3⟩ := zd7 HE1.out
    obtain ⟨_, g4, g5⟩ := zd7 HE2.out
    have hl : (n - bs).toNat < es.length := by unfold zb4 at g5; simp only at g5 g2; omega
    obtain ⟨en, hen⟩ : ∃ en, es[(n - bs).toNat]? = some en := ⟨_, List.getElem?_eq_getElem hl⟩
    have hla : zlL ⟨vw, nm, bs, im, ea, es, ec⟩ n 1 = [en] := by
     unfold zlL
     unfold zb4 at g5
     simp only at g5 g2 ⊢
     rw [if_neg (by omega), show min (1 : Int).toNat (es.length - (n - bs).toNat) = 1 by simp; omega, List.take_one, List.head?_drop, hen]; rfl
    have hnx : (Z4 s1 en).1.Sm s2 := by
     rw [← HS1.out, ← HS2.out, zns g2 hen]; exact ⟨Hv.Sm.refl _, rfl⟩
    have hr1 : StR s1 := by rw [← HS1.out]; exact zhN g1 n
    have hr2 : StR s2 := by rw [← HS2.out]; exact zhN g1 (n + 1)
    have HB := z0j g1
    have HLA := z0j hla
    have HSM : Hid (∀ x : Sv, x.Sm s1 → x.Small) := z0j (fun x h => hr1.small.sm h.symm)
    obtain ⟨nu, vi, cl, sq, ⟨kk, hh, ii, nn, cc, vv, tt⟩⟩ := en
    have HNX := z0j hnx
    have HR2 := z0j hr2
    clear g1 g2 g3 g4 g5 hl hen hla hnx hr1 hr2
    go_wp2_with (first | (go_at_call 42; (with_reducible refine (zfe vw nm bs im ea es ec n s1 HS1.out HE1.out HSX.out HEC.out _ (HA.out.below hp.below)).mono ?_); rintro e w1 ⟨odX, oaX, osX, ocX, nxX, t0X, t1X, t2X, t3X, faX, fsX, fcX, raX, rsX, rcX, RX, rfl, hyX, hkX, hpX⟩; replace hp := hp.join hpX; have HYX := z0j hyX; have HKX := z0j hkX; clear hpX hyX hkX; simp only [z0f, z0e, z0i] at hp) | (go_at_call 42; (with_reducible refine (zfe vw nm bs im ea es ec (n + 1) s2 HS2.out HE2.out HSX.out HEC.out _ (HA.out.below hp.below)).mono ?_); rintro e w1 ⟨odZ, oaZ, osZ, ocZ, nxZ, t0Z, t1Z, t2Z, t3Z, faZ, fsZ, fcZ, raZ, rsZ, rcZ, RZ, rfl, hyZ, hkZ, hpZ⟩; replace hp := hp.join hpZ; have HYZ := z0j hyZ; have HKZ := z0j hkZ; clear hpZ hyZ hkZ; simp only [z0f, z0e, z0i] at hp) | (go_at_call 23; (with_reducible refine (zlk vw nm bs im ea es ec n ⟨nu, vi, cl, sq, ⟨kk, hh, ii, nn, cc, vv, tt⟩⟩ HB.out HLA.out HSX.out HEC.out HN1.out _ (HA.out.below hp.below)).mono ?_); rintro e w1 ⟨g, ca, rfl, hpn⟩; replace hp := hp.joinF hpn; clear hpn; simp only [z0f, z0e, z0i] at hp) | go_skip | ((first | ((refine zf _ rfl ?_); refine lZ hp rfl zdW ?_; clear hp; intro b w1 hp) | ((refine zi _ _ rfl ?_); refine lB hp rfl (za rfl) rfl ?_; clear hp; intro b w1 hp) | ((refine ze _ _ rfl ?_); refine lA hp rfl (za rfl) Z9 zn ?_) | ((refine zd _ _ _ rfl ?_); (first | refine sA hp rfl (za rfl) (za rfl) Z9 zn ?_ | refine sG hp rfl (za rfl) (za rfl) Z9 zn ?_); clear hp; intro w1 hp; simp only [spl, z0a, z0b] at hp)); simp only [zc, zb, z0b, z0a]))
    obtain ⟨b7, hb7⟩ := hp.id1
    obtain ⟨b5, hb5⟩ := hp.id2
    obtain ⟨b2, hb2⟩ := hp.id3
    subst hb7 hb5 hb2
    obtain ⟨⟨ss, rcc, rvv⟩, hd⟩ : ∃ r, Z4 ⟨⟨odX, oaX, osX, ocX, nxX, t0X, t1X, t2X, t3X, faX, fsX, fcX⟩, raX, rsX, rcX⟩ ⟨nu, vi, cl, sq, ⟨kk, hh, ii, nn, cc, vv, tt⟩⟩ = r := ⟨_, rfl⟩
    have hss : ss.Sm s2 := by
     have := (zhg HYX.out ⟨nu, vi, cl, sq, ⟨kk, hh, ii, nn, cc, vv, tt⟩⟩).2
     rw [hd] at this
     exact this.trans HNX.out
    have HD1 := z0j hd
    have HAZ : Hid (∀ y : Sv, y.Sm ss → ∀ z : Sv, z.Sm s2 → y.Sm z) := z0j (fun y h2 z h3 => (h2.trans hss).trans h3.symm)
    have HSA : Hid (∀ y : Sv, y.Sm ss → y.Small) := z0j (fun y h2 => HR2.out.small.sm (h2.trans hss).symm)
    clear hd hss
    apply zf0 (R := fun bh br y w' => Hid (y.Sm ss) ∧ ∃ RY, Hid (ZF RY fun w => y.Is w) ∧ Hp w.heap.size w w' (⟨br, [.int .i64 rcc, .int .i64 rvv], 71, 2⟩ :: ⟨bh, svL y, 67, 9⟩ :: ⟨b7, [.int .i64 odZ, .slice oaZ osZ.length ocZ, .int .i64 nxZ, .int .i64 t0Z, .int .i64 t1Z, .int .i64 t2Z, .int .i64 t3Z, .slice faZ fsZ.length fcZ, .slice raZ rsZ.length rcZ], 67, 9⟩ :: (RY ++ (RX ++ RZ))))
    case h =>
     refine Z6 [_, _] (zu.two hp.drew at0 at2) [] (.take 0 (.take 1 (.take 2 (.take 3 (.three 4 (.take 5 (.take 6 (.take 7 (.two 8 (.one 9 (.one 10 (.one 11 .nil))) 9 (.one 8 (.one 10 (.one 11 .nil))))))) 8 (.two 4 (.take 5 (.take 6 (.take 7 (.one 9 (.one 10 (.one 11 .nil)))))) 9 (.one 4 (.take 5 (.take 6 (.take 7 (.one 10 (.one 11 .nil))))))) 9 (.two 4 (.take 5 (.take 6 (.take 7 (.one 8 (.one 10 (.one 11 .nil)))))) 8 (.one 4 (.take 5 (.take 6 (.take 7 (.one 10 (.one 11 .nil)))))))))))) (by kernel_rfl) (by kernel_rfl) (by kernel_rfl) (by kernel_rfl) (fun _ _ d _ _ h => by cases d <;> exact h) ?_
     replace hp := hp.drew
     repeat' (with_reducible refine zeM ?_); first | (with_reducible refine zdt ?_) | ((with_reducible refine zco ?_); refine zw rfl ?_; (first | ((with_reducible refine zW _ rfl ?_); refine tM rfl ?_) | ((with_reducible refine zX _ _ rfl ?_); refine tA rfl (za rfl) (by with_reducible first | exact Zu | exact zaa) zn ?_) | refine tG (fun w _ => (by go_simp; try rfl)) ?_); refine zeQ ?_; try simp only [zc, zb, zj, zg, z0b, z0a, z0d, z0c, zl]) | ((first | refine zdM (zar rfl (fun K hK => ?_)) | refine zdJ (zar rfl (fun K hK => ?_)) (zar rfl (fun K hK => ?_)) | refine zfD (zar rfl (fun K hK => ?_)) (zar rfl (fun K hK => ?_)) (zar rfl (fun K hK => ?_))) <;> (go_wp2_with (first | (go_at_call 47; (with_reducible refine (zjq odX oaX osX ocX nxX t0X t1X t2X t3X faX fsX fcX raX rsX rcX nu vi cl sq kk hh ii nn cc vv tt _ HD1.out (HSM.out _ HYX.out) _ (HKX.out.at hp (fun p hm => by simp [hm]))).mono ?_); rintro e w1 ⟨y, RY, rfl, hy, hk, _, hpY⟩; replace hp := hp.join hpY; have HYN := z0j hy; have HKN := z0j hk; clear hpY hy hk; simp only [z0f, z0e, z0i] at hp) | ((refine zf 67 rfl ?_); refine lZ hp rfl Za ?_; clear hp; intro bh w1 hp; simp only [zc, zb, z0b, z0a]) | ((refine zf 71 rfl ?_); refine lZ hp rfl zJ ?_; clear hp; intro br w1 hp; simp only [zc, zb, z0b, z0a]) | go_skip | ((first | ((refine zf _ rfl ?_); refine lZ hp rfl zdW ?_; clear hp; intro b w1 hp) | ((refine zd _ _ _ rfl ?_); (first | refine sA hp rfl (za rfl) (za rfl) Z9 zn ?_ | refine sG hp rfl (za rfl) (za rfl) Z9 zn ?_); clear hp; intro w1 hp; simp only [spl, z0a, z0b] at hp)); simp only [zc, zb, z0b, z0a])); (refine hK.out _ _ (.inr (zu.two hp zn zn)) ?_); clear hK K; try simp only [zc, zb, zj, zg, z0b, z0a, z0d, z0c, zl]))
     all_goals exact ⟨bh, br, y, rfl, HYN, RY, HKN, hp.kp⟩
    clear hp
    rintro bA bAr y w1 ⟨HYA, RA, HKA, hp⟩
    obtain ⟨⟨odA, oaA, osA, ocA, nxA, t0A, t1A, t2A, t3A, faA, fsA, fcA⟩, raA, rsA, rcA⟩ := y
    simp only [svL, hvL, z0f, z0e] at hp ⊢
    go_wp2_with (first | (go_at_call 44; (with_reducible refine (zer _).mono ?_); rintro e w1 ⟨rfl, hb⟩; replace hp := hp.call hb; clear hb) | (go_at_call 39; (with_reducible refine (zpz odA oaA osA ocA nxA t0A t1A t2A t3A faA fsA fcA raA rsA rcA odZ oaZ osZ ocZ nxZ t0Z t1Z t2Z t3Z faZ fsZ fcZ raZ rsZ rcZ (HSA.out _ HYA.out) (HAZ.out _ HYA.out _ HYZ.out) _ (HKA.out.at hp (fun p hm => by simp [hm])) (HKZ.out.at hp (fun p hm => by simp [hm]))).mono ?_); rintro e w1 ⟨rfl, hb⟩; replace hp := hp.call hb; clear hb) | go_skip | ((first | ((refine zf _ rfl ?_); refine lZ hp rfl zdW ?_; clear hp; intro b w1 hp) | ((refine zi _ _ rfl ?_); refine lB hp rfl (za rfl) rfl ?_; clear hp; intro b w1 hp) | ((refine ze _ _ rfl ?_); refine lA hp rfl (za rfl) Z9 zn ?_) | ((refine zd _ _ _ rfl ?_); (first | refine sA hp rfl (za rfl) (za rfl) Z9 zn ?_ | refine sG hp rfl (za rfl) (za rfl) Z9 zn ?_); clear hp; intro w1 hp; simp only [spl, z0a, z0b] at hp)); simp only [zc, zb, z0b, z0a]))
    go_ret
    exact ⟨rfl, hp.below⟩
   ·go_wp2_with (first | go_skip | ((first | ((refine zf _ rfl ?_); refine lZ hp rfl zdW ?_; clear hp; intro b w1 hp) | ((refine zi _ _ rfl ?_); refine lB hp rfl (za rfl) rfl ?_; clear hp; intro b w1 hp) | ((refine ze _ _ rfl ?_); refine lA hp rfl (za rfl) Z9 zn ?_) | ((refine zd _ _ _ rfl ?_); (first | refine sA hp rfl (za rfl) (za rfl) Z9 zn ?_ | refine sG hp rfl (za rfl) (za rfl) Z9 zn ?_); clear hp; intro w1 hp; simp only [spl, z0a, z0b] at hp)); simp only [zc, zb, z0b, z0a]))
    go_ret
    exact ⟨rfl, hp.below⟩
end Go.Proofs.YtjcbpfbifbfkcaaGreat
