import Derived.Test.YtjcbpfbifbfkcaaGreatTx27
import Derived.Test.YtjcbpfbifbfkcaaGreatTx2
import Derived.Test.YtjcbpfbifbfkcaaGreatTx23
import Derived.Test.YtjcbpfbifbfkcaaGreatTx19
set_option linter.unusedSimpArgs false
set_option linter.unusedVariables false
set_option maxRecDepth 100000
set_option maxHeartbeats 60000000
namespace Go.Proofs.YtjcbpfbifbfkcaaGreat
open Go.RowKit
theorem zkW {ty : TypeId} {k : Nat} (h : Z6 Tryz.prog ty k = true := by with_reducible first | exact zk | exact zF | exact zly) : Z6 Tryz.prog ty k = true := h
theorem zmV {ty : TypeId} (h : zx Tryz.prog ty = true := by with_reducible first | exact zn | exact Zy | exact zB | exact zaj | exact zX) : zx Tryz.prog ty = true := h
noncomputable def zaT (x : Kv) (r : Rv) : Int × Kv := if okC x = true then Zh x r else (1, x)
def zmp (w : World) (r : Int × Kv) (e : Ending) (w' : World) : Prop :=
 (r.1 = 0 → ∃ a c R, e = .returned (.tuple #[.agg #[.int .i64 r.2.vw, .int .i64 r.2.nm, .int .i64 r.2.bs, .string r.2.im, .slice a r.2.es.length c], .int .i64 0]) ∧ r.2.es.length ≤ c ∧ zw 38 11 (.slice a r.2.es.length c) r.2.es.length (r.2.es.flatMap zQ) R ∧ Hp w.heap.size w w' R) ∧
 (r.1 ≠ 0 → e = .returned (.tuple #[.agg #[.int .i64 0, .int .i64 0, .int .i64 0, .string ⟨#[]⟩, .slice none 0 0], .int .i64 r.1]) ∧ Below w.heap.size w w')
def at_ (x : Kv) (a : Option Addr) (c : Nat) : Kv := ⟨x.vw, x.nm, x.bs, x.im, a, x.es, c⟩
theorem zkS (x : Kv) (r : Rv) (a : Option Addr) (c : Nat) : ZW (at_ x a c) r = ((ZW x r).1, at_ (ZW x r).2 a c) := by
 unfold ZW zO at_
 simp only
 repeat' split
 all_goals rfl
theorem zkB (x : Kv) (r : Rv) (a : Option Addr) (c : Nat) : Zh (at_ x a c) r = ((Zh x r).1, at_ (Zh x r).2 a c) := by
 unfold Zh
 rw [zkS]
 simp only
 have : okC (at_ (ZW x r).2 a c) = okC (ZW x r).2 := zbm ⟨rfl, rfl, rfl, rfl, rfl⟩
 rw [this]
 repeat' split
 all_goals rfl
theorem zhV {B : Nat} {w0 w : World} {b1 b2 b3 b4 : Blk} {R : List Blk} (hp : Hp B w0 w (b1 :: b2 :: b3 :: b4 :: R)) : Hp B w0 w (b1 :: (R ++ [b2, b3, b4])) := hp.kp
theorem zkF {B : Nat} {w0 w : World} {b1 b2 b3 b4 : Blk} {R : List Blk} (hp : Hp B w0 w (b1 :: (R ++ [b2, b3, b4]))) : Hp B w0 w (b1 :: b2 :: b3 :: b4 :: R) := hp.kp
theorem zfd (bw : Nat) (vw nm bs : Int) (im : ByteArray) (ea ad : Option Addr) (es : List Env) (ec cd : Nat) (kd rv rf rn : Int) (rim : ByteArray) (nu vi cl sq kk hh ii nn cc vv tt : Int) (ra : Option Addr) (rs : List Env) (rc : Nat) {R TT : List Blk} {w0 w : World} (hR : zw 38 11 (.slice ad es.length cd) es.length (es.flatMap zQ) R) (hec : es.length ≤ cd) (hes : es.length ≤ 1500) (him : im.size ≤ 1000000) (hrs : rs.length ≤ 1500) (hrc : rs.length ≤ rc) (hri : rim.size ≤ 1000000) (hok : okC ⟨vw, nm, bs, im, ea, es, ec⟩ = true)
  (c : Int) (y : Kv) (hk : Zh ⟨vw, nm, bs, im, ea, es, ec⟩ ⟨kd, rv, rf, rn, rim, ⟨nu, vi, cl, sq, ⟨kk, hh, ii, nn, cc, vv, tt⟩⟩, ra, rs, rc⟩ = (c, y)) (hp : Hp w0.heap.size w0 w (⟨bw, [.int .i64 vw, .int .i64 nm, .int .i64 bs, .string im, .slice ad es.length cd], 108, 5⟩ :: (R ++ TT))) (ha : zm w0 ra (rs.flatMap zQ)) :
  Calls Tryz.prog 63 #[.pointer (some ⟨bw, 0, none⟩), .agg #[.int .i64 kd, .int .i64 rv, .int .i64 rf, .int .i64 rn, .string rim, .int .i64 nu, .int .i64 vi, .int .i64 cl, .int .i64 sq, .int .i64 kk, .int .i64 hh, .int .i64 ii, .int .i64 nn, .int .i64 cc, .int .i64 vv, .int .i64 tt, .slice ra rs.length rc]] w fun e w' => e = .returned (.int .i64 c) ∧ (c = 0 → ∃ a cp R, y.es.length ≤ cp ∧ zw 38 11 (.slice a y.es.length cp) y.es.length (y.es.flatMap zQ) R ∧ Hp w0.heap.size w0 w' (⟨bw, [.int .i64 y.vw, .int .i64 y.nm, .int .i64 y.bs, .string y.im, .slice a y.es.length cp], 108, 5⟩ :: (R ++ TT))) ∧ (c ≠ 0 → Hp w0.heap.size w0 w' TT) := by
 have hok2 : okC ⟨vw, nm, bs, im, ad, es, cd⟩ = true := by rw [← hok]; exact zbm ⟨rfl, rfl, rfl, rfl, rfl⟩
 have h := zle bw vw nm bs im ad es cd rv rf rn rim nu vi cl sq kk hh ii nn cc vv tt ra rs rc hR hec hes him hrs hrc hri hok2 kd hp ha
 have h2 := zkB ⟨vw, nm, bs, im, ea, es, ec⟩ ⟨kd, rv, rf, rn, rim, ⟨nu, vi, cl, sq, ⟨kk, hh, ii, nn, cc, vv, tt⟩⟩, ra, rs, rc⟩ ad cd
 rw [hk] at h2
 rw [show (⟨vw, nm, bs, im, ad, es, cd⟩ : Kv) = at_ ⟨vw, nm, bs, im, ea, es, ec⟩ ad cd from rfl, h2] at h
 exact h
theorem zhQ (vw nm bs : Int) (im : ByteArray) (ea : Option Addr) (es : List Env) (ec : Nat) (kd rv rf rn : Int) (rim : ByteArray) (nu vi cl sq kk hh ii nn cc vv tt : Int) (ra : Option Addr) (rs : List Env) (rc : Nat) (r : Int × Kv) (hr : zaT ⟨vw, nm, bs, im, ea, es, ec⟩ ⟨kd, rv, rf, rn, rim, ⟨nu, vi, cl, sq, ⟨kk, hh, ii, nn, cc, vv, tt⟩⟩, ra, rs, rc⟩ = r)
  (hes : es.length ≤ 1500) (him : im.size ≤ 1000000) (hrs : rs.length ≤ 1500) (hrc : rs.length ≤ rc) (hri : rim.size ≤ 1000000) (w : World) (ha : zm w ea (es.flatMap zQ)) (hra : zm w ra (rs.flatMap zQ)) :
  Calls Tryz.prog 19 #[.agg #[.int .i64 vw, .int .i64 nm, .int .i64 bs, .string im, .slice ea es.length ec], .agg #[.int .i64 kd, .int .i64 rv, .int .i64 rf, .int .i64 rn, .string rim, .int .i64 nu, .int .i64 vi, .int .i64 cl, .int .i64 sq, .int .i64 kk, .int .i64 hh, .int .i64 ii, .int .i64 nn, .int .i64 cc, .int .i64 vv, .int .i64 tt, .slice ra rs.length rc]] w (zmp w r) := by
 subst hr
 have hp := Hp.start w
 have HA := z0j ha
 have HRA := z0j hra
 have HEL : Hid (es.length ≤ 100000) := z0j (by omega)
 have HE1 := z0j hes
 have HR1 := z0j hrs
 have HIM := z0j him
 have HRC := z0j hrc
 have HRI := z0j hri
 have HSS : Hid (Kv.Small ⟨vw, nm, bs, im, ea, es, ec⟩) := z0j ⟨by simp only; omega, him⟩
 cases hok : okC ⟨vw, nm, bs, im, ea, es, ec⟩ with
 | false =>
  have hf : zaT ⟨vw, nm, bs, im, ea, es, ec⟩ ⟨kd, rv, rf, rn, rim, ⟨nu, vi, cl, sq, ⟨kk, hh, ii, nn, cc, vv, tt⟩⟩, ra, rs, rc⟩ = (1, ⟨vw, nm, bs, im, ea, es, ec⟩) := by unfold zaT; rw [if_neg (by rw [hok]; decide)]
  rw [hf]
  have HB := z0j hok
  clear hok hf hes him hrs hrc hri ha hra
  go_enter Tryz.func19, Tryz.ntmps19
  go_wp2_with (first | (go_at_call 21; (with_reducible refine (Zb vw nm bs im ea es ec _ HB.out HSS.out _ (HA.out.below hp.below)).mono ?_); rintro e w1 ⟨rfl, hb⟩; replace hp := hp.call hb; clear hb; simp only [if_true, Bool.false_eq_true, if_false]) | go_skip | ((first | ((refine zf _ rfl ?_); refine lZ hp rfl Zz ?_; clear hp; intro b w1 hp) | ((refine zg _ _ rfl ?_); refine lB hp rfl (za rfl) rfl ?_; clear hp; intro b w1 hp) | ((refine ze _ _ rfl ?_); first | refine lO hp rfl (za rfl) zB aa5 ?_ | refine lA hp rfl (za rfl) zkW aa5 ?_) | ((refine zd _ _ _ rfl ?_); (first | refine sO hp rfl (za rfl) zB aa5 ?_ | refine sA hp rfl (za rfl) (za rfl) zk aa5 ?_ | refine sG hp rfl (za rfl) (za rfl) zk aa5 ?_); clear hp; intro w1 hp; simp only [spl, z0a, z0b] at hp)); simp only [zc, zb, z0b, z0a]))
  exact bodyPost_ret (zu (rs := [.cell 4 28, .tmp 5]) Tryz.results19 (.cell rfl (hp.loadAgg zk at0 0 _ (by rfl) (by rfl)) (.tmp rfl .nil))) rfl ⟨fun h => absurd h (by show (1 : Int) ≠ 0; decide), fun _ => ⟨rfl, hp.below⟩⟩
 | true =>
  have HB := z0j hok
  have HOK : Hid (∀ a c, okC ⟨vw, nm, bs, im, a, es, c⟩ = true) := z0j (fun a c => by rw [← hok]; exact zbm ⟨rfl, rfl, rfl, rfl, rfl⟩)
  have hfo : zaT ⟨vw, nm, bs, im, ea, es, ec⟩ ⟨kd, rv, rf, rn, rim, ⟨nu, vi, cl, sq, ⟨kk, hh, ii, nn, cc, vv, tt⟩⟩, ra, rs, rc⟩ = Zh ⟨vw, nm, bs, im, ea, es, ec⟩ ⟨kd, rv, rf, rn, rim, ⟨nu, vi, cl, sq, ⟨kk, hh, ii, nn, cc, vv, tt⟩⟩, ra, rs, rc⟩ := by unfold zaT; rw [if_pos hok]
  rw [hfo]
  obtain ⟨⟨c, ⟨vw', nm', bs', im', ea', es', ec'⟩⟩, hk⟩ : ∃ p, Zh ⟨vw, nm, bs, im, ea, es, ec⟩ ⟨kd, rv, rf, rn, rim, ⟨nu, vi, cl, sq, ⟨kk, hh, ii, nn, cc, vv, tt⟩⟩, ra, rs, rc⟩ = p := ⟨_, rfl⟩
  rw [hk]
  have HFK := z0j hk
  clear hok hfo hes him hrs hrc hri ha hra hk
  by_cases hc : c = 0
  ·subst hc
   go_enter Tryz.func19, Tryz.ntmps19
   go_wp2_with (first | (go_at_call 21; (with_reducible refine (Zb vw nm bs im ea es ec _ HB.out HSS.out _ (HA.out.below hp.below)).mono ?_); rintro e w1 ⟨rfl, hb⟩; replace hp := hp.call hb; clear hb; simp only [if_true, Bool.false_eq_true, if_false]) | (go_at_call 62; (with_reducible refine (ZZ es _ _ ec rfl HEL.out _ (HA.out.below hp.below)).mono ?_); rintro e w1 ⟨ad, cd, RD, rfl, hcd, hrd, hpn⟩; replace hp := hp.join hpn; have HCD := z0j hcd; have HRD := z0j (zw.of_own hrd); clear hpn hcd hrd; simp only [z0f, z0e, z0i] at hp) | (go_at_call 63; (with_reducible refine (zfd _ vw nm bs im ea ad es ec cd kd rv rf rn rim nu vi cl sq kk hh ii nn cc vv tt ra rs rc HRD.out HCD.out HE1.out HIM.out HR1.out HRC.out HRI.out HB.out 0 _ HFK.out (zhV hp) HRA.out).mono ?_); rintro e w1 ⟨rfl, hq, _⟩; clear hp; obtain ⟨ax, cx, RX, hcx, hrx, hp⟩ := hq rfl; clear hq; have HCX := z0j hcx; have HRX := z0j hrx; clear hcx hrx; replace hp := zkF hp) | go_skip | ((first | ((refine zf _ rfl ?_); refine lZ hp rfl Zz ?_; clear hp; intro b w1 hp) | ((refine zg _ _ rfl ?_); refine lB hp rfl (za rfl) rfl ?_; clear hp; intro b w1 hp) | ((refine ze _ _ rfl ?_); first | refine lO hp rfl (za rfl) zB aa5 ?_ | refine lA hp rfl (za rfl) zkW aa5 ?_) | ((refine zd _ _ _ rfl ?_); (first | refine sO hp rfl (za rfl) zB aa5 ?_ | refine sA hp rfl (za rfl) (za rfl) zk aa5 ?_ | refine sG hp rfl (za rfl) (za rfl) zk aa5 ?_); clear hp; intro w1 hp; simp only [spl, z0a, z0b] at hp)); simp only [zc, zb, z0b, z0a]))
   exact bodyPost_ret (zu (rs := [.cell 4 28, .tmp 5]) Tryz.results19 (.cell rfl (hp.loadAgg zk at1 0 _ (by rfl) (by rfl)) (.tmp rfl .nil))) rfl ⟨fun _ => ⟨ax, cx, RX, rfl, HCX.out, HRX.out, hp.kp⟩, fun h => absurd rfl h⟩
  ·have HC0 : Hid (c ≠ 0) := z0j hc
   have e1 : (c == 0) = false := by simpa using hc
   clear hc
   go_enter Tryz.func19, Tryz.ntmps19
   go_wp2_with (first | (go_at_call 21; (with_reducible refine (Zb vw nm bs im ea es ec _ HB.out HSS.out _ (HA.out.below hp.below)).mono ?_); rintro e w1 ⟨rfl, hb⟩; replace hp := hp.call hb; clear hb; simp only [if_true, Bool.false_eq_true, if_false]) | (go_at_call 62; (with_reducible refine (ZZ es _ _ ec rfl HEL.out _ (HA.out.below hp.below)).mono ?_); rintro e w1 ⟨ad, cd, RD, rfl, hcd, hrd, hpn⟩; replace hp := hp.join hpn; have HCD := z0j hcd; have HRD := z0j (zw.of_own hrd); clear hpn hcd hrd; simp only [z0f, z0e, z0i] at hp) | (go_at_call 63; (with_reducible refine (zfd _ vw nm bs im ea ad es ec cd kd rv rf rn rim nu vi cl sq kk hh ii nn cc vv tt ra rs rc HRD.out HCD.out HE1.out HIM.out HR1.out HRC.out HRI.out HB.out c _ HFK.out (zhV hp) HRA.out).mono ?_); rintro e w1 ⟨rfl, _, hq⟩; clear hp; have hp := hq HC0.out; clear hq) | go_skip | ((first | ((refine zf _ rfl ?_); refine lZ hp rfl Zz ?_; clear hp; intro b w1 hp) | ((refine zg _ _ rfl ?_); refine lB hp rfl (za rfl) rfl ?_; clear hp; intro b w1 hp) | ((refine ze _ _ rfl ?_); first | refine lO hp rfl (za rfl) zB aa5 ?_ | refine lA hp rfl (za rfl) zkW aa5 ?_) | ((refine zd _ _ _ rfl ?_); (first | refine sO hp rfl (za rfl) zB aa5 ?_ | refine sA hp rfl (za rfl) (za rfl) zk aa5 ?_ | refine sG hp rfl (za rfl) (za rfl) zk aa5 ?_); clear hp; intro w1 hp; simp only [spl, z0a, z0b] at hp)); simp only [zc, zb, z0b, z0a]))
   exact bodyPost_ret (zu (rs := [.cell 4 28, .tmp 5]) Tryz.results19 (.cell rfl (hp.loadAgg zk at0 0 _ (by rfl) (by rfl)) (.tmp rfl .nil))) rfl ⟨fun h => absurd h HC0.out, fun _ => ⟨rfl, hp.below⟩⟩
open Go.RowKit
theorem zgo {ty : TypeId} {k : Nat} (h : Z6 Tryz.prog ty k = true := by with_reducible first | exact ZH | exact zN | exact zR) : Z6 Tryz.prog ty k = true := h
theorem zl6 {ty : TypeId} (h : zx Tryz.prog ty = true := by with_reducible first | exact zn | exact Zy | exact zba | exact zdd | exact zaN | exact zX) : zx Tryz.prog ty = true := h
theorem zfA (o : Int) (h : Zd o = true) (w : World) : Calls Tryz.prog 114 #[.int .i64 o] w (ziM w (zby o) 0) := by
 have hp := Hp.start w
 have K := z0j (zgx o h)
 clear h
 go_enter Tryz.func114, Tryz.ntmps114
 go_wp2_with (first | (go_at_call 93; ((with_reducible refine (K.out _).mono ?_); rintro e w1 ⟨⟨od, oa, os, oc, nx, t0, t1, t2, t3, fa, fs, fc⟩, R, rfl, hsm, hk, hp5⟩; replace hp := hp.join hp5; have HSM := z0j hsm; have HK := z0j hk; clear hp5 hsm hk; simp only [z0f, z0e, hvL] at hp ⊢)) | go_skip | ((first | ((refine zf _ rfl ?_); refine lZ hp rfl (by with_reducible first | exact Zi | exact ZK) ?_; clear hp; intro b w1 hp) | ((refine ze _ _ rfl ?_); refine lA hp rfl (za rfl) zN zW ?_) | ((refine zd _ _ _ rfl ?_); (first | refine sA hp rfl (za rfl) (za rfl) zgo zW ?_ | refine sG hp rfl (za rfl) (za rfl) zgo zW ?_); clear hp; intro w1 hp; simp only [spl, z0a, z0b] at hp)); simp only [zc, zb, z0b, z0a]))
 exact bodyPost_ret (zu (rs := [.cell 2 67, .tmp 3]) Tryz.results114 (.cell rfl (hp.loadAgg ZH at1 0 _ (by rfl) (by rfl)) (.tmp rfl .nil))) rfl ⟨⟨⟨od, oa, os, oc, nx, t0, t1, t2, t3, fa, fs, fc⟩, none, [], 0⟩, R, rfl, ⟨HSM.out, rfl⟩, (HK.out.mono (fun _ h => h) (fun w h => ⟨h, zm.nil _ _⟩)), hp.tail.tail⟩
open Go.RowKit
theorem zlZ {ty : TypeId} {k : Nat} (h : Z6 Tryz.prog ty k = true := by with_reducible first | exact zk | exact ZH | exact zF | exact zr) : Z6 Tryz.prog ty k = true := h
theorem zmT {ty : TypeId} (h : zx Tryz.prog ty = true := by with_reducible first | exact zn | exact Zy | exact zX) : zx Tryz.prog ty = true := h
theorem ZA : zbz Tryz.prog 40 = some ([.int .i64 0, .int .i64 0, .int .i64 0, .int .i64 0, .string ⟨#[]⟩, .int .i64 0, .int .i64 0, .int .i64 0, .int .i64 0, .int .i64 0, .int .i64 0, .int .i64 0, .int .i64 0, .int .i64 0, .int .i64 0, .int .i64 0, .slice none 0 0], 17) := by kernel_rfl
def st3 : Sv := ⟨zby 3, none, [], 0⟩
def b36 : List Nat := zb0 st3
theorem zhw : zao b36 := by
 intro x hx
 have : b36 = [0, 0, 0, 28] ++ b28 ++ [0, 0, 0, 0] := rfl
 rw [this] at hx
 simp [b28] at hx
 omega
theorem zfb : StR st3 := ⟨zbW zgB, rfl⟩
theorem zhc : zab b36 = some (zfc st3) := zg5 zfb ⟨(fun o ho => by cases ho), (fun r hr => by cases hr)⟩
def im3 : ByteArray := strOfNums (nI b36)
theorem zf0 : zbV im3 = b36 := zcq zhw
theorem ziR : im3.size = 36 := by rw [← ZQ, zf0]; rfl
theorem zgU : zab (zbV im3) = some (zfc st3) := by rw [zf0]; exact zhc
def zmx (w : World) (e : Ending) (w' : World) : Prop := ∃ od oa os oc nx t0 t1 t2 t3 fa fs fc ra rs rc R, e = .returned (.tuple #[.agg #[.int .i64 od, .slice oa (List.length os) oc, .int .i64 nx, .int .i64 t0, .int .i64 t1, .int .i64 t2, .int .i64 t3, .slice fa (List.length fs) fc, .slice ra (List.length rs) rc], .int .i64 0]) ∧ Sv.Sm ⟨⟨od, oa, os, oc, nx, t0, t1, t2, t3, fa, fs, fc⟩, ra, rs, rc⟩ st3 ∧ zaa R (fun w => Sv.Is w ⟨⟨od, oa, os, oc, nx, t0, t1, t2, t3, fa, fs, fc⟩, ra, rs, rc⟩) ∧ Hp w.heap.size w w' R
theorem zlc (w : World) : Calls Tryz.prog 114 #[.int .i64 3] w (zmx w) := by
 refine (zfA 3 rfl w).mono fun e w' h => ?_
 obtain ⟨y, R, h1, h2, h3, h4⟩ := h
 obtain ⟨⟨od, oa, os, oc, nx, t0, t1, t2, t3, fa, fs, fc⟩, ra, rs, rc⟩ := y
 exact ⟨od, oa, os, oc, nx, t0, t1, t2, t3, fa, fs, fc, ra, rs, rc, R, h1, h2, h3, h4⟩
theorem zlJ (od : Int) (oa : Option Addr) (os : List Ob) (oc : Nat) (nx t0 t1 t2 t3 : Int) (fa : Option Addr) (fs : List Bl) (fc : Nat) (ra : Option Addr) (rs : List Rw) (rc : Nat) (hsm : Sv.Sm ⟨⟨od, oa, os, oc, nx, t0, t1, t2, t3, fa, fs, fc⟩, ra, rs, rc⟩ st3) (w : World) (hx0 : Sv.Is w ⟨⟨od, oa, os, oc, nx, t0, t1, t2, t3, fa, fs, fc⟩, ra, rs, rc⟩) :
  Calls Tryz.prog 35 #[.agg #[.int .i64 od, .slice oa os.length oc, .int .i64 nx, .int .i64 t0, .int .i64 t1, .int .i64 t2, .int .i64 t3, .slice fa fs.length fc, .slice ra rs.length rc]] w fun e w' => ∃ a c R, e = .returned (.tuple #[.slice a 36 c, .int .i64 0]) ∧ zaa R (fun w => zm w a (b36.flatMap byV)) ∧ Hp w.heap.size w w' R := by
 have hb : stB ⟨⟨od, oa, os, oc, nx, t0, t1, t2, t3, fa, fs, fc⟩, ra, rs, rc⟩ = true := (zic hsm).trans (zjH zfb)
 have h := zg3 _ hb w hx0
 rw [zik hsm] at h
 refine h.mono fun e w' h => ?_
 obtain ⟨a, c, R, h1, h2, h3⟩ := h
 exact ⟨a, c, R, h1, h2.keptS, h3⟩
theorem zjM (w : World) : Calls Tryz.prog 64 #[.int .i64 3] w fun e w' => e = .returned (.tuple #[.agg #[.int .i64 0, .int .i64 0, .int .i64 0, .string im3, .slice none 0 0], .int .i64 0]) ∧ Below w.heap.size w w' := by
 have hp := Hp.start w
 have HNI : Hid ((nI b36).length = 36) := z0j (by rw [zho]; rfl)
 go_enter Tryz.func64, Tryz.ntmps64
 go_wp2_with (first | (go_at_call 114; (with_reducible refine (zlc _).mono ?_); rintro e w1 ⟨od, oa, os, oc, nx, t0, t1, t2, t3, fa, fs, fc, ra, rs, rc, RN, rfl, hsm, hk, hpn⟩; replace hp := hp.join hpn; have HSM := z0j hsm; have HK := z0j hk; clear hpn hsm hk; simp only [z0f, z0e] at hp) | (go_at_call 35; (with_reducible refine (zlJ od oa os oc nx t0 t1 t2 t3 fa fs fc ra rs rc HSM.out _ (HK.out.at hp (fun p hm => by simp [hm]))).mono ?_); rintro e w1 ⟨ab, cb, RB, rfl, hkb, hpn⟩; replace hp := hp.join hpn; have HKB := z0j hkb; clear hpn hkb; simp only [z0f, z0e] at hp) | ((refine Zx _ _ _ rfl ?_); refine zay 74 9 5 _ rfl wy Tryz.underlying74 Tryz.underlying5 Tryz.underlying9 ab 36 cb (za rfl) (nI b36) HNI.out (by rw [zd6]; exact HKB.out.at hp (by intro p hp2; simp [hp2])) ?_; simp only [zc, zb, z0b, z0a]) | go_skip | ((first | ((refine zf _ rfl ?_); refine lZ hp rfl (by with_reducible first | exact Zz | exact Zi | exact ZA | exact zZ) ?_; clear hp; intro b w1 hp) | ((refine ze _ _ rfl ?_); refine lA hp rfl (za rfl) ZH aa5 ?_) | ((refine zd _ _ _ rfl ?_); (first | refine sA hp rfl (za rfl) (za rfl) zlZ aa5 ?_ | refine sG hp rfl (za rfl) (za rfl) zlZ aa5 ?_); clear hp; intro w1 hp; simp only [spl, z0a, z0b] at hp)); simp only [zc, zb, z0b, z0a]))
 exact bodyPost_ret (zu (rs := [.cell 2 28, .tmp 3]) Tryz.results64 (.cell rfl (hp.loadAgg zk at1 0 _ (by rfl) (by rfl)) (.tmp rfl .nil))) rfl ⟨rfl, hp.below⟩
open Go.RowKit
def En (n : Int) : Env := ⟨n, 0, 0, 0, ⟨0, 0, 0, 0, 0, 0, 0⟩⟩
def okP (x : Kv) : Bool := inM x.vw 0 900000000 && (inM x.nm 0 x.vw && (inM x.bs 0 900000000 && (decide (x.es.length ≤ 4000) && (zaB x.bs 0 x.es && zdo x.nm 0 x.es))))
theorem zcx {x : Kv} (h : okP x = true) (hi : x.im = im3) : okC x = true := by
 unfold okP at h
 simp only [Bool.and_eq_true] at h
 obtain ⟨h1, h2, h3, h4, h5, h6⟩ := h
 unfold okC
 rw [h1, h2, h3, h4, h5, h6, hi, zgU]; rfl
theorem zev {x y : Kv} {r : Rv} (hx : okP x = true) (hi : x.im = im3) (hm : ZW x r = (0, y)) (hy : okP y = true) (hj : y.im = im3) : zaT x r = (0, y) := by
 unfold zaT
 rw [if_pos (zcx hx hi)]
 unfold Zh
 rw [hm, if_pos rfl, if_pos (zcx hy hj)]
theorem zh0 (vw nm bs : Int) (im : ByteArray) (ea : Option Addr) (es : List Env) (n ec : Nat) (hn : es.length = n) (kd rv rf rn : Int) (rim : ByteArray) (nu vi cl sq kk hh ii nn cc vv tt : Int) (ra : Option Addr) (rs : List Env) (m rc : Nat) (hm : rs.length = m) (vw' nm' bs' : Int) (im' : ByteArray) (es' : List Env) (q : Nat) (hq : es'.length = q) (a0 : Option Addr) (c0 : Nat) (hr : zaT ⟨vw, nm, bs, im, ea, es, ec⟩ ⟨kd, rv, rf, rn, rim, ⟨nu, vi, cl, sq, ⟨kk, hh, ii, nn, cc, vv, tt⟩⟩, ra, rs, rc⟩ = (0, ⟨vw', nm', bs', im', a0, es', c0⟩)) (hes : n ≤ 1500) (him : im.size ≤ 1000000) (hrs : m ≤ 1500) (hrc : m ≤ rc) (hri : rim.size ≤ 1000000) (w : World) (ha : zm w ea (es.flatMap zQ)) (hra : zm w ra (rs.flatMap zQ)) :
  Calls Tryz.prog 19 #[.agg #[.int .i64 vw, .int .i64 nm, .int .i64 bs, .string im, .slice ea n ec], .agg #[.int .i64 kd, .int .i64 rv, .int .i64 rf, .int .i64 rn, .string rim, .int .i64 nu, .int .i64 vi, .int .i64 cl, .int .i64 sq, .int .i64 kk, .int .i64 hh, .int .i64 ii, .int .i64 nn, .int .i64 cc, .int .i64 vv, .int .i64 tt, .slice ra m rc]] w fun e w' => ∃ a c R, e = .returned (.tuple #[.agg #[.int .i64 vw', .int .i64 nm', .int .i64 bs', .string im', .slice a q c], .int .i64 0]) ∧ q ≤ c ∧ zw 38 11 (.slice a q c) q (es'.flatMap zQ) R ∧ Hp w.heap.size w w' R := by
 subst hn hm hq
 refine (zhQ vw nm bs im ea es ec kd rv rf rn rim nu vi cl sq kk hh ii nn cc vv tt ra rs rc _ hr hes him hrs hrc hri w ha hra).mono fun e w' h => ?_
 obtain ⟨a, c, R, h1, h2, h3, h4⟩ := h.1 rfl
 exact ⟨a, c, R, h1, h2, h3, h4⟩
theorem zj3 (vw nm bs : Int) (im : ByteArray) (ea : Option Addr) (es : List Env) (n ec : Nat) (hn : es.length = n) (kd rv rf rn : Int) (rim : ByteArray) (nu vi cl sq kk hh ii nn cc vv tt : Int) (ra : Option Addr) (rs : List Env) (m rc : Nat) (hm : rs.length = m) (c0 : Int) (y : Kv) (hc : c0 ≠ 0) (hr : zaT ⟨vw, nm, bs, im, ea, es, ec⟩ ⟨kd, rv, rf, rn, rim, ⟨nu, vi, cl, sq, ⟨kk, hh, ii, nn, cc, vv, tt⟩⟩, ra, rs, rc⟩ = (c0, y)) (hes : n ≤ 1500) (him : im.size ≤ 1000000) (hrs : m ≤ 1500) (hrc : m ≤ rc) (hri : rim.size ≤ 1000000) (w : World) (ha : zm w ea (es.flatMap zQ)) (hra : zm w ra (rs.flatMap zQ)) :
  Calls Tryz.prog 19 #[.agg #[.int .i64 vw, .int .i64 nm, .int .i64 bs, .string im, .slice ea n ec], .agg #[.int .i64 kd, .int .i64 rv, .int .i64 rf, .int .i64 rn, .string rim, .int .i64 nu, .int .i64 vi, .int .i64 cl, .int .i64 sq, .int .i64 kk, .int .i64 hh, .int .i64 ii, .int .i64 nn, .int .i64 cc, .int .i64 vv, .int .i64 tt, .slice ra m rc]] w fun e w' => e = .returned (.tuple #[.agg #[.int .i64 0, .int .i64 0, .int .i64 0, .string ⟨#[]⟩, .slice none 0 0], .int .i64 c0]) ∧ Below w.heap.size w w' := by
 subst hn hm
 refine (zhQ vw nm bs im ea es ec kd rv rf rn rim nu vi cl sq kk hh ii nn cc vv tt ra rs rc _ hr hes him hrs hrc hri w ha hra).mono fun e w' h => ?_
 exact h.2 hc
theorem zeQ : im3.size ≤ 1000000 := by rw [ziR]; decide
open Go.RowKit
theorem zb9 : (⟨#[]⟩ : ByteArray).size ≤ 1000000 := by decide
theorem zen {P : Program} {c : Code} {Q : Exit → Act → World → Prop} {a : Act} {w : World} {A : Nat → Option Addr → Nat → Act} (R : Nat → Option Addr → Nat → World → Prop)
  (h : c.wp P (fun e a' w' => match e with | .normal => ∃ x y z, a' = A x y z ∧ R x y z w' | _ => False) a w) (k : ∀ x y z w', R x y z w' → Q .normal (A x y z) w') : c.wp P Q a w :=
 Code.wp_mono (fun e a' w' hq => by cases e <;> first | exact hq.elim | (obtain ⟨x, y, z, ha, hr⟩ := hq; subst ha; exact k x y z w' hr)) h
theorem zeh {P : Program} {c : Code} {Q : Exit → Act → World → Prop} {a : Act} {w : World} {A : Nat → Act} (R : Nat → World → Prop)
  (h : c.wp P (fun e a' w' => match e with | .normal => ∃ x, a' = A x ∧ R x w' | _ => False) a w) (k : ∀ x w', R x w' → Q .normal (A x) w') : c.wp P Q a w :=
 Code.wp_mono (fun e a' w' hq => by cases e <;> first | exact hq.elim | (obtain ⟨x, ha, hr⟩ := hq; subst ha; exact k x w' hr)) h
open Go.RowKit
theorem zga : ∀ {l : List Env} {nm v : Int}, zdo nm v l = true → ∀ e ∈ l, zew e = true
 | [], _, _, _, e, he => by cases he
 | x :: r, nm, v, h, e, he => by
  unfold zdo at h
  simp only [Bool.and_eq_true] at h
  rcases List.mem_cons.1 he with rfl | he
  ·exact h.1
  ·exact zga h.2.2 e he
theorem zlH {e : Env} (h : zew e = true) : 1 ≤ e.nu ∧ e.nu ≤ 900000000 := by
 unfold zew at h
 simp only [Bool.and_eq_true, inM, decide_eq_true_eq] at h
 exact h.1.1
theorem zjV {fr : Int} : ∀ {l : List Env} {q : Nat}, q + l.length ≤ 100000 → (∀ e ∈ l, 1 ≤ e.nu ∧ e.nu ≤ 900000000) → zaB fr q l = true → ∀ (i : Nat) (h : i < l.length), l[i].nu = fr + 1 + (q + i : Nat)
 | [], _, _, _, _, i, h => by simp at h
 | e :: r, q, hq, hn, hf, i, h => by
  unfold zaB at hf
  rw [Bool.and_eq_true, decide_eq_true_eq] at hf
  obtain ⟨h1, h2⟩ := hf
  have he := hn e (by simp)
  simp only [z0g] at hq
  have e1 : wrap64 (e.nu - 1) = e.nu - 1 := by unfold wrap64; omega
  rw [e1] at h1
  have e2 : wrap64 (e.nu - 1 - (q : Int)) = e.nu - 1 - (q : Int) := by unfold wrap64; omega
  rw [e2] at h1
  cases i with
  | zero => simp only [List.getElem_cons_zero]; omega
  | succ i =>
   have h3 := zjV (l := r) (q := q + 1) (by omega) (fun x hx => hn x (by simp [hx])) h2 i (by simpa using h)
   simp only [List.getElem_cons_succ]
   rw [h3]; push_cast; omega
theorem zmn {x : Kv} (h : okC x = true) : ∀ (i : Nat) (hi : i < x.es.length), x.es[i].nu = x.bs + 1 + (i : Nat) ∧ 1 ≤ x.es[i].nu := by
 have hf := Ze h
 unfold okC at h
 simp only [Bool.and_eq_true] at h
 obtain ⟨_, _, _, _, h5, h6, _⟩ := h
 intro i hi
 have hm : ∀ e ∈ x.es, 1 ≤ e.nu ∧ e.nu ≤ 900000000 := fun e he => zlH (zga h6 e he)
 have h1 := zjV (q := 0) (by omega) hm h5 i hi
 rw [Nat.zero_add] at h1
 exact ⟨h1, (hm _ (List.getElem_mem hi)).1⟩
theorem zkM {x : Kv} {n : Int} (h : okC x = true) (hl : x.bs ≤ n) : zg7 x n 4000 = x.es.drop (n - x.bs).toNat := by
 have hf := Ze h
 unfold zg7
 by_cases hc : x.bs + x.es.length ≤ n
 ·rw [if_pos (.inr hc), List.drop_eq_nil_of_le (by omega)]
 ·rw [if_neg (by omega), List.take_of_length_le (by rw [List.length_drop]; omega)]
open Go.RowKit
theorem zhL {ty : TypeId} (h : zx Tryz.prog ty = true := by with_reducible first | exact zn | exact Zy | exact zB | exact zaj) : zx Tryz.prog ty = true := h
def zmD (w : World) (n m p q : Nat) (e : Ending) (w' : World) : Prop := ∃ bb, e = .returned (.bool bb) ∧ (bb = false → n ≤ 300 ∧ m ≤ 300 ∧ p ≤ 100000 ∧ q ≤ 100000) ∧ Below w.heap.size w w'
theorem zmf (vw nm bs : Int) (im : ByteArray) (ea : Option Addr) (es : List Env) (ec : Nat) (kd rv rf rn : Int) (rim : ByteArray) (nu vi cl sq kk hh ii nn cc vv tt : Int) (ra : Option Addr) (rs : List Env) (rc : Nat) (w : World) : Calls Tryz.prog 18 #[.agg #[.int .i64 vw, .int .i64 nm, .int .i64 bs, .string im, .slice ea es.length ec], .agg #[.int .i64 kd, .int .i64 rv, .int .i64 rf, .int .i64 rn, .string rim, .int .i64 nu, .int .i64 vi, .int .i64 cl, .int .i64 sq, .int .i64 kk, .int .i64 hh, .int .i64 ii, .int .i64 nn, .int .i64 cc, .int .i64 vv, .int .i64 tt, .slice ra rs.length rc]] w (zmD w es.length rs.length im.size rim.size) := by
 have hp := Hp.start w
 by_cases h1 : es.length ≤ 300
 ·have e1 : decide ((300 : Int) < (es.length : Int)) = false := by simp; omega
  by_cases h2 : rs.length ≤ 300
  ·have e2 : decide ((300 : Int) < (rs.length : Int)) = false := by simp; omega
   by_cases h3 : im.size ≤ 100000
   ·have e3 : decide ((100000 : Int) < (im.size : Int)) = false := by simp; omega
    by_cases h4 : rim.size ≤ 100000
    ·have e4 : decide ((100000 : Int) < (rim.size : Int)) = false := by simp; omega
     go_enter Tryz.func18, Tryz.ntmps18
     go_wp2_with (first | go_skip | ((first | ((refine zg _ _ rfl ?_); refine lB hp rfl (za rfl) rfl ?_; clear hp; intro b w1 hp) | ((refine ze _ _ rfl ?_); refine lO hp rfl (za rfl) zhL aa5 ?_)); simp only [zc, zb, z0b, z0a]))
     go_ret
     exact ⟨_, rfl, fun _ => ⟨h1, h2, h3, h4⟩, hp.below⟩
    ·have e4 : decide ((100000 : Int) < (rim.size : Int)) = true := by simp; omega
     go_enter Tryz.func18, Tryz.ntmps18
     go_wp2_with (first | go_skip | ((first | ((refine zg _ _ rfl ?_); refine lB hp rfl (za rfl) rfl ?_; clear hp; intro b w1 hp) | ((refine ze _ _ rfl ?_); refine lO hp rfl (za rfl) zhL aa5 ?_)); simp only [zc, zb, z0b, z0a]))
     go_ret
     exact ⟨true, rfl, fun h => (by cases h), hp.below⟩
   ·have e3 : decide ((100000 : Int) < (im.size : Int)) = true := by simp; omega
    go_enter Tryz.func18, Tryz.ntmps18
    go_wp2_with (first | go_skip | ((first | ((refine zg _ _ rfl ?_); refine lB hp rfl (za rfl) rfl ?_; clear hp; intro b w1 hp) | ((refine ze _ _ rfl ?_); refine lO hp rfl (za rfl) zhL aa5 ?_)); simp only [zc, zb, z0b, z0a]))
    go_ret
    exact ⟨true, rfl, fun h => (by cases h), hp.below⟩
  ·have e2 : decide ((300 : Int) < (rs.length : Int)) = true := by simp; omega
   go_enter Tryz.func18, Tryz.ntmps18
   go_wp2_with (first | go_skip | ((first | ((refine zg _ _ rfl ?_); refine lB hp rfl (za rfl) rfl ?_; clear hp; intro b w1 hp) | ((refine ze _ _ rfl ?_); refine lO hp rfl (za rfl) zhL aa5 ?_)); simp only [zc, zb, z0b, z0a]))
   go_ret
   exact ⟨true, rfl, fun h => (by cases h), hp.below⟩
 ·have e1 : decide ((300 : Int) < (es.length : Int)) = true := by simp; omega
  go_enter Tryz.func18, Tryz.ntmps18
  go_wp2_with (first | go_skip | ((first | ((refine zg _ _ rfl ?_); refine lB hp rfl (za rfl) rfl ?_; clear hp; intro b w1 hp) | ((refine ze _ _ rfl ?_); refine lO hp rfl (za rfl) zhL aa5 ?_)); simp only [zc, zb, z0b, z0a]))
  go_ret
  exact ⟨true, rfl, fun h => (by cases h), hp.below⟩
open Go.RowKit
theorem Hp.joinF {B : Nat} {w0 w w' : World} {L R : List Blk} (hp : Hp B w0 w L) (hpn : Hp w.heap.size w w' R) : Hp B w0 w' (R ++ L) := (hp.join hpn).kp
end Go.Proofs.YtjcbpfbifbfkcaaGreat
