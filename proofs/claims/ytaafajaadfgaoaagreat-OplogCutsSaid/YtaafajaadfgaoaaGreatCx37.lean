import Derived.Test.YtaafajaadfgaoaaGreatCx36
import Derived.Test.YtaafajaadfgaoaaGreatCx32
import Derived.Test.YtaafajaadfgaoaaGreatCx2
import Derived.Test.YtaafajaadfgaoaaGreatCx30
set_option linter.unusedSimpArgs false
set_option linter.unusedVariables false
set_option maxRecDepth 100000
set_option maxHeartbeats 60000000
namespace Go.Proofs.YtaafajaadfgaoaaGreat
open Go.RowKit
theorem zle {ty : TypeId} {k : Nat} (h : ZB Tryz.prog ty k = true := by with_reducible first | exact zbf | exact zfM | exact zsK) : ZB Tryz.prog ty k = true := h
theorem zoH {ty : TypeId} (h : zy Tryz.prog ty = true := by with_reducible first | exact zr | exact Ze | exact zaj | exact zd2 | exact Zb) : zy Tryz.prog ty = true := h
noncomputable def zbm (x : Kv) (r : Rv) : Int × Kv := if okC x = true then Zu x r else (1, x)
def zuf (w : World) (r : Int × Kv) (e : Ending) (w' : World) : Prop :=
 (r.1 = 0 → ∃ a c R, e = .returned (.tuple #[.agg #[.int .i64 r.2.vw, .int .i64 r.2.nm, .int .i64 r.2.bs, .string r.2.im, .slice a r.2.es.length c], .int .i64 0]) ∧ r.2.es.length ≤ c ∧ zB 31 11 (.slice a r.2.es.length c) r.2.es.length (r.2.es.flatMap Zy) R ∧ Hp w.heap.size w w' R) ∧
 (r.1 ≠ 0 → e = .returned (.tuple #[.agg #[.int .i64 0, .int .i64 0, .int .i64 0, .string ⟨#[]⟩, .slice none 0 0], .int .i64 r.1]) ∧ Below w.heap.size w w')
def at_ (x : Kv) (a : Option Addr) (c : Nat) : Kv := ⟨x.vw, x.nm, x.bs, x.im, a, x.es, c⟩
theorem zrP (x : Kv) (r : Rv) (a : Option Addr) (c : Nat) : zat (at_ x a c) r = ((zat x r).1, at_ (zat x r).2 a c) := by
 unfold zat zaM at_
 simp only
 repeat' split
 all_goals rfl
theorem zrr (x : Kv) (r : Rv) (a : Option Addr) (c : Nat) : Zu (at_ x a c) r = ((Zu x r).1, at_ (Zu x r).2 a c) := by
 unfold Zu
 rw [zrP]
 simp only
 have : okC (at_ (zat x r).2 a c) = okC (zat x r).2 := zfp ⟨rfl, rfl, rfl, rfl, rfl⟩
 rw [this]
 repeat' split
 all_goals rfl
theorem zoa {B : Nat} {w0 w : World} {b1 b2 b3 b4 : Blk} {R : List Blk} (hp : Hp B w0 w (b1 :: b2 :: b3 :: b4 :: R)) : Hp B w0 w (b1 :: (R ++ [b2, b3, b4])) := hp.kp
theorem zr3 {B : Nat} {w0 w : World} {b1 b2 b3 b4 : Blk} {R : List Blk} (hp : Hp B w0 w (b1 :: (R ++ [b2, b3, b4]))) : Hp B w0 w (b1 :: b2 :: b3 :: b4 :: R) := hp.kp
theorem zhP (bw : Nat) (vw nm bs : Int) (im : ByteArray) (ea ad : Option Addr) (es : List Env) (ec cd : Nat) (kd rv rf rn : Int) (rim : ByteArray) (nu vi cl sq kk hh ii nn cc vv tt : Int) (ra : Option Addr) (rs : List Env) (rc : Nat) {R TT : List Blk} {w0 w : World} (hR : zB 31 11 (.slice ad es.length cd) es.length (es.flatMap Zy) R) (hec : es.length ≤ cd) (hes : es.length ≤ 1500) (him : im.size ≤ 1000000) (hrs : rs.length ≤ 1500) (hrc : rs.length ≤ rc) (hri : rim.size ≤ 1000000) (hok : okC ⟨vw, nm, bs, im, ea, es, ec⟩ = true)
  (c : Int) (y : Kv) (hk : Zu ⟨vw, nm, bs, im, ea, es, ec⟩ ⟨kd, rv, rf, rn, rim, ⟨nu, vi, cl, sq, ⟨kk, hh, ii, nn, cc, vv, tt⟩⟩, ra, rs, rc⟩ = (c, y)) (hp : Hp w0.heap.size w0 w (⟨bw, [.int .i64 vw, .int .i64 nm, .int .i64 bs, .string im, .slice ad es.length cd], 103, 5⟩ :: (R ++ TT))) (ha : zm w0 ra (rs.flatMap Zy)) :
  Calls Tryz.prog 70 #[.pointer (some ⟨bw, 0, none⟩), .agg #[.int .i64 kd, .int .i64 rv, .int .i64 rf, .int .i64 rn, .string rim, .int .i64 nu, .int .i64 vi, .int .i64 cl, .int .i64 sq, .int .i64 kk, .int .i64 hh, .int .i64 ii, .int .i64 nn, .int .i64 cc, .int .i64 vv, .int .i64 tt, .slice ra rs.length rc]] w fun e w' => e = .returned (.int .i64 c) ∧ (c = 0 → ∃ a cp R, y.es.length ≤ cp ∧ zB 31 11 (.slice a y.es.length cp) y.es.length (y.es.flatMap Zy) R ∧ Hp w0.heap.size w0 w' (⟨bw, [.int .i64 y.vw, .int .i64 y.nm, .int .i64 y.bs, .string y.im, .slice a y.es.length cp], 103, 5⟩ :: (R ++ TT))) ∧ (c ≠ 0 → Hp w0.heap.size w0 w' TT) := by
 have hok2 : okC ⟨vw, nm, bs, im, ad, es, cd⟩ = true := by rw [← hok]; exact zfp ⟨rfl, rfl, rfl, rfl, rfl⟩
 have h := zs5 bw vw nm bs im ad es cd rv rf rn rim nu vi cl sq kk hh ii nn cc vv tt ra rs rc hR hec hes him hrs hrc hri hok2 kd hp ha
 have h2 := zrr ⟨vw, nm, bs, im, ea, es, ec⟩ ⟨kd, rv, rf, rn, rim, ⟨nu, vi, cl, sq, ⟨kk, hh, ii, nn, cc, vv, tt⟩⟩, ra, rs, rc⟩ ad cd
 rw [hk] at h2
 rw [show (⟨vw, nm, bs, im, ad, es, cd⟩ : Kv) = at_ ⟨vw, nm, bs, im, ea, es, ec⟩ ad cd from rfl, h2] at h
 exact h
theorem zmK (vw nm bs : Int) (im : ByteArray) (ea : Option Addr) (es : List Env) (ec : Nat) (kd rv rf rn : Int) (rim : ByteArray) (nu vi cl sq kk hh ii nn cc vv tt : Int) (ra : Option Addr) (rs : List Env) (rc : Nat) (r : Int × Kv) (hr : zbm ⟨vw, nm, bs, im, ea, es, ec⟩ ⟨kd, rv, rf, rn, rim, ⟨nu, vi, cl, sq, ⟨kk, hh, ii, nn, cc, vv, tt⟩⟩, ra, rs, rc⟩ = r)
  (hes : es.length ≤ 1500) (him : im.size ≤ 1000000) (hrs : rs.length ≤ 1500) (hrc : rs.length ≤ rc) (hri : rim.size ≤ 1000000) (w : World) (ha : zm w ea (es.flatMap Zy)) (hra : zm w ra (rs.flatMap Zy)) :
  Calls Tryz.prog 16 #[.agg #[.int .i64 vw, .int .i64 nm, .int .i64 bs, .string im, .slice ea es.length ec], .agg #[.int .i64 kd, .int .i64 rv, .int .i64 rf, .int .i64 rn, .string rim, .int .i64 nu, .int .i64 vi, .int .i64 cl, .int .i64 sq, .int .i64 kk, .int .i64 hh, .int .i64 ii, .int .i64 nn, .int .i64 cc, .int .i64 vv, .int .i64 tt, .slice ra rs.length rc]] w (zuf w r) := by
 subst hr
 have hp := Hp.start w
 have HA := z0j ha
 have HRA := z0j hra
 have HEL : Hid (es.length ≤ 100000) := z0j (by omega)
 have HE1 := z0j hes
 have HR1 := z0j hrs
 have HIM := z0j him
 have HRC := z0j hrc
 have HRI := z0j hri
 have HSS : Hid (Kv.Small ⟨vw, nm, bs, im, ea, es, ec⟩) := z0j ⟨by simp only; omega, him⟩
 cases hok : okC ⟨vw, nm, bs, im, ea, es, ec⟩ with
 | false =>
  have hf : zbm ⟨vw, nm, bs, im, ea, es, ec⟩ ⟨kd, rv, rf, rn, rim, ⟨nu, vi, cl, sq, ⟨kk, hh, ii, nn, cc, vv, tt⟩⟩, ra, rs, rc⟩ = (1, ⟨vw, nm, bs, im, ea, es, ec⟩) := by unfold zbm; rw [if_neg (by rw [hok]; decide)]
  rw [hf]
  have HB := z0j hok
  clear hok hf hes him hrs hrc hri ha hra
  go_enter Tryz.func16, Tryz.ntmps16
  go_wp2_with (first | (go_at_call 64; (with_reducible refine (zaK vw nm bs im ea es ec _ HB.out HSS.out _ (HA.out.below hp.below)).mono ?_); rintro e w1 ⟨rfl, hb⟩; replace hp := hp.call hb; clear hb; simp only [if_true, Bool.false_eq_true, if_false]) | ((first | ((refine zi _ rfl ?_); refine lZ hp rfl zaR ?_; clear hp; intro b w1 hp) | ((refine zk _ _ rfl ?_); refine lB hp rfl (za rfl) rfl ?_; clear hp; intro b w1 hp) | ((refine zd _ _ rfl ?_); first | refine lA hp rfl (za rfl) zle aa5 ?_) | ((refine zg _ _ _ rfl ?_); (first | refine sA hp rfl (za rfl) (za rfl) zle aa5 ?_); clear hp; intro w1 hp; simp only [spl, z0a, z0b] at hp)); simp only [zc, zb, z0b, z0a]))
  exact bodyPost_ret (zx (rs := [.cell 4 24, .tmp 5]) Tryz.results16 (.cell rfl (hp.loadAgg zbf at0 0 _ (by rfl) (by rfl)) (.tmp rfl .nil))) rfl ⟨fun h => absurd h (by show (1 : Int) ≠ 0; decide), fun _ => ⟨rfl, hp.below⟩⟩
 | true =>
  have HB := z0j hok
  have HOK : Hid (∀ a c, okC ⟨vw, nm, bs, im, a, es, c⟩ = true) := z0j (fun a c => by rw [← hok]; exact zfp ⟨rfl, rfl, rfl, rfl, rfl⟩)
  have hfo : zbm ⟨vw, nm, bs, im, ea, es, ec⟩ ⟨kd, rv, rf, rn, rim, ⟨nu, vi, cl, sq, ⟨kk, hh, ii, nn, cc, vv, tt⟩⟩, ra, rs, rc⟩ = Zu ⟨vw, nm, bs, im, ea, es, ec⟩ ⟨kd, rv, rf, rn, rim, ⟨nu, vi, cl, sq, ⟨kk, hh, ii, nn, cc, vv, tt⟩⟩, ra, rs, rc⟩ := by unfold zbm; rw [if_pos hok]
  rw [hfo]
  obtain ⟨⟨c, ⟨vw', nm', bs', im', ea', es', ec'⟩⟩, hk⟩ : ∃ p, Zu ⟨vw, nm, bs, im, ea, es, ec⟩ ⟨kd, rv, rf, rn, rim, ⟨nu, vi, cl, sq, ⟨kk, hh, ii, nn, cc, vv, tt⟩⟩, ra, rs, rc⟩ = p := ⟨_, rfl⟩
  rw [hk]
  have HFK := z0j hk
  clear hok hfo hes him hrs hrc hri ha hra hk
  by_cases hc : c = 0
  ·subst hc
   go_enter Tryz.func16, Tryz.ntmps16
   go_wp2_with (first | (go_at_call 64; (with_reducible refine (zaK vw nm bs im ea es ec _ HB.out HSS.out _ (HA.out.below hp.below)).mono ?_); rintro e w1 ⟨rfl, hb⟩; replace hp := hp.call hb; clear hb; simp only [if_true, Bool.false_eq_true, if_false]) | (go_at_call 67; (with_reducible refine (zd3 es _ _ ec rfl HEL.out _ (HA.out.below hp.below)).mono ?_); rintro e w1 ⟨ad, cd, RD, rfl, hcd, hrd, hpn⟩; replace hp := hp.join hpn; have HCD := z0j hcd; have HRD := z0j (zB.of_own hrd); clear hpn hcd hrd; simp only [z0f, z0e, z0i] at hp) | (go_at_call 70; (with_reducible refine (zhP _ vw nm bs im ea ad es ec cd kd rv rf rn rim nu vi cl sq kk hh ii nn cc vv tt ra rs rc HRD.out HCD.out HE1.out HIM.out HR1.out HRC.out HRI.out HB.out 0 _ HFK.out (zoa hp) HRA.out).mono ?_); rintro e w1 ⟨rfl, hq, _⟩; clear hp; obtain ⟨ax, cx, RX, hcx, hrx, hp⟩ := hq rfl; clear hq; have HCX := z0j hcx; have HRX := z0j hrx; clear hcx hrx; replace hp := zr3 hp) | ((first | ((refine zi _ rfl ?_); refine lZ hp rfl zaR ?_; clear hp; intro b w1 hp) | ((refine zk _ _ rfl ?_); refine lB hp rfl (za rfl) rfl ?_; clear hp; intro b w1 hp) | ((refine zd _ _ rfl ?_); first | refine lO hp rfl (za rfl) zoH aa5 ?_ | refine lA hp rfl (za rfl) zle aa5 ?_) | ((refine zg _ _ _ rfl ?_); (first | refine sO hp rfl (za rfl) zoH aa5 ?_ | refine sA hp rfl (za rfl) (za rfl) zle aa5 ?_); clear hp; intro w1 hp; simp only [spl, z0a, z0b] at hp)); simp only [zc, zb, z0b, z0a]))
   exact bodyPost_ret (zx (rs := [.cell 4 24, .tmp 5]) Tryz.results16 (.cell rfl (hp.loadAgg zbf at1 0 _ (by rfl) (by rfl)) (.tmp rfl .nil))) rfl ⟨fun _ => ⟨ax, cx, RX, rfl, HCX.out, HRX.out, hp.kp⟩, fun h => absurd rfl h⟩
  ·have HC0 : Hid (c ≠ 0) := z0j hc
   have e1 : (c == 0) = false := by simpa using hc
   clear hc
   go_enter Tryz.func16, Tryz.ntmps16
   go_wp2_with (first | (go_at_call 64; (with_reducible refine (zaK vw nm bs im ea es ec _ HB.out HSS.out _ (HA.out.below hp.below)).mono ?_); rintro e w1 ⟨rfl, hb⟩; replace hp := hp.call hb; clear hb; simp only [if_true, Bool.false_eq_true, if_false]) | (go_at_call 67; (with_reducible refine (zd3 es _ _ ec rfl HEL.out _ (HA.out.below hp.below)).mono ?_); rintro e w1 ⟨ad, cd, RD, rfl, hcd, hrd, hpn⟩; replace hp := hp.join hpn; have HCD := z0j hcd; have HRD := z0j (zB.of_own hrd); clear hpn hcd hrd; simp only [z0f, z0e, z0i] at hp) | (go_at_call 70; (with_reducible refine (zhP _ vw nm bs im ea ad es ec cd kd rv rf rn rim nu vi cl sq kk hh ii nn cc vv tt ra rs rc HRD.out HCD.out HE1.out HIM.out HR1.out HRC.out HRI.out HB.out c _ HFK.out (zoa hp) HRA.out).mono ?_); rintro e w1 ⟨rfl, _, hq⟩; clear hp; have hp := hq HC0.out; clear hq) | ((first | ((refine zi _ rfl ?_); refine lZ hp rfl zaR ?_; clear hp; intro b w1 hp) | ((refine zk _ _ rfl ?_); refine lB hp rfl (za rfl) rfl ?_; clear hp; intro b w1 hp) | ((refine zd _ _ rfl ?_); first | refine lO hp rfl (za rfl) zoH aa5 ?_ | refine lA hp rfl (za rfl) zle aa5 ?_) | ((refine zg _ _ _ rfl ?_); (first | refine sO hp rfl (za rfl) zoH aa5 ?_ | refine sA hp rfl (za rfl) (za rfl) zle aa5 ?_); clear hp; intro w1 hp; simp only [spl, z0a, z0b] at hp)); simp only [zc, zb, z0b, z0a]))
   exact bodyPost_ret (zx (rs := [.cell 4 24, .tmp 5]) Tryz.results16 (.cell rfl (hp.loadAgg zbf at0 0 _ (by rfl) (by rfl)) (.tmp rfl .nil))) rfl ⟨fun h => absurd h HC0.out, fun _ => ⟨rfl, hp.below⟩⟩
open Go.RowKit
theorem zgK : ∀ {l : List Env} {nm v : Int}, zbP nm v l = true → ∀ e ∈ l, zc0 e = true
 | [], _, _, _, e, he => by cases he
 | x :: r, nm, v, h, e, he => by
  unfold zbP at h
  simp only [Bool.and_eq_true] at h
  rcases List.mem_cons.1 he with rfl | he
  ·exact h.1
  ·exact zgK h.2.2 e he
theorem zqN {e : Env} (h : zc0 e = true) : 1 ≤ e.nu ∧ e.nu ≤ 900000000 := by
 unfold zc0 at h
 simp only [Bool.and_eq_true, inM, decide_eq_true_eq] at h
 exact h.1.1
theorem zqw {fr : Int} : ∀ {l : List Env} {q : Nat}, q + l.length ≤ 100000 → (∀ e ∈ l, 1 ≤ e.nu ∧ e.nu ≤ 900000000) → zeP fr q l = true → ∀ (i : Nat) (h : i < l.length), l[i].nu = fr + 1 + (q + i : Nat)
 | [], _, _, _, _, i, h => by simp at h
 | e :: r, q, hq, hn, hf, i, h => by
  unfold zeP at hf
  rw [Bool.and_eq_true, decide_eq_true_eq] at hf
  obtain ⟨h1, h2⟩ := hf
  have he := hn e (by simp)
  simp only [z0g] at hq
  have e1 : wrap64 (e.nu - 1) = e.nu - 1 := by unfold wrap64; omega
  rw [e1] at h1
  have e2 : wrap64 (e.nu - 1 - (q : Int)) = e.nu - 1 - (q : Int) := by unfold wrap64; omega
  rw [e2] at h1
  cases i with
  | zero => simp only [List.getElem_cons_zero]; omega
  | succ i =>
   have h3 := zqw (l := r) (q := q + 1) (by omega) (fun x hx => hn x (by simp [hx])) h2 i (by simpa using h)
   simp only [List.getElem_cons_succ]
   rw [h3]; push_cast; omega
theorem ztu {x : Kv} (h : okC x = true) : ∀ (i : Nat) (hi : i < x.es.length), x.es[i].nu = x.bs + 1 + (i : Nat) ∧ 1 ≤ x.es[i].nu := by
 have hf := zbh h
 unfold okC at h
 simp only [Bool.and_eq_true] at h
 obtain ⟨_, _, _, _, h5, h6, _⟩ := h
 intro i hi
 have hm : ∀ e ∈ x.es, 1 ≤ e.nu ∧ e.nu ≤ 900000000 := fun e he => zqN (zgK h6 e he)
 have h1 := zqw (q := 0) (by omega) hm h5 i hi
 rw [Nat.zero_add] at h1
 exact ⟨h1, (hm _ (List.getElem_mem hi)).1⟩
open Go.RowKit
theorem zr2 {l k : List Ob} (h : ZJ l k) : l.flatMap obB = k.flatMap obB := by
 have : l.map obB = k.map obB := by
  apply List.ext_getElem?
  intro i
  rw [List.getElem?_map, List.getElem?_map]
  rcases Nat.lt_or_ge i l.length with hi | hi
  ·have ha := List.getElem?_eq_getElem hi
   have hb := List.getElem?_eq_getElem (l := k) (i := i) (by have := h.1; omega)
   obtain ⟨h1, h2, h3, h4, h5⟩ := h.2 i _ _ ha hb
   rw [ha, hb]
   simp only [Option.map_some, obB, h1, h2, h4, h5]
  ·rw [List.getElem?_eq_none hi, List.getElem?_eq_none (by have := h.1; omega)]
 rw [List.flatMap_def, List.flatMap_def, this]
theorem zph {x y : Hv} (h : x.Sm y) : zbQ x = zbQ y := by
 unfold zbQ zfW
 rw [h.od, h.nx, h.t0, h.t1, h.t2, h.t3, zr2 h.os, h.os.1]
theorem ziq {x y : Sv} (h : x.Sm y) : zav x = zav y := by
 unfold zav; rw [zph h.1, h.2]
theorem HvO.kept {y : Hv} {R : List Blk} (h : HvO y R) : ZK R fun w => y.Is w := by
 obtain ⟨RO, RF, M, rfl, h⟩ := h
 exact h.kept
theorem zB.cap {e : TypeId} {c n m : Nat} {a : Option Addr} {k : Nat} {xs : List Value} {R : List Blk} (h : zB e c (.slice a n k) m xs R) (hn : n = m) : m ≤ k := by
 obtain ⟨a', k', hv, hk, _⟩ := h.kept
 injection hv with _ _ hk'
 omega
def b28 : List Nat := [0, 0, 0, 3, 0, 0, 0, 1, 0, 0, 0, 0, 0, 0, 0, 0, 0, 0, 0, 0, 0, 0, 0, 0, 0, 0, 0, 0]
theorem zlJ : zY (zc8 3) = true := zlk (by decide) (by decide)
theorem zdZ {x : Sv} (hx : StR x) {e : Env} (he : zc0 e = true) : Z8 x e = zcq x e.cl e.sq ⟨e.op.k, e.op.h, e.op.i, e.op.n, e.op.m, e.op.v, e.op.t⟩ := by unfold Z8; rw [if_pos ⟨zkx hx, he⟩]
theorem zhm {x y : Sv} (h : x.Sm y) (e : Env) : (Z8 x e).2 = (Z8 y e).2 ∧ (Z8 x e).1.Sm (Z8 y e).1 := by
 unfold Z8
 rw [zio h]
 split
 ·exact zme h _ _ _
 ·exact ⟨rfl, Hv.Sm.refl _, rfl⟩
theorem zlu {e : Env} (h : zc0 e = true) : 1 ≤ e.nu ∧ e.nu ≤ 900000000 ∧ 0 ≤ e.vi ∧ e.vi ≤ 900000000 ∧ ((e.cl = 0 ∧ e.sq = 0) ∨ (e.cl ≠ 0 ∧ 1 ≤ e.cl ∧ e.cl ≤ 4 ∧ 1 ≤ e.sq ∧ e.sq ≤ 1000000)) := by
 unfold zc0 inM at h
 by_cases hc : e.cl = 0
 ·simp only [hc, if_true] at h; simp at h; omega
 ·simp only [hc, if_false] at h; simp at h; omega
theorem zes {x : Sv} (hx : StR x) {e : Env} (he : zc0 e = true) : StR (Z8 x e).1 := by
 rw [zdZ hx he]
 refine ziL hx _ ?_
 have := zlu he
 omega
theorem ziB : zbO.Small := ⟨zlW, by simp [zbO]⟩
noncomputable def zhf (s : Sv) : List Env → Sv
 | [] => s
 | e :: r => zhf (Z8 s e).1 r
theorem zik (e : Env) : ∀ (l : List Env) (s : Sv), zhf s (l ++ [e]) = (Z8 (zhf s l) e).1
 | [], s => rfl
 | x :: l, s => zik e l (Z8 s x).1
theorem zku (k : List Env) : ∀ (l : List Env) (s : Sv), zhf s (l ++ k) = zhf (zhf s l) k
 | [], s => rfl
 | x :: l, s => zku k l (Z8 s x).1
theorem zfw {s : Sv} (hs : StR s) : ∀ {l : List Env}, (∀ e ∈ l, zc0 e = true) → StR (zhf s l)
 | [], _ => hs
 | e :: l, h => by
  unfold zhf
  exact zfw (s := (Z8 s e).1) (zes hs (h e (by simp))) (fun x hx => h x (by simp [hx]))
theorem zqW : ∀ {l : List Env} {x y : Sv}, x.Sm y → (zhf x l).Sm (zhf y l)
 | [], x, y, h => h
 | e :: l, x, y, h => zqW (l := l) (zhm h e).2
theorem zp8 : stB zbO = false := by unfold stB; rw [show zbO.hv = zam from rfl, zjd]; rfl
open Go.RowKit
theorem zgS : I64 0 := ⟨by decide, by decide⟩
theorem zfi {v : Int} (h0 : 0 ≤ v) (h1 : v ≤ 2147483647) : I64 v := ⟨by omega, by omega⟩
theorem zjG {l : List Ob} (h : ∀ o ∈ l, ∀ v ∈ o.ws, I64 v) {i : Nat} {o : Ob} (hi : l[i]? = some o) : ∀ v ∈ o.ws, I64 v := h o (List.mem_of_getElem? hi)
theorem zqg {x : Hv} (hw : x.W64) (b : Bl) (n k : Int) (ls : List Int) : (zeE x b n (ZT k) ls).W64 := by
 intro o ho v hv
 unfold zeE at ho
 rcases List.mem_append.1 ho with ho | ho
 ·exact hw o ho v hv
 ·simp only [List.mem_singleton] at ho
  subst ho
  unfold zhe ZT at hv
  rw [(List.mem_replicate.1 hv).2]; exact zgS
theorem zqh {x : Hv} (hw : x.W64) (i : Nat) (g : Ob) : (zeF x i g).W64 := by
 intro o ho v hv
 unfold zeF at ho
 obtain ⟨q, hq, rfl⟩ := List.mem_map.1 ho
 exact hw q (List.mem_of_mem_eraseIdx hq) v hv
theorem zog {x : Hv} (hw : x.W64) {i : Nat} {b : Ob} (hb : x.os[i]? = some b) (k : Nat) {u : Int} (hu : I64 u) : (zgs x i b k u).W64 := by
 intro o ho v hv
 unfold zgs at ho
 rcases List.mem_or_eq_of_mem_set ho with ho | ho
 ·exact hw o ho v hv
 ·subst ho
  rcases List.mem_or_eq_of_mem_set hv with hv | hv
  ·exact zjG hw hb v hv
  ·rw [hv]; exact hu
theorem zqi {x : Hv} (hw : x.W64) {i : Nat} {b : Ob} (hb : x.os[i]? = some b) (k : Nat) (u : Int) : (zlr x i b k u).W64 := by
 intro o ho v hv
 unfold zlr at ho
 rcases List.mem_or_eq_of_mem_set ho with ho | ho
 ·exact hw o ho v hv
 ·subst ho
  exact zjG hw hb v hv
theorem zsq {x : Hv} (hw : x.W64) (k : Nat) (u : Int) : (zop x k u).W64 := by
 intro o ho v hv
 unfold zop at ho
 split at ho <;> exact hw o ho v hv
theorem zgR {l : List Int} (h : ∀ v ∈ l, I64 v) (i : Nat) : I64 (l.getD i 0) := by
 rw [List.getD_eq_getElem?_getD]
 cases hi : l[i]? with
 | none => exact zgS
 | some v => exact h v (List.mem_of_getElem? hi)
theorem zs4 {x : Hv} (hx : zJ x) (hw : x.W64) {o : Opd} (ho : I64 o.v) : (doC x o).1.W64 ∧ I64 (doC x o).2.2 := by
 have hz := zgS
 have hnx := hx.lo
 have hnh := hx.hi
 have htop : ∀ t ∈ tops x, I64 t := fun t ht => by
  have := ZD hx (hx.tops t ht)
  exact zfi this.1 (by omega)
 unfold doC
 split
 ·unfold zdA
  split
  ·exact ⟨hw, hz⟩
  ·split
   ·exact ⟨hw, hz⟩
   ·split
    ·exact ⟨hw, hz⟩
    ·exact ⟨zqg hw _ _ _ _, zfi (by simp only; omega) (by simp only; omega)⟩
 ·split
  ·unfold atC
   split
   ·exact ⟨hw, hz⟩
   ·split
    ·exact ⟨hw, hz⟩
    ·rename_i b hb
     split
     ·exact ⟨zqh hw _ _, hz⟩
     ·split
      ·exact ⟨hw, hz⟩
      ·split
       ·exact ⟨zog hw hb _ ho, hz⟩
       ·split
        ·split
         ·exact ⟨zqi hw hb _ _, hz⟩
         ·exact ⟨hw, hz⟩
        ·refine ⟨hw, ?_⟩
         simp only
         unfold zoo
         split
         ·refine zgR (fun v hv => ?_) _
          have := (zb3 hx b (List.mem_of_getElem? hb)).ls v hv
          exact zfi this.1 (by omega)
         ·exact zgR (zjG hw hb) _
  ·split
   ·unfold zsv
    split
    ·exact ⟨hw, hz⟩
    ·split
     ·exact ⟨hw, zgR htop _⟩
     ·split
      ·exact ⟨zsq hw _ _, hz⟩
      ·exact ⟨hw, hz⟩
   ·exact ⟨hw, hz⟩
theorem znC {x : Rw} : ∀ {l : List Rw} {y : Rw}, y ∈ zal l x → y = x ∨ y ∈ l
 | [], y, h => by unfold zal at h; simp at h; exact .inl h
 | z :: r, y, h => by
  unfold zal at h
  split at h
  ·rcases List.mem_cons.1 h with h | h
   ·exact .inr (by simp [h])
   ·rcases znC h with h | h
    ·exact .inl h
    ·exact .inr (by simp [h])
  ·split at h
   ·rcases List.mem_cons.1 h with h | h
    ·exact .inl h
    ·exact .inr (by simp [h])
   ·rcases List.mem_cons.1 h with h | h
    ·exact .inl h
    ·exact .inr h
theorem zmf {x : Sv} (hx : StR x) (hw : x.W64) {e : Env} (he : zc0 e = true) (ho : I64 e.op.v) : (Z8 x e).1.W64 := by
 rw [zdZ hx he]
 have hd := zs4 (o := ⟨e.op.k, e.op.h, e.op.i, e.op.n, e.op.m, e.op.v, e.op.t⟩) hx.hv hw.hv ho
 unfold zcq
 split
 ·exact hw
 ·split
  ·exact hw
  ·refine ⟨hd.1, fun r hr => ?_⟩
   rcases znC hr with rfl | hr
   ·exact hd.2
   ·exact hw.rows r hr
theorem znU : ∀ {l : List Env} {x : Sv}, StR x → x.W64 → (∀ e ∈ l, zc0 e = true) → (∀ e ∈ l, I64 e.op.v) → (zhf x l).W64
 | [], x, _, hw, _, _ => hw
 | e :: l, x, hx, hw, hm, ho => znU (l := l) (zes hx (hm e (by simp))) (zmf hx hw (hm e (by simp)) (ho e (by simp))) (fun y hy => hm y (by simp [hy])) (fun y hy => ho y (by simp [hy]))
theorem zeU {α : Type} {one : List Nat → Option (α × List Nat)} {P : α → Prop} (h1 : ∀ bs x r, one bs = some (x, r) → P x) : ∀ {n : Nat} {bs : List Nat} {l : List α} {r : List Nat}, zaI one n bs = some (l, r) → ∀ x ∈ l, P x
 | 0, bs, l, r, h, x, hx => by
  unfold zaI at h
  injection h with h; injection h with h _
  subst h; cases hx
 | n + 1, bs, l, r, h, x, hx => by
  unfold zaI at h
  cases e1 : zaI one n bs with
  | none => rw [e1] at h; cases h
  | some p =>
   obtain ⟨l1, b1⟩ := p
   rw [e1] at h
   simp only at h
   cases e2 : one b1 with
   | none => rw [e2] at h; cases h
   | some q =>
    obtain ⟨y, b2⟩ := q
    rw [e2] at h
    injection h with h; injection h with h _
    subst h
    rcases List.mem_append.1 hx with hx | hx
    ·exact zeU h1 e1 x hx
    ·rw [List.mem_singleton.1 hx]; exact h1 _ _ _ e2
theorem zr0 {bs r : List Nat} {o : Ob} (h : zey bs = some (o, r)) : ∀ v ∈ o.ws, I64 v := by
 unfold zey at h
 cases e1 : nR bs with
 | none => rw [e1] at h; cases h
 | some p1 =>
  obtain ⟨a1, b1⟩ := p1
  rw [e1] at h; simp only at h
  cases e2 : nR b1 with
  | none => rw [e2] at h; cases h
  | some p2 =>
   obtain ⟨a2, b2⟩ := p2
   rw [e2] at h; simp only at h
   cases e3 : nR b2 with
   | none => rw [e3] at h; cases h
   | some p3 =>
    obtain ⟨a3, b3⟩ := p3
    rw [e3] at h; simp only at h
    cases e4 : nR b3 with
    | none => rw [e4] at h; cases h
    | some p4 =>
     obtain ⟨a4, b4⟩ := p4
     rw [e4] at h; simp only at h
     split at h
     ·cases h
     ·cases e5 : zaI iR a3.toNat b4 with
      | none => rw [e5] at h; cases h
      | some p5 =>
       obtain ⟨a5, b5⟩ := p5
       rw [e5] at h; simp only at h
       cases e6 : zaI nR a4.toNat b5 with
       | none => rw [e6] at h; cases h
       | some p6 =>
        obtain ⟨a6, b6⟩ := p6
        rw [e6] at h; simp only at h
        injection h with h; injection h with h _
        subst h
        exact zeU (P := I64) (fun bs x r h => ztc h) e5
theorem zmZ {bs r : List Nat} {x : Hv} (h : zdH bs = some (x, r)) : x.W64 := by
 unfold zdH at h
 cases e1 : nR bs with
 | none => rw [e1] at h; cases h
 | some p1 =>
  obtain ⟨a1, b1⟩ := p1
  rw [e1] at h; simp only at h
  cases e2 : nR b1 with
  | none => rw [e2] at h; cases h
  | some p2 =>
   obtain ⟨a2, b2⟩ := p2
   rw [e2] at h; simp only at h
   unfold zae at h
   cases e3 : zaI nR 4 b2 with
   | none => rw [e3] at h; cases h
   | some p3 =>
    obtain ⟨a3, b3⟩ := p3
    rw [e3] at h; simp only at h
    unfold zdI at h
    cases e4 : nR b3 with
    | none => rw [e4] at h; cases h
    | some p4 =>
     obtain ⟨a4, b4⟩ := p4
     rw [e4] at h; simp only at h
     split at h
     ·cases h
     ·cases e5 : zaI zey a4.toNat b4 with
      | none => rw [e5] at h; cases h
      | some p5 =>
       obtain ⟨a5, b5⟩ := p5
       rw [e5] at h; simp only at h
       unfold zew at h
       split at h
       ·split at h
        ·injection h with h; injection h with h _
         subst h
         exact zeU (P := fun o : Ob => ∀ v ∈ o.ws, I64 v) (fun bs x r h => zr0 h) e5
        ·cases h
       ·cases h
theorem zsg {bs r : List Nat} {x : Rw} (h : zlK bs = some (x, r)) : I64 x.v := by
 unfold zlK at h
 cases e1 : nR bs with
 | none => rw [e1] at h; cases h
 | some p1 =>
  obtain ⟨a1, b1⟩ := p1
  rw [e1] at h; simp only at h
  cases e2 : nR b1 with
  | none => rw [e2] at h; cases h
  | some p2 =>
   obtain ⟨a2, b2⟩ := p2
   rw [e2] at h; simp only at h
   cases e3 : nR b2 with
   | none => rw [e3] at h; cases h
   | some p3 =>
    obtain ⟨a3, b3⟩ := p3
    rw [e3] at h; simp only at h
    cases e4 : iR b3 with
    | none => rw [e4] at h; cases h
    | some p4 =>
     obtain ⟨a4, b4⟩ := p4
     rw [e4] at h; simp only at h
     injection h with h; injection h with h _
     subst h
     exact ztc e4
theorem zir {bs : List Nat} {x : Sv} (h : ZQ bs = some x) : StR x ∧ x.W64 := by
 unfold ZQ zcd at h
 split at h
 ·rename_i y r hy
  split at h
  ·injection h with h
   subst h
   unfold Zv at hy
   cases e1 : zel bs with
   | none => rw [e1] at hy; cases hy
   | some p1 =>
    obtain ⟨a1, b1⟩ := p1
    rw [e1] at hy; simp only at hy
    cases e2 : zcH a1 with
    | none => rw [e2] at hy; cases hy
    | some z =>
     rw [e2] at hy; simp only at hy
     have hz : z.W64 := by
      unfold zcH zcd at e2
      split at e2
      ·rename_i u ru hu
       split at e2
       ·injection e2 with e2
        subst e2
        exact zmZ hu
       ·cases e2
      ·cases e2
     unfold zcM at hy
     cases e3 : nR b1 with
     | none => rw [e3] at hy; cases hy
     | some p3 =>
      obtain ⟨a3, b3⟩ := p3
      rw [e3] at hy; simp only at hy
      split at hy
      ·cases hy
      ·cases e5 : zaI zlK a3.toNat b3 with
       | none => rw [e5] at hy; cases hy
       | some p5 =>
        obtain ⟨a5, b5⟩ := p5
        rw [e5] at hy; simp only at hy
        split at hy
        ·rename_i hb
         injection hy with hy; injection hy with hy _
         subst hy
         exact ⟨zfz hb, hz, zeU (P := fun r : Rw => I64 r.v) (fun bs x r h => zsg h) e5⟩
        ·cases hy
  ·cases h
 ·cases h
open Go.RowKit
theorem zhO {fr : Int} (h0 : 0 ≤ fr) (h1 : fr ≤ 2000000000) : ∀ {l : List Env} {q : Nat}, q + l.length ≤ 100000 → (∀ (i : Nat) (h : i < l.length), l[i].nu = fr + 1 + (q + i : Nat)) → zeP fr q l = true
 | [], _, _, _ => rfl
 | e :: r, q, hq, hn => by
  simp only [z0g] at hq
  have h2 := hn 0 (by simp)
  simp only [List.getElem_cons_zero, Nat.add_zero] at h2
  have h3 := zhO h0 h1 (l := r) (q := q + 1) (by omega) (fun i hi => by
   have := hn (i + 1) (by simpa using hi)
   simp only [List.getElem_cons_succ] at this
   rw [this]; push_cast; omega)
  unfold zeP
  rw [h3, Bool.and_true, decide_eq_true_eq, h2]
  unfold wrap64; omega
end Go.Proofs.YtaafajaadfgaoaaGreat
