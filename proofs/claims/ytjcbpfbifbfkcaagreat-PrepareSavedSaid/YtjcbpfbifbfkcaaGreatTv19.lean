import Derived.Test.YtjcbpfbifbfkcaaGreatTv18
import Derived.Test.YtjcbpfbifbfkcaaGreatTv4
import Derived.Test.YtjcbpfbifbfkcaaGreatTv5
import Derived.Test.YtjcbpfbifbfkcaaGreatTv17
import Derived.Test.YtjcbpfbifbfkcaaGreatTv2
set_option linter.unusedSimpArgs false
set_option linter.unusedVariables false
set_option maxRecDepth 100000
set_option maxHeartbeats 60000000
namespace Go.Proofs.YtjcbpfbifbfkcaaGreat
open Go.RowKit
theorem zl7 {ty : TypeId} (h : zv Tryz.prog ty = true := by with_reducible first | exact zq | exact ZF | exact zK | exact zab | exact zV) : zv Tryz.prog ty = true := h
theorem zt.drop {e : TypeId} {c n cap off g k : Nat} {xs : List Value} {R : List Blk} (h : zt e c (.slice (some ⟨g, off, none⟩) n cap) n xs R) (hk : k ≤ n) (hn : 0 < n) :
  zt e c (.slice (some ⟨g, off + k * c, none⟩) (n - k) (cap - k)) (n - k) (xs.drop (k * c)) R := by
 obtain ⟨hl, ⟨h0, _, _⟩ | ⟨g', off', cap', pre, hv, h1, h2, h3, h4⟩⟩ := h
 ·omega
 ·injection hv with hv _ hc
  injection hv with hv
  injection hv with hg ho _
  subst hg ho hc
  have hm := Nat.mul_le_mul_right c hk
  refine ⟨by rw [List.length_drop, hl, Nat.sub_mul], .inr ⟨g, off + k * c, cap - k, pre ++ xs.take (k * c), rfl, by omega, by omega, by rw [List.length_append, List.length_take, h3, hl]; omega, ?_⟩⟩
  rw [h4, List.append_assoc, List.take_append_drop]
  have hm2 := Nat.mul_le_mul_right c (show k ≤ cap by omega)
  rw [Nat.sub_mul, show off + k * c + (cap * c - k * c) = off + cap * c by omega]
theorem zt.take {e : TypeId} {c n cap off g k : Nat} {xs : List Value} {R : List Blk} (h : zt e c (.slice (some ⟨g, off, none⟩) n cap) n xs R) (hk : k ≤ n) (hn : 0 < n) :
  ∃ R', zt e c (.slice (some ⟨g, off, none⟩) k cap) k (xs.take (k * c)) R' ∧ ∀ {B : Nat} {w0 w : World} {M : List Blk}, Hp B w0 w (R ++ M) → Hp B w0 w (R' ++ M) := by
 obtain ⟨hl, ⟨h0, _, _⟩ | ⟨g', off', cap', pre, hv, h1, h2, h3, h4⟩⟩ := h
 ·omega
 ·injection hv with hv _ hc
  injection hv with hv
  injection hv with hg ho _
  subst hg ho hc
  have hm := Nat.mul_le_mul_right c hk
  refine ⟨[⟨g, pre ++ xs.take (k * c), e, off + cap * c⟩], ⟨by rw [List.length_take, hl]; omega, .inr ⟨g, off, cap, pre, rfl, by omega, h2, h3, rfl⟩⟩, fun {B w0 w M} hp => ?_⟩
  subst h4
  refine Hp.less (l2 := xs.drop (k * c)) ?_
  rw [List.append_assoc, List.take_append_drop]; exact hp
theorem zfJ (es : List Env) (k : Nat) : (es.flatMap z8).drop (k * 11) = (es.drop k).flatMap z8 := by
 induction k generalizing es with
 | zero => simp
 | succ k ih =>
  cases es with
  | nil => simp
  | cons e es =>
   rw [List.flatMap_cons, List.drop_succ_cons, ← ih es, show (k + 1) * 11 = 11 + k * 11 by omega, ← List.drop_drop, List.drop_left' (ZG e)]
theorem zhI (es : List Env) (k : Nat) : (es.flatMap z8).take (k * 11) = (es.take k).flatMap z8 := by
 have h1 := zfJ es k
 have h2 := List.take_append_drop (k * 11) (es.flatMap z8)
 conv at h2 => rhs; rw [← List.take_append_drop k es, List.flatMap_append]
 rw [h1] at h2
 exact List.append_cancel_right h2
theorem zbG (vw nm bs : Int) (im : ByteArray) (ea : Option Addr) (es : List Env) (n ec : Nat) (hn : es.length = n) (b : Bool) (hb : okC ⟨vw, nm, bs, im, ea, es, ec⟩ = b) (hs : Kv.Small ⟨vw, nm, bs, im, ea, es, ec⟩) (w : World) (ha : zm w ea (es.flatMap z8)) :
  Calls Tryz.prog 21 #[.agg #[.int .i64 vw, .int .i64 nm, .int .i64 bs, .string im, .slice ea n ec]] w fun e w' => e = .returned (.int .i64 (if b = true then 0 else 1)) ∧ Below w.heap.size w w' := by
 subst hn
 exact ZO vw nm bs im ea es ec b hb hs w ha
theorem zbt (vw nm bs : Int) (im : ByteArray) (ea : Option Addr) (es : List Env) (ec : Nat) (b : Bool) (hb : okC ⟨vw, nm, bs, im, ea, es, ec⟩ = b) (hs : Kv.Small ⟨vw, nm, bs, im, ea, es, ec⟩) (w : World) (ha : zm w ea (es.flatMap z8)) :
  Calls Tryz.prog 22 #[.agg #[.int .i64 vw, .int .i64 nm, .int .i64 bs, .string im, .slice ea es.length ec]] w fun e w' => e = .returned (.int .i64 (if b = true then wrap64 (bs + es.length) else 0)) ∧ Below w.heap.size w w' := by
 have hp := Hp.start w
 have HB := z0j hb
 have HSS := z0j hs
 have HA := z0j ha
 have HN : Hid (es.length = es.length) := z0j rfl
 clear hb hs ha
 cases b
 all_goals
  go_enter Tryz.func22, Tryz.ntmps22
  go_wp2_with (first | (go_at_call 21; (with_reducible refine (zbG vw nm bs im _ _ _ ec HN.out _ HB.out HSS.out _ (HA.out.below hp.below)).mono ?_); rintro e w1 ⟨rfl, hb⟩; replace hp := hp.call hb; clear hb; simp only [if_true, Bool.false_eq_true, if_false]) | (go_at_call 71; (with_reducible refine (zR vw nm bs im _ _ ec _).mono ?_); rintro e w1 ⟨rfl, hb⟩; replace hp := hp.call hb; clear hb) | go_skip | ((first | ((refine zh _ _ rfl ?_); refine lB hp rfl (za rfl) rfl ?_; clear hp; intro b w1 hp) | ((refine ze _ _ rfl ?_); refine lA hp rfl (za rfl) zk aa5 ?_)); simp only [zc, zb, z0b, z0a]))
  go_ret
  exact ⟨rfl, hp.below⟩
theorem zu.cap {e : TypeId} {c n m : Nat} {a : Option Addr} {k : Nat} {xs : List Value} {R : List Blk} (h : zu e c (.slice a n k) m xs R) : m ≤ k := by
 obtain ⟨_, ⟨h0, hv, _, _⟩ | ⟨g, cap, hv, h1, h2, _⟩⟩ := h
 ·omega
 ·injection hv with _ _ hk
  omega
theorem zb6 (l : List Env) (a : Option Addr) (n c : Nat) (hn : l.length = n) (hl : n ≤ 100000) (w : World) (ha : zm w a (l.flatMap z8)) : Calls Tryz.prog 62 #[.slice a n c] w fun e w' => ∃ a c R, e = .returned (.slice a n c) ∧ n ≤ c ∧ zu 38 11 (.slice a n c) n (l.flatMap z8) R ∧ Hp w.heap.size w w' R := by
 subst hn
 refine (zjK a l.length c hl (l.flatMap z8) (Zv z8 11 ZG l) (by rw [List.all_flatMap]; exact List.all_eq_true.2 fun x _ => rfl) w ha).mono fun e w' h => ?_
 obtain ⟨v, R, h1, h2, h3⟩ := h
 obtain ⟨a', c', rfl, _⟩ := h2.kept
 exact ⟨a', c', R, h1, h2.cap, h2, h3⟩
open Go.RowKit
theorem zm.fixC {w : World} {b off : Nat} {xs : List Value} (h : zm w (some ⟨b, off, none⟩) xs) : ∀ j v, xs[j]? = some v → w.cell? ⟨b, off + j, none⟩ = some v := fun j v hj => by
 obtain ⟨b', off', he, hc⟩ := h j v hj
 injection he with he; injection he with e1 e2; subst e1; subst e2; exact hc
theorem zjy {l k : List Ob} (h : ZH l k) : l.flatMap obB = k.flatMap obB := by
 have : l.map obB = k.map obB := by
  apply List.ext_getElem?
  intro i
  rw [List.getElem?_map, List.getElem?_map]
  rcases Nat.lt_or_ge i l.length with hi | hi
  ·have ha := List.getElem?_eq_getElem hi
   have hb := List.getElem?_eq_getElem (l := k) (i := i) (by have := h.1; omega)
   obtain ⟨h1, h2, h3, h4, h5⟩ := h.2 i _ _ ha hb
   rw [ha, hb]
   simp only [Option.map_some, obB, h1, h2, h4, h5]
  ·rw [List.getElem?_eq_none hi, List.getElem?_eq_none (by have := h.1; omega)]
 rw [List.flatMap_def, List.flatMap_def, this]
theorem ziv {x y : Hv} (h : x.Sm y) : zbl x = zbl y := by
 unfold zbl zeB
 rw [h.od, h.nx, h.t0, h.t1, h.t2, h.t3, zjy h.os, h.os.1]
theorem zgZ {x y : Sv} (h : x.Sm y) : zbC x = zbC y := by
 unfold zbC; rw [ziv h.1, h.2]
theorem HvO.kept {y : Hv} {R : List Blk} (h : HvO y R) : Z9 R fun w => y.Is w := by
 obtain ⟨RO, RF, M, rfl, h⟩ := h
 exact h.kept
theorem zt.cap {e : TypeId} {c n m : Nat} {a : Option Addr} {k : Nat} {xs : List Value} {R : List Blk} (h : zt e c (.slice a n k) m xs R) (hn : n = m) : m ≤ k := by
 obtain ⟨a', k', hv, hk, _⟩ := h.kept
 injection hv with _ _ hk'
 omega
def b28 : List Nat := [0, 0, 0, 3, 0, 0, 0, 1, 0, 0, 0, 0, 0, 0, 0, 0, 0, 0, 0, 0, 0, 0, 0, 0, 0, 0, 0, 0]
theorem zfP : Ze (zbg 3) = true := zfQ (by decide) (by decide)
open Go.RowKit
theorem zeM {ty : TypeId} {k : Nat} (h : ZZ Tryz.prog ty k = true := by with_reducible first | exact zk | exact zc0 | exact zD) : ZZ Tryz.prog ty k = true := h
theorem zaU : zv Tryz.prog 33 = true := by kernel_rfl
theorem zlb : ZZ Tryz.prog 108 5 = true := by kernel_rfl
structure Rv where
 kd : Int
 vw : Int
 fr : Int
 nu : Int
 im : ByteArray
 en : Env
 ra : Option Addr
 es : List Env
 rc : Nat
def rvL (r : Rv) : List Value := [.int .i64 r.kd, .int .i64 r.vw, .int .i64 r.fr, .int .i64 r.nu, .string r.im] ++ (z8 r.en ++ [.slice r.ra r.es.length r.rc])
def zP (x : Kv) : Int := x.bs + x.es.length
def ZV (x : Kv) (r : Rv) : Int × Kv :=
 if (r.kd = 1 ∨ r.kd = 3 ∨ r.kd = 5) ∧ r.vw < x.vw then (141, x)
 else if r.kd = 1 then (0, { x with vw := r.vw })
 else if r.kd = 2 then (if zbj (zP x) 0 [r.en] = true then (0, { x with es := x.es ++ [r.en] }) else (140, x))
 else if r.kd = 3 then (if inM r.fr x.bs (zP x) = true ∧ zbj r.fr 0 r.es = true then (0, { x with vw := r.vw, nm := r.vw, es := x.es.take (r.fr - x.bs).toNat ++ r.es }) else (140, x))
 else if r.kd = 4 then (if r.nu ≤ x.bs ∨ zP x < r.nu then (140, x) else (0, { x with es := x.es.drop (r.nu - x.bs).toNat, bs := r.nu, im := r.im }))
 else if r.kd = 5 then (if inM r.nu 0 900000000 = true ∧ zbj r.nu 0 r.es = true then (0, { x with vw := r.vw, nm := r.vw, bs := r.nu, im := r.im, es := r.es }) else (140, x))
 else (141, x)
noncomputable def Zb (x : Kv) (r : Rv) : Int × Kv := if (ZV x r).1 = 0 then (if okC (ZV x r).2 = true then (0, (ZV x r).2) else (141, x)) else ZV x r
def zdT (w0 : World) (bw : Nat) (r : Int × Kv) (TT : List Blk) (e : Ending) (w' : World) : Prop :=
 e = .returned (.int .i64 r.1) ∧ (r.1 = 0 → ∃ a c R, r.2.es.length ≤ c ∧ zt 38 11 (.slice a r.2.es.length c) r.2.es.length (r.2.es.flatMap z8) R ∧ Hp w0.heap.size w0 w' (⟨bw, [.int .i64 r.2.vw, .int .i64 r.2.nm, .int .i64 r.2.bs, .string r.2.im, .slice a r.2.es.length c], 108, 5⟩ :: (R ++ TT))) ∧ (r.1 ≠ 0 → Hp w0.heap.size w0 w' TT)
theorem Zl {w0 w' : World} {bw : Nat} {c : Int} {x : Kv} {TT : List Blk} (hc : c ≠ 0) (hp : Hp w0.heap.size w0 w' TT) : zdT w0 bw (c, x) TT (.returned (.int .i64 c)) w' := ⟨rfl, fun h => absurd h hc, fun _ => hp⟩
theorem zaD {w0 w' : World} {bw : Nat} {vw nm bs : Int} {im : ByteArray} {ea : Option Addr} {es : List Env} {ec : Nat} {a : Option Addr} {n c : Nat} {R TT : List Blk} (hc : n ≤ c) (hr : zt 38 11 (.slice a n c) n (es.flatMap z8) R) (hp : Hp w0.heap.size w0 w' (⟨bw, [.int .i64 vw, .int .i64 nm, .int .i64 bs, .string im, .slice a n c], 108, 5⟩ :: (R ++ TT))) (hn : es.length = n := by rfl) :
  zdT w0 bw (0, ⟨vw, nm, bs, im, ea, es, ec⟩) TT (.returned (.int .i64 0)) w' := by
 subst hn
 exact ⟨rfl, fun _ => ⟨a, c, R, hc, hr, hp⟩, fun h => absurd rfl h⟩
theorem ZM {x : Kv} (h : okC x = true) : (0 ≤ x.vw ∧ x.vw ≤ 900000000) ∧ (0 ≤ x.nm ∧ x.nm ≤ x.vw) ∧ (0 ≤ x.bs ∧ x.bs ≤ 900000000) ∧ x.es.length ≤ 4000 := by
 unfold okC at h
 simp only [Bool.and_eq_true, inM, decide_eq_true_eq] at h
 exact ⟨h.1, h.2.1, h.2.2.1, h.2.2.2.1⟩
theorem zgU (bw : Nat) (vw nm bs : Int) (im : ByteArray) (ea : Option Addr) (es : List Env) (ec : Nat) (rv rf rn : Int) (rim : ByteArray) (nu vi cl sq kk hh ii nn cc vv tt : Int) (ra : Option Addr) (rs : List Env) (rc : Nat) {R TT : List Blk} {w0 w : World} (hR : zt 38 11 (.slice ea es.length ec) es.length (es.flatMap z8) R) (hec : es.length ≤ ec) (hes : es.length ≤ 1500) (him : im.size ≤ 1000000) (hrs : rs.length ≤ 1500) (hrc : rs.length ≤ rc) (hri : rim.size ≤ 1000000) (hok : okC ⟨vw, nm, bs, im, ea, es, ec⟩ = true) (kd : Int) (hkd : kd = 1) (hp : Hp w0.heap.size w0 w (⟨bw, [.int .i64 vw, .int .i64 nm, .int .i64 bs, .string im, .slice ea es.length ec], 108, 5⟩ :: (R ++ TT))) (ha : zm w0 ra (rs.flatMap z8)) : Calls Tryz.prog 63 #[.pointer (some ⟨bw, 0, none⟩), .agg #[.int .i64 kd, .int .i64 rv, .int .i64 rf, .int .i64 rn, .string rim, .int .i64 nu, .int .i64 vi, .int .i64 cl, .int .i64 sq, .int .i64 kk, .int .i64 hh, .int .i64 ii, .int .i64 nn, .int .i64 cc, .int .i64 vv, .int .i64 tt, .slice ra rs.length rc]] w (zdT w0 bw (Zb ⟨vw, nm, bs, im, ea, es, ec⟩ ⟨kd, rv, rf, rn, rim, ⟨nu, vi, cl, sq, ⟨kk, hh, ii, nn, cc, vv, tt⟩⟩, ra, rs, rc⟩) TT) := by
 subst hkd
 have HR := z0j hR
 by_cases h1 : rv < vw
 ·have hf : Zb ⟨vw, nm, bs, im, ea, es, ec⟩ ⟨1, rv, rf, rn, rim, ⟨nu, vi, cl, sq, ⟨kk, hh, ii, nn, cc, vv, tt⟩⟩, ra, rs, rc⟩ = (141, ⟨vw, nm, bs, im, ea, es, ec⟩) := by unfold Zb ZV; simp [h1]
  rw [hf]
  have e1 : decide (rv < vw) = true := by simpa using h1
  clear h1 hf hok hec hes him hrs hrc hri ha hR
  go_enter Tryz.func63, Tryz.ntmps63
  go_wp2_with (first | (go_at_call 71; (with_reducible refine (zR vw nm bs im _ _ ec _).mono ?_); rintro e w1 ⟨rfl, hb⟩; replace hp := hp.call hb; clear hb) | go_skip | ((first | ((refine zh _ _ rfl ?_); refine lB hp rfl (za rfl) rfl ?_; clear hp; intro b w1 hp) | ((refine ze _ _ rfl ?_); first | refine lO hp rfl (za rfl) (by with_reducible first | exact zq | exact zK | exact zab | exact zaU) aa5 ?_ | refine lA hp rfl (za rfl) zeM aa5 ?_) | ((refine zd _ _ _ rfl ?_); (first | refine sO hp rfl (za rfl) (by with_reducible first | exact zq | exact zK | exact zab) aa5 ?_ | refine sA hp rfl (za rfl) (za rfl) zk aa5 ?_ | refine sG hp rfl (za rfl) (za rfl) zk aa5 ?_); clear hp; intro w1 hp; simp only [spl, z0a, z0b] at hp) | ((refine zg _ _ _ rfl ?_); refine lS hp rfl (by intro w; go_simp; rfl) ?_; clear hp; intro b w1 hp; simp only [z0g, z0h, Nat.reduceAdd] at hp)); simp only [zc, zb, z0b, z0a]))
  refine zj [_, _] (zA.two hp.drew at0 at1) [] [(0, true), (1, true), (2, true), (3, true), (4, true), (5, true), (6, true), (7, true)] (by kernel_rfl) (by kernel_rfl) rfl (by kernel_rfl) (fun _ _ d _ _ h => by cases d <;> exact h) ?_
  replace hp := hp.drew
  repeat' (with_reducible refine zH ?_); first | (with_reducible refine zy ?_) | ((with_reducible refine zU ?_); refine zF rfl ?_; (first | ((with_reducible refine Zy _ rfl ?_); refine tM rfl ?_) | ((with_reducible refine Zt _ _ rfl ?_); refine tO rfl (za rfl) zq aa5 ?_) | refine tG (fun w _ => (by go_simp; try rfl)) ?_); try simp only [zc, zb, zl, zi, z0b, z0a, z0d, z0c, zr])
  go_wp2_with (first | (go_at_call 71; (with_reducible refine (zR vw nm bs im _ _ ec _).mono ?_); rintro e w1 ⟨rfl, hb⟩; replace hp := hp.call hb; clear hb) | go_skip | ((first | ((refine zh _ _ rfl ?_); refine lB hp rfl (za rfl) rfl ?_; clear hp; intro b w1 hp) | ((refine ze _ _ rfl ?_); first | refine lO hp rfl (za rfl) (by with_reducible first | exact zq | exact zK | exact zab | exact zaU) aa5 ?_ | refine lA hp rfl (za rfl) zeM aa5 ?_) | ((refine zd _ _ _ rfl ?_); (first | refine sO hp rfl (za rfl) (by with_reducible first | exact zq | exact zK | exact zab) aa5 ?_ | refine sA hp rfl (za rfl) (za rfl) zk aa5 ?_ | refine sG hp rfl (za rfl) (za rfl) zk aa5 ?_); clear hp; intro w1 hp; simp only [spl, z0a, z0b] at hp) | ((refine zg _ _ _ rfl ?_); refine lS hp rfl (by intro w; go_simp; rfl) ?_; clear hp; intro b w1 hp; simp only [z0g, z0h, Nat.reduceAdd] at hp)); simp only [zc, zb, z0b, z0a]))
  go_ret
  exact Zl (by decide) hp.kp
 ·have hok2 := ZM hok
  simp only at hok2
  have e1 : decide (rv < vw) = false := by simpa using h1
  have e4 : decide ((4000 : Int) < (es.length : Int)) = false := by simp; omega
  obtain ⟨b, hb⟩ : ∃ b, okC ⟨rv, nm, bs, im, ea, es, ec⟩ = b := ⟨_, rfl⟩
  have hf : Zb ⟨vw, nm, bs, im, ea, es, ec⟩ ⟨1, rv, rf, rn, rim, ⟨nu, vi, cl, sq, ⟨kk, hh, ii, nn, cc, vv, tt⟩⟩, ra, rs, rc⟩ = if b = true then (0, ⟨rv, nm, bs, im, ea, es, ec⟩) else (141, ⟨vw, nm, bs, im, ea, es, ec⟩) := by unfold Zb ZV; simp [h1, hb]
  rw [hf]
  have HB := z0j hb
  have HSS : Hid (Kv.Small ⟨rv, nm, bs, im, ea, es, ec⟩) := z0j ⟨by simp only; omega, him⟩
  have HEC := z0j hec
  clear h1 hf hok hec hes him hrs hrc hri ha hR hb hok2
  cases b
  rw [if_neg (by decide)]
  rotate_left
  rw [if_pos rfl]
  all_goals
   go_enter Tryz.func63, Tryz.ntmps63
   go_wp2_with (first | (go_at_call 71; (with_reducible refine (zR vw nm bs im _ _ ec _).mono ?_); rintro e w1 ⟨rfl, hb⟩; replace hp := hp.call hb; clear hb) | go_skip | ((first | ((refine zh _ _ rfl ?_); refine lB hp rfl (za rfl) rfl ?_; clear hp; intro b w1 hp) | ((refine ze _ _ rfl ?_); first | refine lO hp rfl (za rfl) (by with_reducible first | exact zq | exact zK | exact zab | exact zaU) aa5 ?_ | refine lA hp rfl (za rfl) zeM aa5 ?_) | ((refine zd _ _ _ rfl ?_); (first | refine sO hp rfl (za rfl) (by with_reducible first | exact zq | exact zK | exact zab) aa5 ?_ | refine sA hp rfl (za rfl) (za rfl) zk aa5 ?_ | refine sG hp rfl (za rfl) (za rfl) zk aa5 ?_); clear hp; intro w1 hp; simp only [spl, z0a, z0b] at hp) | ((refine zg _ _ _ rfl ?_); refine lS hp rfl (by intro w; go_simp; rfl) ?_; clear hp; intro b w1 hp; simp only [z0g, z0h, Nat.reduceAdd] at hp)); simp only [zc, zb, z0b, z0a]))
   refine zj [_, _] (zA.two hp.drew at0 at1) [] [(0, true), (1, true), (2, true), (3, true), (4, true), (5, true), (6, true), (7, true)] (by kernel_rfl) (by kernel_rfl) rfl (by kernel_rfl) (fun _ _ d _ _ h => by cases d <;> exact h) ?_
   replace hp := hp.drew
   repeat' (with_reducible refine zH ?_); first | (with_reducible refine zy ?_) | ((with_reducible refine zU ?_); refine zF rfl ?_; (first | ((with_reducible refine Zy _ rfl ?_); refine tM rfl ?_) | ((with_reducible refine Zt _ _ rfl ?_); refine tO rfl (za rfl) zq aa5 ?_) | refine tG (fun w _ => (by go_simp; try rfl)) ?_); try simp only [zc, zb, zl, zi, z0b, z0a, z0d, z0c, zr])
   go_wp2_with (first | (go_at_call 71; (with_reducible refine (zR vw nm bs im _ _ ec _).mono ?_); rintro e w1 ⟨rfl, hb⟩; replace hp := hp.call hb; clear hb) | (go_at_call 21; (with_reducible refine (ZO rv nm bs im ea es ec _ HB.out HSS.out _ (HR.out.keptS.at hp (fun p hm => by simp [hm]))).mono ?_); rintro e w1 ⟨rfl, hb⟩; replace hp := hp.call hb; clear hb; simp only [if_true, Bool.false_eq_true, if_false]) | go_skip | ((first | ((refine zh _ _ rfl ?_); refine lB hp rfl (za rfl) rfl ?_; clear hp; intro b w1 hp) | ((refine ze _ _ rfl ?_); first | refine lO hp rfl (za rfl) (by with_reducible first | exact zq | exact zK | exact zab | exact zaU) aa5 ?_ | refine lA hp rfl (za rfl) zeM aa5 ?_) | ((refine zd _ _ _ rfl ?_); (first | refine sO hp rfl (za rfl) (by with_reducible first | exact zq | exact zK | exact zab) aa5 ?_ | refine sA hp rfl (za rfl) (za rfl) zk aa5 ?_ | refine sG hp rfl (za rfl) (za rfl) zk aa5 ?_); clear hp; intro w1 hp; simp only [spl, z0a, z0b] at hp) | ((refine zg _ _ _ rfl ?_); refine lS hp rfl (by intro w; go_simp; rfl) ?_; clear hp; intro b w1 hp; simp only [z0g, z0h, Nat.reduceAdd] at hp)); simp only [zc, zb, z0b, z0a]))
  ·go_ret
   exact zaD HEC.out HR.out hp.tail
  ·go_ret
   exact Zl (by decide) hp.kp
theorem zey (l : List Env) (fr : Int) (a : Option Addr) (n c : Nat) (hn : l.length = n) (b : Bool) (hb : zbj fr 0 l = b) (hl : n ≤ 100000) (w : World) (ha : zm w a (l.flatMap z8)) :
  Calls Tryz.prog 68 #[.slice a n c, .int .i64 fr] w fun e w' => e = .returned (.bool b) ∧ Below w.heap.size w w' := by
 subst hn
 exact zS l fr a c b hb hl w ha
theorem zhj {B : Nat} {w0 w : World} {L : List Blk} {b t n : Nat} {nu vi cl sq kk hh ii nn cc vv tt : Int} (hp : Hp B w0 w (⟨b, [.int .i64 nu, .int .i64 vi, .int .i64 cl, .int .i64 sq, .int .i64 kk, .int .i64 hh, .int .i64 ii, .int .i64 nn, .int .i64 cc, .int .i64 vv, .int .i64 tt], t, n⟩ :: L)) : zm w (some ⟨b, 0, none⟩) (([⟨nu, vi, cl, sq, ⟨kk, hh, ii, nn, cc, vv, tt⟩⟩] : List Env).flatMap z8) := hp.rowIs (i := 0) rfl
theorem zf6 (bw : Nat) (vw nm bs : Int) (im : ByteArray) (ea : Option Addr) (es : List Env) (ec : Nat) (rv rf rn : Int) (rim : ByteArray) (nu vi cl sq kk hh ii nn cc vv tt : Int) (ra : Option Addr) (rs : List Env) (rc : Nat) {R TT : List Blk} {w0 w : World} (hR : zt 38 11 (.slice ea es.length ec) es.length (es.flatMap z8) R) (hec : es.length ≤ ec) (hes : es.length ≤ 1500) (him : im.size ≤ 1000000) (hrs : rs.length ≤ 1500) (hrc : rs.length ≤ rc) (hri : rim.size ≤ 1000000) (hok : okC ⟨vw, nm, bs, im, ea, es, ec⟩ = true) (kd : Int) (hkd : kd = 2) (hp : Hp w0.heap.size w0 w (⟨bw, [.int .i64 vw, .int .i64 nm, .int .i64 bs, .string im, .slice ea es.length ec], 108, 5⟩ :: (R ++ TT))) (ha : zm w0 ra (rs.flatMap z8)) : Calls Tryz.prog 63 #[.pointer (some ⟨bw, 0, none⟩), .agg #[.int .i64 kd, .int .i64 rv, .int .i64 rf, .int .i64 rn, .string rim, .int .i64 nu, .int .i64 vi, .int .i64 cl, .int .i64 sq, .int .i64 kk, .int .i64 hh, .int .i64 ii, .int .i64 nn, .int .i64 cc, .int .i64 vv, .int .i64 tt, .slice ra rs.length rc]] w (zdT w0 bw (Zb ⟨vw, nm, bs, im, ea, es, ec⟩ ⟨kd, rv, rf, rn, rim, ⟨nu, vi, cl, sq, ⟨kk, hh, ii, nn, cc, vv, tt⟩⟩, ra, rs, rc⟩) TT) := by
 subst hkd
 have HR := z0j hR
 have hok2 := ZM hok
 simp only at hok2
 have e0 : wrap64 (bs + es.length) = bs + es.length := by unfold wrap64; omega
 have HN1 : Hid ([(⟨nu, vi, cl, sq, ⟨kk, hh, ii, nn, cc, vv, tt⟩⟩ : Env)].length = 1) := z0j rfl
 have HN2 : Hid (1 ≤ 100000) := z0j (by decide)
 cases hfo : zbj (bs + es.length) 0 [⟨nu, vi, cl, sq, ⟨kk, hh, ii, nn, cc, vv, tt⟩⟩] with
 | false =>
  have hf : Zb ⟨vw, nm, bs, im, ea, es, ec⟩ ⟨2, rv, rf, rn, rim, ⟨nu, vi, cl, sq, ⟨kk, hh, ii, nn, cc, vv, tt⟩⟩, ra, rs, rc⟩ = (140, ⟨vw, nm, bs, im, ea, es, ec⟩) := by unfold Zb ZV zP; simp [hfo]
  rw [hf]
  have HF := z0j hfo
  clear hfo hf hok hec hes him hrs hrc hri ha hR hok2
  go_enter Tryz.func63, Tryz.ntmps63
  go_wp2_with (first | (go_at_call 71; (with_reducible refine (zR vw nm bs im _ _ ec _).mono ?_); rintro e w1 ⟨rfl, hb⟩; replace hp := hp.call hb; clear hb) | (go_at_call 68; (with_reducible refine (zey [⟨nu, vi, cl, sq, ⟨kk, hh, ii, nn, cc, vv, tt⟩⟩] (bs + es.length) _ 1 1 HN1.out _ HF.out HN2.out _ (zhj hp)).mono ?_); rintro e w1 ⟨rfl, hb⟩; replace hp := hp.call hb; clear hb) | go_skip | ((first | ((refine zh _ _ rfl ?_); refine lB hp rfl (za rfl) rfl ?_; clear hp; intro b w1 hp) | ((refine ze _ _ rfl ?_); first | refine lO hp rfl (za rfl) (by with_reducible first | exact zq | exact zK | exact zab | exact zaU) aa5 ?_ | refine lA hp rfl (za rfl) zeM aa5 ?_) | ((refine zd _ _ _ rfl ?_); (first | refine sO hp rfl (za rfl) (by with_reducible first | exact zq | exact zK | exact zab) aa5 ?_ | refine sA hp rfl (za rfl) (za rfl) zk aa5 ?_ | refine sG hp rfl (za rfl) (za rfl) zk aa5 ?_); clear hp; intro w1 hp; simp only [spl, z0a, z0b] at hp) | ((refine zg _ _ _ rfl ?_); refine lS hp rfl (by intro w; go_simp; rfl) ?_; clear hp; intro b w1 hp; simp only [z0g, z0h, Nat.reduceAdd] at hp)); simp only [zc, zb, z0b, z0a]))
  go_ret
  exact Zl (by decide) hp.kp
 | true =>
  have HF := z0j hfo
  obtain ⟨b, hb⟩ : ∃ b, okC ⟨vw, nm, bs, im, ea, es ++ [⟨nu, vi, cl, sq, ⟨kk, hh, ii, nn, cc, vv, tt⟩⟩], ec⟩ = b := ⟨_, rfl⟩
  have hf : Zb ⟨vw, nm, bs, im, ea, es, ec⟩ ⟨2, rv, rf, rn, rim, ⟨nu, vi, cl, sq, ⟨kk, hh, ii, nn, cc, vv, tt⟩⟩, ra, rs, rc⟩ = if b = true then (0, ⟨vw, nm, bs, im, ea, es ++ [⟨nu, vi, cl, sq, ⟨kk, hh, ii, nn, cc, vv, tt⟩⟩], ec⟩) else (141, ⟨vw, nm, bs, im, ea, es, ec⟩) := by unfold Zb ZV zP; simp [hfo, hb]
  rw [hf]
  obtain ⟨i0, hi0, hz0, hz1, hz2⟩ := info_parts zgL
  have e4 : decide ((4000 : Int) < (es.length : Int) + 1) = false := by simp; omega
  have HM1 : Hid (es.length + 1 ≤ maxLen) := z0j (by unfold maxLen; omega)
  have HM2 : Hid ((es.length + 1) * 88 ≤ 140737488355328) := z0j (by omega)
  have HB : Hid (∀ a c, okC ⟨vw, nm, bs, im, a, es ++ [⟨nu, vi, cl, sq, ⟨kk, hh, ii, nn, cc, vv, tt⟩⟩], c⟩ = b) := z0j (fun a c => by rw [← hb]; exact zbm ⟨rfl, rfl, rfl, rfl, rfl⟩)
  have HSS : Hid (∀ a c, Kv.Small ⟨vw, nm, bs, im, a, es ++ [⟨nu, vi, cl, sq, ⟨kk, hh, ii, nn, cc, vv, tt⟩⟩], c⟩) := z0j (fun a c => ⟨by simp only [List.length_append, z0g, z0h]; omega, him⟩)
  have HNL : Hid ((es ++ [(⟨nu, vi, cl, sq, ⟨kk, hh, ii, nn, cc, vv, tt⟩⟩ : Env)]).length = es.length + 1) := z0j (by simp)
  have HX1 : Hid ((es.flatMap z8 ++ [.int .i64 nu, .int .i64 vi, .int .i64 cl, .int .i64 sq, .int .i64 kk, .int .i64 hh, .int .i64 ii, .int .i64 nn, .int .i64 cc, .int .i64 vv, .int .i64 tt]) = (es ++ [(⟨nu, vi, cl, sq, ⟨kk, hh, ii, nn, cc, vv, tt⟩⟩ : Env)]).flatMap z8) := z0j (by rw [List.flatMap_append]; rfl)
  clear hfo hf hok hec hes him hrs hrc hri ha hR hok2 hb
  cases b
  rw [if_neg (by decide)]
  rotate_left
  rw [if_pos rfl]
  all_goals
   go_enter Tryz.func63, Tryz.ntmps63
   go_wp2_with (first | (go_at_call 71; (with_reducible refine (zR vw nm bs im _ _ ec _).mono ?_); rintro e w1 ⟨rfl, hb⟩; replace hp := hp.call hb; clear hb) | (go_at_call 68; (with_reducible refine (zey [⟨nu, vi, cl, sq, ⟨kk, hh, ii, nn, cc, vv, tt⟩⟩] (bs + es.length) _ 1 1 HN1.out _ HF.out HN2.out _ (zhj hp)).mono ?_); rintro e w1 ⟨rfl, hb⟩; replace hp := hp.call hb; clear hb) | go_skip | ((first | ((refine zh _ _ rfl ?_); refine lB hp rfl (za rfl) rfl ?_; clear hp; intro b w1 hp) | ((refine ze _ _ rfl ?_); first | refine lO hp rfl (za rfl) (by with_reducible first | exact zq | exact zK | exact zab | exact zaU) aa5 ?_ | refine lA hp rfl (za rfl) zeM aa5 ?_) | ((refine zd _ _ _ rfl ?_); (first | refine sO hp rfl (za rfl) (by with_reducible first | exact zq | exact zK | exact zab) aa5 ?_ | refine sA hp rfl (za rfl) (za rfl) zk aa5 ?_ | refine sG hp rfl (za rfl) (za rfl) zk aa5 ?_); clear hp; intro w1 hp; simp only [spl, z0a, z0b] at hp) | ((refine zg _ _ _ rfl ?_); refine lS hp rfl (by intro w; go_simp; rfl) ?_; clear hp; intro b w1 hp; simp only [z0g, z0h, Nat.reduceAdd] at hp)); simp only [zc, zb, z0b, z0a]))
   refine zj [_, _] (zA.two hp.drew at1 at2) [13] [(0, true), (1, true), (2, true), (3, true), (4, true), (5, true), (6, true), (7, true), (8, false), (9, false), (10, true), (11, true), (12, true), (13, false)] (by kernel_rfl) (by kernel_rfl) rfl (by kernel_rfl) (fun _ _ d _ _ h => by cases d <;> exact h) ?_
   replace hp := hp.drew
   repeat' (with_reducible refine zH ?_); first | (with_reducible refine zy ?_) | ((with_reducible refine zU ?_); refine zF rfl ?_; (first | ((with_reducible refine Zy _ rfl ?_); refine tM rfl ?_) | ((with_reducible refine Zt _ _ rfl ?_); first | refine tA rfl (za rfl) zD aa5 ?_ | refine tO rfl (za rfl) zK aa5 ?_) | refine tG (fun w _ => (by go_simp; try rfl)) ?_); try simp only [zc, zb, zl, zi, z0b, z0a, z0d, z0c, zr]) | (refine Zh rfl (fun K hK => ?_); go_wp2_with (first | ((refine Z5 _ _ 23 23 rfl ?_); refine Zj (K := [_, _, _, _]) (M := TT) hp _ _ _ _ rfl wy 38 i0 _ 11 88 Tryz.underlying23 hi0 hz0 hz1 hz2 rfl _ es.length _ (za rfl) HR.out _ (za rfl) 1 [.int .i64 nu, .int .i64 vi, .int .i64 cl, .int .i64 sq, .int .i64 kk, .int .i64 hh, .int .i64 ii, .int .i64 nn, .int .i64 cc, .int .i64 vv, .int .i64 tt] (Src.ofRow Tryz.underlying23 (by decide) _ 1 1 _ rfl (hp.rowIs at0) rfl) HM1.out HM2.out ?_; clear hp; intro v' R' w1 hR' hp; obtain ⟨ae, ce, rfl, hce, _⟩ := hR'.kept; have HRE := z0j hR'; have HCE := z0j hce; clear hR' hce; simp only [z0f, z0e] at hp; simp only [zc, zb, z0b, z0a]) | go_skip | ((first | ((refine zd _ _ _ rfl ?_); (first | refine sO hp rfl (za rfl) (by with_reducible first | exact zq | exact zK | exact zab) aa5 ?_ | refine sA hp rfl (za rfl) (za rfl) zk aa5 ?_ | refine sG hp rfl (za rfl) (za rfl) zk aa5 ?_); clear hp; intro w1 hp; simp only [spl, z0a, z0b] at hp) | ((refine zg _ _ _ rfl ?_); refine lS hp rfl (by intro w; go_simp; rfl) ?_; clear hp; intro b w1 hp; simp only [z0g, z0h, Nat.reduceAdd] at hp)); simp only [zc, zb, z0b, z0a])); (first | refine hK.out _ _ (.inl rfl) ?_ | refine hK.out _ _ (.inr (zA.two hp aa5 aa5)) ?_); clear hK K; try simp only [zc, zb, zl, zi, z0b, z0a, z0d, z0c, zr])
   go_wp2_with (first | (go_at_call 21; (with_reducible refine (zbG vw nm bs im ae (es ++ [⟨nu, vi, cl, sq, ⟨kk, hh, ii, nn, cc, vv, tt⟩⟩]) _ ce HNL.out _ (HB.out _ _) (HSS.out _ _) _ ((HX1.out ▸ HRE.out).keptS.at hp (fun p hm => by simp [hm]))).mono ?_); rintro e w1 ⟨rfl, hb⟩; replace hp := hp.call hb; clear hb; simp only [if_true, Bool.false_eq_true, if_false]) | go_skip | ((first | ((refine zh _ _ rfl ?_); refine lB hp rfl (za rfl) rfl ?_; clear hp; intro b w1 hp) | ((refine ze _ _ rfl ?_); first | refine lO hp rfl (za rfl) (by with_reducible first | exact zq | exact zK | exact zab | exact zaU) aa5 ?_ | refine lA hp rfl (za rfl) zeM aa5 ?_) | ((refine zd _ _ _ rfl ?_); (first | refine sO hp rfl (za rfl) (by with_reducible first | exact zq | exact zK | exact zab) aa5 ?_ | refine sA hp rfl (za rfl) (za rfl) zk aa5 ?_ | refine sG hp rfl (za rfl) (za rfl) zk aa5 ?_); clear hp; intro w1 hp; simp only [spl, z0a, z0b] at hp) | ((refine zg _ _ _ rfl ?_); refine lS hp rfl (by intro w; go_simp; rfl) ?_; clear hp; intro b w1 hp; simp only [z0g, z0h, Nat.reduceAdd] at hp)); simp only [zc, zb, z0b, z0a]))
  ·go_ret
   exact zaD HCE.out (HX1.out ▸ HRE.out) hp.kp HNL.out
  ·go_ret
   exact Zl (by decide) hp.kp
end Go.Proofs.YtjcbpfbifbfkcaaGreat
