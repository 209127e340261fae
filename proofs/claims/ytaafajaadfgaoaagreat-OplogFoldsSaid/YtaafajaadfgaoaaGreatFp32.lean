import Derived.Test.YtaafajaadfgaoaaGreatFp30
set_option linter.unusedSimpArgs false
set_option linter.unusedVariables false
set_option maxRecDepth 100000
set_option maxHeartbeats 60000000
namespace Go.Proofs.YtaafajaadfgaoaaGreat
open Go.RowKit
theorem zbw {ty : TypeId} {k : Nat} (h : zac Tryz.prog ty k = true := by with_reducible first | exact zF | exact Zr | exact Zq) : zac Tryz.prog ty k = true := h
theorem zaz : zB Tryz.prog 26 = true := by kernel_rfl
theorem zne : zac Tryz.prog 103 5 = true := by kernel_rfl
structure Rv where
 kd : Int
 vw : Int
 fr : Int
 nu : Int
 im : ByteArray
 en : Env
 ra : Option Addr
 es : List Env
 rc : Nat
def zbb (x : Kv) : Int := x.bs + x.es.length
def Zf (x : Kv) (r : Rv) : Int × Kv :=
 if (r.kd = 1 ∨ r.kd = 3 ∨ r.kd = 5) ∧ r.vw < x.vw then (141, x)
 else if r.kd = 1 then (0, { x with vw := r.vw })
 else if r.kd = 2 then (if zc5 (zbb x) 0 [r.en] = true then (0, { x with es := x.es ++ [r.en] }) else (140, x))
 else if r.kd = 3 then (if inM r.fr x.bs (zbb x) = true ∧ zc5 r.fr 0 r.es = true then (0, { x with vw := r.vw, nm := r.vw, es := x.es.take (r.fr - x.bs).toNat ++ r.es }) else (140, x))
 else if r.kd = 4 then (if r.nu ≤ x.bs ∨ zbb x < r.nu then (140, x) else (0, { x with es := x.es.drop (r.nu - x.bs).toNat, bs := r.nu, im := r.im }))
 else if r.kd = 5 then (if inM r.nu 0 900000000 = true ∧ zc5 r.nu 0 r.es = true then (0, { x with vw := r.vw, nm := r.vw, bs := r.nu, im := r.im, es := r.es }) else (140, x))
 else (141, x)
noncomputable def ZQ (x : Kv) (r : Rv) : Int × Kv := if (Zf x r).1 = 0 then (if okC (Zf x r).2 = true then (0, (Zf x r).2) else (141, x)) else Zf x r
def zfw (w0 : World) (bw : Nat) (r : Int × Kv) (TT : List Blk) (e : Ending) (w' : World) : Prop :=
 e = .returned (.int .i64 r.1) ∧ (r.1 = 0 → ∃ a c R, r.2.es.length ≤ c ∧ zD 31 11 (.slice a r.2.es.length c) r.2.es.length (r.2.es.flatMap Zi) R ∧ Hp w0.heap.size w0 w' (⟨bw, [.int .i64 r.2.vw, .int .i64 r.2.nm, .int .i64 r.2.bs, .string r.2.im, .slice a r.2.es.length c], 103, 5⟩ :: (R ++ TT))) ∧ (r.1 ≠ 0 → Hp w0.heap.size w0 w' TT)
theorem Z0 {w0 w' : World} {bw : Nat} {c : Int} {x : Kv} {TT : List Blk} (hc : c ≠ 0) (hp : Hp w0.heap.size w0 w' TT) : zfw w0 bw (c, x) TT (.returned (.int .i64 c)) w' := ⟨rfl, fun h => absurd h hc, fun _ => hp⟩
theorem zbZ {w0 w' : World} {bw : Nat} {vw nm bs : Int} {im : ByteArray} {ea : Option Addr} {es : List Env} {ec : Nat} {a : Option Addr} {n c : Nat} {R TT : List Blk} (hc : n ≤ c) (hr : zD 31 11 (.slice a n c) n (es.flatMap Zi) R) (hp : Hp w0.heap.size w0 w' (⟨bw, [.int .i64 vw, .int .i64 nm, .int .i64 bs, .string im, .slice a n c], 103, 5⟩ :: (R ++ TT))) (hn : es.length = n := by rfl) :
  zfw w0 bw (0, ⟨vw, nm, bs, im, ea, es, ec⟩) TT (.returned (.int .i64 0)) w' := by
 subst hn
 exact ⟨rfl, fun _ => ⟨a, c, R, hc, hr, hp⟩, fun h => absurd rfl h⟩
theorem zcj {x : Kv} (h : okC x = true) : (0 ≤ x.vw ∧ x.vw ≤ 900000000) ∧ (0 ≤ x.nm ∧ x.nm ≤ x.vw) ∧ (0 ≤ x.bs ∧ x.bs ≤ 900000000) ∧ x.es.length ≤ 4000 := by
 unfold okC at h
 simp only [Bool.and_eq_true, inM, decide_eq_true_eq] at h
 exact ⟨h.1, h.2.1, h.2.2.1, h.2.2.2.1⟩
theorem zjp (bw : Nat) (vw nm bs : Int) (im : ByteArray) (ea : Option Addr) (es : List Env) (ec : Nat) (rv rf rn : Int) (rim : ByteArray) (nu vi cl sq kk hh ii nn cc vv tt : Int) (ra : Option Addr) (rs : List Env) (rc : Nat) {R TT : List Blk} {w0 w : World} (hR : zD 31 11 (.slice ea es.length ec) es.length (es.flatMap Zi) R) (hec : es.length ≤ ec) (hes : es.length ≤ 1500) (him : im.size ≤ 1000000) (hrs : rs.length ≤ 1500) (hrc : rs.length ≤ rc) (hri : rim.size ≤ 1000000) (hok : okC ⟨vw, nm, bs, im, ea, es, ec⟩ = true) (kd : Int) (hkd : kd = 1) (hp : Hp w0.heap.size w0 w (⟨bw, [.int .i64 vw, .int .i64 nm, .int .i64 bs, .string im, .slice ea es.length ec], 103, 5⟩ :: (R ++ TT))) (ha : zr w0 ra (rs.flatMap Zi)) : Calls Tryz.prog 70 #[.pointer (some ⟨bw, 0, none⟩), .agg #[.int .i64 kd, .int .i64 rv, .int .i64 rf, .int .i64 rn, .string rim, .int .i64 nu, .int .i64 vi, .int .i64 cl, .int .i64 sq, .int .i64 kk, .int .i64 hh, .int .i64 ii, .int .i64 nn, .int .i64 cc, .int .i64 vv, .int .i64 tt, .slice ra rs.length rc]] w (zfw w0 bw (ZQ ⟨vw, nm, bs, im, ea, es, ec⟩ ⟨kd, rv, rf, rn, rim, ⟨nu, vi, cl, sq, ⟨kk, hh, ii, nn, cc, vv, tt⟩⟩, ra, rs, rc⟩) TT) := by
 subst hkd
 have HR := z0j hR
 by_cases h1 : rv < vw
 ·have hf : ZQ ⟨vw, nm, bs, im, ea, es, ec⟩ ⟨1, rv, rf, rn, rim, ⟨nu, vi, cl, sq, ⟨kk, hh, ii, nn, cc, vv, tt⟩⟩, ra, rs, rc⟩ = (141, ⟨vw, nm, bs, im, ea, es, ec⟩) := by unfold ZQ Zf; simp [h1]
  rw [hf]
  have e1 : decide (rv < vw) = true := by simpa using h1
  clear h1 hf hok hec hes him hrs hrc hri ha hR
  go_enter Tryz.func70, Tryz.ntmps70
  go_wp2_with (first | (go_at_call 71; (with_reducible refine (ZK vw nm bs im _ _ ec _).mono ?_); rintro e w1 ⟨rfl, hb⟩; replace hp := hp.call hb; clear hb) | go_skip | ((first | ((refine zh _ _ rfl ?_); refine lB hp rfl (za rfl) rfl ?_; clear hp; intro b w1 hp) | ((refine zf _ _ rfl ?_); first | refine lO hp rfl (za rfl) (by with_reducible first | exact zq | exact zA | exact zO | exact ZL | exact Ze | exact zaz) aa5 ?_ | refine lA hp rfl (za rfl) zbw aa5 ?_) | ((refine zd _ _ _ rfl ?_); (first | refine sO hp rfl (za rfl) (by with_reducible first | exact zq | exact zA | exact zO | exact ZL | exact Ze | exact zaz) aa5 ?_ | refine sA hp rfl (za rfl) (za rfl) zbw aa5 ?_ | refine sG hp rfl (za rfl) (za rfl) zbw aa5 ?_); clear hp; intro w1 hp; simp only [spl, z0a, z0b] at hp) | ((refine zi _ _ _ rfl ?_); refine lS hp rfl (by intro w; go_simp; rfl) ?_; clear hp; intro b w1 hp; simp only [z0g, z0h, Nat.reduceAdd] at hp)); simp only [zc, zb, z0b, z0a]))
  refine zk [_, _] (zE.two hp.drew at0 at1) [] [(0, true), (1, true), (2, true), (3, true), (4, true), (5, true), (6, true), (7, true)] (by kernel_rfl) (by kernel_rfl) rfl (by kernel_rfl) (fun _ _ d _ _ h => by cases d <;> exact h) ?_
  replace hp := hp.drew
  repeat' (with_reducible refine zG ?_); first | (with_reducible refine zw ?_) | ((with_reducible refine zR ?_); refine zy rfl ?_; (first | ((with_reducible refine Zy _ rfl ?_); refine tM rfl ?_) | ((with_reducible refine Zt _ _ rfl ?_); refine tO rfl (za rfl) zq aa5 ?_) | refine tG (fun w _ => (by go_simp; try rfl)) ?_); try simp only [zc, zb, zm, zj, z0b, z0a, z0d, z0c, zn])
  go_wp2_with (first | (go_at_call 71; (with_reducible refine (ZK vw nm bs im _ _ ec _).mono ?_); rintro e w1 ⟨rfl, hb⟩; replace hp := hp.call hb; clear hb) | go_skip | ((first | ((refine zh _ _ rfl ?_); refine lB hp rfl (za rfl) rfl ?_; clear hp; intro b w1 hp) | ((refine zf _ _ rfl ?_); first | refine lO hp rfl (za rfl) (by with_reducible first | exact zq | exact zA | exact zO | exact ZL | exact Ze | exact zaz) aa5 ?_ | refine lA hp rfl (za rfl) zbw aa5 ?_) | ((refine zd _ _ _ rfl ?_); (first | refine sO hp rfl (za rfl) (by with_reducible first | exact zq | exact zA | exact zO | exact ZL | exact Ze | exact zaz) aa5 ?_ | refine sA hp rfl (za rfl) (za rfl) zbw aa5 ?_ | refine sG hp rfl (za rfl) (za rfl) zbw aa5 ?_); clear hp; intro w1 hp; simp only [spl, z0a, z0b] at hp) | ((refine zi _ _ _ rfl ?_); refine lS hp rfl (by intro w; go_simp; rfl) ?_; clear hp; intro b w1 hp; simp only [z0g, z0h, Nat.reduceAdd] at hp)); simp only [zc, zb, z0b, z0a]))
  go_ret
  exact Z0 (by decide) hp.kp
 ·have hok2 := zcj hok
  simp only at hok2
  have e1 : decide (rv < vw) = false := by simpa using h1
  have e4 : decide ((4000 : Int) < (es.length : Int)) = false := by simp; omega
  obtain ⟨b, hb⟩ : ∃ b, okC ⟨rv, nm, bs, im, ea, es, ec⟩ = b := ⟨_, rfl⟩
  have hf : ZQ ⟨vw, nm, bs, im, ea, es, ec⟩ ⟨1, rv, rf, rn, rim, ⟨nu, vi, cl, sq, ⟨kk, hh, ii, nn, cc, vv, tt⟩⟩, ra, rs, rc⟩ = if b = true then (0, ⟨rv, nm, bs, im, ea, es, ec⟩) else (141, ⟨vw, nm, bs, im, ea, es, ec⟩) := by unfold ZQ Zf; simp [h1, hb]
  rw [hf]
  have HB := z0j hb
  have HSS : Hid (Kv.Small ⟨rv, nm, bs, im, ea, es, ec⟩) := z0j ⟨by simp only; omega, him⟩
  have HEC := z0j hec
  clear h1 hf hok hec hes him hrs hrc hri ha hR hb hok2
  cases b
  rw [if_neg (by decide)]
  rotate_left
  rw [if_pos rfl]
  all_goals
   go_enter Tryz.func70, Tryz.ntmps70
   go_wp2_with (first | (go_at_call 71; (with_reducible refine (ZK vw nm bs im _ _ ec _).mono ?_); rintro e w1 ⟨rfl, hb⟩; replace hp := hp.call hb; clear hb) | go_skip | ((first | ((refine zh _ _ rfl ?_); refine lB hp rfl (za rfl) rfl ?_; clear hp; intro b w1 hp) | ((refine zf _ _ rfl ?_); first | refine lO hp rfl (za rfl) (by with_reducible first | exact zq | exact zA | exact zO | exact ZL | exact Ze | exact zaz) aa5 ?_ | refine lA hp rfl (za rfl) zbw aa5 ?_) | ((refine zd _ _ _ rfl ?_); (first | refine sO hp rfl (za rfl) (by with_reducible first | exact zq | exact zA | exact zO | exact ZL | exact Ze | exact zaz) aa5 ?_ | refine sA hp rfl (za rfl) (za rfl) zbw aa5 ?_ | refine sG hp rfl (za rfl) (za rfl) zbw aa5 ?_); clear hp; intro w1 hp; simp only [spl, z0a, z0b] at hp) | ((refine zi _ _ _ rfl ?_); refine lS hp rfl (by intro w; go_simp; rfl) ?_; clear hp; intro b w1 hp; simp only [z0g, z0h, Nat.reduceAdd] at hp)); simp only [zc, zb, z0b, z0a]))
   refine zk [_, _] (zE.two hp.drew at0 at1) [] [(0, true), (1, true), (2, true), (3, true), (4, true), (5, true), (6, true), (7, true)] (by kernel_rfl) (by kernel_rfl) rfl (by kernel_rfl) (fun _ _ d _ _ h => by cases d <;> exact h) ?_
   replace hp := hp.drew
   repeat' (with_reducible refine zG ?_); first | (with_reducible refine zw ?_) | ((with_reducible refine zR ?_); refine zy rfl ?_; (first | ((with_reducible refine Zy _ rfl ?_); refine tM rfl ?_) | ((with_reducible refine Zt _ _ rfl ?_); refine tO rfl (za rfl) zq aa5 ?_) | refine tG (fun w _ => (by go_simp; try rfl)) ?_); try simp only [zc, zb, zm, zj, z0b, z0a, z0d, z0c, zn])
   go_wp2_with (first | (go_at_call 71; (with_reducible refine (ZK vw nm bs im _ _ ec _).mono ?_); rintro e w1 ⟨rfl, hb⟩; replace hp := hp.call hb; clear hb) | (go_at_call 64; (with_reducible refine (zch rv nm bs im ea es ec _ HB.out HSS.out _ (HR.out.keptS.at hp (fun p hm => by simp [hm]))).mono ?_); rintro e w1 ⟨rfl, hb⟩; replace hp := hp.call hb; clear hb; simp only [if_true, Bool.false_eq_true, if_false]) | go_skip | ((first | ((refine zh _ _ rfl ?_); refine lB hp rfl (za rfl) rfl ?_; clear hp; intro b w1 hp) | ((refine zf _ _ rfl ?_); first | refine lO hp rfl (za rfl) (by with_reducible first | exact zq | exact zA | exact zO | exact ZL | exact Ze | exact zaz) aa5 ?_ | refine lA hp rfl (za rfl) zbw aa5 ?_) | ((refine zd _ _ _ rfl ?_); (first | refine sO hp rfl (za rfl) (by with_reducible first | exact zq | exact zA | exact zO | exact ZL | exact Ze | exact zaz) aa5 ?_ | refine sA hp rfl (za rfl) (za rfl) zbw aa5 ?_ | refine sG hp rfl (za rfl) (za rfl) zbw aa5 ?_); clear hp; intro w1 hp; simp only [spl, z0a, z0b] at hp) | ((refine zi _ _ _ rfl ?_); refine lS hp rfl (by intro w; go_simp; rfl) ?_; clear hp; intro b w1 hp; simp only [z0g, z0h, Nat.reduceAdd] at hp)); simp only [zc, zb, z0b, z0a]))
  ·go_ret
   exact zbZ HEC.out HR.out hp.tail
  ·go_ret
   exact Z0 (by decide) hp.kp
theorem zgf (l : List Env) (fr : Int) (a : Option Addr) (n c : Nat) (hn : l.length = n) (b : Bool) (hb : zc5 fr 0 l = b) (hl : n ≤ 100000) (w : World) (ha : zr w a (l.flatMap Zi)) :
  Calls Tryz.prog 137 #[.slice a n c, .int .i64 fr] w fun e w' => e = .returned (.bool b) ∧ Below w.heap.size w w' := by
 subst hn
 exact ZN l fr a c b hb hl w ha
theorem zhk {B : Nat} {w0 w : World} {L : List Blk} {b t n : Nat} {nu vi cl sq kk hh ii nn cc vv tt : Int} (hp : Hp B w0 w (⟨b, [.int .i64 nu, .int .i64 vi, .int .i64 cl, .int .i64 sq, .int .i64 kk, .int .i64 hh, .int .i64 ii, .int .i64 nn, .int .i64 cc, .int .i64 vv, .int .i64 tt], t, n⟩ :: L)) : zr w (some ⟨b, 0, none⟩) (([⟨nu, vi, cl, sq, ⟨kk, hh, ii, nn, cc, vv, tt⟩⟩] : List Env).flatMap Zi) := hp.rowIs (i := 0) rfl
theorem zif (bw : Nat) (vw nm bs : Int) (im : ByteArray) (ea : Option Addr) (es : List Env) (ec : Nat) (rv rf rn : Int) (rim : ByteArray) (nu vi cl sq kk hh ii nn cc vv tt : Int) (ra : Option Addr) (rs : List Env) (rc : Nat) {R TT : List Blk} {w0 w : World} (hR : zD 31 11 (.slice ea es.length ec) es.length (es.flatMap Zi) R) (hec : es.length ≤ ec) (hes : es.length ≤ 1500) (him : im.size ≤ 1000000) (hrs : rs.length ≤ 1500) (hrc : rs.length ≤ rc) (hri : rim.size ≤ 1000000) (hok : okC ⟨vw, nm, bs, im, ea, es, ec⟩ = true) (kd : Int) (hkd : kd = 2) (hp : Hp w0.heap.size w0 w (⟨bw, [.int .i64 vw, .int .i64 nm, .int .i64 bs, .string im, .slice ea es.length ec], 103, 5⟩ :: (R ++ TT))) (ha : zr w0 ra (rs.flatMap Zi)) : Calls Tryz.prog 70 #[.pointer (some ⟨bw, 0, none⟩), .agg #[.int .i64 kd, .int .i64 rv, .int .i64 rf, .int .i64 rn, .string rim, .int .i64 nu, .int .i64 vi, .int .i64 cl, .int .i64 sq, .int .i64 kk, .int .i64 hh, .int .i64 ii, .int .i64 nn, .int .i64 cc, .int .i64 vv, .int .i64 tt, .slice ra rs.length rc]] w (zfw w0 bw (ZQ ⟨vw, nm, bs, im, ea, es, ec⟩ ⟨kd, rv, rf, rn, rim, ⟨nu, vi, cl, sq, ⟨kk, hh, ii, nn, cc, vv, tt⟩⟩, ra, rs, rc⟩) TT) := by
 subst hkd
 have HR := z0j hR
 have hok2 := zcj hok
 simp only at hok2
 have e0 : wrap64 (bs + es.length) = bs + es.length := by unfold wrap64; omega
 have HN1 : Hid ([(⟨nu, vi, cl, sq, ⟨kk, hh, ii, nn, cc, vv, tt⟩⟩ : Env)].length = 1) := z0j rfl
 have HN2 : Hid (1 ≤ 100000) := z0j (by decide)
 cases hfo : zc5 (bs + es.length) 0 [⟨nu, vi, cl, sq, ⟨kk, hh, ii, nn, cc, vv, tt⟩⟩] with
 | false =>
  have hf : ZQ ⟨vw, nm, bs, im, ea, es, ec⟩ ⟨2, rv, rf, rn, rim, ⟨nu, vi, cl, sq, ⟨kk, hh, ii, nn, cc, vv, tt⟩⟩, ra, rs, rc⟩ = (140, ⟨vw, nm, bs, im, ea, es, ec⟩) := by unfold ZQ Zf zbb; simp [hfo]
  rw [hf]
  have HF := z0j hfo
  clear hfo hf hok hec hes him hrs hrc hri ha hR hok2
  go_enter Tryz.func70, Tryz.ntmps70
  go_wp2_with (first | (go_at_call 71; (with_reducible refine (ZK vw nm bs im _ _ ec _).mono ?_); rintro e w1 ⟨rfl, hb⟩; replace hp := hp.call hb; clear hb) | (go_at_call 137; (with_reducible refine (zgf [⟨nu, vi, cl, sq, ⟨kk, hh, ii, nn, cc, vv, tt⟩⟩] (bs + es.length) _ 1 1 HN1.out _ HF.out HN2.out _ (zhk hp)).mono ?_); rintro e w1 ⟨rfl, hb⟩; replace hp := hp.call hb; clear hb) | go_skip | ((first | ((refine zh _ _ rfl ?_); refine lB hp rfl (za rfl) rfl ?_; clear hp; intro b w1 hp) | ((refine zf _ _ rfl ?_); first | refine lO hp rfl (za rfl) (by with_reducible first | exact zq | exact zA | exact zO | exact ZL | exact Ze | exact zaz) aa5 ?_ | refine lA hp rfl (za rfl) zbw aa5 ?_) | ((refine zd _ _ _ rfl ?_); (first | refine sO hp rfl (za rfl) (by with_reducible first | exact zq | exact zA | exact zO | exact ZL | exact Ze | exact zaz) aa5 ?_ | refine sA hp rfl (za rfl) (za rfl) zbw aa5 ?_ | refine sG hp rfl (za rfl) (za rfl) zbw aa5 ?_); clear hp; intro w1 hp; simp only [spl, z0a, z0b] at hp) | ((refine zi _ _ _ rfl ?_); refine lS hp rfl (by intro w; go_simp; rfl) ?_; clear hp; intro b w1 hp; simp only [z0g, z0h, Nat.reduceAdd] at hp)); simp only [zc, zb, z0b, z0a]))
  go_ret
  exact Z0 (by decide) hp.kp
 | true =>
  have HF := z0j hfo
  obtain ⟨b, hb⟩ : ∃ b, okC ⟨vw, nm, bs, im, ea, es ++ [⟨nu, vi, cl, sq, ⟨kk, hh, ii, nn, cc, vv, tt⟩⟩], ec⟩ = b := ⟨_, rfl⟩
  have hf : ZQ ⟨vw, nm, bs, im, ea, es, ec⟩ ⟨2, rv, rf, rn, rim, ⟨nu, vi, cl, sq, ⟨kk, hh, ii, nn, cc, vv, tt⟩⟩, ra, rs, rc⟩ = if b = true then (0, ⟨vw, nm, bs, im, ea, es ++ [⟨nu, vi, cl, sq, ⟨kk, hh, ii, nn, cc, vv, tt⟩⟩], ec⟩) else (141, ⟨vw, nm, bs, im, ea, es, ec⟩) := by unfold ZQ Zf zbb; simp [hfo, hb]
  rw [hf]
  obtain ⟨i0, hi0, hz0, hz1, hz2⟩ := info_parts zfh
  have e4 : decide ((4000 : Int) < (es.length : Int) + 1) = false := by simp; omega
  have HM1 : Hid (es.length + 1 ≤ maxLen) := z0j (by unfold maxLen; omega)
  have HM2 : Hid ((es.length + 1) * 88 ≤ 140737488355328) := z0j (by omega)
  have HB : Hid (∀ a c, okC ⟨vw, nm, bs, im, a, es ++ [⟨nu, vi, cl, sq, ⟨kk, hh, ii, nn, cc, vv, tt⟩⟩], c⟩ = b) := z0j (fun a c => by rw [← hb]; exact zdv ⟨rfl, rfl, rfl, rfl, rfl⟩)
  have HSS : Hid (∀ a c, Kv.Small ⟨vw, nm, bs, im, a, es ++ [⟨nu, vi, cl, sq, ⟨kk, hh, ii, nn, cc, vv, tt⟩⟩], c⟩) := z0j (fun a c => ⟨by simp only [List.length_append, z0g, z0h]; omega, him⟩)
  have HNL : Hid ((es ++ [(⟨nu, vi, cl, sq, ⟨kk, hh, ii, nn, cc, vv, tt⟩⟩ : Env)]).length = es.length + 1) := z0j (by simp)
  have HX1 : Hid ((es.flatMap Zi ++ [.int .i64 nu, .int .i64 vi, .int .i64 cl, .int .i64 sq, .int .i64 kk, .int .i64 hh, .int .i64 ii, .int .i64 nn, .int .i64 cc, .int .i64 vv, .int .i64 tt]) = (es ++ [(⟨nu, vi, cl, sq, ⟨kk, hh, ii, nn, cc, vv, tt⟩⟩ : Env)]).flatMap Zi) := z0j (by rw [List.flatMap_append]; rfl)
  clear hfo hf hok hec hes him hrs hrc hri ha hR hok2 hb
  cases b
  rw [if_neg (by decide)]
  rotate_left
  rw [if_pos rfl]
  all_goals
   go_enter Tryz.func70, Tryz.ntmps70
   go_wp2_with (first | (go_at_call 71; (with_reducible refine (ZK vw nm bs im _ _ ec _).mono ?_); rintro e w1 ⟨rfl, hb⟩; replace hp := hp.call hb; clear hb) | (go_at_call 137; (with_reducible refine (zgf [⟨nu, vi, cl, sq, ⟨kk, hh, ii, nn, cc, vv, tt⟩⟩] (bs + es.length) _ 1 1 HN1.out _ HF.out HN2.out _ (zhk hp)).mono ?_); rintro e w1 ⟨rfl, hb⟩; replace hp := hp.call hb; clear hb) | go_skip | ((first | ((refine zh _ _ rfl ?_); refine lB hp rfl (za rfl) rfl ?_; clear hp; intro b w1 hp) | ((refine zf _ _ rfl ?_); first | refine lO hp rfl (za rfl) (by with_reducible first | exact zq | exact zA | exact zO | exact ZL | exact Ze | exact zaz) aa5 ?_ | refine lA hp rfl (za rfl) zbw aa5 ?_) | ((refine zd _ _ _ rfl ?_); (first | refine sO hp rfl (za rfl) (by with_reducible first | exact zq | exact zA | exact zO | exact ZL | exact Ze | exact zaz) aa5 ?_ | refine sA hp rfl (za rfl) (za rfl) zbw aa5 ?_ | refine sG hp rfl (za rfl) (za rfl) zbw aa5 ?_); clear hp; intro w1 hp; simp only [spl, z0a, z0b] at hp) | ((refine zi _ _ _ rfl ?_); refine lS hp rfl (by intro w; go_simp; rfl) ?_; clear hp; intro b w1 hp; simp only [z0g, z0h, Nat.reduceAdd] at hp)); simp only [zc, zb, z0b, z0a]))
   refine zk [_, _] (zE.two hp.drew at1 at2) [13] [(0, true), (1, true), (2, true), (3, true), (4, true), (5, true), (6, true), (7, true), (8, false), (9, false), (10, true), (11, true), (12, true), (13, false)] (by kernel_rfl) (by kernel_rfl) rfl (by kernel_rfl) (fun _ _ d _ _ h => by cases d <;> exact h) ?_
   replace hp := hp.drew
   repeat' (with_reducible refine zG ?_); first | (with_reducible refine zw ?_) | ((with_reducible refine zR ?_); refine zy rfl ?_; (first | ((with_reducible refine Zy _ rfl ?_); refine tM rfl ?_) | ((with_reducible refine Zt _ _ rfl ?_); first | refine tA rfl (za rfl) Zq aa5 ?_ | refine tO rfl (za rfl) zO aa5 ?_) | refine tG (fun w _ => (by go_simp; try rfl)) ?_); try simp only [zc, zb, zm, zj, z0b, z0a, z0d, z0c, zn]) | (refine zQ rfl (fun K hK => ?_); go_wp2_with (first | ((refine Z5 _ _ 22 22 rfl ?_); refine Zp (K := [_, _, _, _]) (M := TT) hp _ _ _ _ rfl wy 31 i0 _ 11 88 Tryz.underlying22 hi0 hz0 hz1 hz2 rfl _ es.length _ (za rfl) HR.out _ (za rfl) 1 [.int .i64 nu, .int .i64 vi, .int .i64 cl, .int .i64 sq, .int .i64 kk, .int .i64 hh, .int .i64 ii, .int .i64 nn, .int .i64 cc, .int .i64 vv, .int .i64 tt] (Src.ofRow Tryz.underlying22 (by decide) _ 1 1 _ rfl (hp.rowIs at0) rfl) HM1.out HM2.out ?_; clear hp; intro v' R' w1 hR' hp; obtain ⟨ae, ce, rfl, hce, _⟩ := hR'.kept; have HRE := z0j hR'; have HCE := z0j hce; clear hR' hce; simp only [z0f, z0e] at hp; simp only [zc, zb, z0b, z0a]) | go_skip | ((first | ((refine zd _ _ _ rfl ?_); (first | refine sO hp rfl (za rfl) (by with_reducible first | exact zq | exact zA | exact zO | exact ZL | exact Ze | exact zaz) aa5 ?_ | refine sA hp rfl (za rfl) (za rfl) zbw aa5 ?_ | refine sG hp rfl (za rfl) (za rfl) zbw aa5 ?_); clear hp; intro w1 hp; simp only [spl, z0a, z0b] at hp) | ((refine zi _ _ _ rfl ?_); refine lS hp rfl (by intro w; go_simp; rfl) ?_; clear hp; intro b w1 hp; simp only [z0g, z0h, Nat.reduceAdd] at hp)); simp only [zc, zb, z0b, z0a])); (first | refine hK.out _ _ (.inl rfl) ?_ | refine hK.out _ _ (.inr (zE.two hp aa5 aa5)) ?_); clear hK K; try simp only [zc, zb, zm, zj, z0b, z0a, z0d, z0c, zn])
   go_wp2_with (first | (go_at_call 64; (with_reducible refine (zdn vw nm bs im ae (es ++ [⟨nu, vi, cl, sq, ⟨kk, hh, ii, nn, cc, vv, tt⟩⟩]) _ ce HNL.out _ (HB.out _ _) (HSS.out _ _) _ ((HX1.out ▸ HRE.out).keptS.at hp (fun p hm => by simp [hm]))).mono ?_); rintro e w1 ⟨rfl, hb⟩; replace hp := hp.call hb; clear hb; simp only [if_true, Bool.false_eq_true, if_false]) | go_skip | ((first | ((refine zh _ _ rfl ?_); refine lB hp rfl (za rfl) rfl ?_; clear hp; intro b w1 hp) | ((refine zf _ _ rfl ?_); first | refine lO hp rfl (za rfl) (by with_reducible first | exact zq | exact zA | exact zO | exact ZL | exact Ze | exact zaz) aa5 ?_ | refine lA hp rfl (za rfl) zbw aa5 ?_) | ((refine zd _ _ _ rfl ?_); (first | refine sO hp rfl (za rfl) (by with_reducible first | exact zq | exact zA | exact zO | exact ZL | exact Ze | exact zaz) aa5 ?_ | refine sA hp rfl (za rfl) (za rfl) zbw aa5 ?_ | refine sG hp rfl (za rfl) (za rfl) zbw aa5 ?_); clear hp; intro w1 hp; simp only [spl, z0a, z0b] at hp) | ((refine zi _ _ _ rfl ?_); refine lS hp rfl (by intro w; go_simp; rfl) ?_; clear hp; intro b w1 hp; simp only [z0g, z0h, Nat.reduceAdd] at hp)); simp only [zc, zb, z0b, z0a]))
  ·go_ret
   exact zbZ HCE.out (HX1.out ▸ HRE.out) hp.kp HNL.out
  ·go_ret
   exact Z0 (by decide) hp.kp
end Go.Proofs.YtaafajaadfgaoaaGreat
