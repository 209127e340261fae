import Derived.Test.YtaafajaadfgaoaaGreatCx33
set_option linter.unusedSimpArgs false
set_option linter.unusedVariables false
set_option maxRecDepth 100000
set_option maxHeartbeats 60000000
namespace Go.Proofs.YtaafajaadfgaoaaGreat
open Go.RowKit
theorem zpd {ty : TypeId} {k : Nat} (h : ZB Tryz.prog ty k = true := by with_reducible first | exact zbf | exact zfM | exact zc6) : ZB Tryz.prog ty k = true := h
theorem zeu : zy Tryz.prog 26 = true := by kernel_rfl
theorem zsK : ZB Tryz.prog 103 5 = true := by kernel_rfl
structure Rv where
 kd : Int
 vw : Int
 fr : Int
 nu : Int
 im : ByteArray
 en : Env
 ra : Option Addr
 es : List Env
 rc : Nat
def zaM (x : Kv) : Int := x.bs + x.es.length
def zat (x : Kv) (r : Rv) : Int × Kv :=
 if (r.kd = 1 ∨ r.kd = 3 ∨ r.kd = 5) ∧ r.vw < x.vw then (141, x)
 else if r.kd = 1 then (0, { x with vw := r.vw })
 else if r.kd = 2 then (if zeP (zaM x) 0 [r.en] = true then (0, { x with es := x.es ++ [r.en] }) else (140, x))
 else if r.kd = 3 then (if inM r.fr x.bs (zaM x) = true ∧ zeP r.fr 0 r.es = true then (0, { x with vw := r.vw, nm := r.vw, es := x.es.take (r.fr - x.bs).toNat ++ r.es }) else (140, x))
 else if r.kd = 4 then (if r.nu ≤ x.bs ∨ zaM x < r.nu then (140, x) else (0, { x with es := x.es.drop (r.nu - x.bs).toNat, bs := r.nu, im := r.im }))
 else if r.kd = 5 then (if inM r.nu 0 900000000 = true ∧ zeP r.nu 0 r.es = true then (0, { x with vw := r.vw, nm := r.vw, bs := r.nu, im := r.im, es := r.es }) else (140, x))
 else (141, x)
noncomputable def Zu (x : Kv) (r : Rv) : Int × Kv := if (zat x r).1 = 0 then (if okC (zat x r).2 = true then (0, (zat x r).2) else (141, x)) else zat x r
def zgw (w0 : World) (bw : Nat) (r : Int × Kv) (TT : List Blk) (e : Ending) (w' : World) : Prop :=
 e = .returned (.int .i64 r.1) ∧ (r.1 = 0 → ∃ a c R, r.2.es.length ≤ c ∧ zB 31 11 (.slice a r.2.es.length c) r.2.es.length (r.2.es.flatMap Zy) R ∧ Hp w0.heap.size w0 w' (⟨bw, [.int .i64 r.2.vw, .int .i64 r.2.nm, .int .i64 r.2.bs, .string r.2.im, .slice a r.2.es.length c], 103, 5⟩ :: (R ++ TT))) ∧ (r.1 ≠ 0 → Hp w0.heap.size w0 w' TT)
theorem ZN {w0 w' : World} {bw : Nat} {c : Int} {x : Kv} {TT : List Blk} (hc : c ≠ 0) (hp : Hp w0.heap.size w0 w' TT) : zgw w0 bw (c, x) TT (.returned (.int .i64 c)) w' := ⟨rfl, fun h => absurd h hc, fun _ => hp⟩
theorem zb1 {w0 w' : World} {bw : Nat} {vw nm bs : Int} {im : ByteArray} {ea : Option Addr} {es : List Env} {ec : Nat} {a : Option Addr} {n c : Nat} {R TT : List Blk} (hc : n ≤ c) (hr : zB 31 11 (.slice a n c) n (es.flatMap Zy) R) (hp : Hp w0.heap.size w0 w' (⟨bw, [.int .i64 vw, .int .i64 nm, .int .i64 bs, .string im, .slice a n c], 103, 5⟩ :: (R ++ TT))) (hn : es.length = n := by rfl) :
  zgw w0 bw (0, ⟨vw, nm, bs, im, ea, es, ec⟩) TT (.returned (.int .i64 0)) w' := by
 subst hn
 exact ⟨rfl, fun _ => ⟨a, c, R, hc, hr, hp⟩, fun h => absurd rfl h⟩
theorem zbh {x : Kv} (h : okC x = true) : (0 ≤ x.vw ∧ x.vw ≤ 900000000) ∧ (0 ≤ x.nm ∧ x.nm ≤ x.vw) ∧ (0 ≤ x.bs ∧ x.bs ≤ 900000000) ∧ x.es.length ≤ 4000 := by
 unfold okC at h
 simp only [Bool.and_eq_true, inM, decide_eq_true_eq] at h
 exact ⟨h.1, h.2.1, h.2.2.1, h.2.2.2.1⟩
theorem zmM (bw : Nat) (vw nm bs : Int) (im : ByteArray) (ea : Option Addr) (es : List Env) (ec : Nat) (rv rf rn : Int) (rim : ByteArray) (nu vi cl sq kk hh ii nn cc vv tt : Int) (ra : Option Addr) (rs : List Env) (rc : Nat) {R TT : List Blk} {w0 w : World} (hR : zB 31 11 (.slice ea es.length ec) es.length (es.flatMap Zy) R) (hec : es.length ≤ ec) (hes : es.length ≤ 1500) (him : im.size ≤ 1000000) (hrs : rs.length ≤ 1500) (hrc : rs.length ≤ rc) (hri : rim.size ≤ 1000000) (hok : okC ⟨vw, nm, bs, im, ea, es, ec⟩ = true) (kd : Int) (hkd : kd = 1) (hp : Hp w0.heap.size w0 w (⟨bw, [.int .i64 vw, .int .i64 nm, .int .i64 bs, .string im, .slice ea es.length ec], 103, 5⟩ :: (R ++ TT))) (ha : zm w0 ra (rs.flatMap Zy)) : Calls Tryz.prog 70 #[.pointer (some ⟨bw, 0, none⟩), .agg #[.int .i64 kd, .int .i64 rv, .int .i64 rf, .int .i64 rn, .string rim, .int .i64 nu, .int .i64 vi, .int .i64 cl, .int .i64 sq, .int .i64 kk, .int .i64 hh, .int .i64 ii, .int .i64 nn, .int .i64 cc, .int .i64 vv, .int .i64 tt, .slice ra rs.length rc]] w (zgw w0 bw (Zu ⟨vw, nm, bs, im, ea, es, ec⟩ ⟨kd, rv, rf, rn, rim, ⟨nu, vi, cl, sq, ⟨kk, hh, ii, nn, cc, vv, tt⟩⟩, ra, rs, rc⟩) TT) := by
 subst hkd
 have HR := z0j hR
 by_cases h1 : rv < vw
 ·have hf : Zu ⟨vw, nm, bs, im, ea, es, ec⟩ ⟨1, rv, rf, rn, rim, ⟨nu, vi, cl, sq, ⟨kk, hh, ii, nn, cc, vv, tt⟩⟩, ra, rs, rc⟩ = (141, ⟨vw, nm, bs, im, ea, es, ec⟩) := by unfold Zu zat; simp [h1]
  rw [hf]
  have e1 : decide (rv < vw) = true := by simpa using h1
  clear h1 hf hok hec hes him hrs hrc hri ha hR
  go_enter Tryz.func70, Tryz.ntmps70
  go_wp2_with (first | ((first | ((refine zk _ _ rfl ?_); refine lB hp rfl (za rfl) rfl ?_; clear hp; intro b w1 hp) | ((refine zd _ _ rfl ?_); first | refine lO hp rfl (za rfl) (by with_reducible first | exact zeu) aa5 ?_)); simp only [zc, zb, z0b, z0a]))
  refine zf [_, _] (zt.two hp.drew at0 at1) [] [(0, true), (1, true), (2, true), (3, true), (4, true), (5, true), (6, true), (7, true)] (by kernel_rfl) (by kernel_rfl) rfl (by kernel_rfl) (fun _ _ d _ _ h => by cases d <;> exact h) ?_
  replace hp := hp.drew
  repeat' (with_reducible refine zq ?_); first | (with_reducible refine zl ?_) | ((with_reducible refine zw ?_); refine zn rfl ?_; (first | ((with_reducible refine zH _ rfl ?_); refine tM rfl ?_) | ((with_reducible refine zI _ _ rfl ?_); refine tO rfl (za rfl) zr aa5 ?_) | refine tG (fun w _ => (by go_simp; try rfl)) ?_); try simp only [zc, zb, zh, ze, z0b, z0a, z0d, z0c, zj])
  go_wp2_with (first | fail)
  go_ret
  exact ZN (by decide) hp.kp
 ·have hok2 := zbh hok
  simp only at hok2
  have e1 : decide (rv < vw) = false := by simpa using h1
  have e4 : decide ((4000 : Int) < (es.length : Int)) = false := by simp; omega
  obtain ⟨b, hb⟩ : ∃ b, okC ⟨rv, nm, bs, im, ea, es, ec⟩ = b := ⟨_, rfl⟩
  have hf : Zu ⟨vw, nm, bs, im, ea, es, ec⟩ ⟨1, rv, rf, rn, rim, ⟨nu, vi, cl, sq, ⟨kk, hh, ii, nn, cc, vv, tt⟩⟩, ra, rs, rc⟩ = if b = true then (0, ⟨rv, nm, bs, im, ea, es, ec⟩) else (141, ⟨vw, nm, bs, im, ea, es, ec⟩) := by unfold Zu zat; simp [h1, hb]
  rw [hf]
  have HB := z0j hb
  have HSS : Hid (Kv.Small ⟨rv, nm, bs, im, ea, es, ec⟩) := z0j ⟨by simp only; omega, him⟩
  have HEC := z0j hec
  clear h1 hf hok hec hes him hrs hrc hri ha hR hb hok2
  cases b
  rw [if_neg (by decide)]
  rotate_left
  rw [if_pos rfl]
  all_goals
   go_enter Tryz.func70, Tryz.ntmps70
   go_wp2_with (first | ((first | ((refine zk _ _ rfl ?_); refine lB hp rfl (za rfl) rfl ?_; clear hp; intro b w1 hp) | ((refine zd _ _ rfl ?_); first | refine lO hp rfl (za rfl) (by with_reducible first | exact zeu) aa5 ?_)); simp only [zc, zb, z0b, z0a]))
   refine zf [_, _] (zt.two hp.drew at0 at1) [] [(0, true), (1, true), (2, true), (3, true), (4, true), (5, true), (6, true), (7, true)] (by kernel_rfl) (by kernel_rfl) rfl (by kernel_rfl) (fun _ _ d _ _ h => by cases d <;> exact h) ?_
   replace hp := hp.drew
   repeat' (with_reducible refine zq ?_); first | (with_reducible refine zl ?_) | ((with_reducible refine zw ?_); refine zn rfl ?_; (first | ((with_reducible refine zH _ rfl ?_); refine tM rfl ?_) | ((with_reducible refine zI _ _ rfl ?_); refine tO rfl (za rfl) zr aa5 ?_) | refine tG (fun w _ => (by go_simp; try rfl)) ?_); try simp only [zc, zb, zh, ze, z0b, z0a, z0d, z0c, zj])
   go_wp2_with (first | (go_at_call 71; (with_reducible refine (za3 vw nm bs im _ _ ec _).mono ?_); rintro e w1 ⟨rfl, hb⟩; replace hp := hp.call hb; clear hb) | (go_at_call 64; (with_reducible refine (zaK rv nm bs im ea es ec _ HB.out HSS.out _ (HR.out.keptS.at hp (fun p hm => by simp [hm]))).mono ?_); rintro e w1 ⟨rfl, hb⟩; replace hp := hp.call hb; clear hb; simp only [if_true, Bool.false_eq_true, if_false]) | ((first | ((refine zd _ _ rfl ?_); first | refine lO hp rfl (za rfl) (by with_reducible first | exact zr | exact zaj | exact zeu) aa5 ?_ | refine lA hp rfl (za rfl) zpd aa5 ?_) | ((refine zg _ _ _ rfl ?_); (first | refine sO hp rfl (za rfl) (by with_reducible first | exact zr) aa5 ?_); clear hp; intro w1 hp; simp only [spl, z0a, z0b] at hp)); simp only [zc, zb, z0b, z0a]))
  ·go_ret
   exact zb1 HEC.out HR.out hp.tail
  ·go_ret
   exact ZN (by decide) hp.kp
theorem zhQ (l : List Env) (fr : Int) (a : Option Addr) (n c : Nat) (hn : l.length = n) (b : Bool) (hb : zeP fr 0 l = b) (hl : n ≤ 100000) (w : World) (ha : zm w a (l.flatMap Zy)) :
  Calls Tryz.prog 137 #[.slice a n c, .int .i64 fr] w fun e w' => e = .returned (.bool b) ∧ Below w.heap.size w w' := by
 subst hn
 exact zaB l fr a c b hb hl w ha
theorem znB {B : Nat} {w0 w : World} {L : List Blk} {b t n : Nat} {nu vi cl sq kk hh ii nn cc vv tt : Int} (hp : Hp B w0 w (⟨b, [.int .i64 nu, .int .i64 vi, .int .i64 cl, .int .i64 sq, .int .i64 kk, .int .i64 hh, .int .i64 ii, .int .i64 nn, .int .i64 cc, .int .i64 vv, .int .i64 tt], t, n⟩ :: L)) : zm w (some ⟨b, 0, none⟩) (([⟨nu, vi, cl, sq, ⟨kk, hh, ii, nn, cc, vv, tt⟩⟩] : List Env).flatMap Zy) := hp.rowIs (i := 0) rfl
theorem zk7 (bw : Nat) (vw nm bs : Int) (im : ByteArray) (ea : Option Addr) (es : List Env) (ec : Nat) (rv rf rn : Int) (rim : ByteArray) (nu vi cl sq kk hh ii nn cc vv tt : Int) (ra : Option Addr) (rs : List Env) (rc : Nat) {R TT : List Blk} {w0 w : World} (hR : zB 31 11 (.slice ea es.length ec) es.length (es.flatMap Zy) R) (hec : es.length ≤ ec) (hes : es.length ≤ 1500) (him : im.size ≤ 1000000) (hrs : rs.length ≤ 1500) (hrc : rs.length ≤ rc) (hri : rim.size ≤ 1000000) (hok : okC ⟨vw, nm, bs, im, ea, es, ec⟩ = true) (kd : Int) (hkd : kd = 2) (hp : Hp w0.heap.size w0 w (⟨bw, [.int .i64 vw, .int .i64 nm, .int .i64 bs, .string im, .slice ea es.length ec], 103, 5⟩ :: (R ++ TT))) (ha : zm w0 ra (rs.flatMap Zy)) : Calls Tryz.prog 70 #[.pointer (some ⟨bw, 0, none⟩), .agg #[.int .i64 kd, .int .i64 rv, .int .i64 rf, .int .i64 rn, .string rim, .int .i64 nu, .int .i64 vi, .int .i64 cl, .int .i64 sq, .int .i64 kk, .int .i64 hh, .int .i64 ii, .int .i64 nn, .int .i64 cc, .int .i64 vv, .int .i64 tt, .slice ra rs.length rc]] w (zgw w0 bw (Zu ⟨vw, nm, bs, im, ea, es, ec⟩ ⟨kd, rv, rf, rn, rim, ⟨nu, vi, cl, sq, ⟨kk, hh, ii, nn, cc, vv, tt⟩⟩, ra, rs, rc⟩) TT) := by
 subst hkd
 have HR := z0j hR
 have hok2 := zbh hok
 simp only at hok2
 have e0 : wrap64 (bs + es.length) = bs + es.length := by unfold wrap64; omega
 have HN1 : Hid ([(⟨nu, vi, cl, sq, ⟨kk, hh, ii, nn, cc, vv, tt⟩⟩ : Env)].length = 1) := z0j rfl
 have HN2 : Hid (1 ≤ 100000) := z0j (by decide)
 cases hfo : zeP (bs + es.length) 0 [⟨nu, vi, cl, sq, ⟨kk, hh, ii, nn, cc, vv, tt⟩⟩] with
 | false =>
  have hf : Zu ⟨vw, nm, bs, im, ea, es, ec⟩ ⟨2, rv, rf, rn, rim, ⟨nu, vi, cl, sq, ⟨kk, hh, ii, nn, cc, vv, tt⟩⟩, ra, rs, rc⟩ = (140, ⟨vw, nm, bs, im, ea, es, ec⟩) := by unfold Zu zat zaM; simp [hfo]
  rw [hf]
  have HF := z0j hfo
  clear hfo hf hok hec hes him hrs hrc hri ha hR hok2
  go_enter Tryz.func70, Tryz.ntmps70
  go_wp2_with (first | (go_at_call 71; (with_reducible refine (za3 vw nm bs im _ _ ec _).mono ?_); rintro e w1 ⟨rfl, hb⟩; replace hp := hp.call hb; clear hb) | (go_at_call 137; (with_reducible refine (zhQ [⟨nu, vi, cl, sq, ⟨kk, hh, ii, nn, cc, vv, tt⟩⟩] (bs + es.length) _ 1 1 HN1.out _ HF.out HN2.out _ (znB hp)).mono ?_); rintro e w1 ⟨rfl, hb⟩; replace hp := hp.call hb; clear hb) | ((first | ((refine zk _ _ rfl ?_); refine lB hp rfl (za rfl) rfl ?_; clear hp; intro b w1 hp) | ((refine zd _ _ rfl ?_); first | refine lO hp rfl (za rfl) (by with_reducible first | exact zeu) aa5 ?_ | refine lA hp rfl (za rfl) zpd aa5 ?_) | ((refine zC _ _ _ rfl ?_); refine lS hp rfl (by intro w; go_simp; rfl) ?_; clear hp; intro b w1 hp; simp only [z0g, z0h, Nat.reduceAdd] at hp)); simp only [zc, zb, z0b, z0a]))
  go_ret
  exact ZN (by decide) hp.kp
 | true =>
  have HF := z0j hfo
  obtain ⟨b, hb⟩ : ∃ b, okC ⟨vw, nm, bs, im, ea, es ++ [⟨nu, vi, cl, sq, ⟨kk, hh, ii, nn, cc, vv, tt⟩⟩], ec⟩ = b := ⟨_, rfl⟩
  have hf : Zu ⟨vw, nm, bs, im, ea, es, ec⟩ ⟨2, rv, rf, rn, rim, ⟨nu, vi, cl, sq, ⟨kk, hh, ii, nn, cc, vv, tt⟩⟩, ra, rs, rc⟩ = if b = true then (0, ⟨vw, nm, bs, im, ea, es ++ [⟨nu, vi, cl, sq, ⟨kk, hh, ii, nn, cc, vv, tt⟩⟩], ec⟩) else (141, ⟨vw, nm, bs, im, ea, es, ec⟩) := by unfold Zu zat zaM; simp [hfo, hb]
  rw [hf]
  obtain ⟨i0, hi0, hz0, hz1, hz2⟩ := info_parts zm6
  have e4 : decide ((4000 : Int) < (es.length : Int) + 1) = false := by simp; omega
  have HM1 : Hid (es.length + 1 ≤ maxLen) := z0j (by unfold maxLen; omega)
  have HM2 : Hid ((es.length + 1) * 88 ≤ 140737488355328) := z0j (by omega)
  have HB : Hid (∀ a c, okC ⟨vw, nm, bs, im, a, es ++ [⟨nu, vi, cl, sq, ⟨kk, hh, ii, nn, cc, vv, tt⟩⟩], c⟩ = b) := z0j (fun a c => by rw [← hb]; exact zfp ⟨rfl, rfl, rfl, rfl, rfl⟩)
  have HSS : Hid (∀ a c, Kv.Small ⟨vw, nm, bs, im, a, es ++ [⟨nu, vi, cl, sq, ⟨kk, hh, ii, nn, cc, vv, tt⟩⟩], c⟩) := z0j (fun a c => ⟨by simp only [List.length_append, z0g, z0h]; omega, him⟩)
  have HNL : Hid ((es ++ [(⟨nu, vi, cl, sq, ⟨kk, hh, ii, nn, cc, vv, tt⟩⟩ : Env)]).length = es.length + 1) := z0j (by simp)
  have HX1 : Hid ((es.flatMap Zy ++ [.int .i64 nu, .int .i64 vi, .int .i64 cl, .int .i64 sq, .int .i64 kk, .int .i64 hh, .int .i64 ii, .int .i64 nn, .int .i64 cc, .int .i64 vv, .int .i64 tt]) = (es ++ [(⟨nu, vi, cl, sq, ⟨kk, hh, ii, nn, cc, vv, tt⟩⟩ : Env)]).flatMap Zy) := z0j (by rw [List.flatMap_append]; rfl)
  clear hfo hf hok hec hes him hrs hrc hri ha hR hok2 hb
  cases b
  rw [if_neg (by decide)]
  rotate_left
  rw [if_pos rfl]
  all_goals
   go_enter Tryz.func70, Tryz.ntmps70
   go_wp2_with (first | (go_at_call 71; (with_reducible refine (za3 vw nm bs im _ _ ec _).mono ?_); rintro e w1 ⟨rfl, hb⟩; replace hp := hp.call hb; clear hb) | (go_at_call 137; (with_reducible refine (zhQ [⟨nu, vi, cl, sq, ⟨kk, hh, ii, nn, cc, vv, tt⟩⟩] (bs + es.length) _ 1 1 HN1.out _ HF.out HN2.out _ (znB hp)).mono ?_); rintro e w1 ⟨rfl, hb⟩; replace hp := hp.call hb; clear hb) | ((first | ((refine zk _ _ rfl ?_); refine lB hp rfl (za rfl) rfl ?_; clear hp; intro b w1 hp) | ((refine zd _ _ rfl ?_); first | refine lO hp rfl (za rfl) (by with_reducible first | exact zeu) aa5 ?_ | refine lA hp rfl (za rfl) zpd aa5 ?_) | ((refine zC _ _ _ rfl ?_); refine lS hp rfl (by intro w; go_simp; rfl) ?_; clear hp; intro b w1 hp; simp only [z0g, z0h, Nat.reduceAdd] at hp)); simp only [zc, zb, z0b, z0a]))
   refine zf [_, _] (zt.two hp.drew at1 at2) [13] [(0, true), (1, true), (2, true), (3, true), (4, true), (5, true), (6, true), (7, true), (8, false), (9, false), (10, true), (11, true), (12, true), (13, false)] (by kernel_rfl) (by kernel_rfl) rfl (by kernel_rfl) (fun _ _ d _ _ h => by cases d <;> exact h) ?_
   replace hp := hp.drew
   repeat' (with_reducible refine zq ?_); first | (with_reducible refine zl ?_) | ((with_reducible refine zw ?_); refine zn rfl ?_; (first | ((with_reducible refine zH _ rfl ?_); refine tM rfl ?_) | ((with_reducible refine zI _ _ rfl ?_); first | refine tA rfl (za rfl) zc6 aa5 ?_ | refine tO rfl (za rfl) zaj aa5 ?_) | refine tG (fun w _ => (by go_simp; try rfl)) ?_); try simp only [zc, zb, zh, ze, z0b, z0a, z0d, z0c, zj]) | (refine zv rfl (fun K hK => ?_); go_wp2_with (first | ((refine Zl _ _ 22 22 rfl ?_); refine zP (K := [_, _, _, _]) (M := TT) hp _ _ _ _ rfl wy 31 i0 _ 11 88 Tryz.underlying22 hi0 hz0 hz1 hz2 rfl _ es.length _ (za rfl) HR.out _ (za rfl) 1 [.int .i64 nu, .int .i64 vi, .int .i64 cl, .int .i64 sq, .int .i64 kk, .int .i64 hh, .int .i64 ii, .int .i64 nn, .int .i64 cc, .int .i64 vv, .int .i64 tt] (Src.ofRow Tryz.underlying22 (by decide) _ 1 1 _ rfl (hp.rowIs at0) rfl) HM1.out HM2.out ?_; clear hp; intro v' R' w1 hR' hp; obtain ⟨ae, ce, rfl, hce, _⟩ := hR'.kept; have HRE := z0j hR'; have HCE := z0j hce; clear hR' hce; simp only [z0f, z0e] at hp; simp only [zc, zb, z0b, z0a]) | ((first | ((refine zg _ _ _ rfl ?_); (first | refine sO hp rfl (za rfl) (by with_reducible first | exact zaj) aa5 ?_); clear hp; intro w1 hp; simp only [spl, z0a, z0b] at hp) | ((refine zC _ _ _ rfl ?_); refine lS hp rfl (by intro w; go_simp; rfl) ?_; clear hp; intro b w1 hp; simp only [z0g, z0h, Nat.reduceAdd] at hp)); simp only [zc, zb, z0b, z0a])); (first | refine hK.out _ _ (.inl rfl) ?_ | refine hK.out _ _ (.inr (zt.two hp aa5 aa5)) ?_); clear hK K; try simp only [zc, zb, zh, ze, z0b, z0a, z0d, z0c, zj])
   go_wp2_with (first | (go_at_call 64; (with_reducible refine (zdC vw nm bs im ae (es ++ [⟨nu, vi, cl, sq, ⟨kk, hh, ii, nn, cc, vv, tt⟩⟩]) _ ce HNL.out _ (HB.out _ _) (HSS.out _ _) _ ((HX1.out ▸ HRE.out).keptS.at hp (fun p hm => by simp [hm]))).mono ?_); rintro e w1 ⟨rfl, hb⟩; replace hp := hp.call hb; clear hb; simp only [if_true, Bool.false_eq_true, if_false]) | ((first | ((refine zd _ _ rfl ?_); first | refine lO hp rfl (za rfl) (by with_reducible first | exact zaj) aa5 ?_ | refine lA hp rfl (za rfl) zpd aa5 ?_)); simp only [zc, zb, z0b, z0a]))
  ·go_ret
   exact zb1 HCE.out (HX1.out ▸ HRE.out) hp.kp HNL.out
  ·go_ret
   exact ZN (by decide) hp.kp
end Go.Proofs.YtaafajaadfgaoaaGreat
