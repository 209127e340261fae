import Derived.Test.YtaafajaadfgaoaaGreatFp39
set_option linter.unusedSimpArgs false
set_option linter.unusedVariables false
set_option maxRecDepth 100000
set_option maxHeartbeats 60000000
namespace Go.Proofs.YtaafajaadfgaoaaGreat
open Go.RowKit
theorem zbJ {ty : TypeId} (h : zB Tryz.prog ty = true := by with_reducible first | exact zq | exact zA | exact zO | exact ZL | exact Ze) : zB Tryz.prog ty = true := h
def zn2 (w : World) (c : Int) (y : Kv) (e : Ending) (w' : World) : Prop :=
 (c = 0 → ∃ a cp R, e = .returned (.tuple #[.agg #[.int .i64 y.vw, .int .i64 y.nm, .int .i64 y.bs, .string y.im, .slice a y.es.length cp], .int .i64 0]) ∧ zaG R (fun w => zr w a (y.es.flatMap Zi)) ∧ Hp w.heap.size w w' R) ∧
 (c ≠ 0 → e = .returned (.tuple #[.agg #[.int .i64 0, .int .i64 0, .int .i64 0, .string ⟨#[]⟩, .slice none 0 0], .int .i64 c]) ∧ Below w.heap.size w w')
theorem zfj {x : Kv} {r : Rv} {c : Int} {y : Kv} (h : Zf x r = (c, y)) : y.es.length ≤ x.es.length + r.es.length + 1 ∧ (y.im = x.im ∨ y.im = r.im) := by
 have h2 : (Zf x r).2.es.length ≤ x.es.length + r.es.length + 1 ∧ ((Zf x r).2.im = x.im ∨ (Zf x r).2.im = r.im) := by
  unfold Zf
  repeat' split
  all_goals simp only [List.length_append, List.length_take, List.length_drop, z0g, z0h]
  all_goals constructor <;> first | omega | simp
 rw [h] at h2
 exact h2
theorem zgu (vw nm bs : Int) (im : ByteArray) (ea : Option Addr) (es : List Env) (ec : Nat) (aO : Option Addr) (cO : Nat) (kd rv rf rn : Int) (rim : ByteArray) (nu vi cl sq kk hh ii nn cc vv tt : Int) (ra : Option Addr) (rs : List Env) (rc : Nat) {R0 : List Blk} (hk0 : zaG R0 fun w => zr w aO (es.flatMap Zi)) (hec : es.length ≤ cO) (hes : es.length ≤ 1500) (hrs : rs.length ≤ 1500) (hok : okC ⟨vw, nm, bs, im, ea, es, ec⟩ = true) (c : Int) (y : Kv) (hk : Zf ⟨vw, nm, bs, im, ea, es, ec⟩ ⟨kd, rv, rf, rn, rim, ⟨nu, vi, cl, sq, ⟨kk, hh, ii, nn, cc, vv, tt⟩⟩, ra, rs, rc⟩ = (c, y)) (w : World) (ha : zr w aO (es.flatMap Zi)) (hra : zr w ra (rs.flatMap Zi)) :
  Calls Tryz.prog 129 #[.agg #[.int .i64 vw, .int .i64 nm, .int .i64 bs, .string im, .slice aO es.length cO], .agg #[.int .i64 kd, .int .i64 rv, .int .i64 rf, .int .i64 rn, .string rim, .int .i64 nu, .int .i64 vi, .int .i64 cl, .int .i64 sq, .int .i64 kk, .int .i64 hh, .int .i64 ii, .int .i64 nn, .int .i64 cc, .int .i64 vv, .int .i64 tt, .slice ra rs.length rc]] w fun e w' =>
   (c = 0 → ∃ a n cp R, e = .returned (.tuple #[.agg #[.int .i64 y.vw, .int .i64 y.nm, .int .i64 y.bs, .string y.im, .slice a n cp], .int .i64 0]) ∧ y.es.length = n ∧ zaG (R0 ++ R) (fun w => zr w a (y.es.flatMap Zi)) ∧ Hp w.heap.size w w' R) ∧
   (c ≠ 0 → e = .returned (.tuple #[.agg #[.int .i64 vw, .int .i64 nm, .int .i64 bs, .string im, .slice aO es.length cO], .int .i64 c]) ∧ Below w.heap.size w w') := by
 have hf := zcj hok
 simp only at hf
 have h := zmE vw nm bs im aO es cO rv rf rn rim nu vi cl sq kk hh ii nn cc vv tt ra rs rc hk0 hec hes hrs hf.2.2.1.1 hf.2.2.1.2 kd w ha hra
 have h2 := zjO ⟨vw, nm, bs, im, ea, es, ec⟩ ⟨kd, rv, rf, rn, rim, ⟨nu, vi, cl, sq, ⟨kk, hh, ii, nn, cc, vv, tt⟩⟩, ra, rs, rc⟩ aO cO
 rw [hk] at h2
 rw [show (⟨vw, nm, bs, im, aO, es, cO⟩ : Kv) = at_ ⟨vw, nm, bs, im, ea, es, ec⟩ aO cO from rfl, h2] at h
 exact h
theorem zfQ {P : Program} {c : Code} {Q : Exit → Act → World → Prop} {a : Act} {w : World} {A : Nat → Option Addr → Nat → Option Addr → Nat → Act} (R : Nat → Option Addr → Nat → Option Addr → Nat → World → Prop)
  (h : c.wp P (fun e a' w' => match e with | .normal => ∃ x y z u v, a' = A x y z u v ∧ R x y z u v w' | _ => False) a w) (k : ∀ x y z u v w', R x y z u v w' → Q .normal (A x y z u v) w') : c.wp P Q a w :=
 Code.wp_mono (fun e a' w' hq => by cases e <;> first | exact hq.elim | (obtain ⟨x, y, z, u, v, ha, hr⟩ := hq; subst ha; exact k x y z u v w' hr)) h
theorem zfS {P : Program} {c : Code} {Q : Exit → Act → World → Prop} {a : Act} {w : World} {A : Nat → Option Addr → Nat → Act} (R : Nat → Option Addr → Nat → World → Prop)
  (h : c.wp P (fun e a' w' => match e with | .normal => ∃ x y z, a' = A x y z ∧ R x y z w' | _ => False) a w) (k : ∀ x y z w', R x y z w' → Q .normal (A x y z) w') : c.wp P Q a w :=
 Code.wp_mono (fun e a' w' hq => by cases e <;> first | exact hq.elim | (obtain ⟨x, y, z, ha, hr⟩ := hq; subst ha; exact k x y z w' hr)) h
theorem zjn (vw nm bs : Int) (im : ByteArray) (ea : Option Addr) (es : List Env) (ec : Nat) (kd rv rf rn : Int) (rim : ByteArray) (nu vi cl sq kk hh ii nn cc vv tt : Int) (ra : Option Addr) (rs : List Env) (rc : Nat) (c0 : Int) (y0 : Kv) (hr : zaW ⟨vw, nm, bs, im, ea, es, ec⟩ ⟨kd, rv, rf, rn, rim, ⟨nu, vi, cl, sq, ⟨kk, hh, ii, nn, cc, vv, tt⟩⟩, ra, rs, rc⟩ = (c0, y0))
  (hes : es.length ≤ 1500) (him : im.size ≤ 1000000) (hrs : rs.length ≤ 1500) (hri : rim.size ≤ 1000000) (w : World) (ha : zr w ea (es.flatMap Zi)) (hra : zr w ra (rs.flatMap Zi)) :
  Calls Tryz.prog 52 #[.agg #[.int .i64 vw, .int .i64 nm, .int .i64 bs, .string im, .slice ea es.length ec], .agg #[.int .i64 kd, .int .i64 rv, .int .i64 rf, .int .i64 rn, .string rim, .int .i64 nu, .int .i64 vi, .int .i64 cl, .int .i64 sq, .int .i64 kk, .int .i64 hh, .int .i64 ii, .int .i64 nn, .int .i64 cc, .int .i64 vv, .int .i64 tt, .slice ra rs.length rc]] w (zn2 w c0 y0) := by
 have hp := Hp.start w
 have HA := z0j ha
 have HRA := z0j hra
 have HEL : Hid (es.length ≤ 100000) := z0j (by omega)
 have HES := z0j hes
 have HRS := z0j hrs
 have HSS : Hid (Kv.Small ⟨vw, nm, bs, im, ea, es, ec⟩) := z0j ⟨by simp only; omega, him⟩
 cases hok : okC ⟨vw, nm, bs, im, ea, es, ec⟩ with
 | false =>
  have hf : zaW ⟨vw, nm, bs, im, ea, es, ec⟩ ⟨kd, rv, rf, rn, rim, ⟨nu, vi, cl, sq, ⟨kk, hh, ii, nn, cc, vv, tt⟩⟩, ra, rs, rc⟩ = (1, ⟨vw, nm, bs, im, ea, es, ec⟩) := by unfold zaW; rw [if_neg (by rw [hok]; decide)]
  rw [hf] at hr
  injection hr with h1 h2
  subst h1 h2
  have HB := z0j hok
  clear hok hf hes him hrs hri ha hra
  go_enter Tryz.func52, Tryz.ntmps52
  go_wp2_with (first | (go_at_call 92; (with_reducible refine (zb7 vw nm bs im ea es ec _ HB.out HSS.out _ (HA.out.below hp.below)).mono ?_); rintro e w1 ⟨rfl, hb⟩; replace hp := hp.call hb; clear hb) | go_skip | ((first | ((refine zg _ rfl ?_); refine lZ hp rfl zW ?_; clear hp; intro b w1 hp) | ((refine zh _ _ rfl ?_); refine lB hp rfl (za rfl) rfl ?_; clear hp; intro b w1 hp) | ((refine zf _ _ rfl ?_); first | refine lO hp rfl (za rfl) zbJ aa5 ?_ | refine lA hp rfl (za rfl) (by with_reducible first | exact zF | exact Zr) aa5 ?_) | ((refine zd _ _ _ rfl ?_); (first | refine sO hp rfl (za rfl) zbJ aa5 ?_ | refine sA hp rfl (za rfl) (za rfl) (by with_reducible first | exact zF | exact Zr) aa5 ?_ | refine sG hp rfl (za rfl) (za rfl) (by with_reducible first | exact zF | exact Zr) aa5 ?_); clear hp; intro w1 hp; simp only [spl, z0a, z0b] at hp) | ((refine zi _ _ _ rfl ?_); refine lS hp rfl (by intro w; go_simp; rfl) ?_; clear hp; intro b w1 hp; simp only [z0g, z0h, Nat.reduceAdd] at hp)); simp only [zc, zb, z0b, z0a]))
  exact bodyPost_ret (zl (rs := [.cell 4 24, .tmp 5]) Tryz.results52 (.cell rfl (hp.loadAgg zF at0 0 _ (by rfl) (by rfl)) (.tmp rfl .nil))) rfl ⟨fun h => absurd h (by decide), fun _ => ⟨rfl, hp.below⟩⟩
 | true =>
  have HB := z0j hok
  have hfo : zaW ⟨vw, nm, bs, im, ea, es, ec⟩ ⟨kd, rv, rf, rn, rim, ⟨nu, vi, cl, sq, ⟨kk, hh, ii, nn, cc, vv, tt⟩⟩, ra, rs, rc⟩ = ZQ ⟨vw, nm, bs, im, ea, es, ec⟩ ⟨kd, rv, rf, rn, rim, ⟨nu, vi, cl, sq, ⟨kk, hh, ii, nn, cc, vv, tt⟩⟩, ra, rs, rc⟩ := by unfold zaW; rw [if_pos hok]
  rw [hfo] at hr
  obtain ⟨⟨c, ⟨vw', nm', bs', im', ea', es', ec'⟩⟩, hk⟩ : ∃ p, Zf ⟨vw, nm, bs, im, ea, es, ec⟩ ⟨kd, rv, rf, rn, rim, ⟨nu, vi, cl, sq, ⟨kk, hh, ii, nn, cc, vv, tt⟩⟩, ra, rs, rc⟩ = p := ⟨_, rfl⟩
  have hsm := zfj hk
  simp only at hsm
  have HMK := z0j hk
  unfold ZQ at hr
  rw [hk] at hr
  simp only at hr
  by_cases hc : c = 0
  ·subst hc
   rw [if_pos rfl] at hr
   obtain ⟨b, hb⟩ : ∃ b, okC ⟨vw', nm', bs', im', ea', es', ec'⟩ = b := ⟨_, rfl⟩
   rw [hb] at hr
   have HB2 : Hid (∀ a k, okC ⟨vw', nm', bs', im', a, es', k⟩ = b) := z0j (fun a k => by rw [← hb]; exact zdv ⟨rfl, rfl, rfl, rfl, rfl⟩)
   have HSS2 : Hid (∀ a k, Kv.Small ⟨vw', nm', bs', im', a, es', k⟩) := z0j (fun a k => ⟨by simp only; omega, by simp only; rcases hsm.2 with h | h <;> rw [h] <;> assumption⟩)
   have e4 : decide ((4000 : Int) < (es'.length : Int)) = false := by simp; omega
   have HR := z0j hr
   clear hok hfo hes him hrs hri ha hra hk hb hsm hr
   go_enter Tryz.func52, Tryz.ntmps52
   go_wp2_with (first | (go_at_call 92; (with_reducible refine (zb7 vw nm bs im ea es ec _ HB.out HSS.out _ (HA.out.below hp.below)).mono ?_); rintro e w1 ⟨rfl, hb⟩; replace hp := hp.call hb; clear hb) | go_skip | ((first | ((refine zg _ rfl ?_); refine lZ hp rfl zW ?_; clear hp; intro b w1 hp) | ((refine zh _ _ rfl ?_); refine lB hp rfl (za rfl) rfl ?_; clear hp; intro b w1 hp) | ((refine zf _ _ rfl ?_); first | refine lO hp rfl (za rfl) zbJ aa5 ?_ | refine lA hp rfl (za rfl) (by with_reducible first | exact zF | exact Zr) aa5 ?_) | ((refine zd _ _ _ rfl ?_); (first | refine sO hp rfl (za rfl) zbJ aa5 ?_ | refine sA hp rfl (za rfl) (za rfl) (by with_reducible first | exact zF | exact Zr) aa5 ?_ | refine sG hp rfl (za rfl) (za rfl) (by with_reducible first | exact zF | exact Zr) aa5 ?_); clear hp; intro w1 hp; simp only [spl, z0a, z0b] at hp) | ((refine zi _ _ _ rfl ?_); refine lS hp rfl (by intro w; go_simp; rfl) ?_; clear hp; intro b w1 hp; simp only [z0g, z0h, Nat.reduceAdd] at hp)); simp only [zc, zb, z0b, z0a]))
   obtain ⟨b4, hb4⟩ := hp.id0
   obtain ⟨b3, hb3⟩ := hp.id1
   obtain ⟨b2, hb2⟩ := hp.id2
   subst hb4 hb3 hb2
   apply zfQ (R := fun b6 aO cO a1 k1 w' => ∃ RX, Hid (zaG RX fun w => zr w a1 (es'.flatMap Zi)) ∧ Hp w.heap.size w w' (⟨b6, [.int .i64 vw', .int .i64 nm', .int .i64 bs', .string im', .slice a1 es'.length k1], 24, 5⟩ :: ⟨b4, [.int .i64 0, .int .i64 0, .int .i64 0, .string ⟨#[]⟩, .slice none 0 0], 24, 5⟩ :: ⟨b3, [.int .i64 kd, .int .i64 rv, .int .i64 rf, .int .i64 rn, .string rim, .int .i64 nu, .int .i64 vi, .int .i64 cl, .int .i64 sq, .int .i64 kk, .int .i64 hh, .int .i64 ii, .int .i64 nn, .int .i64 cc, .int .i64 vv, .int .i64 tt, .slice ra rs.length rc], 33, 17⟩ :: ⟨b2, [.int .i64 vw, .int .i64 nm, .int .i64 bs, .string im, .slice ea es.length ec], 24, 5⟩ :: RX))
   case h =>
    refine ZT [_, _] (zE.two hp.drew at1 at2) [] (.take 0 (.take 2 (.two 1 (.two 3 (.take 4 (.take 5 (.take 6 (.one 7 (.one 8 (.one 9 .nil)))))) 7 (.one 3 (.take 4 (.take 5 (.take 6 (.one 8 (.one 9 .nil))))))) 7 (.one 1 (.one 3 (.take 4 (.take 5 (.take 6 (.one 8 (.one 9 .nil)))))))))) (by kernel_rfl) (by kernel_rfl) (by kernel_rfl) (by kernel_rfl) (fun _ _ d _ _ h => by cases d <;> exact h) ?_
    replace hp := hp.drew
    repeat' (with_reducible refine zdd ?_); first | (with_reducible refine zcl ?_) | ((with_reducible refine zbB ?_); refine zy rfl ?_; (first | ((with_reducible refine Zy _ rfl ?_); refine tM rfl ?_) | ((with_reducible refine Zt _ _ rfl ?_); refine tA rfl (za rfl) (by with_reducible first | exact zF | exact Zr) zu ?_) | refine tG (fun w _ => (by go_simp; try rfl)) ?_); refine zde ?_; try simp only [zc, zb, zm, zj, z0b, z0a, z0d, z0c, zn]) | ((first | refine zcm (zaA rfl (fun K hK => ?_)) | refine zcn (zaA rfl (fun K hK => ?_)) (zaA rfl (fun K hK => ?_))) <;> (go_wp2_with (first | (go_at_call 32; (with_reducible refine (zep vw nm bs im ea es ec HEL.out _ (HA.out.below hp.below)).mono ?_); rintro e w1 ⟨aO, cO, RO, rfl, hro, hpn⟩; replace hp := hp.join hpn; have HRO := z0j hro.keptS; have HCO : Hid (es.length ≤ cO) := z0j (hro.cap rfl); clear hpn hro; simp only [z0f, z0e, z0i] at hp) | (go_at_call 129; (with_reducible refine (zgu vw nm bs im ea es ec aO cO kd rv rf rn rim nu vi cl sq kk hh ii nn cc vv tt ra rs rc HRO.out HCO.out HES.out HRS.out HB.out 0 _ HMK.out _ (HRO.out.at hp (fun p hm => by simp [hm])) (HRA.out.below hp.below)).mono ?_); rintro e w1 ⟨hq, _⟩; obtain ⟨a1, n1, k1, R1, rfl, hn, hkx, hpn⟩ := hq rfl; clear hq; simp only at hn hkx; subst hn; replace hp := hp.join hpn; have HKX := z0j hkx; clear hpn hkx; simp only [z0f, z0e, z0i] at hp) | ((refine zg 24 rfl ?_); refine lZ hp rfl zW ?_; clear hp; intro bx w1 hp; simp only [zc, zb, z0b, z0a]) | go_skip | ((first | ((refine zg _ rfl ?_); refine lZ hp rfl zW ?_; clear hp; intro b w1 hp) | ((refine zd _ _ _ rfl ?_); (first | refine sO hp rfl (za rfl) zbJ aa5 ?_ | refine sA hp rfl (za rfl) (za rfl) (by with_reducible first | exact zF | exact Zr) aa5 ?_ | refine sG hp rfl (za rfl) (za rfl) (by with_reducible first | exact zF | exact Zr) aa5 ?_); clear hp; intro w1 hp; simp only [spl, z0a, z0b] at hp)); simp only [zc, zb, z0b, z0a])); (refine hK.out _ _ (.inr (zE.two hp zu zu)) ?_); clear hK K; try simp only [zc, zb, zm, zj, z0b, z0a, z0d, z0c, zn]))
    all_goals exact ⟨bx, aO, cO, a1, k1, rfl, RO ++ R1, HKX, hp.kp⟩
   clear hp
   rintro b6 aO cO a1 k1 w1 ⟨RX, HKX, hp⟩
   cases b with
   | false =>
    have hr := HR.out
    rw [if_neg (by decide)] at hr
    injection hr with h1 h2
    subst h1 h2
    clear HR
    go_wp2_with (first | (go_at_call 92; (with_reducible refine (zb7 vw' nm' bs' im' a1 es' k1 _ (HB2.out _ _) (HSS2.out _ _) _ (HKX.out.at hp (fun p hm => by simp [hm]))).mono ?_); rintro e w1 ⟨rfl, hb⟩; replace hp := hp.call hb; clear hb) | go_skip | ((first | ((refine zg _ rfl ?_); refine lZ hp rfl zW ?_; clear hp; intro b w1 hp) | ((refine zh _ _ rfl ?_); refine lB hp rfl (za rfl) rfl ?_; clear hp; intro b w1 hp) | ((refine zf _ _ rfl ?_); first | refine lO hp rfl (za rfl) zbJ aa5 ?_ | refine lA hp rfl (za rfl) (by with_reducible first | exact zF | exact Zr) aa5 ?_) | ((refine zd _ _ _ rfl ?_); (first | refine sO hp rfl (za rfl) zbJ aa5 ?_ | refine sA hp rfl (za rfl) (za rfl) (by with_reducible first | exact zF | exact Zr) aa5 ?_ | refine sG hp rfl (za rfl) (za rfl) (by with_reducible first | exact zF | exact Zr) aa5 ?_); clear hp; intro w1 hp; simp only [spl, z0a, z0b] at hp) | ((refine zi _ _ _ rfl ?_); refine lS hp rfl (by intro w; go_simp; rfl) ?_; clear hp; intro b w1 hp; simp only [z0g, z0h, Nat.reduceAdd] at hp)); simp only [zc, zb, z0b, z0a]))
    exact bodyPost_ret (zl (rs := [.cell 4 24, .tmp 5]) Tryz.results52 (.cell rfl (hp.loadAgg zF at1 0 _ (by rfl) (by rfl)) (.tmp rfl .nil))) rfl ⟨fun h => absurd h (by decide), fun _ => ⟨rfl, hp.below⟩⟩
   | true =>
    have hr := HR.out
    rw [if_pos rfl] at hr
    injection hr with h1 h2
    subst h1 h2
    clear HR
    go_wp2_with (first | (go_at_call 92; (with_reducible refine (zb7 vw' nm' bs' im' a1 es' k1 _ (HB2.out _ _) (HSS2.out _ _) _ (HKX.out.at hp (fun p hm => by simp [hm]))).mono ?_); rintro e w1 ⟨rfl, hb⟩; replace hp := hp.call hb; clear hb) | go_skip | ((first | ((refine zg _ rfl ?_); refine lZ hp rfl zW ?_; clear hp; intro b w1 hp) | ((refine zh _ _ rfl ?_); refine lB hp rfl (za rfl) rfl ?_; clear hp; intro b w1 hp) | ((refine zf _ _ rfl ?_); first | refine lO hp rfl (za rfl) zbJ aa5 ?_ | refine lA hp rfl (za rfl) (by with_reducible first | exact zF | exact Zr) aa5 ?_) | ((refine zd _ _ _ rfl ?_); (first | refine sO hp rfl (za rfl) zbJ aa5 ?_ | refine sA hp rfl (za rfl) (za rfl) (by with_reducible first | exact zF | exact Zr) aa5 ?_ | refine sG hp rfl (za rfl) (za rfl) (by with_reducible first | exact zF | exact Zr) aa5 ?_); clear hp; intro w1 hp; simp only [spl, z0a, z0b] at hp) | ((refine zi _ _ _ rfl ?_); refine lS hp rfl (by intro w; go_simp; rfl) ?_; clear hp; intro b w1 hp; simp only [z0g, z0h, Nat.reduceAdd] at hp)); simp only [zc, zb, z0b, z0a]))
    exact bodyPost_ret (zl (rs := [.cell 4 24, .tmp 5]) Tryz.results52 (.cell rfl (hp.loadAgg zF at1 0 _ (by rfl) (by rfl)) (.tmp rfl .nil))) rfl ⟨fun _ => ⟨a1, k1, RX, rfl, HKX.out, hp.kp⟩, fun h => absurd rfl h⟩
  ·rw [if_neg hc] at hr
   injection hr with h1 h2
   subst h1 h2
   have HC0 : Hid (c ≠ 0) := z0j hc
   have e1 : (c == 0) = false := by simpa using hc
   have e2 : (c != 0) = true := by simpa using hc
   clear hok hfo hes him hrs hri ha hra hk hsm hc
   go_enter Tryz.func52, Tryz.ntmps52
   go_wp2_with (first | (go_at_call 92; (with_reducible refine (zb7 vw nm bs im ea es ec _ HB.out HSS.out _ (HA.out.below hp.below)).mono ?_); rintro e w1 ⟨rfl, hb⟩; replace hp := hp.call hb; clear hb) | go_skip | ((first | ((refine zg _ rfl ?_); refine lZ hp rfl zW ?_; clear hp; intro b w1 hp) | ((refine zh _ _ rfl ?_); refine lB hp rfl (za rfl) rfl ?_; clear hp; intro b w1 hp) | ((refine zf _ _ rfl ?_); first | refine lO hp rfl (za rfl) zbJ aa5 ?_ | refine lA hp rfl (za rfl) (by with_reducible first | exact zF | exact Zr) aa5 ?_) | ((refine zd _ _ _ rfl ?_); (first | refine sO hp rfl (za rfl) zbJ aa5 ?_ | refine sA hp rfl (za rfl) (za rfl) (by with_reducible first | exact zF | exact Zr) aa5 ?_ | refine sG hp rfl (za rfl) (za rfl) (by with_reducible first | exact zF | exact Zr) aa5 ?_); clear hp; intro w1 hp; simp only [spl, z0a, z0b] at hp) | ((refine zi _ _ _ rfl ?_); refine lS hp rfl (by intro w; go_simp; rfl) ?_; clear hp; intro b w1 hp; simp only [z0g, z0h, Nat.reduceAdd] at hp)); simp only [zc, zb, z0b, z0a]))
   obtain ⟨b4, hb4⟩ := hp.id0
   obtain ⟨b3, hb3⟩ := hp.id1
   obtain ⟨b2, hb2⟩ := hp.id2
   subst hb4 hb3 hb2
   apply zfS (R := fun b6 aO cO w' => Hp w.heap.size w w' (⟨b6, [.int .i64 vw, .int .i64 nm, .int .i64 bs, .string im, .slice aO es.length cO], 24, 5⟩ :: ⟨b4, [.int .i64 0, .int .i64 0, .int .i64 0, .string ⟨#[]⟩, .slice none 0 0], 24, 5⟩ :: ⟨b3, [.int .i64 kd, .int .i64 rv, .int .i64 rf, .int .i64 rn, .string rim, .int .i64 nu, .int .i64 vi, .int .i64 cl, .int .i64 sq, .int .i64 kk, .int .i64 hh, .int .i64 ii, .int .i64 nn, .int .i64 cc, .int .i64 vv, .int .i64 tt, .slice ra rs.length rc], 33, 17⟩ :: ⟨b2, [.int .i64 vw, .int .i64 nm, .int .i64 bs, .string im, .slice ea es.length ec], 24, 5⟩ :: []))
   case h =>
    refine ZT [_, _] (zE.two hp.drew at1 at2) [] (.take 0 (.take 2 (.two 1 (.two 3 (.take 4 (.take 5 (.take 6 (.one 7 (.one 8 (.one 9 .nil)))))) 7 (.one 3 (.take 4 (.take 5 (.take 6 (.one 8 (.one 9 .nil))))))) 7 (.one 1 (.one 3 (.take 4 (.take 5 (.take 6 (.one 8 (.one 9 .nil)))))))))) (by kernel_rfl) (by kernel_rfl) (by kernel_rfl) (by kernel_rfl) (fun _ _ d _ _ h => by cases d <;> exact h) ?_
    replace hp := hp.drew
    repeat' (with_reducible refine zdd ?_); first | (with_reducible refine zcl ?_) | ((with_reducible refine zbB ?_); refine zy rfl ?_; (first | ((with_reducible refine Zy _ rfl ?_); refine tM rfl ?_) | ((with_reducible refine Zt _ _ rfl ?_); refine tA rfl (za rfl) (by with_reducible first | exact zF | exact Zr) zu ?_) | refine tG (fun w _ => (by go_simp; try rfl)) ?_); refine zde ?_; try simp only [zc, zb, zm, zj, z0b, z0a, z0d, z0c, zn]) | ((first | refine zcm (zaA rfl (fun K hK => ?_)) | refine zcn (zaA rfl (fun K hK => ?_)) (zaA rfl (fun K hK => ?_))) <;> (go_wp2_with (first | (go_at_call 32; (with_reducible refine (zep vw nm bs im ea es ec HEL.out _ (HA.out.below hp.below)).mono ?_); rintro e w1 ⟨aO, cO, RO, rfl, hro, hpn⟩; replace hp := hp.join hpn; have HRO := z0j hro.keptS; have HCO : Hid (es.length ≤ cO) := z0j (hro.cap rfl); clear hpn hro; simp only [z0f, z0e, z0i] at hp) | (go_at_call 129; (with_reducible refine (zgu vw nm bs im ea es ec aO cO kd rv rf rn rim nu vi cl sq kk hh ii nn cc vv tt ra rs rc HRO.out HCO.out HES.out HRS.out HB.out c _ HMK.out _ (HRO.out.at hp (fun p hm => by simp [hm])) (HRA.out.below hp.below)).mono ?_); rintro e w1 ⟨_, hq⟩; obtain ⟨rfl, hb⟩ := hq HC0.out; clear hq; replace hp := hp.call hb; clear hb) | ((refine zg 24 rfl ?_); refine lZ hp rfl zW ?_; clear hp; intro bx w1 hp; simp only [zc, zb, z0b, z0a]) | go_skip | ((first | ((refine zg _ rfl ?_); refine lZ hp rfl zW ?_; clear hp; intro b w1 hp) | ((refine zd _ _ _ rfl ?_); (first | refine sO hp rfl (za rfl) zbJ aa5 ?_ | refine sA hp rfl (za rfl) (za rfl) (by with_reducible first | exact zF | exact Zr) aa5 ?_ | refine sG hp rfl (za rfl) (za rfl) (by with_reducible first | exact zF | exact Zr) aa5 ?_); clear hp; intro w1 hp; simp only [spl, z0a, z0b] at hp)); simp only [zc, zb, z0b, z0a])); (refine hK.out _ _ (.inr (zE.two hp zu zu)) ?_); clear hK K; try simp only [zc, zb, zm, zj, z0b, z0a, z0d, z0c, zn]))
    all_goals exact ⟨bx, aO, cO, rfl, hp.kp⟩
   clear hp
   rintro b6 aO cO w1 hp
   go_wp2_with (first | go_skip | ((first | ((refine zg _ rfl ?_); refine lZ hp rfl zW ?_; clear hp; intro b w1 hp) | ((refine zh _ _ rfl ?_); refine lB hp rfl (za rfl) rfl ?_; clear hp; intro b w1 hp) | ((refine zf _ _ rfl ?_); first | refine lO hp rfl (za rfl) zbJ aa5 ?_ | refine lA hp rfl (za rfl) (by with_reducible first | exact zF | exact Zr) aa5 ?_) | ((refine zd _ _ _ rfl ?_); (first | refine sO hp rfl (za rfl) zbJ aa5 ?_ | refine sA hp rfl (za rfl) (za rfl) (by with_reducible first | exact zF | exact Zr) aa5 ?_ | refine sG hp rfl (za rfl) (za rfl) (by with_reducible first | exact zF | exact Zr) aa5 ?_); clear hp; intro w1 hp; simp only [spl, z0a, z0b] at hp) | ((refine zi _ _ _ rfl ?_); refine lS hp rfl (by intro w; go_simp; rfl) ?_; clear hp; intro b w1 hp; simp only [z0g, z0h, Nat.reduceAdd] at hp)); simp only [zc, zb, z0b, z0a]))
   exact bodyPost_ret (zl (rs := [.cell 4 24, .tmp 5]) Tryz.results52 (.cell rfl (hp.loadAgg zF at1 0 _ (by rfl) (by rfl)) (.tmp rfl .nil))) rfl ⟨fun h => absurd h HC0.out, fun _ => ⟨rfl, hp.below⟩⟩
end Go.Proofs.YtaafajaadfgaoaaGreat
