import Derived.Test.YtaafajaadfgaoaaGreatFp38
set_option linter.unusedSimpArgs false
set_option linter.unusedVariables false
set_option maxRecDepth 100000
set_option maxHeartbeats 60000000
namespace Go.Proofs.YtaafajaadfgaoaaGreat
open Go.RowKit
theorem znk {ty : TypeId} (h : zB Tryz.prog ty = true := by with_reducible first | exact zq | exact zO | exact ZL) : zB Tryz.prog ty = true := h
theorem Za {ty : TypeId} {k : Nat} (h : zac Tryz.prog ty k = true := by with_reducible first | exact zF | exact Zr | exact Zq) : zac Tryz.prog ty k = true := h
theorem ZO {ty : TypeId} (h : zB Tryz.prog ty = true := by with_reducible first | exact zq | exact zA | exact zO | exact ZL | exact Ze | exact zaz) : zB Tryz.prog ty = true := h
theorem zip (vw nm bs : Int) (im : ByteArray) (ea : Option Addr) (es : List Env) (ec : Nat) (rv rf rn : Int) (rim : ByteArray) (nu vi cl sq kk hh ii nn cc vv tt : Int) (ra : Option Addr) (rs : List Env) (rc : Nat) {R0 : List Blk} (hk0 : zaG R0 fun w => zr w ea (es.flatMap Zi)) (hec : es.length ≤ ec) (hes : es.length ≤ 1500) (hrs : rs.length ≤ 1500) (hb0 : 0 ≤ bs) (hb9 : bs ≤ 900000000) (kd : Int) (hkd : kd = 3) (w : World) (ha : zr w ea (es.flatMap Zi)) (hra : zr w ra (rs.flatMap Zi)) : Calls Tryz.prog 129 #[.agg #[.int .i64 vw, .int .i64 nm, .int .i64 bs, .string im, .slice ea es.length ec], .agg #[.int .i64 kd, .int .i64 rv, .int .i64 rf, .int .i64 rn, .string rim, .int .i64 nu, .int .i64 vi, .int .i64 cl, .int .i64 sq, .int .i64 kk, .int .i64 hh, .int .i64 ii, .int .i64 nn, .int .i64 cc, .int .i64 vv, .int .i64 tt, .slice ra rs.length rc]] w (zfy w R0 (.agg #[.int .i64 vw, .int .i64 nm, .int .i64 bs, .string im, .slice ea es.length ec]) (Zf ⟨vw, nm, bs, im, ea, es, ec⟩ ⟨kd, rv, rf, rn, rim, ⟨nu, vi, cl, sq, ⟨kk, hh, ii, nn, cc, vv, tt⟩⟩, ra, rs, rc⟩)) := by
 subst hkd
 have hp := Hp.start w; have HA := z0j ha; have HRA := z0j hra; have HK0 := z0j hk0; have HRL : Hid (rs.length ≤ 100000) := z0j (by omega); have HEL : Hid (es.length ≤ 100000) := z0j (by omega); have HLS : Hid (wrap64 (bs + es.length) = bs + es.length) := z0j (by unfold wrap64; omega)
 by_cases h1 : rv < vw
 ·have hf : Zf ⟨vw, nm, bs, im, ea, es, ec⟩ ⟨3, rv, rf, rn, rim, ⟨nu, vi, cl, sq, ⟨kk, hh, ii, nn, cc, vv, tt⟩⟩, ra, rs, rc⟩ = (141, ⟨vw, nm, bs, im, ea, es, ec⟩) := by unfold Zf; simp [h1]
  rw [hf]
  have e1 : decide (rv < vw) = true := by simpa using h1
  clear h1 hf hec hes hrs ha hra hk0 hb0 hb9
  go_enter Tryz.func129, Tryz.ntmps129
  go_wp2_with (first | (go_at_call 93; (with_reducible refine (Zs vw nm bs im _ _ _ _ HLS.out _).mono ?_); rintro e w1 ⟨rfl, hb⟩; replace hp := hp.call hb; clear hb) | go_skip | ((first | ((refine zg _ rfl ?_); refine lZ hp rfl zW ?_; clear hp; intro b w1 hp) | ((refine zh _ _ rfl ?_); refine lB hp rfl (za rfl) rfl ?_; clear hp; intro b w1 hp) | ((refine zf _ _ rfl ?_); first | refine lO hp rfl (za rfl) ZO aa5 ?_ | refine lA hp rfl (za rfl) Za aa5 ?_) | ((refine zd _ _ _ rfl ?_); (first | refine sO hp rfl (za rfl) ZO aa5 ?_ | refine sA hp rfl (za rfl) (za rfl) Za aa5 ?_ | refine sG hp rfl (za rfl) (za rfl) Za aa5 ?_); clear hp; intro w1 hp; simp only [spl, z0a, z0b] at hp) | ((refine zi _ _ _ rfl ?_); refine lS hp rfl (by intro w; go_simp; rfl) ?_; clear hp; intro b w1 hp; simp only [z0g, z0h, Nat.reduceAdd] at hp)); simp only [zc, zb, z0b, z0a]))
  exact bodyPost_ret (zl (rs := [.cell 4 24, .tmp 5]) Tryz.results129 (.cell rfl (hp.loadAgg zF at0 0 _ (by rfl) (by rfl)) (.tmp rfl .nil))) rfl (zau (by decide) hp.below)
 have e1 : decide (rv < vw) = false := by simpa using h1
 by_cases h2 : rf < bs
 ·have hf : Zf ⟨vw, nm, bs, im, ea, es, ec⟩ ⟨3, rv, rf, rn, rim, ⟨nu, vi, cl, sq, ⟨kk, hh, ii, nn, cc, vv, tt⟩⟩, ra, rs, rc⟩ = (140, ⟨vw, nm, bs, im, ea, es, ec⟩) := by
   have : inM rf bs (bs + es.length) = false := by unfold inM; simp; omega
   unfold Zf zbb; simp [h1, this]
  rw [hf]
  have e2 : decide (rf < bs) = true := by simpa using h2
  clear h1 h2 hf hec hes hrs ha hra hk0 hb0 hb9
  go_enter Tryz.func129, Tryz.ntmps129
  go_wp2_with (first | (go_at_call 93; (with_reducible refine (Zs vw nm bs im _ _ _ _ HLS.out _).mono ?_); rintro e w1 ⟨rfl, hb⟩; replace hp := hp.call hb; clear hb) | go_skip | ((first | ((refine zg _ rfl ?_); refine lZ hp rfl zW ?_; clear hp; intro b w1 hp) | ((refine zh _ _ rfl ?_); refine lB hp rfl (za rfl) rfl ?_; clear hp; intro b w1 hp) | ((refine zf _ _ rfl ?_); first | refine lO hp rfl (za rfl) ZO aa5 ?_ | refine lA hp rfl (za rfl) Za aa5 ?_) | ((refine zd _ _ _ rfl ?_); (first | refine sO hp rfl (za rfl) ZO aa5 ?_ | refine sA hp rfl (za rfl) (za rfl) Za aa5 ?_ | refine sG hp rfl (za rfl) (za rfl) Za aa5 ?_); clear hp; intro w1 hp; simp only [spl, z0a, z0b] at hp) | ((refine zi _ _ _ rfl ?_); refine lS hp rfl (by intro w; go_simp; rfl) ?_; clear hp; intro b w1 hp; simp only [z0g, z0h, Nat.reduceAdd] at hp)); simp only [zc, zb, z0b, z0a]))
  exact bodyPost_ret (zl (rs := [.cell 4 24, .tmp 5]) Tryz.results129 (.cell rfl (hp.loadAgg zF at0 0 _ (by rfl) (by rfl)) (.tmp rfl .nil))) rfl (zau (by decide) hp.below)
 have e2 : decide (rf < bs) = false := by simpa using h2
 by_cases h3 : bs + es.length < rf
 ·have hf : Zf ⟨vw, nm, bs, im, ea, es, ec⟩ ⟨3, rv, rf, rn, rim, ⟨nu, vi, cl, sq, ⟨kk, hh, ii, nn, cc, vv, tt⟩⟩, ra, rs, rc⟩ = (140, ⟨vw, nm, bs, im, ea, es, ec⟩) := by
   have : inM rf bs (bs + es.length) = false := by unfold inM; simp; omega
   unfold Zf zbb; simp [h1, this]
  rw [hf]
  have e3 : decide (bs + (es.length : Int) < rf) = true := by simpa using h3
  clear h1 h2 h3 hf hec hes hrs ha hra hk0 hb0 hb9
  go_enter Tryz.func129, Tryz.ntmps129
  go_wp2_with (first | (go_at_call 93; (with_reducible refine (Zs vw nm bs im _ _ _ _ HLS.out _).mono ?_); rintro e w1 ⟨rfl, hb⟩; replace hp := hp.call hb; clear hb) | go_skip | ((first | ((refine zg _ rfl ?_); refine lZ hp rfl zW ?_; clear hp; intro b w1 hp) | ((refine zh _ _ rfl ?_); refine lB hp rfl (za rfl) rfl ?_; clear hp; intro b w1 hp) | ((refine zf _ _ rfl ?_); first | refine lO hp rfl (za rfl) ZO aa5 ?_ | refine lA hp rfl (za rfl) Za aa5 ?_) | ((refine zd _ _ _ rfl ?_); (first | refine sO hp rfl (za rfl) ZO aa5 ?_ | refine sA hp rfl (za rfl) (za rfl) Za aa5 ?_ | refine sG hp rfl (za rfl) (za rfl) Za aa5 ?_); clear hp; intro w1 hp; simp only [spl, z0a, z0b] at hp) | ((refine zi _ _ _ rfl ?_); refine lS hp rfl (by intro w; go_simp; rfl) ?_; clear hp; intro b w1 hp; simp only [z0g, z0h, Nat.reduceAdd] at hp)); simp only [zc, zb, z0b, z0a]))
  exact bodyPost_ret (zl (rs := [.cell 4 24, .tmp 5]) Tryz.results129 (.cell rfl (hp.loadAgg zF at0 0 _ (by rfl) (by rfl)) (.tmp rfl .nil))) rfl (zau (by decide) hp.below)
 have e3 : decide (bs + (es.length : Int) < rf) = false := by simpa using h3
 have hin : inM rf bs (bs + es.length) = true := by unfold inM; simp; omega
 cases hfo : zc5 rf 0 rs with
 | false =>
  have hf : Zf ⟨vw, nm, bs, im, ea, es, ec⟩ ⟨3, rv, rf, rn, rim, ⟨nu, vi, cl, sq, ⟨kk, hh, ii, nn, cc, vv, tt⟩⟩, ra, rs, rc⟩ = (140, ⟨vw, nm, bs, im, ea, es, ec⟩) := by unfold Zf zbb; simp [h1, hfo]
  rw [hf]
  have HF := z0j hfo
  clear h1 h2 h3 hf hfo hin hec hes hrs ha hra hk0 hb0 hb9
  go_enter Tryz.func129, Tryz.ntmps129
  go_wp2_with (first | (go_at_call 93; (with_reducible refine (Zs vw nm bs im _ _ _ _ HLS.out _).mono ?_); rintro e w1 ⟨rfl, hb⟩; replace hp := hp.call hb; clear hb) | (go_at_call 158; (with_reducible refine (ZD rs _ ra rc _ HF.out HRL.out _ (HRA.out.below hp.below)).mono ?_); rintro e w1 ⟨rfl, hb⟩; replace hp := hp.call hb; clear hb) | go_skip | ((first | ((refine zg _ rfl ?_); refine lZ hp rfl zW ?_; clear hp; intro b w1 hp) | ((refine zh _ _ rfl ?_); refine lB hp rfl (za rfl) rfl ?_; clear hp; intro b w1 hp) | ((refine zf _ _ rfl ?_); first | refine lO hp rfl (za rfl) ZO aa5 ?_ | refine lA hp rfl (za rfl) Za aa5 ?_) | ((refine zd _ _ _ rfl ?_); (first | refine sO hp rfl (za rfl) ZO aa5 ?_ | refine sA hp rfl (za rfl) (za rfl) Za aa5 ?_ | refine sG hp rfl (za rfl) (za rfl) Za aa5 ?_); clear hp; intro w1 hp; simp only [spl, z0a, z0b] at hp) | ((refine zi _ _ _ rfl ?_); refine lS hp rfl (by intro w; go_simp; rfl) ?_; clear hp; intro b w1 hp; simp only [z0g, z0h, Nat.reduceAdd] at hp)); simp only [zc, zb, z0b, z0a]))
  exact bodyPost_ret (zl (rs := [.cell 4 24, .tmp 5]) Tryz.results129 (.cell rfl (hp.loadAgg zF at0 0 _ (by rfl) (by rfl)) (.tmp rfl .nil))) rfl (zau (by decide) hp.below)
 | true =>
  obtain ⟨k, hk⟩ : ∃ k : Nat, rf - bs = k := ⟨(rf - bs).toNat, by omega⟩
  have hf : Zf ⟨vw, nm, bs, im, ea, es, ec⟩ ⟨3, rv, rf, rn, rim, ⟨nu, vi, cl, sq, ⟨kk, hh, ii, nn, cc, vv, tt⟩⟩, ra, rs, rc⟩ = (0, ⟨rv, rv, bs, im, ea, es.take k ++ rs, ec⟩) := by
   have hkk : (rf - bs).toNat = k := by omega
   unfold Zf zbb; simp [h1, hfo, hin, hkk]
  rw [hf]
  have HF := z0j hfo
  have HW : Hid (wrap64 (rf - bs) = (k : Int)) := z0j (by rw [← hk]; unfold wrap64; omega)
  have htk : (es.take k).length = k := by rw [List.length_take]; omega
  have HTK := z0j htk
  have HKL : Hid (k ≤ 100000) := z0j (by omega)
  have HAT := z0j (ha.entTake k)
  have f1 : (0 : Int) ≤ (k : Int) := by omega
  have f2 : (k : Int) ≤ (ec : Int) := by omega
  clear h1 h2 h3 hf hfo hin hec hes hrs ha hra hk0 hb0 hb9 hk htk
  go_enter Tryz.func129, Tryz.ntmps129
  go_wp2_with (first | (go_at_call 93; (with_reducible refine (Zs vw nm bs im _ _ _ _ HLS.out _).mono ?_); rintro e w1 ⟨rfl, hb⟩; replace hp := hp.call hb; clear hb) | (go_at_call 158; (with_reducible refine (ZD rs _ ra rc _ HF.out HRL.out _ (HRA.out.below hp.below)).mono ?_); rintro e w1 ⟨rfl, hb⟩; replace hp := hp.call hb; clear hb) | go_skip | ((first | ((refine zg _ rfl ?_); refine lZ hp rfl zW ?_; clear hp; intro b w1 hp) | ((refine zh _ _ rfl ?_); refine lB hp rfl (za rfl) rfl ?_; clear hp; intro b w1 hp) | ((refine zf _ _ rfl ?_); first | refine lO hp rfl (za rfl) ZO aa5 ?_ | refine lA hp rfl (za rfl) Za aa5 ?_) | ((refine zd _ _ _ rfl ?_); (first | refine sO hp rfl (za rfl) ZO aa5 ?_ | refine sA hp rfl (za rfl) (za rfl) Za aa5 ?_ | refine sG hp rfl (za rfl) (za rfl) Za aa5 ?_); clear hp; intro w1 hp; simp only [spl, z0a, z0b] at hp) | ((refine zi _ _ _ rfl ?_); refine lS hp rfl (by intro w; go_simp; rfl) ?_; clear hp; intro b w1 hp; simp only [z0g, z0h, Nat.reduceAdd] at hp)); simp only [zc, zb, z0b, z0a]))
  refine zk [_, _] (zE.two hp.drew at1 at2) [12] [(0, true), (1, true), (2, true), (3, true), (4, true), (5, true), (6, true), (7, true), (8, true), (9, true), (10, false), (11, true), (12, false)] (by kernel_rfl) (by kernel_rfl) rfl (by kernel_rfl) (fun _ _ d _ _ h => by cases d <;> exact h) ?_
  replace hp := hp.drew
  repeat' (with_reducible refine zG ?_); first | (with_reducible refine zw ?_) | ((with_reducible refine zR ?_); refine zy rfl ?_; (first | ((with_reducible refine Zt _ _ rfl ?_); refine tO rfl (za rfl) (by with_reducible first | exact zq | exact zO) aa5 ?_) | refine tG (fun w _ => (by go_simp; try rfl)) ?_); try simp only [zc, zb, zm, zj, z0b, z0a, z0d, z0c, zn, HW.out]) | (refine zQ rfl (fun K hK => ?_); go_wp2_with (first | (go_at_call 193; (with_reducible refine (zcE (es.take k) rs ea ra k rs.length ec rc HTK.out rfl HKL.out HRL.out _ (HAT.out.below hp.below) (HRA.out.below hp.below)).mono ?_); rintro e w1 ⟨aj, cj, RJ, rfl, hkj, hpn⟩; replace hp := hp.join hpn; have HKJ := z0j hkj; clear hpn hkj; simp only [z0f, z0e, z0i] at hp) | go_skip | (((refine zd _ _ _ rfl ?_); (first | refine sO hp rfl (za rfl) ZO aa5 ?_ | refine sA hp rfl (za rfl) (za rfl) Za aa5 ?_ | refine sG hp rfl (za rfl) (za rfl) Za aa5 ?_); clear hp; intro w1 hp; simp only [spl, z0a, z0b] at hp); simp only [zc, zb, z0b, z0a])); (first | refine hK.out _ _ (.inl rfl) ?_ | refine hK.out _ _ (.inr (zE.two hp aa5 aa5)) ?_); clear hK K; try simp only [zc, zb, zm, zj, z0b, z0a, z0d, z0c, zn, HW.out])
  go_wp2_with (first | go_skip | ((first | ((refine zg _ rfl ?_); refine lZ hp rfl zW ?_; clear hp; intro b w1 hp) | ((refine zh _ _ rfl ?_); refine lB hp rfl (za rfl) rfl ?_; clear hp; intro b w1 hp) | ((refine zf _ _ rfl ?_); first | refine lO hp rfl (za rfl) ZO aa5 ?_ | refine lA hp rfl (za rfl) Za aa5 ?_) | ((refine zd _ _ _ rfl ?_); (first | refine sO hp rfl (za rfl) ZO aa5 ?_ | refine sA hp rfl (za rfl) (za rfl) Za aa5 ?_ | refine sG hp rfl (za rfl) (za rfl) Za aa5 ?_); clear hp; intro w1 hp; simp only [spl, z0a, z0b] at hp) | ((refine zi _ _ _ rfl ?_); refine lS hp rfl (by intro w; go_simp; rfl) ?_; clear hp; intro b w1 hp; simp only [z0g, z0h, Nat.reduceAdd] at hp)); simp only [zc, zb, z0b, z0a]))
  exact bodyPost_ret (zl (rs := [.cell 4 24, .tmp 5]) Tryz.results129 (.cell rfl (hp.loadAgg zF at0 0 _ (by rfl) (by rfl)) (.tmp rfl .nil))) rfl (zb3 aj _ cj RJ (by rw [List.length_append, HTK.out]) (HKJ.out.mono (fun _ h => List.mem_append_right _ h) (fun _ h => h)) hp.kp)
theorem zhb (vw nm bs : Int) (im : ByteArray) (ea : Option Addr) (es : List Env) (ec : Nat) (rv rf rn : Int) (rim : ByteArray) (nu vi cl sq kk hh ii nn cc vv tt : Int) (ra : Option Addr) (rs : List Env) (rc : Nat) {R0 : List Blk} (hk0 : zaG R0 fun w => zr w ea (es.flatMap Zi)) (hec : es.length ≤ ec) (hes : es.length ≤ 1500) (hrs : rs.length ≤ 1500) (hb0 : 0 ≤ bs) (hb9 : bs ≤ 900000000) (kd : Int) (hkd : kd = 5) (w : World) (ha : zr w ea (es.flatMap Zi)) (hra : zr w ra (rs.flatMap Zi)) : Calls Tryz.prog 129 #[.agg #[.int .i64 vw, .int .i64 nm, .int .i64 bs, .string im, .slice ea es.length ec], .agg #[.int .i64 kd, .int .i64 rv, .int .i64 rf, .int .i64 rn, .string rim, .int .i64 nu, .int .i64 vi, .int .i64 cl, .int .i64 sq, .int .i64 kk, .int .i64 hh, .int .i64 ii, .int .i64 nn, .int .i64 cc, .int .i64 vv, .int .i64 tt, .slice ra rs.length rc]] w (zfy w R0 (.agg #[.int .i64 vw, .int .i64 nm, .int .i64 bs, .string im, .slice ea es.length ec]) (Zf ⟨vw, nm, bs, im, ea, es, ec⟩ ⟨kd, rv, rf, rn, rim, ⟨nu, vi, cl, sq, ⟨kk, hh, ii, nn, cc, vv, tt⟩⟩, ra, rs, rc⟩)) := by
 subst hkd
 have hp := Hp.start w; have HA := z0j ha; have HRA := z0j hra; have HK0 := z0j hk0; have HRL : Hid (rs.length ≤ 100000) := z0j (by omega); have HEL : Hid (es.length ≤ 100000) := z0j (by omega); have HLS : Hid (wrap64 (bs + es.length) = bs + es.length) := z0j (by unfold wrap64; omega)
 by_cases h1 : rv < vw
 ·have hf : Zf ⟨vw, nm, bs, im, ea, es, ec⟩ ⟨5, rv, rf, rn, rim, ⟨nu, vi, cl, sq, ⟨kk, hh, ii, nn, cc, vv, tt⟩⟩, ra, rs, rc⟩ = (141, ⟨vw, nm, bs, im, ea, es, ec⟩) := by unfold Zf; simp [h1]
  rw [hf]
  have e1 : decide (rv < vw) = true := by simpa using h1
  clear h1 hf hec hes hrs ha hra hk0 hb0 hb9
  go_enter Tryz.func129, Tryz.ntmps129
  go_wp2_with (first | (go_at_call 93; (with_reducible refine (Zs vw nm bs im _ _ _ _ HLS.out _).mono ?_); rintro e w1 ⟨rfl, hb⟩; replace hp := hp.call hb; clear hb) | go_skip | ((first | ((refine zg _ rfl ?_); refine lZ hp rfl zW ?_; clear hp; intro b w1 hp) | ((refine zh _ _ rfl ?_); refine lB hp rfl (za rfl) rfl ?_; clear hp; intro b w1 hp) | ((refine zf _ _ rfl ?_); first | refine lO hp rfl (za rfl) ZO aa5 ?_ | refine lA hp rfl (za rfl) Za aa5 ?_) | ((refine zd _ _ _ rfl ?_); (first | refine sO hp rfl (za rfl) ZO aa5 ?_ | refine sA hp rfl (za rfl) (za rfl) Za aa5 ?_ | refine sG hp rfl (za rfl) (za rfl) Za aa5 ?_); clear hp; intro w1 hp; simp only [spl, z0a, z0b] at hp) | ((refine zi _ _ _ rfl ?_); refine lS hp rfl (by intro w; go_simp; rfl) ?_; clear hp; intro b w1 hp; simp only [z0g, z0h, Nat.reduceAdd] at hp)); simp only [zc, zb, z0b, z0a]))
  exact bodyPost_ret (zl (rs := [.cell 4 24, .tmp 5]) Tryz.results129 (.cell rfl (hp.loadAgg zF at0 0 _ (by rfl) (by rfl)) (.tmp rfl .nil))) rfl (zau (by decide) hp.below)
 have e1 : decide (rv < vw) = false := by simpa using h1
 by_cases h2 : rn < 0
 ·have hf : Zf ⟨vw, nm, bs, im, ea, es, ec⟩ ⟨5, rv, rf, rn, rim, ⟨nu, vi, cl, sq, ⟨kk, hh, ii, nn, cc, vv, tt⟩⟩, ra, rs, rc⟩ = (140, ⟨vw, nm, bs, im, ea, es, ec⟩) := by
   have : inM rn 0 900000000 = false := by unfold inM; simp; omega
   unfold Zf zbb; simp [h1, this]
  rw [hf]
  have e2 : decide (rn < 0) = true := by simpa using h2
  clear h1 h2 hf hec hes hrs ha hra hk0 hb0 hb9
  go_enter Tryz.func129, Tryz.ntmps129
  go_wp2_with (first | (go_at_call 93; (with_reducible refine (Zs vw nm bs im _ _ _ _ HLS.out _).mono ?_); rintro e w1 ⟨rfl, hb⟩; replace hp := hp.call hb; clear hb) | go_skip | ((first | ((refine zg _ rfl ?_); refine lZ hp rfl zW ?_; clear hp; intro b w1 hp) | ((refine zh _ _ rfl ?_); refine lB hp rfl (za rfl) rfl ?_; clear hp; intro b w1 hp) | ((refine zf _ _ rfl ?_); first | refine lO hp rfl (za rfl) ZO aa5 ?_ | refine lA hp rfl (za rfl) Za aa5 ?_) | ((refine zd _ _ _ rfl ?_); (first | refine sO hp rfl (za rfl) ZO aa5 ?_ | refine sA hp rfl (za rfl) (za rfl) Za aa5 ?_ | refine sG hp rfl (za rfl) (za rfl) Za aa5 ?_); clear hp; intro w1 hp; simp only [spl, z0a, z0b] at hp) | ((refine zi _ _ _ rfl ?_); refine lS hp rfl (by intro w; go_simp; rfl) ?_; clear hp; intro b w1 hp; simp only [z0g, z0h, Nat.reduceAdd] at hp)); simp only [zc, zb, z0b, z0a]))
  exact bodyPost_ret (zl (rs := [.cell 4 24, .tmp 5]) Tryz.results129 (.cell rfl (hp.loadAgg zF at0 0 _ (by rfl) (by rfl)) (.tmp rfl .nil))) rfl (zau (by decide) hp.below)
 have e2 : decide (rn < 0) = false := by simpa using h2
 by_cases h3 : 900000000 < rn
 ·have hf : Zf ⟨vw, nm, bs, im, ea, es, ec⟩ ⟨5, rv, rf, rn, rim, ⟨nu, vi, cl, sq, ⟨kk, hh, ii, nn, cc, vv, tt⟩⟩, ra, rs, rc⟩ = (140, ⟨vw, nm, bs, im, ea, es, ec⟩) := by
   have : inM rn 0 900000000 = false := by unfold inM; simp; omega
   unfold Zf zbb; simp [h1, this]
  rw [hf]
  have e3 : decide (900000000 < rn) = true := by simpa using h3
  clear h1 h2 h3 hf hec hes hrs ha hra hk0 hb0 hb9
  go_enter Tryz.func129, Tryz.ntmps129
  go_wp2_with (first | (go_at_call 93; (with_reducible refine (Zs vw nm bs im _ _ _ _ HLS.out _).mono ?_); rintro e w1 ⟨rfl, hb⟩; replace hp := hp.call hb; clear hb) | go_skip | ((first | ((refine zg _ rfl ?_); refine lZ hp rfl zW ?_; clear hp; intro b w1 hp) | ((refine zh _ _ rfl ?_); refine lB hp rfl (za rfl) rfl ?_; clear hp; intro b w1 hp) | ((refine zf _ _ rfl ?_); first | refine lO hp rfl (za rfl) ZO aa5 ?_ | refine lA hp rfl (za rfl) Za aa5 ?_) | ((refine zd _ _ _ rfl ?_); (first | refine sO hp rfl (za rfl) ZO aa5 ?_ | refine sA hp rfl (za rfl) (za rfl) Za aa5 ?_ | refine sG hp rfl (za rfl) (za rfl) Za aa5 ?_); clear hp; intro w1 hp; simp only [spl, z0a, z0b] at hp) | ((refine zi _ _ _ rfl ?_); refine lS hp rfl (by intro w; go_simp; rfl) ?_; clear hp; intro b w1 hp; simp only [z0g, z0h, Nat.reduceAdd] at hp)); simp only [zc, zb, z0b, z0a]))
  exact bodyPost_ret (zl (rs := [.cell 4 24, .tmp 5]) Tryz.results129 (.cell rfl (hp.loadAgg zF at0 0 _ (by rfl) (by rfl)) (.tmp rfl .nil))) rfl (zau (by decide) hp.below)
 have e3 : decide (900000000 < rn) = false := by simpa using h3
 have hin : inM rn 0 900000000 = true := by unfold inM; simp; omega
 cases hfo : zc5 rn 0 rs with
 | false =>
  have hf : Zf ⟨vw, nm, bs, im, ea, es, ec⟩ ⟨5, rv, rf, rn, rim, ⟨nu, vi, cl, sq, ⟨kk, hh, ii, nn, cc, vv, tt⟩⟩, ra, rs, rc⟩ = (140, ⟨vw, nm, bs, im, ea, es, ec⟩) := by unfold Zf zbb; simp [h1, hfo]
  rw [hf]
  have HF := z0j hfo
  clear h1 h2 h3 hf hfo hin hec hes hrs ha hra hk0 hb0 hb9
  go_enter Tryz.func129, Tryz.ntmps129
  go_wp2_with (first | (go_at_call 93; (with_reducible refine (Zs vw nm bs im _ _ _ _ HLS.out _).mono ?_); rintro e w1 ⟨rfl, hb⟩; replace hp := hp.call hb; clear hb) | (go_at_call 158; (with_reducible refine (ZD rs _ ra rc _ HF.out HRL.out _ (HRA.out.below hp.below)).mono ?_); rintro e w1 ⟨rfl, hb⟩; replace hp := hp.call hb; clear hb) | go_skip | ((first | ((refine zg _ rfl ?_); refine lZ hp rfl zW ?_; clear hp; intro b w1 hp) | ((refine zh _ _ rfl ?_); refine lB hp rfl (za rfl) rfl ?_; clear hp; intro b w1 hp) | ((refine zf _ _ rfl ?_); first | refine lO hp rfl (za rfl) ZO aa5 ?_ | refine lA hp rfl (za rfl) Za aa5 ?_) | ((refine zd _ _ _ rfl ?_); (first | refine sO hp rfl (za rfl) ZO aa5 ?_ | refine sA hp rfl (za rfl) (za rfl) Za aa5 ?_ | refine sG hp rfl (za rfl) (za rfl) Za aa5 ?_); clear hp; intro w1 hp; simp only [spl, z0a, z0b] at hp) | ((refine zi _ _ _ rfl ?_); refine lS hp rfl (by intro w; go_simp; rfl) ?_; clear hp; intro b w1 hp; simp only [z0g, z0h, Nat.reduceAdd] at hp)); simp only [zc, zb, z0b, z0a]))
  exact bodyPost_ret (zl (rs := [.cell 4 24, .tmp 5]) Tryz.results129 (.cell rfl (hp.loadAgg zF at0 0 _ (by rfl) (by rfl)) (.tmp rfl .nil))) rfl (zau (by decide) hp.below)
 | true =>
  have hf : Zf ⟨vw, nm, bs, im, ea, es, ec⟩ ⟨5, rv, rf, rn, rim, ⟨nu, vi, cl, sq, ⟨kk, hh, ii, nn, cc, vv, tt⟩⟩, ra, rs, rc⟩ = (0, ⟨rv, rv, rn, rim, ea, rs, ec⟩) := by
   unfold Zf zbb; simp [h1, hfo, hin]
  rw [hf]
  have HF := z0j hfo
  clear h1 h2 h3 hf hfo hin hec hes hrs ha hra hk0 hb0 hb9
  go_enter Tryz.func129, Tryz.ntmps129
  go_wp2_with (first | (go_at_call 93; (with_reducible refine (Zs vw nm bs im _ _ _ _ HLS.out _).mono ?_); rintro e w1 ⟨rfl, hb⟩; replace hp := hp.call hb; clear hb) | (go_at_call 158; (with_reducible refine (ZD rs _ ra rc _ HF.out HRL.out _ (HRA.out.below hp.below)).mono ?_); rintro e w1 ⟨rfl, hb⟩; replace hp := hp.call hb; clear hb) | go_skip | ((first | ((refine zg _ rfl ?_); refine lZ hp rfl zW ?_; clear hp; intro b w1 hp) | ((refine zh _ _ rfl ?_); refine lB hp rfl (za rfl) rfl ?_; clear hp; intro b w1 hp) | ((refine zf _ _ rfl ?_); first | refine lO hp rfl (za rfl) ZO aa5 ?_ | refine lA hp rfl (za rfl) Za aa5 ?_) | ((refine zd _ _ _ rfl ?_); (first | refine sO hp rfl (za rfl) ZO aa5 ?_ | refine sA hp rfl (za rfl) (za rfl) Za aa5 ?_ | refine sG hp rfl (za rfl) (za rfl) Za aa5 ?_); clear hp; intro w1 hp; simp only [spl, z0a, z0b] at hp) | ((refine zi _ _ _ rfl ?_); refine lS hp rfl (by intro w; go_simp; rfl) ?_; clear hp; intro b w1 hp; simp only [z0g, z0h, Nat.reduceAdd] at hp)); simp only [zc, zb, z0b, z0a]))
  refine zk [_] (zE.one hp.drew at1) [12, 13] [(0, true), (1, true), (2, true), (3, true), (4, true), (5, true), (6, true), (7, true), (8, true), (9, true), (10, false), (11, true), (12, false), (13, false)] (by kernel_rfl) (by kernel_rfl) rfl (by kernel_rfl) (fun _ _ d _ _ h => by cases d <;> exact h) ?_
  replace hp := hp.drew
  repeat' (with_reducible refine zG ?_); first | (with_reducible refine zw ?_) | ((with_reducible refine zR ?_); refine zy rfl ?_; (first | ((with_reducible refine Zt _ _ rfl ?_); refine tO rfl (za rfl) znk aa5 ?_) | refine tG (fun w _ => (by go_simp; try rfl)) ?_); try simp only [zc, zb, zm, zj, z0b, z0a, z0d, z0c, zn]) | (refine zQ rfl (fun K hK => ?_); go_wp2_with (first | (go_at_call 193; (with_reducible refine (zcE rs [] ra none rs.length 0 rc 0 rfl rfl HRL.out (by decide) _ (HRA.out.below hp.below) (zr.nil _ _)).mono ?_); rintro e w1 ⟨aj, cj, RJ, rfl, hkj, hpn⟩; replace hp := hp.join hpn; have HKJ := z0j hkj; clear hpn hkj; simp only [z0f, z0e, z0i] at hp) | go_skip | (((refine zd _ _ _ rfl ?_); (first | refine sO hp rfl (za rfl) ZO aa5 ?_ | refine sA hp rfl (za rfl) (za rfl) Za aa5 ?_ | refine sG hp rfl (za rfl) (za rfl) Za aa5 ?_); clear hp; intro w1 hp; simp only [spl, z0a, z0b] at hp); simp only [zc, zb, z0b, z0a])); (first | refine hK.out _ _ (.inl rfl) ?_ | refine hK.out _ _ (.inr (zE.one hp aa5)) ?_); clear hK K; try simp only [zc, zb, zm, zj, z0b, z0a, z0d, z0c, zn])
  go_wp2_with (first | go_skip | ((first | ((refine zg _ rfl ?_); refine lZ hp rfl zW ?_; clear hp; intro b w1 hp) | ((refine zh _ _ rfl ?_); refine lB hp rfl (za rfl) rfl ?_; clear hp; intro b w1 hp) | ((refine zf _ _ rfl ?_); first | refine lO hp rfl (za rfl) ZO aa5 ?_ | refine lA hp rfl (za rfl) Za aa5 ?_) | ((refine zd _ _ _ rfl ?_); (first | refine sO hp rfl (za rfl) ZO aa5 ?_ | refine sA hp rfl (za rfl) (za rfl) Za aa5 ?_ | refine sG hp rfl (za rfl) (za rfl) Za aa5 ?_); clear hp; intro w1 hp; simp only [spl, z0a, z0b] at hp) | ((refine zi _ _ _ rfl ?_); refine lS hp rfl (by intro w; go_simp; rfl) ?_; clear hp; intro b w1 hp; simp only [z0g, z0h, Nat.reduceAdd] at hp)); simp only [zc, zb, z0b, z0a]))
  exact bodyPost_ret (zl (rs := [.cell 4 24, .tmp 5]) Tryz.results129 (.cell rfl (hp.loadAgg zF at0 0 _ (by rfl) (by rfl)) (.tmp rfl .nil))) rfl (zb3 aj _ cj RJ rfl (HKJ.out.mono (fun _ h => List.mem_append_right _ h) (fun _ h => by rw [List.append_nil] at h; exact h)) hp.kp)
theorem zir (vw nm bs : Int) (im : ByteArray) (ea : Option Addr) (es : List Env) (ec : Nat) (rv rf rn : Int) (rim : ByteArray) (nu vi cl sq kk hh ii nn cc vv tt : Int) (ra : Option Addr) (rs : List Env) (rc : Nat) {R0 : List Blk} (hk0 : zaG R0 fun w => zr w ea (es.flatMap Zi)) (hec : es.length ≤ ec) (hes : es.length ≤ 1500) (hrs : rs.length ≤ 1500) (hb0 : 0 ≤ bs) (hb9 : bs ≤ 900000000) (kd : Int) (hkd : kd = 4) (w : World) (ha : zr w ea (es.flatMap Zi)) (hra : zr w ra (rs.flatMap Zi)) : Calls Tryz.prog 129 #[.agg #[.int .i64 vw, .int .i64 nm, .int .i64 bs, .string im, .slice ea es.length ec], .agg #[.int .i64 kd, .int .i64 rv, .int .i64 rf, .int .i64 rn, .string rim, .int .i64 nu, .int .i64 vi, .int .i64 cl, .int .i64 sq, .int .i64 kk, .int .i64 hh, .int .i64 ii, .int .i64 nn, .int .i64 cc, .int .i64 vv, .int .i64 tt, .slice ra rs.length rc]] w (zfy w R0 (.agg #[.int .i64 vw, .int .i64 nm, .int .i64 bs, .string im, .slice ea es.length ec]) (Zf ⟨vw, nm, bs, im, ea, es, ec⟩ ⟨kd, rv, rf, rn, rim, ⟨nu, vi, cl, sq, ⟨kk, hh, ii, nn, cc, vv, tt⟩⟩, ra, rs, rc⟩)) := by
 subst hkd
 have hp := Hp.start w; have HA := z0j ha; have HRA := z0j hra; have HK0 := z0j hk0; have HRL : Hid (rs.length ≤ 100000) := z0j (by omega); have HEL : Hid (es.length ≤ 100000) := z0j (by omega); have HLS : Hid (wrap64 (bs + es.length) = bs + es.length) := z0j (by unfold wrap64; omega)
 by_cases h1 : rn ≤ bs
 ·have hf : Zf ⟨vw, nm, bs, im, ea, es, ec⟩ ⟨4, rv, rf, rn, rim, ⟨nu, vi, cl, sq, ⟨kk, hh, ii, nn, cc, vv, tt⟩⟩, ra, rs, rc⟩ = (140, ⟨vw, nm, bs, im, ea, es, ec⟩) := by unfold Zf; simp [h1]
  rw [hf]
  have e1 : decide (rn ≤ bs) = true := by simpa using h1
  clear h1 hf hec hes hrs ha hra hk0 hb0 hb9
  go_enter Tryz.func129, Tryz.ntmps129
  go_wp2_with (first | (go_at_call 93; (with_reducible refine (Zs vw nm bs im _ _ _ _ HLS.out _).mono ?_); rintro e w1 ⟨rfl, hb⟩; replace hp := hp.call hb; clear hb) | go_skip | ((first | ((refine zg _ rfl ?_); refine lZ hp rfl zW ?_; clear hp; intro b w1 hp) | ((refine zh _ _ rfl ?_); refine lB hp rfl (za rfl) rfl ?_; clear hp; intro b w1 hp) | ((refine zf _ _ rfl ?_); first | refine lO hp rfl (za rfl) ZO aa5 ?_ | refine lA hp rfl (za rfl) Za aa5 ?_) | ((refine zd _ _ _ rfl ?_); (first | refine sO hp rfl (za rfl) ZO aa5 ?_ | refine sA hp rfl (za rfl) (za rfl) Za aa5 ?_ | refine sG hp rfl (za rfl) (za rfl) Za aa5 ?_); clear hp; intro w1 hp; simp only [spl, z0a, z0b] at hp) | ((refine zi _ _ _ rfl ?_); refine lS hp rfl (by intro w; go_simp; rfl) ?_; clear hp; intro b w1 hp; simp only [z0g, z0h, Nat.reduceAdd] at hp)); simp only [zc, zb, z0b, z0a]))
  exact bodyPost_ret (zl (rs := [.cell 4 24, .tmp 5]) Tryz.results129 (.cell rfl (hp.loadAgg zF at0 0 _ (by rfl) (by rfl)) (.tmp rfl .nil))) rfl (zau (by decide) hp.below)
 have e1 : decide (rn ≤ bs) = false := by simpa using h1
 by_cases h2 : bs + es.length < rn
 ·have hf : Zf ⟨vw, nm, bs, im, ea, es, ec⟩ ⟨4, rv, rf, rn, rim, ⟨nu, vi, cl, sq, ⟨kk, hh, ii, nn, cc, vv, tt⟩⟩, ra, rs, rc⟩ = (140, ⟨vw, nm, bs, im, ea, es, ec⟩) := by unfold Zf zbb; simp [h1, h2]
  rw [hf]
  have e2 : decide (bs + (es.length : Int) < rn) = true := by simpa using h2
  clear h1 h2 hf hec hes hrs ha hra hk0 hb0 hb9
  go_enter Tryz.func129, Tryz.ntmps129
  go_wp2_with (first | (go_at_call 93; (with_reducible refine (Zs vw nm bs im _ _ _ _ HLS.out _).mono ?_); rintro e w1 ⟨rfl, hb⟩; replace hp := hp.call hb; clear hb) | go_skip | ((first | ((refine zg _ rfl ?_); refine lZ hp rfl zW ?_; clear hp; intro b w1 hp) | ((refine zh _ _ rfl ?_); refine lB hp rfl (za rfl) rfl ?_; clear hp; intro b w1 hp) | ((refine zf _ _ rfl ?_); first | refine lO hp rfl (za rfl) ZO aa5 ?_ | refine lA hp rfl (za rfl) Za aa5 ?_) | ((refine zd _ _ _ rfl ?_); (first | refine sO hp rfl (za rfl) ZO aa5 ?_ | refine sA hp rfl (za rfl) (za rfl) Za aa5 ?_ | refine sG hp rfl (za rfl) (za rfl) Za aa5 ?_); clear hp; intro w1 hp; simp only [spl, z0a, z0b] at hp) | ((refine zi _ _ _ rfl ?_); refine lS hp rfl (by intro w; go_simp; rfl) ?_; clear hp; intro b w1 hp; simp only [z0g, z0h, Nat.reduceAdd] at hp)); simp only [zc, zb, z0b, z0a]))
  exact bodyPost_ret (zl (rs := [.cell 4 24, .tmp 5]) Tryz.results129 (.cell rfl (hp.loadAgg zF at0 0 _ (by rfl) (by rfl)) (.tmp rfl .nil))) rfl (zau (by decide) hp.below)
 have e2 : decide (bs + (es.length : Int) < rn) = false := by simpa using h2
 obtain ⟨k, hk⟩ : ∃ k : Nat, rn - bs = k := ⟨(rn - bs).toNat, by omega⟩
 have hke : k ≤ es.length := by omega
 have hf : Zf ⟨vw, nm, bs, im, ea, es, ec⟩ ⟨4, rv, rf, rn, rim, ⟨nu, vi, cl, sq, ⟨kk, hh, ii, nn, cc, vv, tt⟩⟩, ra, rs, rc⟩ = (0, ⟨vw, nm, rn, rim, ea, es.drop k, ec⟩) := by
  have hkk : (rn - bs).toNat = k := by omega
  unfold Zf zbb; simp [h1, h2, hkk]
 rw [hf]
 obtain ⟨bq, off, rfl, _⟩ := ha.elems 11 ZM (by omega) (by omega)
 have HW : wrap64 (rn - bs) = (k : Int) := by rw [← hk]; unfold wrap64; omega
 have hdk : (es.drop k).length = es.length - k := List.length_drop ..
 have HKL : Hid (es.length - k ≤ 100000) := z0j (by omega)
 by_cases hck : ec = k
 ·obtain rfl : k = es.length := by omega
  subst hck
  have hnil : es.drop es.length = [] := List.drop_length
  rw [hnil]
  have f1 : (0 : Int) ≤ (es.length : Int) := by omega
  clear h1 h2 hf hec hes hrs ha hra hk0 hb0 hb9 hk hke hdk hnil
  go_enter Tryz.func129, Tryz.ntmps129
  go_wp2_with (first | (go_at_call 93; (with_reducible refine (Zs vw nm bs im _ _ _ _ HLS.out _).mono ?_); rintro e w1 ⟨rfl, hb⟩; replace hp := hp.call hb; clear hb) | (go_at_call 193; (with_reducible refine (zcE [] [] (some ⟨bq, off, none⟩) none 0 0 0 0 rfl rfl (by decide) (by decide) _ (zr.nil _ _) (zr.nil _ _)).mono ?_); rintro e w1 ⟨aj, cj, RJ, rfl, hkj, hpn⟩; replace hp := hp.join hpn; have HKJ := z0j hkj; clear hpn hkj; simp only [z0f, z0e, z0i] at hp) | go_skip | ((first | ((refine zg _ rfl ?_); refine lZ hp rfl zW ?_; clear hp; intro b w1 hp) | ((refine zh _ _ rfl ?_); refine lB hp rfl (za rfl) rfl ?_; clear hp; intro b w1 hp) | ((refine zf _ _ rfl ?_); first | refine lO hp rfl (za rfl) ZO aa5 ?_ | refine lA hp rfl (za rfl) Za aa5 ?_) | ((refine zd _ _ _ rfl ?_); (first | refine sO hp rfl (za rfl) ZO aa5 ?_ | refine sA hp rfl (za rfl) (za rfl) Za aa5 ?_ | refine sG hp rfl (za rfl) (za rfl) Za aa5 ?_); clear hp; intro w1 hp; simp only [spl, z0a, z0b] at hp) | ((refine zi _ _ _ rfl ?_); refine lS hp rfl (by intro w; go_simp; rfl) ?_; clear hp; intro b w1 hp; simp only [z0g, z0h, Nat.reduceAdd] at hp)); simp only [zc, zb, z0b, z0a]))
  exact bodyPost_ret (zl (rs := [.cell 4 24, .tmp 5]) Tryz.results129 (.cell rfl (hp.loadAgg zF at0 0 _ (by rfl) (by rfl)) (.tmp rfl .nil))) rfl (zb3 aj _ cj RJ rfl (HKJ.out.mono (fun _ h => List.mem_append_right _ h) (fun _ h => h)) hp.kp)
 ·have had := zkW ha k (es.length - k)
  rw [List.take_of_length_le (by rw [hdk]; omega)] at had
  have HAD := z0j had
  have HDK := z0j hdk
  have f1 : (0 : Int) ≤ (k : Int) := by omega
  have f2 : (k : Int) ≤ (es.length : Int) := by omega
  have f3 : ¬ ec = k := hck
  clear h1 h2 hf hec hes hrs ha hra hk0 hb0 hb9 hk hke hdk had hck
  go_enter Tryz.func129, Tryz.ntmps129
  go_wp2_with (first | (go_at_call 93; (with_reducible refine (Zs vw nm bs im _ _ _ _ HLS.out _).mono ?_); rintro e w1 ⟨rfl, hb⟩; replace hp := hp.call hb; clear hb) | (go_at_call 193; (with_reducible refine (zcE (es.drop k) [] (some ⟨bq, off + k * 11, none⟩) none (es.length - k) 0 (ec - k) 0 HDK.out rfl HKL.out (by decide) _ (HAD.out.below hp.below) (zr.nil _ _)).mono ?_); rintro e w1 ⟨aj, cj, RJ, rfl, hkj, hpn⟩; replace hp := hp.join hpn; have HKJ := z0j hkj; clear hpn hkj; simp only [z0f, z0e, z0i] at hp) | go_skip | ((first | ((refine zg _ rfl ?_); refine lZ hp rfl zW ?_; clear hp; intro b w1 hp) | ((refine zh _ _ rfl ?_); refine lB hp rfl (za rfl) rfl ?_; clear hp; intro b w1 hp) | ((refine zf _ _ rfl ?_); first | refine lO hp rfl (za rfl) ZO aa5 ?_ | refine lA hp rfl (za rfl) Za aa5 ?_) | ((refine zd _ _ _ rfl ?_); (first | refine sO hp rfl (za rfl) ZO aa5 ?_ | refine sA hp rfl (za rfl) (za rfl) Za aa5 ?_ | refine sG hp rfl (za rfl) (za rfl) Za aa5 ?_); clear hp; intro w1 hp; simp only [spl, z0a, z0b] at hp) | ((refine zi _ _ _ rfl ?_); refine lS hp rfl (by intro w; go_simp; rfl) ?_; clear hp; intro b w1 hp; simp only [z0g, z0h, Nat.reduceAdd] at hp)); simp only [zc, zb, z0b, z0a]))
  exact bodyPost_ret (zl (rs := [.cell 4 24, .tmp 5]) Tryz.results129 (.cell rfl (hp.loadAgg zF at0 0 _ (by rfl) (by rfl)) (.tmp rfl .nil))) rfl (zb3 aj _ cj RJ (by rw [HDK.out]) (HKJ.out.mono (fun _ h => List.mem_append_right _ h) (fun _ h => by rw [List.append_nil] at h; exact h)) hp.kp)
theorem zis (vw nm bs : Int) (im : ByteArray) (ea : Option Addr) (es : List Env) (ec : Nat) (rv rf rn : Int) (rim : ByteArray) (nu vi cl sq kk hh ii nn cc vv tt : Int) (ra : Option Addr) (rs : List Env) (rc : Nat) {R0 : List Blk} (hk0 : zaG R0 fun w => zr w ea (es.flatMap Zi)) (hec : es.length ≤ ec) (hes : es.length ≤ 1500) (hrs : rs.length ≤ 1500) (hb0 : 0 ≤ bs) (hb9 : bs ≤ 900000000) (kd : Int) (k1 : kd ≠ 1) (k2 : kd ≠ 2) (k3 : kd ≠ 3) (k4 : kd ≠ 4) (k5 : kd ≠ 5) (w : World) (ha : zr w ea (es.flatMap Zi)) (hra : zr w ra (rs.flatMap Zi)) : Calls Tryz.prog 129 #[.agg #[.int .i64 vw, .int .i64 nm, .int .i64 bs, .string im, .slice ea es.length ec], .agg #[.int .i64 kd, .int .i64 rv, .int .i64 rf, .int .i64 rn, .string rim, .int .i64 nu, .int .i64 vi, .int .i64 cl, .int .i64 sq, .int .i64 kk, .int .i64 hh, .int .i64 ii, .int .i64 nn, .int .i64 cc, .int .i64 vv, .int .i64 tt, .slice ra rs.length rc]] w (zfy w R0 (.agg #[.int .i64 vw, .int .i64 nm, .int .i64 bs, .string im, .slice ea es.length ec]) (Zf ⟨vw, nm, bs, im, ea, es, ec⟩ ⟨kd, rv, rf, rn, rim, ⟨nu, vi, cl, sq, ⟨kk, hh, ii, nn, cc, vv, tt⟩⟩, ra, rs, rc⟩)) := by
 have hp := Hp.start w; have HA := z0j ha; have HRA := z0j hra; have HK0 := z0j hk0; have HRL : Hid (rs.length ≤ 100000) := z0j (by omega); have HEL : Hid (es.length ≤ 100000) := z0j (by omega); have HLS : Hid (wrap64 (bs + es.length) = bs + es.length) := z0j (by unfold wrap64; omega)
 have hf : Zf ⟨vw, nm, bs, im, ea, es, ec⟩ ⟨kd, rv, rf, rn, rim, ⟨nu, vi, cl, sq, ⟨kk, hh, ii, nn, cc, vv, tt⟩⟩, ra, rs, rc⟩ = (141, ⟨vw, nm, bs, im, ea, es, ec⟩) := by unfold Zf; simp [k1, k2, k3, k4, k5]
 rw [hf]
 have e1 : (kd == 1) = false := by simpa using k1
 have e2 : (kd == 2) = false := by simpa using k2
 have e3 : (kd == 3) = false := by simpa using k3
 have e4 : (kd == 4) = false := by simpa using k4
 have e5 : (kd == 5) = false := by simpa using k5
 clear hf hec hes hrs ha hra hk0 hb0 hb9 k1 k2 k3 k4 k5
 go_enter Tryz.func129, Tryz.ntmps129
 go_wp2_with (first | (go_at_call 93; (with_reducible refine (Zs vw nm bs im _ _ _ _ HLS.out _).mono ?_); rintro e w1 ⟨rfl, hb⟩; replace hp := hp.call hb; clear hb) | go_skip | ((first | ((refine zg _ rfl ?_); refine lZ hp rfl zW ?_; clear hp; intro b w1 hp) | ((refine zh _ _ rfl ?_); refine lB hp rfl (za rfl) rfl ?_; clear hp; intro b w1 hp) | ((refine zf _ _ rfl ?_); first | refine lO hp rfl (za rfl) ZO aa5 ?_ | refine lA hp rfl (za rfl) Za aa5 ?_) | ((refine zd _ _ _ rfl ?_); (first | refine sO hp rfl (za rfl) ZO aa5 ?_ | refine sA hp rfl (za rfl) (za rfl) Za aa5 ?_ | refine sG hp rfl (za rfl) (za rfl) Za aa5 ?_); clear hp; intro w1 hp; simp only [spl, z0a, z0b] at hp) | ((refine zi _ _ _ rfl ?_); refine lS hp rfl (by intro w; go_simp; rfl) ?_; clear hp; intro b w1 hp; simp only [z0g, z0h, Nat.reduceAdd] at hp)); simp only [zc, zb, z0b, z0a]))
 exact bodyPost_ret (zl (rs := [.cell 4 24, .tmp 5]) Tryz.results129 (.cell rfl (hp.loadAgg zF at0 0 _ (by rfl) (by rfl)) (.tmp rfl .nil))) rfl (zau (by decide) hp.below)
theorem zmE (vw nm bs : Int) (im : ByteArray) (ea : Option Addr) (es : List Env) (ec : Nat) (rv rf rn : Int) (rim : ByteArray) (nu vi cl sq kk hh ii nn cc vv tt : Int) (ra : Option Addr) (rs : List Env) (rc : Nat) {R0 : List Blk} (hk0 : zaG R0 fun w => zr w ea (es.flatMap Zi)) (hec : es.length ≤ ec) (hes : es.length ≤ 1500) (hrs : rs.length ≤ 1500) (hb0 : 0 ≤ bs) (hb9 : bs ≤ 900000000) (kd : Int) (w : World) (ha : zr w ea (es.flatMap Zi)) (hra : zr w ra (rs.flatMap Zi)) : Calls Tryz.prog 129 #[.agg #[.int .i64 vw, .int .i64 nm, .int .i64 bs, .string im, .slice ea es.length ec], .agg #[.int .i64 kd, .int .i64 rv, .int .i64 rf, .int .i64 rn, .string rim, .int .i64 nu, .int .i64 vi, .int .i64 cl, .int .i64 sq, .int .i64 kk, .int .i64 hh, .int .i64 ii, .int .i64 nn, .int .i64 cc, .int .i64 vv, .int .i64 tt, .slice ra rs.length rc]] w (zfy w R0 (.agg #[.int .i64 vw, .int .i64 nm, .int .i64 bs, .string im, .slice ea es.length ec]) (Zf ⟨vw, nm, bs, im, ea, es, ec⟩ ⟨kd, rv, rf, rn, rim, ⟨nu, vi, cl, sq, ⟨kk, hh, ii, nn, cc, vv, tt⟩⟩, ra, rs, rc⟩)) := by
 by_cases k1 : kd = 1
 ·exact zjP vw nm bs im ea es ec rv rf rn rim nu vi cl sq kk hh ii nn cc vv tt ra rs rc hk0 hec hes hrs hb0 hb9 kd k1 w ha hra
 by_cases k2 : kd = 2
 ·exact ziq vw nm bs im ea es ec rv rf rn rim nu vi cl sq kk hh ii nn cc vv tt ra rs rc hk0 hec hes hrs hb0 hb9 kd k2 w ha hra
 by_cases k3 : kd = 3
 ·exact zip vw nm bs im ea es ec rv rf rn rim nu vi cl sq kk hh ii nn cc vv tt ra rs rc hk0 hec hes hrs hb0 hb9 kd k3 w ha hra
 by_cases k4 : kd = 4
 ·exact zir vw nm bs im ea es ec rv rf rn rim nu vi cl sq kk hh ii nn cc vv tt ra rs rc hk0 hec hes hrs hb0 hb9 kd k4 w ha hra
 by_cases k5 : kd = 5
 ·exact zhb vw nm bs im ea es ec rv rf rn rim nu vi cl sq kk hh ii nn cc vv tt ra rs rc hk0 hec hes hrs hb0 hb9 kd k5 w ha hra
 exact zis vw nm bs im ea es ec rv rf rn rim nu vi cl sq kk hh ii nn cc vv tt ra rs rc hk0 hec hes hrs hb0 hb9 kd k1 k2 k3 k4 k5 w ha hra
end Go.Proofs.YtaafajaadfgaoaaGreat
