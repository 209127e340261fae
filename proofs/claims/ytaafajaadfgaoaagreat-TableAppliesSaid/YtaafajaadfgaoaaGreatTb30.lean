import Derived.Test.YtaafajaadfgaoaaGreatTb29
import Derived.Test.YtaafajaadfgaoaaGreatTb21
set_option linter.unusedSimpArgs false
set_option linter.unusedVariables false
set_option maxRecDepth 100000
set_option maxHeartbeats 60000000
namespace Go.Proofs.YtaafajaadfgaoaaGreat
open Go.RowKit
theorem zbd {ty : TypeId} {k : Nat} (h : zac Tryz.prog ty k = true := by with_reducible first | exact zL | exact zcw | exact zU) : zac Tryz.prog ty k = true := h
theorem zcI {ty : TypeId} (h : zN Tryz.prog ty = true := by with_reducible first | exact zw | exact Zd | exact Zb | exact zfG) : zN Tryz.prog ty = true := h
theorem zmr {os : List Ob} {t r : Int} (h : zfD os t r) : (r = -1 ∧ Z0 os t = none) ∨ ∃ (i : Nat) (g : Ob), r = i ∧ os[i]? = some g ∧ Z0 os t = some i := by
 rcases h with ⟨rfl, h⟩ | ⟨j, o, rfl, hj, ho, hf⟩
 ·exact .inl ⟨rfl, zd6.2 h⟩
 ·right
  refine ⟨j, o, rfl, hj, ?_⟩
  cases hp : Z0 os t with
  | none => exact absurd ho (zd6.1 hp o (List.mem_of_getElem? hj))
  | some i =>
   obtain ⟨o', ho', hoh, hfirst⟩ := zc1 hp
   rcases Nat.lt_trichotomy i j with h | h | h
   ·exact absurd hoh (hf i o' h ho')
   ·rw [h]
   ·exact absurd ho (hfirst j o h hj)
theorem zk9 {x : Hv} (hx : zQ x) {kk hh ii nn cc vv tt : Int} (hk : kk = 2 ∨ kk = 3 ∨ kk = 4 ∨ kk = 6 ∨ kk = 7) {r : Int} (hr : zfD x.os hh r) {B : Nat} {w0 w : World} {K : List Blk} (hW : zax B w0 w x K) :
  Calls Tryz.prog 205 #[.agg (hvL x).toArray, .agg #[.int .i64 kk, .int .i64 hh, .int .i64 ii, .int .i64 nn, .int .i64 cc, .int .i64 vv, .int .i64 tt], .int .i64 r] w (Zt B w0 (atC x ⟨kk, hh, ii, nn, cc, vv, tt⟩).1 (atC x ⟨kk, hh, ii, nn, cc, vv, tt⟩).2.1 (atC x ⟨kk, hh, ii, nn, cc, vv, tt⟩).2.2 K) := by
 have hol : x.os.length ≤ 1000 := by have := hx.len; omega
 unfold atC
 simp only
 rcases zmr hr with ⟨rfl, hn⟩ | ⟨i, g, rfl, hg, hn⟩
 ·rw [hn]; exact zfu hW
 ·rw [hn]
  simp only [hg]
  have hnat : ∀ {n : Nat}, ¬ (ii < 0 ∨ (n : Int) ≤ ii) → ∃ q : Nat, ii = q ∧ q < n := fun h => ⟨ii.toNat, by omega, by omega⟩
  rcases hk with rfl | rfl | rfl | rfl | rfl
  ·exact zfs hx hg hol hW
  ·simp only [zj1, Int.reduceEq, or_self, if_false, if_true]
   by_cases h : ii < 0 ∨ (g.ws.length : Int) ≤ ii
   ·rw [if_pos h]; exact zer hg hol h hW
   ·obtain ⟨q, rfl, hq⟩ := hnat h
    rw [if_neg h]; exact ze6 hg hol hq hW
  ·simp only [zj1, Int.reduceEq, or_false, false_or, if_false, if_true]
   by_cases h : ii < 0 ∨ (g.ls.length : Int) ≤ ii
   ·rw [if_pos h]; exact zes hg hol h hW
   ·obtain ⟨q, rfl, hq⟩ := hnat h
    rw [if_neg h]
    cases hto : ZQ x.os tt with
    | true => exact zft hg hol hq hto hW
    | false => exact zev hg hol hq hto hW
  ·simp only [zj1, Int.reduceEq, or_self, if_false, if_true]
   by_cases h : ii < 0 ∨ (g.ws.length : Int) ≤ ii
   ·rw [if_pos h]; exact zet hg hol h hW
   ·obtain ⟨q, rfl, hq⟩ := hnat h
    rw [if_neg h]
    have hv := List.getElem?_eq_getElem hq
    have he : g.ws.getD q 0 = g.ws[q] := by simp [hq]
    simp only [Int.toNat_natCast, he]
    exact zfv hg hol hq hv hW
  ·simp only [zj1, Int.reduceEq, or_true, if_false, if_true]
   by_cases h : ii < 0 ∨ (g.ls.length : Int) ≤ ii
   ·rw [if_pos h]; exact zeu hg hol h hW
   ·obtain ⟨q, rfl, hq⟩ := hnat h
    rw [if_neg h]
    have hv := List.getElem?_eq_getElem hq
    have he : g.ls.getD q 0 = g.ls[q] := by simp [hq]
    simp only [Int.toNat_natCast, he]
    exact zeq hg hol hq hv hW
theorem Zt.to {B : Nat} {w0 : World} {s s' : Hv} {c v c' v' : Int} {K : List Blk} {e : Ending} {w' : World} (h : Zt B w0 s' c' v' K e w') (h2 : (c', v') = (c, v)) (hs : s'.Sm s) : Zt B w0 s c v K e w' := by
 injection h2 with h2 h3
 subst h2 h3
 obtain ⟨y, he, hy, hr⟩ := h
 exact ⟨y, he, hy.trans hs, hr⟩
theorem zgx (od : Int) (oa : Option Addr) (os : List Ob) (oc : Nat) (nx t0 t1 t2 t3 : Int) (fa : Option Addr) (fs : List Bl) (fc : Nat) (hs : Hv.Small ⟨od, oa, os, oc, nx, t0, t1, t2, t3, fa, fs, fc⟩) (w : World) (h : Hv.Is w ⟨od, oa, os, oc, nx, t0, t1, t2, t3, fa, fs, fc⟩) :
  Calls Tryz.prog 73 #[.agg #[.int .i64 od, .slice oa os.length oc, .int .i64 nx, .int .i64 t0, .int .i64 t1, .int .i64 t2, .int .i64 t3, .slice fa fs.length fc]] w (ziO w ⟨od, oa, os, oc, nx, t0, t1, t2, t3, fa, fs, fc⟩) := zoN _ hs w h
theorem zgA {B : Nat} {w0 : World} {y : Hv} {RO RF M : List Blk} (hR : HvR y RO RF M) {p1 p2 p3 p4 : Blk} {w : World} (hp : Hp B w0 w (p1 :: p2 :: p3 :: p4 :: (RO ++ (RF ++ M)))) : zax B w0 w y [p1, p2, p3, p4] := ⟨RO, RF, M, hR, hp.kp⟩
theorem zgz {B : Nat} {w0 : World} {RO RF M : List Blk} {p1 p2 p3 p4 : Blk} {w : World} (hp : Hp B w0 w (RO ++ (RF ++ (M ++ [p1, p2, p3, p4])))) : Hp B w0 w (p1 :: p2 :: p3 :: p4 :: (RO ++ (RF ++ M))) := hp.kp
theorem zgj (x : Hv) (kk hh ii nn cc vv tt : Int) (hs : x.Small) (w : World) (h : x.Is w) (hx : zQ x) (hk : kk = 1) : Calls Tryz.prog 160 #[.agg (hvL x).toArray, .agg #[.int .i64 kk, .int .i64 hh, .int .i64 ii, .int .i64 nn, .int .i64 cc, .int .i64 vv, .int .i64 tt]] w (zdx w (doC x ⟨kk, hh, ii, nn, cc, vv, tt⟩)) := by
 have HRT : Hid (∀ y : Hv, y.Sm x → zQ y ∧ ((zbm y ⟨kk, hh, ii, nn, cc, vv, tt⟩).2.1, (zbm y ⟨kk, hh, ii, nn, cc, vv, tt⟩).2.2) = (doC x ⟨kk, hh, ii, nn, cc, vv, tt⟩).2 ∧ (zbm y ⟨kk, hh, ii, nn, cc, vv, tt⟩).1.Sm (doC x ⟨kk, hh, ii, nn, cc, vv, tt⟩).1) := z0j (fun y hy => by
  have h1 := zfM hy ⟨kk, hh, ii, nn, cc, vv, tt⟩
  have h2 : doC y ⟨kk, hh, ii, nn, cc, vv, tt⟩ = zbm y ⟨kk, hh, ii, nn, cc, vv, tt⟩ := by subst hk; simp [doC]
  rw [h2] at h1
  exact ⟨za5 hy.symm hx, h1⟩)
 generalize doC x ⟨kk, hh, ii, nn, cc, vv, tt⟩ = r at HRT ⊢
 obtain ⟨s, rc, rv⟩ := r
 obtain ⟨od, oa, os, oc, nx, t0, t1, t2, t3, fa, fs, fc⟩ := x
 have HSM := z0j hs
 have HIS := z0j h
 subst hk
 clear hs h hx
 simp only [hvL]
 have hp := Hp.start w
 go_enter Tryz.func160, Tryz.ntmps160
 go_wp2_with (first | (go_at_call 73; (with_reducible refine (zgx od oa os oc nx t0 t1 t2 t3 fa fs fc HSM.out _ (HIS.out.below hp.below)).mono ?_); rintro e w1 ⟨⟨yd, ya, ys, yc, yn, y0, y1, y2, y3, za, zs, zc⟩, RO, RF, M, rfl, hy, hR, hpx⟩; replace hp := hp.join hpx; have HY := z0j hy; have HR := z0j hR; clear hpx hy hR; simp only [hvL]; simp only [z0f, z0e, z0i] at hp) | go_skip | ((first | ((refine zh _ rfl ?_); refine lZ hp rfl (by with_reducible first | exact zT | exact zJ) ?_; clear hp; intro b w1 hp) | ((refine zi _ _ rfl ?_); refine lB hp rfl (zb rfl) rfl ?_; clear hp; intro b w1 hp) | ((refine zg _ _ rfl ?_); first | refine lO hp rfl (zb rfl) zcI aa5 ?_ | refine lA hp rfl (zb rfl) zbd aa5 ?_) | ((refine zf _ _ _ rfl ?_); (first | refine sO hp rfl (zb rfl) zcI aa5 ?_ | refine sA hp rfl (zb rfl) (zb rfl) zbd aa5 ?_ | refine sG hp rfl (zb rfl) (zb rfl) zbd aa5 ?_); clear hp; intro w1 hp; simp only [spl, z0a, z0b] at hp) | ((refine zm _ _ _ rfl ?_); refine lS hp rfl (by intro w; go_simp; rfl) ?_; clear hp; intro b w1 hp; simp only [z0g, z0h, Nat.reduceAdd] at hp)); simp only [ze, zd, z0b, z0a]))
 have HCL : Hid (∀ {K : List Blk} {w1 : World}, zax w.heap.size w w1 (⟨yd, ya, ys, yc, yn, y0, y1, y2, y3, za, zs, zc⟩ : Hv) K → Calls Tryz.prog 204 #[.agg #[.int .i64 yd, .slice ya ys.length yc, .int .i64 yn, .int .i64 y0, .int .i64 y1, .int .i64 y2, .int .i64 y3, .slice za zs.length zc], .agg #[.int .i64 1, .int .i64 hh, .int .i64 ii, .int .i64 nn, .int .i64 cc, .int .i64 vv, .int .i64 tt]] w1 (Zt w.heap.size w s rc rv K)) := z0j (fun hW => by
  obtain ⟨g1, g2, g3⟩ := HRT.out _ HY.out.symm
  exact (zlP g1 hW).mono fun _ _ hh => hh.to g2 g3)
 have HWK : Hid (∀ {p1 p2 p3 p4 : Blk} {w1 : World}, Hp w.heap.size w w1 (p1 :: p2 :: p3 :: p4 :: (RO ++ (RF ++ M))) → zax w.heap.size w w1 (⟨yd, ya, ys, yc, yn, y0, y1, y2, y3, za, zs, zc⟩ : Hv) [p1, p2, p3, p4]) := z0j (fun h => zgA HR.out h)
 have HBK : Hid (∀ {RO RF M : List Blk} {p1 p2 p3 p4 : Blk} {w1 : World}, Hp w.heap.size w w1 (RO ++ (RF ++ (M ++ [p1, p2, p3, p4]))) → Hp w.heap.size w w1 (p1 :: p2 :: p3 :: p4 :: (RO ++ (RF ++ M)))) := z0j (fun h => zgz h)
 go_wp2_with (first | (go_at_call 204; (with_reducible refine (HCL.out (HWK.out hp)).mono ?_); clear hp; rintro e w1 ⟨⟨ud, ua, us, uc, un, u0, u1, u2, u3, va, vs, vc⟩, rfl, hu, RO2, RF2, M2, hR2, hp⟩; replace hp := HBK.out hp; have HU := z0j hu; have HR2 := z0j hR2; clear hu hR2; simp only [hvL]) | go_skip | ((first | ((refine zh _ rfl ?_); refine lZ hp rfl (by with_reducible first | exact zT | exact zJ) ?_; clear hp; intro b w1 hp) | ((refine zi _ _ rfl ?_); refine lB hp rfl (zb rfl) rfl ?_; clear hp; intro b w1 hp) | ((refine zg _ _ rfl ?_); first | refine lO hp rfl (zb rfl) zcI aa5 ?_ | refine lA hp rfl (zb rfl) zbd aa5 ?_) | ((refine zf _ _ _ rfl ?_); (first | refine sO hp rfl (zb rfl) zcI aa5 ?_ | refine sA hp rfl (zb rfl) (zb rfl) zbd aa5 ?_ | refine sG hp rfl (zb rfl) (zb rfl) zbd aa5 ?_); clear hp; intro w1 hp; simp only [spl, z0a, z0b] at hp) | ((refine zm _ _ _ rfl ?_); refine lS hp rfl (by intro w; go_simp; rfl) ?_; clear hp; intro b w1 hp; simp only [z0g, z0h, Nat.reduceAdd] at hp)); simp only [ze, zd, z0b, z0a]))
 exact bodyPost_ret (zx (rs := [.cell 4 47, .cell 5 54]) Tryz.results160 (.cell rfl (hp.loadAgg zL at1 0 _ (by rfl) (by rfl)) (.cell rfl (hp.loadAgg zU at0 0 _ (by rfl) (by rfl)) .nil))) rfl ⟨⟨ud, ua, us, uc, un, u0, u1, u2, u3, va, vs, vc⟩, _, rfl, HU.out, HR2.out.kept, ⟨RO2, RF2, M2, rfl, HR2.out⟩, hp.tail.tail.tail.tail⟩
theorem zh6 (x : Hv) (kk hh ii nn cc vv tt : Int) (hs : x.Small) (w : World) (h : x.Is w) (hx : zQ x) (hk : kk = 5 ∨ kk = 8) : Calls Tryz.prog 160 #[.agg (hvL x).toArray, .agg #[.int .i64 kk, .int .i64 hh, .int .i64 ii, .int .i64 nn, .int .i64 cc, .int .i64 vv, .int .i64 tt]] w (zdx w (doC x ⟨kk, hh, ii, nn, cc, vv, tt⟩)) := by
 have HRT : Hid (∀ y : Hv, y.Sm x → zQ y ∧ ((zj8 y ⟨kk, hh, ii, nn, cc, vv, tt⟩).2.1, (zj8 y ⟨kk, hh, ii, nn, cc, vv, tt⟩).2.2) = (doC x ⟨kk, hh, ii, nn, cc, vv, tt⟩).2 ∧ (zj8 y ⟨kk, hh, ii, nn, cc, vv, tt⟩).1.Sm (doC x ⟨kk, hh, ii, nn, cc, vv, tt⟩).1) := z0j (fun y hy => by
  have h1 := zfM hy ⟨kk, hh, ii, nn, cc, vv, tt⟩
  have h2 : doC y ⟨kk, hh, ii, nn, cc, vv, tt⟩ = zj8 y ⟨kk, hh, ii, nn, cc, vv, tt⟩ := by rcases hk with rfl | rfl <;> simp [doC]
  rw [h2] at h1
  exact ⟨za5 hy.symm hx, h1⟩)
 generalize doC x ⟨kk, hh, ii, nn, cc, vv, tt⟩ = r at HRT ⊢
 obtain ⟨s, rc, rv⟩ := r
 have HC0 : Hid (∀ {y : Hv}, y.Sm x → ∀ ⦃K : List Blk⦄ ⦃w1 : World⦄, zax w.heap.size w w1 y K → Calls Tryz.prog 207 #[.agg (hvL y).toArray, .agg #[.int .i64 kk, .int .i64 hh, .int .i64 ii, .int .i64 nn, .int .i64 cc, .int .i64 vv, .int .i64 tt]] w1 (Zt w.heap.size w s rc rv K)) := z0j (fun hy _ _ hW => by
  obtain ⟨g1, g2, g3⟩ := HRT.out _ hy
  exact (zo0 hk (by have := g1.len; omega) hW).mono fun _ _ hh => hh.to g2 g3)
 have HL0 : Hid (∀ {y : Hv}, y.Sm x → y.os.length ≤ 1000) := z0j (fun hy => by have := (HRT.out _ hy).1.len; omega)
 obtain ⟨od, oa, os, oc, nx, t0, t1, t2, t3, fa, fs, fc⟩ := x
 have HSM := z0j hs
 have HIS := z0j h
 clear hs h hx HRT
 simp only [hvL]
 have hp := Hp.start w
 rcases hk with rfl | rfl
 all_goals
  go_enter Tryz.func160, Tryz.ntmps160
  go_wp2_with (first | (go_at_call 73; (with_reducible refine (zgx od oa os oc nx t0 t1 t2 t3 fa fs fc HSM.out _ (HIS.out.below hp.below)).mono ?_); rintro e w1 ⟨⟨yd, ya, ys, yc, yn, y0, y1, y2, y3, za, zs, zc⟩, RO, RF, M, rfl, hy, hR, hpx⟩; replace hp := hp.join hpx; have HY := z0j hy; have HR := z0j hR; clear hpx hy hR; simp only [hvL]; simp only [z0f, z0e, z0i] at hp) | go_skip | ((first | ((refine zh _ rfl ?_); refine lZ hp rfl (by with_reducible first | exact zT | exact zJ) ?_; clear hp; intro b w1 hp) | ((refine zi _ _ rfl ?_); refine lB hp rfl (zb rfl) rfl ?_; clear hp; intro b w1 hp) | ((refine zg _ _ rfl ?_); first | refine lO hp rfl (zb rfl) zcI aa5 ?_ | refine lA hp rfl (zb rfl) zbd aa5 ?_) | ((refine zf _ _ _ rfl ?_); (first | refine sO hp rfl (zb rfl) zcI aa5 ?_ | refine sA hp rfl (zb rfl) (zb rfl) zbd aa5 ?_ | refine sG hp rfl (zb rfl) (zb rfl) zbd aa5 ?_); clear hp; intro w1 hp; simp only [spl, z0a, z0b] at hp) | ((refine zm _ _ _ rfl ?_); refine lS hp rfl (by intro w; go_simp; rfl) ?_; clear hp; intro b w1 hp; simp only [z0g, z0h, Nat.reduceAdd] at hp)); simp only [ze, zd, z0b, z0a]))
  have HRO : Hid (ZC RO fun w => zD w ya (ys.flatMap obV)) := z0j HR.out.objs.keptS
  have HCL := z0j (HC0.out HY.out.symm)
  simp only [hvL] at HCL
  have HYL := z0j (HL0.out HY.out.symm)
  simp only at HYL
  clear HC0 HL0
  have HWK : Hid (∀ {p1 p2 p3 p4 : Blk} {w1 : World}, Hp w.heap.size w w1 (p1 :: p2 :: p3 :: p4 :: (RO ++ (RF ++ M))) → zax w.heap.size w w1 (⟨yd, ya, ys, yc, yn, y0, y1, y2, y3, za, zs, zc⟩ : Hv) [p1, p2, p3, p4]) := z0j (fun h => zgA HR.out h)
  have HBK : Hid (∀ {RO RF M : List Blk} {p1 p2 p3 p4 : Blk} {w1 : World}, Hp w.heap.size w w1 (RO ++ (RF ++ (M ++ [p1, p2, p3, p4]))) → Hp w.heap.size w w1 (p1 :: p2 :: p3 :: p4 :: (RO ++ (RF ++ M)))) := z0j (fun h => zgz h)
  go_wp2_with (first | (go_at_call 207; (with_reducible refine (HCL.out (HWK.out hp)).mono ?_); clear hp; rintro e w1 ⟨⟨ud, ua, us, uc, un, u0, u1, u2, u3, va, vs, vc⟩, rfl, hu, RO2, RF2, M2, hR2, hp⟩; replace hp := HBK.out hp; have HU := z0j hu; have HR2 := z0j hR2; clear hu hR2; simp only [hvL]) | go_skip | ((first | ((refine zh _ rfl ?_); refine lZ hp rfl (by with_reducible first | exact zT | exact zJ) ?_; clear hp; intro b w1 hp) | ((refine zi _ _ rfl ?_); refine lB hp rfl (zb rfl) rfl ?_; clear hp; intro b w1 hp) | ((refine zg _ _ rfl ?_); first | refine lO hp rfl (zb rfl) zcI aa5 ?_ | refine lA hp rfl (zb rfl) zbd aa5 ?_) | ((refine zf _ _ _ rfl ?_); (first | refine sO hp rfl (zb rfl) zcI aa5 ?_ | refine sA hp rfl (zb rfl) (zb rfl) zbd aa5 ?_ | refine sG hp rfl (zb rfl) (zb rfl) zbd aa5 ?_); clear hp; intro w1 hp; simp only [spl, z0a, z0b] at hp) | ((refine zm _ _ _ rfl ?_); refine lS hp rfl (by intro w; go_simp; rfl) ?_; clear hp; intro b w1 hp; simp only [z0g, z0h, Nat.reduceAdd] at hp)); simp only [ze, zd, z0b, z0a]))
  exact bodyPost_ret (zx (rs := [.cell 4 47, .cell 5 54]) Tryz.results160 (.cell rfl (hp.loadAgg zL at1 0 _ (by rfl) (by rfl)) (.cell rfl (hp.loadAgg zU at0 0 _ (by rfl) (by rfl)) .nil))) rfl ⟨⟨ud, ua, us, uc, un, u0, u1, u2, u3, va, vs, vc⟩, _, rfl, HU.out, HR2.out.kept, ⟨RO2, RF2, M2, rfl, HR2.out⟩, hp.tail.tail.tail.tail⟩
theorem zjD (x : Hv) (kk hh ii nn cc vv tt : Int) (hs : x.Small) (w : World) (h : x.Is w) (hx : zQ x) (hk : kk = 2 ∨ kk = 3 ∨ kk = 4 ∨ kk = 6 ∨ kk = 7) : Calls Tryz.prog 160 #[.agg (hvL x).toArray, .agg #[.int .i64 kk, .int .i64 hh, .int .i64 ii, .int .i64 nn, .int .i64 cc, .int .i64 vv, .int .i64 tt]] w (zdx w (doC x ⟨kk, hh, ii, nn, cc, vv, tt⟩)) := by
 have HRT : Hid (∀ y : Hv, y.Sm x → zQ y ∧ ((atC y ⟨kk, hh, ii, nn, cc, vv, tt⟩).2.1, (atC y ⟨kk, hh, ii, nn, cc, vv, tt⟩).2.2) = (doC x ⟨kk, hh, ii, nn, cc, vv, tt⟩).2 ∧ (atC y ⟨kk, hh, ii, nn, cc, vv, tt⟩).1.Sm (doC x ⟨kk, hh, ii, nn, cc, vv, tt⟩).1) := z0j (fun y hy => by
  have h1 := zfM hy ⟨kk, hh, ii, nn, cc, vv, tt⟩
  have h2 : doC y ⟨kk, hh, ii, nn, cc, vv, tt⟩ = atC y ⟨kk, hh, ii, nn, cc, vv, tt⟩ := by rcases hk with rfl | rfl | rfl | rfl | rfl <;> simp [doC]
  rw [h2] at h1
  exact ⟨za5 hy.symm hx, h1⟩)
 generalize doC x ⟨kk, hh, ii, nn, cc, vv, tt⟩ = r at HRT ⊢
 obtain ⟨s, rc, rv⟩ := r
 have HC0 : Hid (∀ {y : Hv}, y.Sm x → ∀ ⦃r : Int⦄, zfD y.os hh r → ∀ ⦃K : List Blk⦄ ⦃w1 : World⦄, zax w.heap.size w w1 y K → Calls Tryz.prog 205 #[.agg (hvL y).toArray, .agg #[.int .i64 kk, .int .i64 hh, .int .i64 ii, .int .i64 nn, .int .i64 cc, .int .i64 vv, .int .i64 tt], .int .i64 r] w1 (Zt w.heap.size w s rc rv K)) := z0j (fun hy _ hr _ _ hW => by
  obtain ⟨g1, g2, g3⟩ := HRT.out _ hy
  exact (zk9 g1 hk hr hW).mono fun _ _ hh => hh.to g2 g3)
 have HL0 : Hid (∀ {y : Hv}, y.Sm x → y.os.length ≤ 1000) := z0j (fun hy => by have := (HRT.out _ hy).1.len; omega)
 obtain ⟨od, oa, os, oc, nx, t0, t1, t2, t3, fa, fs, fc⟩ := x
 have HSM := z0j hs
 have HIS := z0j h
 clear hs h hx HRT
 simp only [hvL]
 have hp := Hp.start w
 rcases hk with rfl | rfl | rfl | rfl | rfl
 all_goals
  go_enter Tryz.func160, Tryz.ntmps160
  go_wp2_with (first | (go_at_call 73; (with_reducible refine (zgx od oa os oc nx t0 t1 t2 t3 fa fs fc HSM.out _ (HIS.out.below hp.below)).mono ?_); rintro e w1 ⟨⟨yd, ya, ys, yc, yn, y0, y1, y2, y3, za, zs, zc⟩, RO, RF, M, rfl, hy, hR, hpx⟩; replace hp := hp.join hpx; have HY := z0j hy; have HR := z0j hR; clear hpx hy hR; simp only [hvL]; simp only [z0f, z0e, z0i] at hp) | go_skip | ((first | ((refine zh _ rfl ?_); refine lZ hp rfl (by with_reducible first | exact zT | exact zJ) ?_; clear hp; intro b w1 hp) | ((refine zi _ _ rfl ?_); refine lB hp rfl (zb rfl) rfl ?_; clear hp; intro b w1 hp) | ((refine zg _ _ rfl ?_); first | refine lO hp rfl (zb rfl) zcI aa5 ?_ | refine lA hp rfl (zb rfl) zbd aa5 ?_) | ((refine zf _ _ _ rfl ?_); (first | refine sO hp rfl (zb rfl) zcI aa5 ?_ | refine sA hp rfl (zb rfl) (zb rfl) zbd aa5 ?_ | refine sG hp rfl (zb rfl) (zb rfl) zbd aa5 ?_); clear hp; intro w1 hp; simp only [spl, z0a, z0b] at hp) | ((refine zm _ _ _ rfl ?_); refine lS hp rfl (by intro w; go_simp; rfl) ?_; clear hp; intro b w1 hp; simp only [z0g, z0h, Nat.reduceAdd] at hp)); simp only [ze, zd, z0b, z0a]))
  have HRO : Hid (ZC RO fun w => zD w ya (ys.flatMap obV)) := z0j HR.out.objs.keptS
  have HCL := z0j (HC0.out HY.out.symm)
  simp only [hvL] at HCL
  have HYL := z0j (HL0.out HY.out.symm)
  simp only at HYL
  clear HC0 HL0
  have HWK : Hid (∀ {p1 p2 p3 p4 : Blk} {w1 : World}, Hp w.heap.size w w1 (p1 :: p2 :: p3 :: p4 :: (RO ++ (RF ++ M))) → zax w.heap.size w w1 (⟨yd, ya, ys, yc, yn, y0, y1, y2, y3, za, zs, zc⟩ : Hv) [p1, p2, p3, p4]) := z0j (fun h => zgA HR.out h)
  have HBK : Hid (∀ {RO RF M : List Blk} {p1 p2 p3 p4 : Blk} {w1 : World}, Hp w.heap.size w w1 (RO ++ (RF ++ (M ++ [p1, p2, p3, p4]))) → Hp w.heap.size w w1 (p1 :: p2 :: p3 :: p4 :: (RO ++ (RF ++ M)))) := z0j (fun h => zgz h)
  go_wp2_with (first | go_skip | ((first | ((refine zh _ rfl ?_); refine lZ hp rfl (by with_reducible first | exact zT | exact zJ) ?_; clear hp; intro b w1 hp) | ((refine zi _ _ rfl ?_); refine lB hp rfl (zb rfl) rfl ?_; clear hp; intro b w1 hp) | ((refine zg _ _ rfl ?_); first | refine lO hp rfl (zb rfl) zcI aa5 ?_ | refine lA hp rfl (zb rfl) zbd aa5 ?_) | ((refine zf _ _ _ rfl ?_); (first | refine sO hp rfl (zb rfl) zcI aa5 ?_ | refine sA hp rfl (zb rfl) (zb rfl) zbd aa5 ?_ | refine sG hp rfl (zb rfl) (zb rfl) zbd aa5 ?_); clear hp; intro w1 hp; simp only [spl, z0a, z0b] at hp) | ((refine zm _ _ _ rfl ?_); refine lS hp rfl (by intro w; go_simp; rfl) ?_; clear hp; intro b w1 hp; simp only [z0g, z0h, Nat.reduceAdd] at hp)); simp only [ze, zd, z0b, z0a]))
  refine zk [_, _] (zA.two hp.drew at2 at3) [9, 10] [(0, true), (1, true), (2, true), (3, true), (4, true), (5, false), (6, false), (7, true), (8, true), (9, false), (10, false)] (by kernel_rfl) (by kernel_rfl) rfl (by kernel_rfl) (fun _ _ d _ _ h => by cases d <;> exact h) ?_
  replace hp := hp.drew
  repeat' (with_reducible refine zB ?_); first | (with_reducible refine zt ?_) | ((with_reducible refine zI ?_); refine zy rfl ?_; (first | ((with_reducible refine zS _ _ rfl ?_); first | refine tA rfl (zb rfl) (by with_reducible first | exact zL | exact zcw) aa5 ?_ | refine tO rfl (zb rfl) zw aa5 ?_) | refine tG (fun w _ => (by go_simp; try rfl)) ?_); try simp only [ze, zd, zn, zj, z0b, z0a, z0d, z0c, zr]) | (refine zF rfl (fun K hK => ?_); go_wp2_with (first | (go_at_call 206; (with_reducible refine (zja yd ya ys yc yn y0 y1 y2 y3 za zs.length zc HYL.out hh _ (HRO.out.at hp (fun p hm => by simp [hm]))).mono ?_); rintro e w1 ⟨pr, rfl, hpr, hb⟩; replace hp := hp.call hb; have HPR := z0j hpr; clear hb hpr) | (go_at_call 205; (with_reducible refine (HCL.out HPR.out (HWK.out hp)).mono ?_); clear hp; rintro e w1 ⟨⟨ud, ua, us, uc, un, u0, u1, u2, u3, va, vs, vc⟩, rfl, hu, RO2, RF2, M2, hR2, hp⟩; replace hp := HBK.out hp; have HU := z0j hu; have HR2 := z0j hR2; clear hu hR2; simp only [hvL]) | go_skip | (((refine zf _ _ _ rfl ?_); (first | refine sO hp rfl (zb rfl) zcI aa5 ?_ | refine sA hp rfl (zb rfl) (zb rfl) zbd aa5 ?_ | refine sG hp rfl (zb rfl) (zb rfl) zbd aa5 ?_); clear hp; intro w1 hp; simp only [spl, z0a, z0b] at hp); simp only [ze, zd, z0b, z0a])); (first | refine hK.out _ _ (.inl rfl) ?_ | refine hK.out _ _ (.inr (zA.two hp aa5 aa5)) ?_); clear hK K; try simp only [ze, zd, zn, zj, z0b, z0a, z0d, z0c, zr])
  go_wp2_with (first | go_skip | ((first | ((refine zh _ rfl ?_); refine lZ hp rfl (by with_reducible first | exact zT | exact zJ) ?_; clear hp; intro b w1 hp) | ((refine zi _ _ rfl ?_); refine lB hp rfl (zb rfl) rfl ?_; clear hp; intro b w1 hp) | ((refine zg _ _ rfl ?_); first | refine lO hp rfl (zb rfl) zcI aa5 ?_ | refine lA hp rfl (zb rfl) zbd aa5 ?_) | ((refine zf _ _ _ rfl ?_); (first | refine sO hp rfl (zb rfl) zcI aa5 ?_ | refine sA hp rfl (zb rfl) (zb rfl) zbd aa5 ?_ | refine sG hp rfl (zb rfl) (zb rfl) zbd aa5 ?_); clear hp; intro w1 hp; simp only [spl, z0a, z0b] at hp) | ((refine zm _ _ _ rfl ?_); refine lS hp rfl (by intro w; go_simp; rfl) ?_; clear hp; intro b w1 hp; simp only [z0g, z0h, Nat.reduceAdd] at hp)); simp only [ze, zd, z0b, z0a]))
  exact bodyPost_ret (zx (rs := [.cell 4 47, .cell 5 54]) Tryz.results160 (.cell rfl (hp.loadAgg zL at1 0 _ (by rfl) (by rfl)) (.cell rfl (hp.loadAgg zU at0 0 _ (by rfl) (by rfl)) .nil))) rfl ⟨⟨ud, ua, us, uc, un, u0, u1, u2, u3, va, vs, vc⟩, _, rfl, HU.out, HR2.out.kept, ⟨RO2, RF2, M2, rfl, HR2.out⟩, hp.tail.tail.tail.tail⟩
theorem zhe (x : Hv) (kk hh ii nn cc vv tt : Int) (hs : x.Small) (w : World) (h : x.Is w) (hx : zQ x) (hk : kk ≠ 1 ∧ kk ≠ 2 ∧ kk ≠ 3 ∧ kk ≠ 4 ∧ kk ≠ 5 ∧ kk ≠ 6 ∧ kk ≠ 7 ∧ kk ≠ 8) : Calls Tryz.prog 160 #[.agg (hvL x).toArray, .agg #[.int .i64 kk, .int .i64 hh, .int .i64 ii, .int .i64 nn, .int .i64 cc, .int .i64 vv, .int .i64 tt]] w (zdx w (doC x ⟨kk, hh, ii, nn, cc, vv, tt⟩)) := by
 obtain ⟨k1, k2, k3, k4, k5, k6, k7, k8⟩ := hk
 rw [show doC x ⟨kk, hh, ii, nn, cc, vv, tt⟩ = (x, 54, 0) by simp [doC, k1, k2, k3, k4, k5, k6, k7, k8]]
 have e1 : (kk == 1) = false := by simp [k1]
 have e2 : (kk == 2) = false := by simp [k2]
 have e3 : (kk == 3) = false := by simp [k3]
 have e4 : (kk == 4) = false := by simp [k4]
 have e5 : (kk == 5) = false := by simp [k5]
 have e6 : (kk == 6) = false := by simp [k6]
 have e7 : (kk == 7) = false := by simp [k7]
 have e8 : (kk == 8) = false := by simp [k8]
 obtain ⟨od, oa, os, oc, nx, t0, t1, t2, t3, fa, fs, fc⟩ := x
 have HSM := z0j hs
 have HIS := z0j h
 clear hs h hx k1 k2 k3 k4 k5 k6 k7 k8
 simp only [hvL]
 have hp := Hp.start w
 go_enter Tryz.func160, Tryz.ntmps160
 go_wp2_with (first | (go_at_call 73; (with_reducible refine (zgx od oa os oc nx t0 t1 t2 t3 fa fs fc HSM.out _ (HIS.out.below hp.below)).mono ?_); rintro e w1 ⟨⟨yd, ya, ys, yc, yn, y0, y1, y2, y3, za, zs, zc⟩, RO, RF, M, rfl, hy, hR, hpx⟩; replace hp := hp.join hpx; have HY := z0j hy; have HR := z0j hR; clear hpx hy hR; simp only [hvL]; simp only [z0f, z0e, z0i] at hp) | go_skip | ((first | ((refine zh _ rfl ?_); refine lZ hp rfl (by with_reducible first | exact zT | exact zJ) ?_; clear hp; intro b w1 hp) | ((refine zi _ _ rfl ?_); refine lB hp rfl (zb rfl) rfl ?_; clear hp; intro b w1 hp) | ((refine zg _ _ rfl ?_); first | refine lO hp rfl (zb rfl) zcI aa5 ?_ | refine lA hp rfl (zb rfl) zbd aa5 ?_) | ((refine zf _ _ _ rfl ?_); (first | refine sO hp rfl (zb rfl) zcI aa5 ?_ | refine sA hp rfl (zb rfl) (zb rfl) zbd aa5 ?_ | refine sG hp rfl (zb rfl) (zb rfl) zbd aa5 ?_); clear hp; intro w1 hp; simp only [spl, z0a, z0b] at hp) | ((refine zm _ _ _ rfl ?_); refine lS hp rfl (by intro w; go_simp; rfl) ?_; clear hp; intro b w1 hp; simp only [z0g, z0h, Nat.reduceAdd] at hp)); simp only [ze, zd, z0b, z0a]))
 exact bodyPost_ret (zx (rs := [.cell 4 47, .cell 5 54]) Tryz.results160 (.cell rfl (hp.loadAgg zL at1 0 _ (by rfl) (by rfl)) (.cell rfl (hp.loadAgg zU at0 0 _ (by rfl) (by rfl)) .nil))) rfl ⟨(⟨yd, ya, ys, yc, yn, y0, y1, y2, y3, za, zs, zc⟩ : Hv), _, rfl, HY.out.symm, HR.out.kept, ⟨RO, RF, M, rfl, HR.out⟩, hp.tail.tail.tail.tail⟩
theorem znm (x : Hv) (kk hh ii nn cc vv tt : Int) (hs : x.Small) (w : World) (h : x.Is w) (hx : zQ x) : Calls Tryz.prog 160 #[.agg (hvL x).toArray, .agg #[.int .i64 kk, .int .i64 hh, .int .i64 ii, .int .i64 nn, .int .i64 cc, .int .i64 vv, .int .i64 tt]] w (zdx w (doC x ⟨kk, hh, ii, nn, cc, vv, tt⟩)) := by
 by_cases h1 : kk = 1
 ·exact zgj x kk hh ii nn cc vv tt hs w h hx h1
 ·by_cases h2 : kk = 2 ∨ kk = 3 ∨ kk = 4 ∨ kk = 6 ∨ kk = 7
  ·exact zjD x kk hh ii nn cc vv tt hs w h hx h2
  ·by_cases h3 : kk = 5 ∨ kk = 8
   ·exact zh6 x kk hh ii nn cc vv tt hs w h hx h3
   ·exact zhe x kk hh ii nn cc vv tt hs w h hx (by omega)
open Go.RowKit
theorem zcW (od : Int) (oa : Option Addr) (os : List Ob) (oc : Nat) (nx t0 t1 t2 t3 : Int) (fa : Option Addr) (fs : List Bl) (fc : Nat) (ra : Option Addr) (rs : List Rw) (rc : Nat) (nu vi cl sq kk hh ii nn cc vv tt : Int) (r : Sv × Int × Int)
  (hr : ZT ⟨⟨od, oa, os, oc, nx, t0, t1, t2, t3, fa, fs, fc⟩, ra, rs, rc⟩ ⟨nu, vi, cl, sq, ⟨kk, hh, ii, nn, cc, vv, tt⟩⟩ = r) (hs : Sv.Small ⟨⟨od, oa, os, oc, nx, t0, t1, t2, t3, fa, fs, fc⟩, ra, rs, rc⟩) (w : World) (hx0 : Sv.Is w ⟨⟨od, oa, os, oc, nx, t0, t1, t2, t3, fa, fs, fc⟩, ra, rs, rc⟩) : Calls Tryz.prog 47 #[.agg #[.int .i64 od, .slice oa os.length oc, .int .i64 nx, .int .i64 t0, .int .i64 t1, .int .i64 t2, .int .i64 t3, .slice fa fs.length fc, .slice ra rs.length rc], .agg #[.int .i64 nu, .int .i64 vi, .int .i64 cl, .int .i64 sq, .int .i64 kk, .int .i64 hh, .int .i64 ii, .int .i64 nn, .int .i64 cc, .int .i64 vv, .int .i64 tt]] w (zcB w r) := by
 subst hr
 cases h1 : stB ⟨⟨od, oa, os, oc, nx, t0, t1, t2, t3, fa, fs, fc⟩, ra, rs, rc⟩ with
 | false =>
  have e : ZT ⟨⟨od, oa, os, oc, nx, t0, t1, t2, t3, fa, fs, fc⟩, ra, rs, rc⟩ ⟨nu, vi, cl, sq, ⟨kk, hh, ii, nn, cc, vv, tt⟩⟩ = (zcU, 1, 0) := by unfold ZT; rw [if_neg (by rw [h1]; simp)]
  rw [e]
  exact zfE od oa os oc nx t0 t1 t2 t3 fa fs fc ra rs rc nu vi cl sq kk hh ii nn cc vv tt hs w hx0 (.inl h1)
 | true =>
  cases h2 : zdn ⟨nu, vi, cl, sq, ⟨kk, hh, ii, nn, cc, vv, tt⟩⟩ with
  | false =>
   have e : ZT ⟨⟨od, oa, os, oc, nx, t0, t1, t2, t3, fa, fs, fc⟩, ra, rs, rc⟩ ⟨nu, vi, cl, sq, ⟨kk, hh, ii, nn, cc, vv, tt⟩⟩ = (zcU, 1, 0) := by unfold ZT; rw [if_neg (by rw [h2]; simp)]
   rw [e]
   exact zfE od oa os oc nx t0 t1 t2 t3 fa fs fc ra rs rc nu vi cl sq kk hh ii nn cc vv tt hs w hx0 (.inr ⟨h1, h2⟩)
  | true =>
   have e : ZT ⟨⟨od, oa, os, oc, nx, t0, t1, t2, t3, fa, fs, fc⟩, ra, rs, rc⟩ ⟨nu, vi, cl, sq, ⟨kk, hh, ii, nn, cc, vv, tt⟩⟩ = Zg ⟨⟨od, oa, os, oc, nx, t0, t1, t2, t3, fa, fs, fc⟩, ra, rs, rc⟩ cl sq ⟨kk, hh, ii, nn, cc, vv, tt⟩ := by unfold ZT; rw [if_pos ⟨h1, h2⟩]
   rw [e]
   have hst := zfb h1
   obtain ⟨⟨⟨r1, r2, r3, r4⟩, b⟩, hf⟩ : ∃ q, zaj rs cl = q := ⟨_, rfl⟩
   unfold Zg
   simp only [hf]
   by_cases hA : sq < r2
   ·rw [if_pos hA]
    exact zcG od oa os oc nx t0 t1 t2 t3 fa fs fc ra rs rc nu vi cl sq kk hh ii nn cc vv tt hs w hx0 h1 h2 r1 r2 r3 r4 b hf 0 130 0 (.inl ⟨decide_eq_true hA, rfl, rfl⟩)
   ·rw [if_neg hA]
    by_cases hC : cl = 0
    ·rw [if_pos (.inl hC)]
     exact zcG od oa os oc nx t0 t1 t2 t3 fa fs fc ra rs rc nu vi cl sq kk hh ii nn cc vv tt hs w hx0 h1 h2 r1 r2 r3 r4 b hf 0 r3 r4 (.inr (.inl ⟨decide_eq_false hA, by simp [hC], rfl, rfl⟩))
    ·by_cases hE : r2 = sq
     ·rw [if_pos (.inr hE)]
      exact zcG od oa os oc nx t0 t1 t2 t3 fa fs fc ra rs rc nu vi cl sq kk hh ii nn cc vv tt hs w hx0 h1 h2 r1 r2 r3 r4 b hf 0 r3 r4 (.inr (.inr ⟨decide_eq_false hA, by simp [hC], by simp [hE], rfl, rfl⟩))
     ·rw [if_neg (by intro h; rcases h with h | h; exact hC h; exact hE h)]
      obtain ⟨⟨s, c, v⟩, hd⟩ : ∃ q, doC ⟨od, oa, os, oc, nx, t0, t1, t2, t3, fa, fs, fc⟩ ⟨kk, hh, ii, nn, cc, vv, tt⟩ = q := ⟨_, rfl⟩
      have hd' : doP ⟨od, oa, os, oc, nx, t0, t1, t2, t3, fa, fs, fc⟩ ⟨kk, hh, ii, nn, cc, vv, tt⟩ = (s, c, v) := by rw [zh2 hst.hv]; exact hd
      rw [hd]
      obtain ⟨k, hat⟩ := zog (zdO hst.rows) cl
      cases hb : zb6 rs cl k with
      | true => exact zhO od oa os oc nx t0 t1 t2 t3 fa fs fc ra rs rc nu vi cl sq kk hh ii nn cc vv tt hs w hx0 h1 h2 r1 r2 r3 r4 b hf s c v (decide_eq_false hA) (by simp [hC]) (by simp [hE]) hd' k hat hb
      | false => exact zhP od oa os oc nx t0 t1 t2 t3 fa fs fc ra rs rc nu vi cl sq kk hh ii nn cc vv tt hs w hx0 h1 h2 r1 r2 r3 r4 b hf s c v (decide_eq_false hA) (by simp [hC]) (by simp [hE]) hd' k hat hb
def zji (w : World) (c v : Int) (e : Ending) (w' : World) : Prop := ∃ y R, e = .returned (.tuple #[.agg (svL y).toArray, .agg #[.int .i64 c, .int .i64 v]]) ∧ Hp w.heap.size w w' R
theorem ziQ (od : Int) (oa : Option Addr) (os : List Ob) (oc : Nat) (nx t0 t1 t2 t3 : Int) (fa : Option Addr) (fs : List Bl) (fc : Nat) (ra : Option Addr) (rs : List Rw) (rc : Nat) (nu vi cl sq kk hh ii nn cc vv tt c v : Int)
  (hr : (ZT ⟨⟨od, oa, os, oc, nx, t0, t1, t2, t3, fa, fs, fc⟩, ra, rs, rc⟩ ⟨nu, vi, cl, sq, ⟨kk, hh, ii, nn, cc, vv, tt⟩⟩).2 = (c, v)) (hs : Sv.Small ⟨⟨od, oa, os, oc, nx, t0, t1, t2, t3, fa, fs, fc⟩, ra, rs, rc⟩) (w : World) (hx0 : Sv.Is w ⟨⟨od, oa, os, oc, nx, t0, t1, t2, t3, fa, fs, fc⟩, ra, rs, rc⟩) : Calls Tryz.prog 47 #[.agg #[.int .i64 od, .slice oa os.length oc, .int .i64 nx, .int .i64 t0, .int .i64 t1, .int .i64 t2, .int .i64 t3, .slice fa fs.length fc, .slice ra rs.length rc], .agg #[.int .i64 nu, .int .i64 vi, .int .i64 cl, .int .i64 sq, .int .i64 kk, .int .i64 hh, .int .i64 ii, .int .i64 nn, .int .i64 cc, .int .i64 vv, .int .i64 tt]] w (zji w c v) :=
 (zcW od oa os oc nx t0 t1 t2 t3 fa fs fc ra rs rc nu vi cl sq kk hh ii nn cc vv tt _ rfl hs w hx0).mono fun _ _ ⟨y, R, he, _, _, _, hp⟩ => ⟨y, R, by rw [hr] at he; exact he, hp⟩
theorem ziw (odx : Int) (oax : Option Addr) (osx : List Ob) (ocx : Nat) (nxx t0x t1x t2x t3x : Int) (fax : Option Addr) (fsx : List Bl) (fcx : Nat) (rax : Option Addr) (rsx : List Rw) (rcx : Nat) (ody : Int) (oay : Option Addr) (osy : List Ob) (ocy : Nat) (nxy t0y t1y t2y t3y : Int) (fay : Option Addr) (fsy : List Bl) (fcy : Nat) (ray : Option Addr) (rsy : List Rw) (rcy : Nat) (hs : Sv.Small ⟨⟨odx, oax, osx, ocx, nxx, t0x, t1x, t2x, t3x, fax, fsx, fcx⟩, rax, rsx, rcx⟩) (hxy : Sv.Sm ⟨⟨odx, oax, osx, ocx, nxx, t0x, t1x, t2x, t3x, fax, fsx, fcx⟩, rax, rsx, rcx⟩ ⟨⟨ody, oay, osy, ocy, nxy, t0y, t1y, t2y, t3y, fay, fsy, fcy⟩, ray, rsy, rcy⟩) (w : World) (hx0 : Sv.Is w ⟨⟨odx, oax, osx, ocx, nxx, t0x, t1x, t2x, t3x, fax, fsx, fcx⟩, rax, rsx, rcx⟩) (hy0 : Sv.Is w ⟨⟨ody, oay, osy, ocy, nxy, t0y, t1y, t2y, t3y, fay, fsy, fcy⟩, ray, rsy, rcy⟩) :
  Calls Tryz.prog 26 #[.agg #[.int .i64 odx, .slice oax osx.length ocx, .int .i64 nxx, .int .i64 t0x, .int .i64 t1x, .int .i64 t2x, .int .i64 t3x, .slice fax fsx.length fcx, .slice rax rsx.length rcx], .agg #[.int .i64 ody, .slice oay osy.length ocy, .int .i64 nxy, .int .i64 t0y, .int .i64 t1y, .int .i64 t2y, .int .i64 t3y, .slice fay fsy.length fcy, .slice ray rsy.length rcy]] w fun e w' => e = .returned (.bool true) ∧ Below w.heap.size w w' := zoV _ _ hs hxy w hx0 hy0
theorem zoh (od : Int) (oa : Option Addr) (os : List Ob) (oc : Nat) (nx t0 t1 t2 t3 : Int) (fa : Option Addr) (fs : List Bl) (fc : Nat) (ra : Option Addr) (rs : List Rw) (rc : Nat) (w : World) (hx0 : Sv.Is w ⟨⟨od, oa, os, oc, nx, t0, t1, t2, t3, fa, fs, fc⟩, ra, rs, rc⟩) : Calls Tryz.prog 19 #[.agg #[.int .i64 od, .slice oa os.length oc, .int .i64 nx, .int .i64 t0, .int .i64 t1, .int .i64 t2, .int .i64 t3, .slice fa fs.length fc, .slice ra rs.length rc]] w (ziK w ⟨⟨od, oa, os, oc, nx, t0, t1, t2, t3, fa, fs, fc⟩, ra, rs, rc⟩) := zph _ w hx0
end Go.Proofs.YtaafajaadfgaoaaGreat
