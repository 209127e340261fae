import Derived.Test.YtaafajaadfgaoaaGreatTb24
import Derived.Test.YtaafajaadfgaoaaGreatTb26
set_option linter.unusedSimpArgs false
set_option linter.unusedVariables false
set_option maxRecDepth 100000
set_option maxHeartbeats 60000000
namespace Go.Proofs.YtaafajaadfgaoaaGreat
open Go.RowKit
theorem zhG {ty : TypeId} {l : List Value} {n : Nat} (h : zbl Tryz.prog ty = some (l, n) := by with_reducible first | exact zT | exact zJ | exact zu) : zbl Tryz.prog ty = some (l, n) := h
theorem zbi {ty : TypeId} {k : Nat} (h : zac Tryz.prog ty k = true := by with_reducible first | exact zL | exact zv | exact zl | exact zcw | exact zU) : zac Tryz.prog ty k = true := h
theorem zc5 {ty : TypeId} (h : zN Tryz.prog ty = true := by with_reducible first | exact zw | exact Zd | exact Za | exact Zb | exact Zc | exact zaa) : zN Tryz.prog ty = true := h
theorem zfo {od : Int} {oa : Option Addr} {os : List Ob} {oc : Nat} {nx t0 t1 t2 t3 : Int} {fa : Option Addr} {fs : List Bl} {fc : Nat} {kk hh ii nn cc vv tt : Int} {RO RF M : List Blk} {nd : Int} (HND : Hid (Zy nn cc = nd)) (h : nd < 0) {B : Nat} {w0 w : World} {K : List Blk} (hR : Hid (HvR (⟨od, oa, os, oc, nx, t0, t1, t2, t3, fa, fs, fc⟩ : Hv) RO RF M)) (hp : Hp B w0 w (RO ++ (RF ++ (M ++ K)))) : Calls Tryz.prog 204 #[.agg (hvL (⟨od, oa, os, oc, nx, t0, t1, t2, t3, fa, fs, fc⟩ : Hv)).toArray, .agg #[.int .i64 kk, .int .i64 hh, .int .i64 ii, .int .i64 nn, .int .i64 cc, .int .i64 vv, .int .i64 tt]] w (Zt B w0 (⟨od, oa, os, oc, nx, t0, t1, t2, t3, fa, fs, fc⟩ : Hv) 53 0 K) := by
 simp only [hvL]
 have e0 : decide (nd < 0) = true := decide_eq_true h
 clear h
 go_enter Tryz.func204, Tryz.ntmps204
 go_wp2_with (first | (go_at_call 164; (with_reducible refine (zd5 _ _ _).mono ?_); rintro e w' ⟨rfl, rfl⟩; rw [HND.out]) | go_skip | ((first | ((refine zh _ rfl ?_); refine lZ hp rfl zhG ?_; clear hp; intro b w1 hp) | ((refine zi _ _ rfl ?_); refine lB hp rfl (zb rfl) rfl ?_; clear hp; intro b w1 hp) | ((refine zg _ _ rfl ?_); first | refine lO hp rfl (zb rfl) zc5 zq ?_ | refine lA hp rfl (zb rfl) zbi zq ?_) | ((refine zf _ _ _ rfl ?_); (first | refine sO hp rfl (zb rfl) zc5 zq ?_ | refine sA hp rfl (zb rfl) (zb rfl) zbi zq ?_ | refine sG hp rfl (zb rfl) (zb rfl) zbi zq ?_); clear hp; intro w1 hp; simp only [spl, z0a, z0b] at hp) | ((refine zm _ _ _ rfl ?_); refine lS hp rfl (by intro w; go_simp; rfl) ?_; clear hp; intro b w1 hp; simp only [z0g, z0h, Nat.reduceAdd] at hp)); simp only [ze, zd, z0b, z0a]))
 exact bodyPost_ret (zx (rs := [.cell 4 47, .cell 5 54]) Tryz.results204 (.cell rfl (hp.loadAgg zL at1 0 _ (by rfl) (by rfl)) (.cell rfl (hp.loadAgg zU at0 0 _ (by rfl) (by rfl)) .nil))) rfl ⟨⟨od, oa, os, oc, nx, t0, t1, t2, t3, fa, fs, fc⟩, rfl, Hv.Sm.refl _, RO, RF, M, hR.out, hp.kp⟩
theorem zfp {od : Int} {oa : Option Addr} {os : List Ob} {oc : Nat} {nx t0 t1 t2 t3 : Int} {fa : Option Addr} {fs : List Bl} {fc : Nat} {kk hh ii nn cc vv tt : Int} {RO RF M : List Blk} {nd : Int} (HND : Hid (Zy nn cc = nd)) (h : 0 ≤ nd) (h2 : 1000000 < nx) {B : Nat} {w0 w : World} {K : List Blk} (hR : Hid (HvR (⟨od, oa, os, oc, nx, t0, t1, t2, t3, fa, fs, fc⟩ : Hv) RO RF M)) (hp : Hp B w0 w (RO ++ (RF ++ (M ++ K)))) : Calls Tryz.prog 204 #[.agg (hvL (⟨od, oa, os, oc, nx, t0, t1, t2, t3, fa, fs, fc⟩ : Hv)).toArray, .agg #[.int .i64 kk, .int .i64 hh, .int .i64 ii, .int .i64 nn, .int .i64 cc, .int .i64 vv, .int .i64 tt]] w (Zt B w0 (⟨od, oa, os, oc, nx, t0, t1, t2, t3, fa, fs, fc⟩ : Hv) 2 0 K) := by
 simp only [hvL]
 have e0 : decide (nd < 0) = false := decide_eq_false (by omega)
 have e1 : decide (1000000 < nx) = true := decide_eq_true h2
 clear h h2
 go_enter Tryz.func204, Tryz.ntmps204
 go_wp2_with (first | (go_at_call 164; (with_reducible refine (zd5 _ _ _).mono ?_); rintro e w' ⟨rfl, rfl⟩; rw [HND.out]) | go_skip | ((first | ((refine zh _ rfl ?_); refine lZ hp rfl zhG ?_; clear hp; intro b w1 hp) | ((refine zi _ _ rfl ?_); refine lB hp rfl (zb rfl) rfl ?_; clear hp; intro b w1 hp) | ((refine zg _ _ rfl ?_); first | refine lO hp rfl (zb rfl) zc5 zq ?_ | refine lA hp rfl (zb rfl) zbi zq ?_) | ((refine zf _ _ _ rfl ?_); (first | refine sO hp rfl (zb rfl) zc5 zq ?_ | refine sA hp rfl (zb rfl) (zb rfl) zbi zq ?_ | refine sG hp rfl (zb rfl) (zb rfl) zbi zq ?_); clear hp; intro w1 hp; simp only [spl, z0a, z0b] at hp) | ((refine zm _ _ _ rfl ?_); refine lS hp rfl (by intro w; go_simp; rfl) ?_; clear hp; intro b w1 hp; simp only [z0g, z0h, Nat.reduceAdd] at hp)); simp only [ze, zd, z0b, z0a]))
 exact bodyPost_ret (zx (rs := [.cell 4 47, .cell 5 54]) Tryz.results204 (.cell rfl (hp.loadAgg zL at1 0 _ (by rfl) (by rfl)) (.cell rfl (hp.loadAgg zU at0 0 _ (by rfl) (by rfl)) .nil))) rfl ⟨⟨od, oa, os, oc, nx, t0, t1, t2, t3, fa, fs, fc⟩, rfl, Hv.Sm.refl _, RO, RF, M, hR.out, hp.kp⟩
theorem zeK {od : Int} {oa : Option Addr} {os : List Ob} {oc : Nat} {nx t0 t1 t2 t3 : Int} {fa : Option Addr} {fs : List Bl} {fc : Nat} {kk hh ii nn cc vv tt : Int} {RO RF M : List Blk} {nd : Int} (HND : Hid (Zy nn cc = nd)) (h : 0 ≤ nd) (h2 : nx ≤ 1000000) (h3 : od < nd) {B : Nat} {w0 w : World} {K : List Blk} (hR : Hid (HvR (⟨od, oa, os, oc, nx, t0, t1, t2, t3, fa, fs, fc⟩ : Hv) RO RF M)) (hp : Hp B w0 w (RO ++ (RF ++ (M ++ K)))) : Calls Tryz.prog 204 #[.agg (hvL (⟨od, oa, os, oc, nx, t0, t1, t2, t3, fa, fs, fc⟩ : Hv)).toArray, .agg #[.int .i64 kk, .int .i64 hh, .int .i64 ii, .int .i64 nn, .int .i64 cc, .int .i64 vv, .int .i64 tt]] w (Zt B w0 (⟨od, oa, os, oc, nx, t0, t1, t2, t3, fa, fs, fc⟩ : Hv) 50 0 K) := by
 simp only [hvL]
 have e0 : decide (nd < 0) = false := decide_eq_false (by omega)
 have e1 : decide (1000000 < nx) = false := decide_eq_false (by omega)
 have e2 : decide (od < nd) = true := decide_eq_true h3
 clear h h2 h3
 go_enter Tryz.func204, Tryz.ntmps204
 go_wp2_with (first | (go_at_call 164; (with_reducible refine (zd5 _ _ _).mono ?_); rintro e w' ⟨rfl, rfl⟩; rw [HND.out]) | go_skip | ((first | ((refine zh _ rfl ?_); refine lZ hp rfl zhG ?_; clear hp; intro b w1 hp) | ((refine zi _ _ rfl ?_); refine lB hp rfl (zb rfl) rfl ?_; clear hp; intro b w1 hp) | ((refine zg _ _ rfl ?_); first | refine lO hp rfl (zb rfl) zc5 zq ?_ | refine lA hp rfl (zb rfl) zbi zq ?_) | ((refine zf _ _ _ rfl ?_); (first | refine sO hp rfl (zb rfl) zc5 zq ?_ | refine sA hp rfl (zb rfl) (zb rfl) zbi zq ?_ | refine sG hp rfl (zb rfl) (zb rfl) zbi zq ?_); clear hp; intro w1 hp; simp only [spl, z0a, z0b] at hp) | ((refine zm _ _ _ rfl ?_); refine lS hp rfl (by intro w; go_simp; rfl) ?_; clear hp; intro b w1 hp; simp only [z0g, z0h, Nat.reduceAdd] at hp)); simp only [ze, zd, z0b, z0a]))
 exact bodyPost_ret (zx (rs := [.cell 4 47, .cell 5 54]) Tryz.results204 (.cell rfl (hp.loadAgg zL at1 0 _ (by rfl) (by rfl)) (.cell rfl (hp.loadAgg zU at0 0 _ (by rfl) (by rfl)) .nil))) rfl ⟨⟨od, oa, os, oc, nx, t0, t1, t2, t3, fa, fs, fc⟩, rfl, Hv.Sm.refl _, RO, RF, M, hR.out, hp.kp⟩
theorem zeL {od : Int} {oa : Option Addr} {os : List Ob} {oc : Nat} {nx t0 t1 t2 t3 : Int} {fa : Option Addr} {fs : List Bl} {fc : Nat} {kk hh ii nn cc vv tt : Int} {RO RF M : List Blk} {nd : Int} (HND : Hid (Zy nn cc = nd)) (h : 0 ≤ nd) (h2 : nx ≤ 1000000) (h3 : nd ≤ od) (hfl : fs.length ≤ 600) (HFR : Hid (zW od fs = true)) (HGR : Hid (ZD fs nd = false)) {B : Nat} {w0 w : World} {K : List Blk} (hR : Hid (HvR (⟨od, oa, os, oc, nx, t0, t1, t2, t3, fa, fs, fc⟩ : Hv) RO RF M)) (hp : Hp B w0 w (RO ++ (RF ++ (M ++ K)))) : Calls Tryz.prog 204 #[.agg (hvL (⟨od, oa, os, oc, nx, t0, t1, t2, t3, fa, fs, fc⟩ : Hv)).toArray, .agg #[.int .i64 kk, .int .i64 hh, .int .i64 ii, .int .i64 nn, .int .i64 cc, .int .i64 vv, .int .i64 tt]] w (Zt B w0 (⟨od, oa, os, oc, nx, t0, t1, t2, t3, fa, fs, fc⟩ : Hv) 50 0 K) := by
 simp only [hvL]
 have HRF : Hid (ZC RF fun w => zD w fa (fs.flatMap blV)) := z0j hR.out.free.keptS
 have HN0 := z0j h
 have HND2 := z0j h3
 have e0 : decide (nd < 0) = false := decide_eq_false (by omega)
 have e1 : decide (1000000 < nx) = false := decide_eq_false (by omega)
 have e2 : decide (od < nd) = false := decide_eq_false (by omega)
 clear h h2 h3
 go_enter Tryz.func204, Tryz.ntmps204
 go_wp2_with (first | (go_at_call 164; (with_reducible refine (zd5 _ _ _).mono ?_); rintro e w' ⟨rfl, rfl⟩; rw [HND.out]) | (go_at_call 234; (with_reducible refine (zhz od nd fs fa fc hfl _ (HRF.out.at hp (fun p hm => by simp [hm])) HFR.out HN0.out HND2.out HGR.out).mono ?_); rintro e w1 ⟨rfl, hb⟩; replace hp := hp.call hb; clear hb) | go_skip | ((first | ((refine zh _ rfl ?_); refine lZ hp rfl zhG ?_; clear hp; intro b w1 hp) | ((refine zi _ _ rfl ?_); refine lB hp rfl (zb rfl) rfl ?_; clear hp; intro b w1 hp) | ((refine zg _ _ rfl ?_); first | refine lO hp rfl (zb rfl) zc5 zq ?_ | refine lA hp rfl (zb rfl) zbi zq ?_) | ((refine zf _ _ _ rfl ?_); (first | refine sO hp rfl (zb rfl) zc5 zq ?_ | refine sA hp rfl (zb rfl) (zb rfl) zbi zq ?_ | refine sG hp rfl (zb rfl) (zb rfl) zbi zq ?_); clear hp; intro w1 hp; simp only [spl, z0a, z0b] at hp) | ((refine zm _ _ _ rfl ?_); refine lS hp rfl (by intro w; go_simp; rfl) ?_; clear hp; intro b w1 hp; simp only [z0g, z0h, Nat.reduceAdd] at hp)); simp only [ze, zd, z0b, z0a]))
 exact bodyPost_ret (zx (rs := [.cell 4 47, .cell 5 54]) Tryz.results204 (.cell rfl (hp.loadAgg zL at2 0 _ (by rfl) (by rfl)) (.cell rfl (hp.loadAgg zU at1 0 _ (by rfl) (by rfl)) .nil))) rfl ⟨⟨od, oa, os, oc, nx, t0, t1, t2, t3, fa, fs, fc⟩, rfl, Hv.Sm.refl _, RO, RF, M, hR.out, hp.kp⟩
theorem Hp.id4 {B : Nat} {w0 w : World} {L : List Blk} {p q r s : Blk} {j : Nat} {l : List Value} {t : TypeId} {n : Nat} (_ : Hp B w0 w (p :: q :: r :: s :: ⟨j, l, t, n⟩ :: L)) : ∃ x, x = j := ⟨_, rfl⟩
theorem zhN {od : Int} {oa : Option Addr} {os : List Ob} {oc : Nat} {nx t0 t1 t2 t3 : Int} {fa : Option Addr} {fs : List Bl} {fc : Nat} {kk hh ii vv tt : Int} {m k : Nat} {RO RF M : List Blk} {nd tp to : Int}
  (HND : Hid (Zy m k = nd)) (h : 0 ≤ nd) (h1 : nd ≤ od) (hmm : m ≤ 32) (hkk : k ≤ 16) (h2 : nx ≤ 1000000) (h3 : 1 ≤ nx) (hol : os.length ≤ 256) (hfl : fs.length ≤ 600) (HFR : Hid (zW od fs = true)) (HGR : Hid (ZD fs nd = true))
  (HUQ : Hid (∀ (b : Bl), zcC nd fs b → b = ⟨tp, to⟩)) {B : Nat} {w0 w : World} {KF : List Blk} (hR : Hid (HvR (⟨od, oa, os, oc, nx, t0, t1, t2, t3, fa, fs, fc⟩ : Hv) RO RF M)) (hp : Hp B w0 w (RO ++ (RF ++ (M ++ KF)))) :
  Calls Tryz.prog 204 #[.agg (hvL (⟨od, oa, os, oc, nx, t0, t1, t2, t3, fa, fs, fc⟩ : Hv)).toArray, .agg #[.int .i64 kk, .int .i64 hh, .int .i64 ii, .int .i64 m, .int .i64 k, .int .i64 vv, .int .i64 tt]] w (Zt B w0 (zeO (⟨od, oa, os, oc, nx, t0, t1, t2, t3, fa, fs, fc⟩ : Hv) ⟨tp, to⟩ nd (ZY m) (ZY k)) 0 nx KF) := by
 obtain ⟨i0, hi0, hz0, hz1, hz2⟩ := info_parts zdm
 obtain ⟨i1, hi1, hy0, hy1, hy2⟩ := info_parts zjN
 simp only [hvL]
 have HRF : Hid (ZC RF fun w => zD w fa (fs.flatMap blV)) := z0j hR.out.free.keptS
 have HRO : Hid (zH 126 5 (.slice oa os.length oc) os.length (os.flatMap obV) RO) := z0j hR.out.objs
 have HN0 := z0j h
 have HND2 := z0j h1
 have sm1 : os.length + 1 ≤ maxLen := by unfold maxLen; omega
 have sm2 : (os.length + 1) * 72 ≤ 140737488355328 := by omega
 have e0 : decide (nd < 0) = false := decide_eq_false (by omega)
 have e1 : decide (1000000 < nx) = false := decide_eq_false (by omega)
 have e2 : decide (od < nd) = false := decide_eq_false (by omega)
 clear h h1
 go_enter Tryz.func204, Tryz.ntmps204
 go_wp2_with (first | (go_at_call 164; (with_reducible refine (zd5 _ _ _).mono ?_); rintro e w' ⟨rfl, rfl⟩; rw [HND.out]) | (go_at_call 234; (with_reducible refine (zj6 od nd fs fa fc hfl _ (HRF.out.at hp (fun p hm => by simp [hm])) HFR.out HN0.out HND2.out HGR.out).mono ?_); rintro e w1 ⟨tb, a1, k1, R1, rfl, hlt, hr1, hpx⟩; obtain rfl := HUQ.out tb hlt; dsimp only; replace hp := hp.join hpx; have HR1 := z0j hr1; clear hpx hlt hr1; try simp only [z0f, z0e, z0i] at hp) | go_skip | ((first | ((refine zh _ rfl ?_); refine lZ hp rfl zhG ?_; clear hp; intro b w1 hp) | ((refine zi _ _ rfl ?_); refine lB hp rfl (zb rfl) rfl ?_; clear hp; intro b w1 hp) | ((refine zg _ _ rfl ?_); first | refine lO hp rfl (zb rfl) zc5 zq ?_ | refine lA hp rfl (zb rfl) zbi zq ?_) | ((refine zf _ _ _ rfl ?_); (first | refine sO hp rfl (zb rfl) zc5 zq ?_ | refine sA hp rfl (zb rfl) (zb rfl) zbi zq ?_ | refine sG hp rfl (zb rfl) (zb rfl) zbi zq ?_); clear hp; intro w1 hp; simp only [spl, z0a, z0b] at hp) | ((refine zm _ _ _ rfl ?_); refine lS hp rfl (by intro w; go_simp; rfl) ?_; clear hp; intro b w1 hp; simp only [z0g, z0h, Nat.reduceAdd] at hp)); simp only [ze, zd, z0b, z0a]))
 obtain ⟨bb, rfl⟩ := hp.id0
 obtain ⟨br, rfl⟩ := hp.id1
 obtain ⟨bg, rfl⟩ := hp.id2
 obtain ⟨bo, rfl⟩ := hp.id3
 obtain ⟨bH, rfl⟩ := hp.id4
 refine ZB [_, _, _] (zA.three hp.drew at0 at3 at4) [] (.take 0 (.take 1 (.take 2 (.take 3 (.take 4 (.take 6 (.take 7 (.three 5 (.two 8 (.take 9 (.one 10 (.one 11 .nil))) 10 (.one 8 (.take 9 (.one 11 .nil)))) 8 (.two 5 (.take 9 (.one 10 (.one 11 .nil))) 10 (.one 5 (.take 9 (.one 11 .nil)))) 10 (.two 5 (.one 8 (.take 9 (.one 11 .nil))) 8 (.one 5 (.take 9 (.one 11 .nil)))))))))))) (by kernel_rfl) (by kernel_rfl) (by kernel_rfl) (by kernel_rfl) (fun _ _ d _ _ h => by cases d <;> exact h) ?_
 replace hp := hp.drew
 repeat' (with_reducible refine zcR ?_); first | (with_reducible refine zbO ?_) | ((with_reducible refine zbg ?_); refine zy rfl ?_; (first | ((with_reducible refine zS _ _ rfl ?_); first | refine tA rfl (zb rfl) zl zq ?_ | refine tO rfl (zb rfl) zw zq ?_) | refine tG (fun w _ => (by go_simp; try rfl)) ?_); refine zcS ?_; try simp only [ze, zd, zn, zj, z0b, z0a, z0d, z0c, zr]) | ((first | refine zbP (Zs rfl (fun K hK => ?_)) | refine zbQ (Zs rfl (fun K hK => ?_)) (Zs rfl (fun K hK => ?_)) | refine zbu (Zs rfl (fun K hK => ?_)) (Zs rfl (fun K hK => ?_)) (Zs rfl (fun K hK => ?_))) <;> (go_wp2_with (first | ((refine zjb _ _ _ rfl ?_); refine zaf hp _ _ _ rfl wy 3 i1 _ Tryz.underlying122 hi1 hy0 hy1 rfl _ (zb rfl) (zb rfl) m rfl (by rw [hy2]; omega) (by omega) ?_; clear hp; intro bwd w1 hp; simp only [ze, zd, z0b, z0a]) | ((refine zjb _ _ _ rfl ?_); refine zaf hp _ _ _ rfl wy 3 i1 _ Tryz.underlying122 hi1 hy0 hy1 rfl _ (zb rfl) (zb rfl) k rfl (by rw [hy2]; omega) (by omega) ?_; clear hp; intro bln w1 hp; simp only [ze, zd, z0b, z0a]) | ((refine zh 126 rfl ?_); refine lZ hp rfl zR ?_; clear hp; intro bx w1 hp; simp only [ze, zd, z0b, z0a]) | go_skip | ((first | ((refine zh _ rfl ?_); refine lZ hp rfl zhG ?_; clear hp; intro b w1 hp) | ((refine zf _ _ _ rfl ?_); (first | refine sO hp rfl (zb rfl) zc5 zq ?_ | refine sA hp rfl (zb rfl) (zb rfl) zbi zq ?_ | refine sG hp rfl (zb rfl) (zb rfl) zbi zq ?_); clear hp; intro w1 hp; simp only [spl, z0a, z0b] at hp)); simp only [ze, zd, z0b, z0a])); (refine hK.out _ _ (.inr (zA.three hp zq zq zq)) ?_); clear hK K; try simp only [ze, zd, zn, zj, z0b, z0a, z0d, z0c, zr]))
 all_goals
  replace hp := hp.kp (L' := ⟨bx, [.int .i64 nx, .int .i64 tp, .int .i64 nd, .slice (some ⟨bwd, 0, none⟩) m m, .slice (some ⟨bln, 0, none⟩) k k], 126, 5⟩ :: ⟨bln, List.replicate k (.int .i64 0), 3, k⟩ :: ⟨bwd, List.replicate m (.int .i64 0), 3, m⟩ ::
   ⟨bb, [.int .i64 tp, .int .i64 nd], 124, 2⟩ :: ⟨br, [.int .i64 0, .int .i64 0], 54, 2⟩ :: ⟨bg, [.int .i64 0, .slice none 0 0, .int .i64 0, .int .i64 0, .int .i64 0, .int .i64 0, .int .i64 0, .slice none 0 0], 47, 8⟩ :: ⟨bo, [.int .i64 kk, .int .i64 hh, .int .i64 ii, .int .i64 m, .int .i64 k, .int .i64 vv, .int .i64 tt], 29, 7⟩ ::
   ⟨bH, [.int .i64 od, .slice oa os.length oc, .int .i64 nx, .int .i64 t0, .int .i64 t1, .int .i64 t2, .int .i64 t3, .slice fa fs.length fc], 47, 8⟩ :: (RO ++ (RF ++ (M ++ (KF ++ R1)))))
  go_wp2_with (first | ((refine zM _ _ 43 rfl ?_); refine zG (K := [_, _, _, _, _, _, _, _]) (R := RO) (M := RF ++ (M ++ (KF ++ R1))) hp _ _ _ rfl wy i0 _ 72 Tryz.underlying43 hi0 hz0 hz1 hz2 rfl (by decide) (zb rfl) HRO.out 1 1 (zb rfl) (by rfl) (by decide) (by rfl) sm1 sm2 ?_; clear hp; intro v2 RO2 w1 hra hp; obtain ⟨a2, c2, rfl⟩ := hra.val; have HRA := z0j hra; clear hra; simp only [z0f, z0e] at hp; simp only [ze, zd, z0b, z0a]) | go_skip | ((first | ((refine zh _ rfl ?_); refine lZ hp rfl zhG ?_; clear hp; intro b w1 hp) | ((refine zi _ _ rfl ?_); refine lB hp rfl (zb rfl) rfl ?_; clear hp; intro b w1 hp) | ((refine zg _ _ rfl ?_); first | refine lO hp rfl (zb rfl) zc5 zq ?_ | refine lA hp rfl (zb rfl) zbi zq ?_) | ((refine zf _ _ _ rfl ?_); (first | refine sO hp rfl (zb rfl) zc5 zq ?_ | refine sA hp rfl (zb rfl) (zb rfl) zbi zq ?_ | refine sG hp rfl (zb rfl) (zb rfl) zbi zq ?_); clear hp; intro w1 hp; simp only [spl, z0a, z0b] at hp) | ((refine zm _ _ _ rfl ?_); refine lS hp rfl (by intro w; go_simp; rfl) ?_; clear hp; intro b w1 hp; simp only [z0g, z0h, Nat.reduceAdd] at hp)); simp only [ze, zd, z0b, z0a]))
  refine zk [_, _] (zA.two hp.drew at0 at7) [5] [(0, true), (1, true), (2, true), (3, true), (4, false), (5, false)] (by kernel_rfl) (by kernel_rfl) rfl (by kernel_rfl) (fun _ _ d _ _ h => by cases d <;> exact h) ?_
  replace hp := hp.drew
  repeat' (with_reducible refine zB ?_); first | (with_reducible refine zt ?_) | ((with_reducible refine zI ?_); refine zy rfl ?_; (first | ((with_reducible refine zS _ _ rfl ?_); first | refine tA rfl (zb rfl) zL zq ?_ | refine tO rfl (zb rfl) zw zq ?_) | refine tG (fun w _ => (by go_simp; try rfl)) ?_); try simp only [ze, zd, zn, zj, z0b, z0a, z0d, z0c, zr]) | (refine zF rfl (fun K hK => ?_); go_wp2_with (first | go_skip | (((refine zf _ _ _ rfl ?_); (first | refine sO hp rfl (zb rfl) zc5 zq ?_ | refine sA hp rfl (zb rfl) (zb rfl) zbi zq ?_ | refine sG hp rfl (zb rfl) (zb rfl) zbi zq ?_); clear hp; intro w1 hp; simp only [spl, z0a, z0b] at hp); simp only [ze, zd, z0b, z0a])); (first | refine hK.out _ _ (.inl rfl) ?_ | refine hK.out _ _ (.inr (zA.two hp zq zq)) ?_); clear hK K; try simp only [ze, zd, zn, zj, z0b, z0a, z0d, z0c, zr])
  go_wp2_with (first | go_skip | ((first | ((refine zh _ rfl ?_); refine lZ hp rfl zhG ?_; clear hp; intro b w1 hp) | ((refine zi _ _ rfl ?_); refine lB hp rfl (zb rfl) rfl ?_; clear hp; intro b w1 hp) | ((refine zg _ _ rfl ?_); first | refine lO hp rfl (zb rfl) zc5 zq ?_ | refine lA hp rfl (zb rfl) zbi zq ?_) | ((refine zf _ _ _ rfl ?_); (first | refine sO hp rfl (zb rfl) zc5 zq ?_ | refine sA hp rfl (zb rfl) (zb rfl) zbi zq ?_ | refine sG hp rfl (zb rfl) (zb rfl) zbi zq ?_); clear hp; intro w1 hp; simp only [spl, z0a, z0b] at hp) | ((refine zm _ _ _ rfl ?_); refine lS hp rfl (by intro w; go_simp; rfl) ?_; clear hp; intro b w1 hp; simp only [z0g, z0h, Nat.reduceAdd] at hp)); simp only [ze, zd, z0b, z0a]))
  refine bodyPost_ret (zx (rs := [.cell 4 47, .cell 5 54]) Tryz.results204 (.cell rfl (hp.loadAgg zL at5 0 _ (by rfl) (by rfl)) (.cell rfl (hp.loadAgg zU at4 0 _ (by rfl) (by rfl)) .nil))) rfl ⟨⟨od, a2, os ++ [⟨nx, tp, nd, some ⟨bwd, 0, none⟩, ZY m, m, some ⟨bln, 0, none⟩, ZY k, k⟩], c2, nx + 1, t0, t1, t2, t3, a1, za3 fs ⟨tp, to⟩ nd, k1⟩, ?_, ?_, RO2, R1, M ++ ([⟨bwd, List.replicate m (.int .i64 0), 3, m⟩] ++ [⟨bln, List.replicate k (.int .i64 0), 3, k⟩]), ⟨?_, HR1.out, ?_⟩, hp.kp⟩
  ·simp only [hvL, List.length_append, List.length_singleton]; rfl
  ·exact ⟨rfl, rfl, rfl, rfl, rfl, rfl, zau.snocs os ⟨rfl, rfl, rfl, rfl, rfl⟩, rfl⟩
  ·have h := HRA.out
   simp only [List.length_append, List.length_singleton, zdK]
   simpa [obV, zhI] using h
  ·exact hR.out.rows.snoc ⟨_, _, rfl, zdL bwd m (by omega), zdL bln k (by omega)⟩
theorem zlP {x : Hv} (hx : zQ x) {kk hh ii nn cc vv tt : Int} {B : Nat} {w0 w : World} {K : List Blk} (hW : zax B w0 w x K) :
  Calls Tryz.prog 204 #[.agg (hvL x).toArray, .agg #[.int .i64 kk, .int .i64 hh, .int .i64 ii, .int .i64 nn, .int .i64 cc, .int .i64 vv, .int .i64 tt]] w (Zt B w0 (zbm x ⟨kk, hh, ii, nn, cc, vv, tt⟩).1 (zbm x ⟨kk, hh, ii, nn, cc, vv, tt⟩).2.1 (zbm x ⟨kk, hh, ii, nn, cc, vv, tt⟩).2.2 K) := by
 obtain ⟨RO, RF, M, hR, hp⟩ := hW
 obtain ⟨h3, h8, hcan⟩ := zca hx.free
 have hsm := hx.small
 have hlen := hx.len
 have hlo := hx.lo
 have hfree := hx.free
 have hfl : x.fs.length ≤ 600 := hsm.2
 obtain ⟨od, oa, os, oc, nx, t0, t1, t2, t3, fa, fs, fc⟩ := x
 simp only at h3 h8 hcan hlen hlo hfree hfl
 unfold zbm
 simp only
 by_cases hn : Zy nn cc < 0
 ·rw [if_pos hn]
  exact zfo (z0j rfl) hn (z0j hR) hp
 ·rw [if_neg hn]
  by_cases hl : 1000000 < nx
  ·rw [if_pos hl]
   exact zfp (z0j rfl) (by omega) hl (z0j hR) hp
  ·rw [if_neg hl]
   cases hb : zeN fs (Zy nn cc) with
   | none =>
    have hg := zb0.1 hb
    by_cases ho : od < Zy nn cc
    ·exact zeK (z0j rfl) (by omega) (by omega) ho (z0j hR) hp
    ·exact zeL (z0j rfl) (by omega) (by omega) (by omega) hfl (z0j hfree) (z0j hg) (z0j hR) hp
   | some b =>
    have hlt := zdk hcan.disj hb
    have hmay := hcan.may b hlt.mem
    have hgr := hlt.great
    obtain ⟨n1, n2, n3, n4⟩ := zeB (a := nn) (b := cc) (by omega)
    obtain ⟨m, rfl⟩ := Int.eq_ofNat_of_zero_le n1
    obtain ⟨k, rfl⟩ := Int.eq_ofNat_of_zero_le n3
    refine zhN (z0j rfl) (by omega) (by have := hmay.2.1; omega) (by omega) (by omega) (by omega) hlo hlen hfl (z0j hfree) (z0j ?_) (z0j fun b' hl' => hl'.uniq hlt) (z0j hR) hp
    cases hq : ZD fs (Zy m k) with
    | true => rfl
    | false => rw [zb0.2 hq] at hb; cases hb
end Go.Proofs.YtaafajaadfgaoaaGreat
