import Derived.Test.YtaafajaadfgaoaaGreatTb12
import Derived.Test.YtaafajaadfgaoaaGreatTb0
import Derived.Test.YtaafajaadfgaoaaGreatTb4
set_option linter.unusedSimpArgs false
set_option linter.unusedVariables false
set_option maxRecDepth 100000
set_option maxHeartbeats 60000000
namespace Go.Proofs.YtaafajaadfgaoaaGreat
open Go.RowKit
theorem zaz {ty : TypeId} {k : Nat} (h : zac Tryz.prog ty k = true := by with_reducible first | exact zL | exact zv | exact zl | exact ZK | exact zU | exact zcw) : zac Tryz.prog ty k = true := h
theorem zb2 {ty : TypeId} (h : zN Tryz.prog ty = true := by with_reducible first | exact zw | exact Zd | exact Za | exact Zb | exact Zc) : zN Tryz.prog ty = true := h
theorem zZ.sm {B : Nat} {w0 w : World} {b : Nat} {x : Hv} {K : List Blk} (h : zZ B w0 w b x K) {e : Ending} {c v : Int} (he : e = .returned (zaQ c v)) : zX B w0 b x c v K e w := ⟨he, x, Hv.Sm.refl x, h⟩
theorem zfm {od : Int} {oa : Option Addr} {os : List Ob} {oc : Nat} {nx t0 t1 t2 t3 : Int} {fa : Option Addr} {fs : List Bl} {fc : Nat} {kk hh ii nn cc vv tt : Int} {RO RF M : List Blk} {nd : Int} (HND : Hid (Zy nn cc = nd)) (h : nd < 0) {B bw : Nat} {w0 w : World} {K : List Blk} (hR : Hid (HvR (⟨od, oa, os, oc, nx, t0, t1, t2, t3, fa, fs, fc⟩ : Hv) RO RF M)) (hp : Hp B w0 w (⟨bw, hvL (⟨od, oa, os, oc, nx, t0, t1, t2, t3, fa, fs, fc⟩ : Hv), 113, 8⟩ :: (RO ++ (RF ++ (M ++ K))))) :
  Calls Tryz.prog 151 #[.pointer (some ⟨bw, 0, none⟩), .agg #[.int .i64 kk, .int .i64 hh, .int .i64 ii, .int .i64 nn, .int .i64 cc, .int .i64 vv, .int .i64 tt]] w (zX B w0 bw (⟨od, oa, os, oc, nx, t0, t1, t2, t3, fa, fs, fc⟩ : Hv) 53 0 K) := by
 simp only [hvL] at hp
 have e0 : decide (nd < 0) = true := decide_eq_true h
 clear h
 go_enter Tryz.func151, Tryz.ntmps151
 go_wp2_with (first | (go_at_call 143; (with_reducible refine (zd4 _ _ _).mono ?_); rintro e w' ⟨rfl, rfl⟩; rw [HND.out]) | (go_at_call 75; (with_reducible refine (zde _ _).mono ?_); rintro e w1 ⟨rfl, hb⟩; replace hp := hp.call hb; clear hb; unfold zaQ) | go_skip | ((first | ((refine zh _ rfl ?_); refine lZ hp rfl (by with_reducible first | exact zJ | exact zu) ?_; clear hp; intro b w1 hp) | ((refine zi _ _ rfl ?_); refine lB hp rfl (zb rfl) rfl ?_; clear hp; intro b w1 hp) | ((refine zg _ _ rfl ?_); first | refine lO hp rfl (zb rfl) zb2 zq ?_ | refine lA hp rfl (zb rfl) zaz zq ?_) | ((refine zf _ _ _ rfl ?_); (first | refine sO hp rfl (zb rfl) zb2 zq ?_ | refine sA hp rfl (zb rfl) (zb rfl) zaz zq ?_ | refine sG hp rfl (zb rfl) (zb rfl) zaz zq ?_); clear hp; intro w1 hp; simp only [spl, z0a, z0b] at hp) | ((refine zm _ _ _ rfl ?_); refine lS hp rfl (by intro w; go_simp; rfl) ?_; clear hp; intro b w1 hp; simp only [z0g, z0h, Nat.reduceAdd] at hp)); simp only [ze, zd, z0b, z0a]))
 exact bodyPost_ret (zE (rs := [.cell 4 54]) Tryz.results151 (.cell rfl (hp.loadAgg zU at0 0 _ (by rfl) (by rfl)) .nil)) rfl (zZ.sm ⟨RO, RF, M, hR.out, hp.tail.tail⟩ rfl)
theorem zfn {od : Int} {oa : Option Addr} {os : List Ob} {oc : Nat} {nx t0 t1 t2 t3 : Int} {fa : Option Addr} {fs : List Bl} {fc : Nat} {kk hh ii nn cc vv tt : Int} {RO RF M : List Blk} {nd : Int} (HND : Hid (Zy nn cc = nd)) (h : 0 ≤ nd) (h2 : 1000000 < nx) {B bw : Nat} {w0 w : World} {K : List Blk} (hR : Hid (HvR (⟨od, oa, os, oc, nx, t0, t1, t2, t3, fa, fs, fc⟩ : Hv) RO RF M)) (hp : Hp B w0 w (⟨bw, hvL (⟨od, oa, os, oc, nx, t0, t1, t2, t3, fa, fs, fc⟩ : Hv), 113, 8⟩ :: (RO ++ (RF ++ (M ++ K))))) :
  Calls Tryz.prog 151 #[.pointer (some ⟨bw, 0, none⟩), .agg #[.int .i64 kk, .int .i64 hh, .int .i64 ii, .int .i64 nn, .int .i64 cc, .int .i64 vv, .int .i64 tt]] w (zX B w0 bw (⟨od, oa, os, oc, nx, t0, t1, t2, t3, fa, fs, fc⟩ : Hv) 2 0 K) := by
 simp only [hvL] at hp
 have e0 : decide (nd < 0) = false := decide_eq_false (by omega)
 have e1 : decide (1000000 < nx) = true := decide_eq_true h2
 clear h h2
 go_enter Tryz.func151, Tryz.ntmps151
 go_wp2_with (first | (go_at_call 143; (with_reducible refine (zd4 _ _ _).mono ?_); rintro e w' ⟨rfl, rfl⟩; rw [HND.out]) | (go_at_call 75; (with_reducible refine (zde _ _).mono ?_); rintro e w1 ⟨rfl, hb⟩; replace hp := hp.call hb; clear hb; unfold zaQ) | go_skip | ((first | ((refine zh _ rfl ?_); refine lZ hp rfl (by with_reducible first | exact zJ | exact zu) ?_; clear hp; intro b w1 hp) | ((refine zi _ _ rfl ?_); refine lB hp rfl (zb rfl) rfl ?_; clear hp; intro b w1 hp) | ((refine zg _ _ rfl ?_); first | refine lO hp rfl (zb rfl) zb2 zq ?_ | refine lA hp rfl (zb rfl) zaz zq ?_) | ((refine zf _ _ _ rfl ?_); (first | refine sO hp rfl (zb rfl) zb2 zq ?_ | refine sA hp rfl (zb rfl) (zb rfl) zaz zq ?_ | refine sG hp rfl (zb rfl) (zb rfl) zaz zq ?_); clear hp; intro w1 hp; simp only [spl, z0a, z0b] at hp) | ((refine zm _ _ _ rfl ?_); refine lS hp rfl (by intro w; go_simp; rfl) ?_; clear hp; intro b w1 hp; simp only [z0g, z0h, Nat.reduceAdd] at hp)); simp only [ze, zd, z0b, z0a]))
 exact bodyPost_ret (zE (rs := [.cell 4 54]) Tryz.results151 (.cell rfl (hp.loadAgg zU at0 0 _ (by rfl) (by rfl)) .nil)) rfl (zZ.sm ⟨RO, RF, M, hR.out, hp.tail.tail⟩ rfl)
theorem zdd {od : Int} {oa : Option Addr} {os : List Ob} {oc : Nat} {nx t0 t1 t2 t3 : Int} {fa : Option Addr} {fs : List Bl} {fc : Nat} {kk hh ii nn cc vv tt : Int} {RO RF M : List Blk} {nd c : Int} (HND : Hid (Zy nn cc = nd)) (h : 0 ≤ nd) (h2 : nx ≤ 1000000) (hc : c = 1 ∨ c = 40) (KT : Hid (∀ a k (w : World), zD w a (fs.flatMap blV) → Calls Tryz.prog 202 #[.int .i64 od, .slice a fs.length k, .int .i64 nd] w (zkk w c)))
  {B bw : Nat} {w0 w : World} {K : List Blk} (hR : Hid (HvR (⟨od, oa, os, oc, nx, t0, t1, t2, t3, fa, fs, fc⟩ : Hv) RO RF M)) (hp : Hp B w0 w (⟨bw, hvL (⟨od, oa, os, oc, nx, t0, t1, t2, t3, fa, fs, fc⟩ : Hv), 113, 8⟩ :: (RO ++ (RF ++ (M ++ K))))) :
  Calls Tryz.prog 151 #[.pointer (some ⟨bw, 0, none⟩), .agg #[.int .i64 kk, .int .i64 hh, .int .i64 ii, .int .i64 nn, .int .i64 cc, .int .i64 vv, .int .i64 tt]] w (zX B w0 bw (⟨od, oa, os, oc, nx, t0, t1, t2, t3, fa, fs, fc⟩ : Hv) 50 0 K) := by
 simp only [hvL] at hp
 have HRF : Hid (ZC RF fun w => zD w fa (fs.flatMap blV)) := z0j hR.out.free.keptS
 have e0 : decide (nd < 0) = false := decide_eq_false (by omega)
 have e1 : decide (1000000 < nx) = false := decide_eq_false (by omega)
 clear h h2
 rcases hc with rfl | rfl
 all_goals
  go_enter Tryz.func151, Tryz.ntmps151
  go_wp2_with (first | (go_at_call 143; (with_reducible refine (zd4 _ _ _).mono ?_); rintro e w' ⟨rfl, rfl⟩; rw [HND.out]) | (go_at_call 75; (with_reducible refine (zde _ _).mono ?_); rintro e w1 ⟨rfl, hb⟩; replace hp := hp.call hb; clear hb; unfold zaQ) | go_skip | ((first | ((refine zh _ rfl ?_); refine lZ hp rfl (by with_reducible first | exact zJ | exact zu) ?_; clear hp; intro b w1 hp) | ((refine zi _ _ rfl ?_); refine lB hp rfl (zb rfl) rfl ?_; clear hp; intro b w1 hp) | ((refine zg _ _ rfl ?_); first | refine lO hp rfl (zb rfl) zb2 zq ?_ | refine lA hp rfl (zb rfl) zaz zq ?_) | ((refine zf _ _ _ rfl ?_); (first | refine sO hp rfl (zb rfl) zb2 zq ?_ | refine sA hp rfl (zb rfl) (zb rfl) zaz zq ?_ | refine sG hp rfl (zb rfl) (zb rfl) zaz zq ?_); clear hp; intro w1 hp; simp only [spl, z0a, z0b] at hp) | ((refine zm _ _ _ rfl ?_); refine lS hp rfl (by intro w; go_simp; rfl) ?_; clear hp; intro b w1 hp; simp only [z0g, z0h, Nat.reduceAdd] at hp)); simp only [ze, zd, z0b, z0a]))
  refine ZB [_] (zA.one hp.drew at2) [] (.take 0 (.take 1 (.take 2 (.take 3 (.take 4 (.take 5 (.take 6 (.take 7 (.take 8 (.take 9 (.take 10 (.two 11 (.take 12 (.take 13 (.take 14 (.take 15 (.one 16 (.one 17 (.one 18 (.one 19 .nil)))))))) 16 (.one 11 (.take 12 (.take 13 (.take 14 (.take 15 (.one 17 (.one 18 (.one 19 .nil)))))))))))))))))))) (by kernel_rfl) (by kernel_rfl) (by kernel_rfl) (by kernel_rfl) (fun _ _ d _ _ h => by cases d <;> exact h) ?_
  replace hp := hp.drew
  repeat' (with_reducible refine zcR ?_); first | (with_reducible refine zbO ?_) | ((with_reducible refine zbg ?_); refine zy rfl ?_; (first | ((with_reducible refine zV _ rfl ?_); refine tM rfl ?_) | ((with_reducible refine zS _ _ rfl ?_); refine tO rfl (zb rfl) (by with_reducible first | exact zw | exact Zc) aa5 ?_) | refine tG (fun w _ => (by go_simp; try rfl)) ?_); refine zcS ?_; try simp only [ze, zd, zn, zj, z0b, z0a, z0d, z0c, zr]) | ((first | refine zbP (Zs rfl (fun K hK => ?_)) | refine zbQ (Zs rfl (fun K hK => ?_)) (Zs rfl (fun K hK => ?_))) <;> (go_wp2_with (first | (go_at_call 202; (with_reducible refine (KT.out fa fc _ (HRF.out.at hp (fun p hm => by simp [hm]))).mono ?_); rintro e w1 ⟨rfl, hb⟩; replace hp := hp.call hb; clear hb) | go_skip | ((first | ((refine zh _ rfl ?_); refine lZ hp rfl (by with_reducible first | exact zJ | exact zu) ?_; clear hp; intro b w1 hp) | ((refine zf _ _ _ rfl ?_); (first | refine sO hp rfl (zb rfl) zb2 zq ?_ | refine sA hp rfl (zb rfl) (zb rfl) zaz zq ?_ | refine sG hp rfl (zb rfl) (zb rfl) zaz zq ?_); clear hp; intro w1 hp; simp only [spl, z0a, z0b] at hp)); simp only [ze, zd, z0b, z0a])); (refine hK.out _ _ (.inr (zA.one hp aa5)) ?_); clear hK K; try simp only [ze, zd, zn, zj, z0b, z0a, z0d, z0c, zr]))
 all_goals
  go_wp2_with (first | (go_at_call 143; (with_reducible refine (zd4 _ _ _).mono ?_); rintro e w' ⟨rfl, rfl⟩; rw [HND.out]) | (go_at_call 75; (with_reducible refine (zde _ _).mono ?_); rintro e w1 ⟨rfl, hb⟩; replace hp := hp.call hb; clear hb; unfold zaQ) | go_skip | ((first | ((refine zh _ rfl ?_); refine lZ hp rfl (by with_reducible first | exact zJ | exact zu) ?_; clear hp; intro b w1 hp) | ((refine zi _ _ rfl ?_); refine lB hp rfl (zb rfl) rfl ?_; clear hp; intro b w1 hp) | ((refine zg _ _ rfl ?_); first | refine lO hp rfl (zb rfl) zb2 zq ?_ | refine lA hp rfl (zb rfl) zaz zq ?_) | ((refine zf _ _ _ rfl ?_); (first | refine sO hp rfl (zb rfl) zb2 zq ?_ | refine sA hp rfl (zb rfl) (zb rfl) zaz zq ?_ | refine sG hp rfl (zb rfl) (zb rfl) zaz zq ?_); clear hp; intro w1 hp; simp only [spl, z0a, z0b] at hp) | ((refine zm _ _ _ rfl ?_); refine lS hp rfl (by intro w; go_simp; rfl) ?_; clear hp; intro b w1 hp; simp only [z0g, z0h, Nat.reduceAdd] at hp)); simp only [ze, zd, z0b, z0a]))
  exact bodyPost_ret (zE (rs := [.cell 4 54]) Tryz.results151 (.cell rfl (hp.loadAgg zU at1 0 _ (by rfl) (by rfl)) .nil)) rfl (zZ.sm ⟨RO, RF, M, hR.out, hp.tail.tail.tail⟩ rfl)
theorem ziI (m : Nat) : (ZY m).flatMap iV = List.replicate m (.int .i64 0) := by
 rw [zbK]; simp [ZY]
theorem zdL (g m : Nat) (hm : m ≤ 100) : zH 3 1 (.slice (some ⟨g, 0, none⟩) (ZY m).length m) (ZY m).length ((ZY m).flatMap iV) [⟨g, List.replicate m (.int .i64 0), 3, m⟩] := by
 have hl : (ZY m).length = m := by simp [ZY]
 refine ⟨ZL _, .inr ⟨g, m, rfl, by rw [hl]; exact Nat.le_refl _, by unfold maxLen; omega, ?_⟩⟩
 rw [ziI, Nat.mul_one]
theorem zhI (m : Nat) : (ZY m).length = m := by simp [ZY]
theorem zau.snocs (l : List Ob) {x y : Ob} (h : x.Sm y) : zau (l ++ [x]) (l ++ [y]) := by
 refine ⟨by simp, fun i a b h1 h2 => ?_⟩
 rcases Nat.lt_or_ge i l.length with hi | hi
 ·rw [List.getElem?_append_left hi] at h1 h2
  rw [h1] at h2; injection h2 with h2; subst h2; exact Ob.Sm.rfl_ _
 ·rw [List.getElem?_append_right hi] at h1 h2
  have h3 : i - l.length = 0 := by
   have := (List.getElem?_eq_some_iff.1 h1).1
   simp at this; omega
  rw [h3] at h1 h2
  simp at h1 h2
  subst h1 h2
  exact h
theorem zjb {P : Program} {ops : Array Oper} {rest : List Oper} {o : Oper} {a : Act} {w : World} {Q : Exit → Act → World → Prop} (t : TypeId) (x y : Operand) (_ : o.op = .makeSlice t x y) (h : wpList P ops Q (o :: rest) a w) : wpList P ops Q (o :: rest) a w := h
theorem zhM {od : Int} {oa : Option Addr} {os : List Ob} {oc : Nat} {nx t0 t1 t2 t3 : Int} {fa : Option Addr} {fs : List Bl} {fc : Nat} {kk hh ii vv tt : Int} {m k : Nat} {RO RF M : List Blk} {nd tp to : Int}
  (HND : Hid (Zy m k = nd)) (h : 0 ≤ nd) (h1 : nd ≤ od) (hmm : m ≤ 32) (hkk : k ≤ 16) (h2 : nx ≤ 1000000) (h3 : 1 ≤ nx) (hol : os.length ≤ 256) (hfl : fs.length ≤ 600) (HFR : Hid (zW od fs = true)) (HGR : Hid (ZD fs nd = true))
  (HUQ : Hid (∀ (b : Bl) s, zcC nd fs b → ziP nd fs b s → b = ⟨tp, to⟩ ∧ s = za3 fs ⟨tp, to⟩ nd)) {B bw : Nat} {w0 w : World} {KF : List Blk} (hR : Hid (HvR (⟨od, oa, os, oc, nx, t0, t1, t2, t3, fa, fs, fc⟩ : Hv) RO RF M)) (hp : Hp B w0 w (⟨bw, hvL (⟨od, oa, os, oc, nx, t0, t1, t2, t3, fa, fs, fc⟩ : Hv), 113, 8⟩ :: (RO ++ (RF ++ (M ++ KF))))) :
  Calls Tryz.prog 151 #[.pointer (some ⟨bw, 0, none⟩), .agg #[.int .i64 kk, .int .i64 hh, .int .i64 ii, .int .i64 m, .int .i64 k, .int .i64 vv, .int .i64 tt]] w (zX B w0 bw (zeO (⟨od, oa, os, oc, nx, t0, t1, t2, t3, fa, fs, fc⟩ : Hv) ⟨tp, to⟩ nd (ZY m) (ZY k)) 0 nx KF) := by
 obtain ⟨i0, hi0, hz0, hz1, hz2⟩ := info_parts zdm
 obtain ⟨i1, hi1, hy0, hy1, hy2⟩ := info_parts zjN
 simp only [hvL] at hp
 have HRF : Hid (ZC RF fun w => zD w fa (fs.flatMap blV)) := z0j hR.out.free.keptS
 have HRO : Hid (zH 126 5 (.slice oa os.length oc) os.length (os.flatMap obV) RO) := z0j hR.out.objs
 have HN0 := z0j h
 have HND2 := z0j h1
 have sm1 : os.length + 1 ≤ maxLen := by unfold maxLen; omega
 have sm2 : (os.length + 1) * 72 ≤ 140737488355328 := by omega
 have e0 : decide (nd < 0) = false := decide_eq_false (by omega)
 have e1 : decide (1000000 < nx) = false := decide_eq_false (by omega)
 clear h h1
 go_enter Tryz.func151, Tryz.ntmps151
 go_wp2_with (first | (go_at_call 143; (with_reducible refine (zd4 _ _ _).mono ?_); rintro e w' ⟨rfl, rfl⟩; rw [HND.out]) | go_skip | ((first | ((refine zh _ rfl ?_); refine lZ hp rfl (by with_reducible first | exact zJ | exact zu) ?_; clear hp; intro b w1 hp) | ((refine zi _ _ rfl ?_); refine lB hp rfl (zb rfl) rfl ?_; clear hp; intro b w1 hp) | ((refine zg _ _ rfl ?_); first | refine lO hp rfl (zb rfl) zb2 zq ?_ | refine lA hp rfl (zb rfl) zaz zq ?_) | ((refine zf _ _ _ rfl ?_); (first | refine sO hp rfl (zb rfl) zb2 zq ?_ | refine sA hp rfl (zb rfl) (zb rfl) zaz zq ?_ | refine sG hp rfl (zb rfl) (zb rfl) zaz zq ?_); clear hp; intro w1 hp; simp only [spl, z0a, z0b] at hp) | ((refine zm _ _ _ rfl ?_); refine lS hp rfl (by intro w; go_simp; rfl) ?_; clear hp; intro b w1 hp; simp only [z0g, z0h, Nat.reduceAdd] at hp)); simp only [ze, zd, z0b, z0a]))
 refine ZB [_] (zA.one hp.drew at2) [] (.take 0 (.take 1 (.take 2 (.take 3 (.take 4 (.take 5 (.take 6 (.take 7 (.take 8 (.take 9 (.take 10 (.two 11 (.take 12 (.take 13 (.take 14 (.take 15 (.one 16 (.one 17 (.one 18 (.one 19 .nil)))))))) 16 (.one 11 (.take 12 (.take 13 (.take 14 (.take 15 (.one 17 (.one 18 (.one 19 .nil)))))))))))))))))))) (by kernel_rfl) (by kernel_rfl) (by kernel_rfl) (by kernel_rfl) (fun _ _ d _ _ h => by cases d <;> exact h) ?_
 replace hp := hp.drew
 repeat' (with_reducible refine zcR ?_); first | (with_reducible refine zbO ?_) | ((with_reducible refine zbg ?_); refine zy rfl ?_; (first | ((with_reducible refine zV _ rfl ?_); refine tM rfl ?_) | ((with_reducible refine zS _ _ rfl ?_); refine tO rfl (zb rfl) (by with_reducible first | exact zw | exact Zc) aa5 ?_) | refine tG (fun w _ => (by go_simp; try rfl)) ?_); refine zcS ?_; try simp only [ze, zd, zn, zj, z0b, z0a, z0d, z0c, zr]) | ((first | refine zbP (Zs rfl (fun K hK => ?_)) | refine zbQ (Zs rfl (fun K hK => ?_)) (Zs rfl (fun K hK => ?_))) <;> (go_wp2_with (first | (go_at_call 202; (with_reducible refine (zj5 od nd fs fa fc hfl _ (HRF.out.at hp (fun p hm => by simp [hm])) HFR.out HN0.out HND2.out HGR.out).mono ?_); rintro e w1 ⟨tb, a1, k1, R1, s, rfl, hlt, htk, hr1, hpx⟩; obtain ⟨rfl, rfl⟩ := HUQ.out tb s hlt htk; dsimp only; replace hp := hp.join hpx; have HR1 := z0j hr1; clear hpx hlt htk hr1; try simp only [z0f, z0e, z0i] at hp) | go_skip | ((first | ((refine zh _ rfl ?_); refine lZ hp rfl (by with_reducible first | exact zJ | exact zu) ?_; clear hp; intro b w1 hp) | ((refine zf _ _ _ rfl ?_); (first | refine sO hp rfl (zb rfl) zb2 zq ?_ | refine sA hp rfl (zb rfl) (zb rfl) zaz zq ?_ | refine sG hp rfl (zb rfl) (zb rfl) zaz zq ?_); clear hp; intro w1 hp; simp only [spl, z0a, z0b] at hp)); simp only [ze, zd, z0b, z0a])); (refine hK.out _ _ (.inr (zA.one hp aa5)) ?_); clear hK K; try simp only [ze, zd, zn, zj, z0b, z0a, z0d, z0c, zr]))
 all_goals
  go_wp2_with (first | go_skip | ((first | ((refine zh _ rfl ?_); refine lZ hp rfl (by with_reducible first | exact zJ | exact zu) ?_; clear hp; intro b w1 hp) | ((refine zi _ _ rfl ?_); refine lB hp rfl (zb rfl) rfl ?_; clear hp; intro b w1 hp) | ((refine zg _ _ rfl ?_); first | refine lO hp rfl (zb rfl) zb2 zq ?_ | refine lA hp rfl (zb rfl) zaz zq ?_) | ((refine zf _ _ _ rfl ?_); (first | refine sO hp rfl (zb rfl) zb2 zq ?_ | refine sA hp rfl (zb rfl) (zb rfl) zaz zq ?_ | refine sG hp rfl (zb rfl) (zb rfl) zaz zq ?_); clear hp; intro w1 hp; simp only [spl, z0a, z0b] at hp) | ((refine zm _ _ _ rfl ?_); refine lS hp rfl (by intro w; go_simp; rfl) ?_; clear hp; intro b w1 hp; simp only [z0g, z0h, Nat.reduceAdd] at hp)); simp only [ze, zd, z0b, z0a]))
  obtain ⟨bb, rfl⟩ := hp.id0
  obtain ⟨br, rfl⟩ := hp.id1
  obtain ⟨bo, rfl⟩ := hp.id2
  refine ZB [_, _, _] (zA.three hp.drew at0 at2 at3) [] (.take 0 (.take 1 (.take 2 (.take 3 (.take 4 (.take 5 (.take 6 (.take 7 (.take 9 (.take 10 (.three 8 (.two 11 (.take 12 (.one 13 (.one 14 .nil))) 13 (.one 11 (.take 12 (.one 14 .nil)))) 11 (.two 8 (.take 12 (.one 13 (.one 14 .nil))) 13 (.one 8 (.take 12 (.one 14 .nil)))) 13 (.two 8 (.one 11 (.take 12 (.one 14 .nil))) 11 (.one 8 (.take 12 (.one 14 .nil))))))))))))))) (by kernel_rfl) (by kernel_rfl) (by kernel_rfl) (by kernel_rfl) (fun _ _ d _ _ h => by cases d <;> exact h) ?_
  replace hp := hp.drew
  repeat' (with_reducible refine zcR ?_); first | (with_reducible refine zbO ?_) | ((with_reducible refine zbg ?_); refine zy rfl ?_; (first | ((with_reducible refine zV _ rfl ?_); refine tM rfl ?_) | ((with_reducible refine zS _ _ rfl ?_); first | refine tA rfl (zb rfl) zl zq ?_ | refine tO rfl (zb rfl) zw zq ?_) | refine tG (fun w _ => (by go_simp; try rfl)) ?_); refine zcS ?_; try simp only [ze, zd, zn, zj, z0b, z0a, z0d, z0c, zr]) | ((first | refine zbP (Zs rfl (fun K hK => ?_)) | refine zbQ (Zs rfl (fun K hK => ?_)) (Zs rfl (fun K hK => ?_)) | refine zbu (Zs rfl (fun K hK => ?_)) (Zs rfl (fun K hK => ?_)) (Zs rfl (fun K hK => ?_))) <;> (go_wp2_with (first | ((refine zjb _ _ _ rfl ?_); refine zaf hp _ _ _ rfl wy 3 i1 _ Tryz.underlying122 hi1 hy0 hy1 rfl _ (zb rfl) (zb rfl) m rfl (by rw [hy2]; omega) (by omega) ?_; clear hp; intro bwd w1 hp; simp only [ze, zd, z0b, z0a]) | ((refine zjb _ _ _ rfl ?_); refine zaf hp _ _ _ rfl wy 3 i1 _ Tryz.underlying122 hi1 hy0 hy1 rfl _ (zb rfl) (zb rfl) k rfl (by rw [hy2]; omega) (by omega) ?_; clear hp; intro bln w1 hp; simp only [ze, zd, z0b, z0a]) | ((refine zh 126 rfl ?_); refine lZ hp rfl zR ?_; clear hp; intro bx w1 hp; simp only [ze, zd, z0b, z0a]) | go_skip | ((first | ((refine zh _ rfl ?_); refine lZ hp rfl (by with_reducible first | exact zJ | exact zu) ?_; clear hp; intro b w1 hp) | ((refine zf _ _ _ rfl ?_); (first | refine sO hp rfl (zb rfl) zb2 zq ?_ | refine sA hp rfl (zb rfl) (zb rfl) zaz zq ?_ | refine sG hp rfl (zb rfl) (zb rfl) zaz zq ?_); clear hp; intro w1 hp; simp only [spl, z0a, z0b] at hp)); simp only [ze, zd, z0b, z0a])); (refine hK.out _ _ (.inr (zA.three hp zq zq zq)) ?_); clear hK K; try simp only [ze, zd, zn, zj, z0b, z0a, z0d, z0c, zr]))
 all_goals
  replace hp := hp.kp (L' := ⟨bx, [.int .i64 nx, .int .i64 tp, .int .i64 nd, .slice (some ⟨bwd, 0, none⟩) m m, .slice (some ⟨bln, 0, none⟩) k k], 126, 5⟩ :: ⟨bln, List.replicate k (.int .i64 0), 3, k⟩ :: ⟨bwd, List.replicate m (.int .i64 0), 3, m⟩ ::
   ⟨bb, [.int .i64 tp, .int .i64 nd], 124, 2⟩ :: ⟨br, [.int .i64 0, .int .i64 0], 54, 2⟩ :: ⟨bo, [.int .i64 kk, .int .i64 hh, .int .i64 ii, .int .i64 m, .int .i64 k, .int .i64 vv, .int .i64 tt], 29, 7⟩ ::
   ⟨bw, [.int .i64 od, .slice oa os.length oc, .int .i64 nx, .int .i64 t0, .int .i64 t1, .int .i64 t2, .int .i64 t3, .slice fa fs.length fc], 113, 8⟩ :: (RO ++ (RF ++ (M ++ (KF ++ R1)))))
  go_wp2_with (first | go_skip | ((first | ((refine zh _ rfl ?_); refine lZ hp rfl (by with_reducible first | exact zJ | exact zu) ?_; clear hp; intro b w1 hp) | ((refine zi _ _ rfl ?_); refine lB hp rfl (zb rfl) rfl ?_; clear hp; intro b w1 hp) | ((refine zg _ _ rfl ?_); first | refine lO hp rfl (zb rfl) zb2 zq ?_ | refine lA hp rfl (zb rfl) zaz zq ?_) | ((refine zf _ _ _ rfl ?_); (first | refine sO hp rfl (zb rfl) zb2 zq ?_ | refine sA hp rfl (zb rfl) (zb rfl) zaz zq ?_ | refine sG hp rfl (zb rfl) (zb rfl) zaz zq ?_); clear hp; intro w1 hp; simp only [spl, z0a, z0b] at hp) | ((refine zm _ _ _ rfl ?_); refine lS hp rfl (by intro w; go_simp; rfl) ?_; clear hp; intro b w1 hp; simp only [z0g, z0h, Nat.reduceAdd] at hp)); simp only [ze, zd, z0b, z0a]))
  refine zcu [_, _] (zA.two hp.drew at0 at6) [14, 15, 16, 17, 18] [(0, true), (1, true), (2, true), (3, true), (4, true), (5, true), (6, true), (7, true), (10, true), (8, false), (9, false), (11, true), (12, true), (13, true), (14, false), (15, false), (16, false), (17, false), (18, false)] (by kernel_rfl) (by kernel_rfl) rfl (by kernel_rfl) (fun _ _ d _ _ h => by cases d <;> exact h) ?_
  replace hp := hp.drew
  repeat' (with_reducible refine zB ?_); first | (with_reducible refine zt ?_) | ((with_reducible refine zI ?_); refine zy rfl ?_; (first | ((with_reducible refine zV _ rfl ?_); refine tM rfl ?_) | ((with_reducible refine zS _ _ rfl ?_); first | refine tA rfl (zb rfl) zv zq ?_ | refine tO rfl (zb rfl) Zb zq ?_) | refine tG (fun w _ => (by go_simp; try rfl)) ?_); try simp only [ze, zd, zn, zj, z0b, z0a, z0d, z0c, zr]) | (refine zF rfl (fun K hK => ?_); go_wp2_with (first | ((refine zM _ _ 43 rfl ?_); refine zG (K := [_, _, _, _, _, _, _]) (R := RO) (M := RF ++ (M ++ (KF ++ R1))) hp _ _ _ rfl wy i0 _ 72 Tryz.underlying43 hi0 hz0 hz1 hz2 rfl (by decide) (zb rfl) HRO.out 1 1 (zb rfl) (by rfl) (by decide) (by rfl) sm1 sm2 ?_; clear hp; intro v2 RO2 w1 hra hp; obtain ⟨a2, c2, rfl⟩ := hra.val; have HRA := z0j hra; clear hra; simp only [z0f, z0e] at hp; simp only [ze, zd, z0b, z0a]) | go_skip | ((first | ((refine zf _ _ _ rfl ?_); (first | refine sO hp rfl (zb rfl) zb2 zq ?_ | refine sA hp rfl (zb rfl) (zb rfl) zaz zq ?_ | refine sG hp rfl (zb rfl) (zb rfl) zaz zq ?_); clear hp; intro w1 hp; simp only [spl, z0a, z0b] at hp) | ((refine zm _ _ _ rfl ?_); refine lS hp rfl (by intro w; go_simp; rfl) ?_; clear hp; intro b w1 hp; simp only [z0g, z0h, Nat.reduceAdd] at hp)); simp only [ze, zd, z0b, z0a])); (first | refine hK.out _ _ (.inl rfl) ?_ | refine hK.out _ _ (.inr (zA.two hp zq zq)) ?_); clear hK K; try simp only [ze, zd, zn, zj, z0b, z0a, z0d, z0c, zr])
  go_wp2_with (first | go_skip | ((first | ((refine zh _ rfl ?_); refine lZ hp rfl (by with_reducible first | exact zJ | exact zu) ?_; clear hp; intro b w1 hp) | ((refine zi _ _ rfl ?_); refine lB hp rfl (zb rfl) rfl ?_; clear hp; intro b w1 hp) | ((refine zg _ _ rfl ?_); first | refine lO hp rfl (zb rfl) zb2 zq ?_ | refine lA hp rfl (zb rfl) zaz zq ?_) | ((refine zf _ _ _ rfl ?_); (first | refine sO hp rfl (zb rfl) zb2 zq ?_ | refine sA hp rfl (zb rfl) (zb rfl) zaz zq ?_ | refine sG hp rfl (zb rfl) (zb rfl) zaz zq ?_); clear hp; intro w1 hp; simp only [spl, z0a, z0b] at hp) | ((refine zm _ _ _ rfl ?_); refine lS hp rfl (by intro w; go_simp; rfl) ?_; clear hp; intro b w1 hp; simp only [z0g, z0h, Nat.reduceAdd] at hp)); simp only [ze, zd, z0b, z0a]))
  refine bodyPost_ret (zE (rs := [.cell 4 54]) Tryz.results151 (.cell rfl (hp.loadAgg zU at4 0 _ (by rfl) (by rfl)) .nil)) rfl ⟨rfl, ⟨od, a2, os ++ [⟨nx, tp, nd, some ⟨bwd, 0, none⟩, ZY m, m, some ⟨bln, 0, none⟩, ZY k, k⟩], c2, nx + 1, t0, t1, t2, t3, a1, za3 fs ⟨tp, to⟩ nd, k1⟩, ?_, RO2, R1, M ++ ([⟨bwd, List.replicate m (.int .i64 0), 3, m⟩] ++ [⟨bln, List.replicate k (.int .i64 0), 3, k⟩]), ⟨?_, HR1.out, ?_⟩, ?_⟩
  ·exact ⟨rfl, rfl, rfl, rfl, rfl, rfl, zau.snocs os ⟨rfl, rfl, rfl, rfl, rfl⟩, rfl⟩
  ·have h := HRA.out
   simp only [List.length_append, List.length_singleton, zdK]
   simpa [obV, zhI] using h
  ·exact hR.out.rows.snoc ⟨_, _, rfl, zdL bwd m (by omega), zdL bln k (by omega)⟩
  ·simp only [hvL, List.length_append, List.length_singleton]
   exact hp.kp
open Go.RowKit
theorem zeo {ty : TypeId} {k : Nat} (h : zac Tryz.prog ty k = true := by with_reducible first | exact zL | exact zv | exact ZK | exact zU | exact zcw) : zac Tryz.prog ty k = true := h
theorem zg5 {ty : TypeId} (h : zN Tryz.prog ty = true := by with_reducible first | exact zw | exact Zd | exact Za | exact Zb | exact zfG) : zN Tryz.prog ty = true := h
theorem zjG {l : List Ob} {h : Int} (hn : Z0 l h = none) (a : Option Addr) (c : Nat) (hl : l.length ≤ 1000) (hs : zaq l) (w : World) (ha : zD w a (l.flatMap obV)) :
  Calls Tryz.prog 200 #[.slice a l.length c, .int .i64 h] w fun e w' => (∃ k : Nat, e = .returned (.tuple #[.int .i64 k, .bool false])) ∧ Below w.heap.size w w' :=
 (zgn l a c hl hs h w ha).mono fun e w' ⟨k, he, hk, hb⟩ => ⟨⟨k, by
  have := zhp hs hk
  rw [hn] at this
  cases hq : zcM l h k with
  | false => rw [hq] at he; exact he
  | true => rw [hq] at this; cases this⟩, hb⟩
theorem Z4 {l : List Ob} {h : Int} {i : Nat} (hn : Z0 l h = some i) (a : Option Addr) (c : Nat) (hl : l.length ≤ 1000) (hs : zaq l) (w : World) (ha : zD w a (l.flatMap obV)) :
  Calls Tryz.prog 200 #[.slice a l.length c, .int .i64 h] w fun e w' => e = .returned (.tuple #[.int .i64 i, .bool true]) ∧ Below w.heap.size w w' :=
 (zgn l a c hl hs h w ha).mono fun e w' ⟨k, he, hk, hb⟩ => ⟨by
  have := zhp hs hk
  rw [hn] at this
  cases hq : zcM l h k with
  | false => rw [hq] at this; cases this
  | true => rw [hq] at this he; injection this with this; subst this; exact he, hb⟩
theorem zjp {x : Hv} (hx : zQ x) {kk hh ii nn cc vv tt : Int} (hn : Z0 x.os hh = none) {B bw : Nat} {w0 w : World} {K : List Blk} (hW : zZ B w0 w bw x K) : Calls Tryz.prog 152 #[.pointer (some ⟨bw, 0, none⟩), .agg #[.int .i64 kk, .int .i64 hh, .int .i64 ii, .int .i64 nn, .int .i64 cc, .int .i64 vv, .int .i64 tt]] w (zX B w0 bw x 51 0 K) := by
 obtain ⟨RO, RF, M, hR, hp⟩ := hW
 have HR := z0j hR
 have HS := z0j hx.sorted
 have hol : x.os.length ≤ 1000 := by have := hx.len; omega
 obtain ⟨od, oa, os, oc, nx, t0, t1, t2, t3, fa, fs, fc⟩ := x
 simp only [hvL] at hp
 simp only at hn hol HS
 have HPL := z0j hn
 have HRO : Hid (ZC RO fun w => zD w oa (os.flatMap obV)) := z0j hR.objs.keptS
 clear hn hR hx
 go_enter Tryz.func152, Tryz.ntmps152
 go_wp2_with (first | go_skip | ((first | ((refine zh _ rfl ?_); refine lZ hp rfl zJ ?_; clear hp; intro b w1 hp) | ((refine zi _ _ rfl ?_); refine lB hp rfl (zb rfl) rfl ?_; clear hp; intro b w1 hp) | ((refine zg _ _ rfl ?_); first | refine lO hp rfl (zb rfl) zg5 zq ?_ | refine lA hp rfl (zb rfl) zeo zq ?_) | ((refine zf _ _ _ rfl ?_); (first | refine sO hp rfl (zb rfl) zg5 zq ?_ | refine sA hp rfl (zb rfl) (zb rfl) zeo zq ?_ | refine sG hp rfl (zb rfl) (zb rfl) zeo zq ?_); clear hp; intro w1 hp; simp only [spl, z0a, z0b] at hp)); simp only [ze, zd, z0b, z0a]))
 refine zk [_, _] (zA.two hp.drew at1 at2) [] [(0, true), (1, true), (2, true), (3, true), (4, true), (5, true), (6, true), (7, false), (8, true), (9, true), (10, true), (11, false), (12, false)] (by kernel_rfl) (by kernel_rfl) rfl (by kernel_rfl) (fun _ _ d _ _ h => by cases d <;> exact h) ?_
 replace hp := hp.drew
 repeat' (with_reducible refine zB ?_); first | (with_reducible refine zt ?_) | ((with_reducible refine zI ?_); refine zy rfl ?_; (first | ((with_reducible refine zV _ rfl ?_); refine tM rfl ?_) | ((with_reducible refine zS _ _ rfl ?_); refine tO rfl (zb rfl) (by with_reducible first | exact zw | exact Zb) aa5 ?_) | refine tG (fun w _ => (by go_simp; try rfl)) ?_); try simp only [ze, zd, zn, zj, z0b, z0a, z0d, z0c, zr]) | (refine zF rfl (fun K hK => ?_); go_wp2_with (first | (go_at_call 200; (with_reducible refine (zjG HPL.out oa oc hol HS.out _ (HRO.out.at hp (fun p hm => by simp [hm]))).mono ?_); rintro e w1 ⟨⟨kf, rfl⟩, hb⟩; replace hp := hp.call hb; clear hb) | go_skip); (refine hK.out _ _ (.inr (zA.two hp aa5 aa5)) ?_); clear hK K; try simp only [ze, zd, zn, zj, z0b, z0a, z0d, z0c, zr])
 go_wp2_with (first | (go_at_call 75; (with_reducible refine (zde _ _).mono ?_); rintro e w1 ⟨rfl, hb⟩; replace hp := hp.call hb; clear hb; unfold zaQ) | go_skip | ((first | ((refine zh _ rfl ?_); refine lZ hp rfl zJ ?_; clear hp; intro b w1 hp) | ((refine zi _ _ rfl ?_); refine lB hp rfl (zb rfl) rfl ?_; clear hp; intro b w1 hp) | ((refine zg _ _ rfl ?_); first | refine lO hp rfl (zb rfl) zg5 zq ?_ | refine lA hp rfl (zb rfl) zeo zq ?_) | ((refine zf _ _ _ rfl ?_); (first | refine sO hp rfl (zb rfl) zg5 zq ?_ | refine sA hp rfl (zb rfl) (zb rfl) zeo zq ?_ | refine sG hp rfl (zb rfl) (zb rfl) zeo zq ?_); clear hp; intro w1 hp; simp only [spl, z0a, z0b] at hp)); simp only [ze, zd, z0b, z0a]))
 exact bodyPost_ret (zE (rs := [.cell 4 54]) Tryz.results152 (.cell rfl (hp.loadAgg zU at0 0 _ (by rfl) (by rfl)) .nil)) rfl (zZ.sm ⟨RO, RF, M, HR.out, hp.tail.tail⟩ rfl)
theorem zhD {x : Hv} {RO RF M K : List Blk} (hR : HvR x RO RF M) {br bo b : Nat} {c d : List Value} {B : Nat} {w0 w : World} (hp : Hp B w0 w (⟨br, c, 54, 2⟩ :: ⟨bo, d, 29, 7⟩ :: ⟨b, hvL x, 113, 8⟩ :: (RO ++ (RF ++ (M ++ K))))) :
  zZ B w0 w b x (K ++ [⟨br, c, 54, 2⟩, ⟨bo, d, 29, 7⟩]) := ⟨RO, RF, M, hR, hp.kp⟩
theorem zjn {x : Hv} (hx : zQ x) {hh ii nn cc vv tt : Int} {i : Nat} {g : Ob} (hn : Z0 x.os hh = some i) (hg : x.os[i]? = some g) {B bw : Nat} {w0 w : World} {K9 : List Blk} (hW : zZ B w0 w bw x K9) :
  Calls Tryz.prog 152 #[.pointer (some ⟨bw, 0, none⟩), .agg #[.int .i64 2, .int .i64 hh, .int .i64 ii, .int .i64 nn, .int .i64 cc, .int .i64 vv, .int .i64 tt]] w (zX B w0 bw (zdl x i g) 0 0 K9) := by
 obtain ⟨RO, RF, M, hR, hp⟩ := hW
 have HR := z0j hR
 have HS := z0j hx.sorted
 have HG := z0j hg
 have hol : x.os.length ≤ 1000 := by have := hx.len; omega
 have HFREE : Hid (∀ {K : List Blk} {w : World}, zZ B w0 w bw x K → Calls Tryz.prog 203 #[.pointer (some ⟨bw, 0, none⟩), .int .i64 i] w (zX B w0 bw (zdl x i g) 0 0 K)) := z0j (fun h => zns x hx i g hg h)
 have HWK : Hid (∀ {br bo : Nat} {c d : List Value} {w : World}, Hp B w0 w (⟨br, c, 54, 2⟩ :: ⟨bo, d, 29, 7⟩ :: ⟨bw, hvL x, 113, 8⟩ :: (RO ++ (RF ++ (M ++ K9)))) → zZ B w0 w bw x (K9 ++ [⟨br, c, 54, 2⟩, ⟨bo, d, 29, 7⟩])) := z0j (fun h => zhD hR h)
 generalize zdl x i g = s at HFREE ⊢
 obtain ⟨od, oa, os, oc, nx, t0, t1, t2, t3, fa, fs, fc⟩ := x
 simp only [hvL] at hp HWK
 simp only at hn hol HS
 have HPL := z0j hn
 have HRO : Hid (ZC RO fun w => zD w oa (os.flatMap obV)) := z0j hR.objs.keptS
 clear hn hR hx hg HG
 go_enter Tryz.func152, Tryz.ntmps152
 go_wp2_with (first | go_skip | ((first | ((refine zh _ rfl ?_); refine lZ hp rfl zJ ?_; clear hp; intro b w1 hp) | ((refine zi _ _ rfl ?_); refine lB hp rfl (zb rfl) rfl ?_; clear hp; intro b w1 hp) | ((refine zg _ _ rfl ?_); first | refine lO hp rfl (zb rfl) zg5 zq ?_ | refine lA hp rfl (zb rfl) zeo zq ?_) | ((refine zf _ _ _ rfl ?_); (first | refine sO hp rfl (zb rfl) zg5 zq ?_ | refine sA hp rfl (zb rfl) (zb rfl) zeo zq ?_ | refine sG hp rfl (zb rfl) (zb rfl) zeo zq ?_); clear hp; intro w1 hp; simp only [spl, z0a, z0b] at hp)); simp only [ze, zd, z0b, z0a]))
 refine zk [_, _] (zA.two hp.drew at1 at2) [] [(0, true), (1, true), (2, true), (3, true), (4, true), (5, true), (6, true), (7, false), (8, true), (9, true), (10, true), (11, false), (12, false)] (by kernel_rfl) (by kernel_rfl) rfl (by kernel_rfl) (fun _ _ d _ _ h => by cases d <;> exact h) ?_
 replace hp := hp.drew
 repeat' (with_reducible refine zB ?_); first | (with_reducible refine zt ?_) | ((with_reducible refine zI ?_); refine zy rfl ?_; (first | ((with_reducible refine zV _ rfl ?_); refine tM rfl ?_) | ((with_reducible refine zS _ _ rfl ?_); refine tO rfl (zb rfl) (by with_reducible first | exact zw | exact Zb) aa5 ?_) | refine tG (fun w _ => (by go_simp; try rfl)) ?_); try simp only [ze, zd, zn, zj, z0b, z0a, z0d, z0c, zr]) | (refine zF rfl (fun K hK => ?_); go_wp2_with (first | (go_at_call 200; (with_reducible refine (Z4 HPL.out oa oc hol HS.out _ (HRO.out.at hp (fun p hm => by simp [hm]))).mono ?_); rintro e w1 ⟨rfl, hb⟩; replace hp := hp.call hb; clear hb) | go_skip); (refine hK.out _ _ (.inr (zA.two hp aa5 aa5)) ?_); clear hK K; try simp only [ze, zd, zn, zj, z0b, z0a, z0d, z0c, zr])
 obtain ⟨br, rfl⟩ := hp.id0
 obtain ⟨bo, rfl⟩ := hp.id1
 go_wp2_with (first | (go_at_call 203; (with_reducible refine (HFREE.out (HWK.out hp)).mono ?_); clear hp; rintro e w1 ⟨rfl, y, hy, RO2, RF2, M2, hR2, hp⟩; replace hp := hp.kp (L' := ⟨br, [.int .i64 0, .int .i64 0], 54, 2⟩ :: ⟨bw, hvL y, 113, 8⟩ :: (RO2 ++ (RF2 ++ (M2 ++ K9)))); have HR2 := z0j hR2; have HY := z0j hy; clear hy hR2; unfold zaQ) | go_skip | ((first | ((refine zh _ rfl ?_); refine lZ hp rfl zJ ?_; clear hp; intro b w1 hp) | ((refine zi _ _ rfl ?_); refine lB hp rfl (zb rfl) rfl ?_; clear hp; intro b w1 hp) | ((refine zg _ _ rfl ?_); first | refine lO hp rfl (zb rfl) zg5 zq ?_ | refine lA hp rfl (zb rfl) zeo zq ?_) | ((refine zf _ _ _ rfl ?_); (first | refine sO hp rfl (zb rfl) zg5 zq ?_ | refine sA hp rfl (zb rfl) (zb rfl) zeo zq ?_ | refine sG hp rfl (zb rfl) (zb rfl) zeo zq ?_); clear hp; intro w1 hp; simp only [spl, z0a, z0b] at hp)); simp only [ze, zd, z0b, z0a]))
 exact bodyPost_ret (zE (rs := [.cell 4 54]) Tryz.results152 (.cell rfl (hp.loadAgg zU at0 0 _ (by rfl) (by rfl)) .nil)) rfl ⟨rfl, y, HY.out, RO2, RF2, M2, HR2.out, hp.tail⟩
end Go.Proofs.YtaafajaadfgaoaaGreat
