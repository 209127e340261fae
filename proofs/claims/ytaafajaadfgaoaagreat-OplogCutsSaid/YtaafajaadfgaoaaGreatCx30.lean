import Derived.Test.YtaafajaadfgaoaaGreatCx21
import Derived.Test.YtaafajaadfgaoaaGreatCx28
import Derived.Test.YtaafajaadfgaoaaGreatCx29
set_option linter.unusedSimpArgs false
set_option linter.unusedVariables false
set_option maxRecDepth 100000
set_option maxHeartbeats 60000000
namespace Go.Proofs.YtaafajaadfgaoaaGreat
open Go.RowKit
theorem zoj {ty : TypeId} {l : List Value} {n : Nat} (h : zbB Tryz.prog ty = some (l, n) := by with_reducible first | exact Zt | exact Zi | exact zaY | exact Z7) : zbB Tryz.prog ty = some (l, n) := h
theorem zd8 {ty : TypeId} {k : Nat} (h : ZB Tryz.prog ty k = true := by with_reducible first | exact zap | exact zW | exact zV | exact zc6 | exact ziG | exact Zf) : ZB Tryz.prog ty k = true := h
theorem zoL {ty : TypeId} (h : zy Tryz.prog ty = true := by with_reducible first | exact zr | exact Ze | exact zaC | exact Zb) : zy Tryz.prog ty = true := h
theorem zdE (l : List Rw) (k : Nat) (h : k ≤ l.length) : (l.flatMap rwV).take (k * 4) = (l.take k).flatMap rwV ∧ (l.flatMap rwV).drop (k * 4) = (l.drop k).flatMap rwV := by
 have e : l.flatMap rwV = (l.take k).flatMap rwV ++ (l.drop k).flatMap rwV := by rw [← List.flatMap_append, List.take_append_drop]
 have hl : ((l.take k).flatMap rwV).length = k * 4 := by rw [zS rwV 4 ZL, List.length_take, Nat.min_eq_left h]
 rw [e]
 exact ⟨by rw [List.take_append_of_le_length (by omega), List.take_of_length_le (by omega)], by rw [List.drop_append, List.drop_eq_nil_of_le (by omega), List.nil_append, hl, Nat.sub_self, List.drop_zero]⟩
theorem zkw {l : List Rw} {k : Nat} {x : Rw} (h : k < l.length) : spl (l.flatMap rwV) (k * 4) (rwV x) = (l.set k x).flatMap rwV := by
 rw [zg7 (rwV x) (l.flatMap rwV) (k * 4) (by rw [zS rwV 4 ZL, ZL]; omega), ZL, show k * 4 + 4 = (k + 1) * 4 by omega, (zdE l k (by omega)).1, (zdE l (k + 1) (by omega)).2,
  List.set_eq_take_append_cons_drop, if_pos h, List.flatMap_append, List.flatMap_cons]
theorem zpn (l : List Rw) (k : Nat) (x : Rw) (h : k ≤ l.length) : zcI 4 (l.flatMap rwV) (rwV x) k = (l.take k ++ x :: l.drop k).flatMap rwV := by
 unfold zcI
 rw [(zdE l k h).1, (zdE l k h).2, List.flatMap_append, List.flatMap_cons]
def SvO (y : Sv) (R : List Blk) : Prop := ∃ RR RH, R = RR ++ RH ∧ zA 120 4 (.slice y.ra y.rs.length y.rc) y.rs.length (y.rs.flatMap rwV) RR ∧ HvO y.hv RH
def zcA (w : World) (r : Sv × Int × Int) (e : Ending) (w' : World) : Prop :=
 ∃ y R, e = .returned (.tuple #[.agg (svL y).toArray, .agg #[.int .i64 r.2.1, .int .i64 r.2.2]]) ∧ y.Sm r.1 ∧ ZK R (fun w => y.Is w) ∧ SvO y R ∧ Hp w.heap.size w w' R
def zbO : Sv := ⟨zam, none, [], 0⟩
noncomputable def Z8 (x : Sv) (e : Env) : Sv × Int × Int := if stB x = true ∧ zc0 e = true then zcq x e.cl e.sq ⟨e.op.k, e.op.h, e.op.i, e.op.n, e.op.m, e.op.v, e.op.t⟩ else (zbO, 1, 0)
theorem zdo (nu vi cl sq kk hh ii nn cc vv tt : Int) (b : Bool) (hb : zc0 ⟨nu, vi, cl, sq, ⟨kk, hh, ii, nn, cc, vv, tt⟩⟩ = b) (w : World) : Calls Tryz.prog 119 #[.agg #[.int .i64 nu, .int .i64 vi, .int .i64 cl, .int .i64 sq, .int .i64 kk, .int .i64 hh, .int .i64 ii, .int .i64 nn, .int .i64 cc, .int .i64 vv, .int .i64 tt]] w fun x w' => x = .returned (.bool b) ∧ Below w.heap.size w w' := hb ▸ ztm ⟨nu, vi, cl, sq, ⟨kk, hh, ii, nn, cc, vv, tt⟩⟩ w
theorem zgN (od : Int) (oa : Option Addr) (os : List Ob) (oc : Nat) (nx t0 t1 t2 t3 : Int) (fa : Option Addr) (fs : List Bl) (fc : Nat) (ra : Option Addr) (rs : List Rw) (rc : Nat) (hs : rs.length ≤ 1000) (c : Int) (r1 r2 r3 r4 : Int) (b : Bool) (hr : zdk rs c = (⟨r1, r2, r3, r4⟩, b)) (w : World) (hx0 : Sv.Is w ⟨⟨od, oa, os, oc, nx, t0, t1, t2, t3, fa, fs, fc⟩, ra, rs, rc⟩) :
  Calls Tryz.prog 120 #[.agg #[.int .i64 od, .slice oa os.length oc, .int .i64 nx, .int .i64 t0, .int .i64 t1, .int .i64 t2, .int .i64 t3, .slice fa fs.length fc, .slice ra rs.length rc], .int .i64 c] w fun e w' => e = .returned (.tuple #[.agg #[.int .i64 r1, .int .i64 r2, .int .i64 r3, .int .i64 r4], .bool b]) ∧ Below w.heap.size w w' := by
 have h := zrn ⟨⟨od, oa, os, oc, nx, t0, t1, t2, t3, fa, fs, fc⟩, ra, rs, rc⟩ hs c w hx0
 unfold zjM at h
 simp only at h
 rw [hr] at h
 exact h
theorem Hp.pick4 {B : Nat} {w0 w : World} {L : List Blk} {x0 x1 x2 x3 x4 x5 x6 x7 : Blk} (hp : Hp B w0 w (x0 :: x1 :: x2 :: x3 :: x4 :: x5 :: x6 :: x7 :: L)) : Hp B w0 w (x0 :: x2 :: x4 :: x5 :: L) := hp.kp
theorem zf7 (od : Int) (oa : Option Addr) (os : List Ob) (oc : Nat) (nx t0 t1 t2 t3 : Int) (fa : Option Addr) (fs : List Bl) (fc : Nat) (ra : Option Addr) (rs : List Rw) (rc : Nat) (nu vi cl sq kk hh ii nn cc vv tt : Int) (hs : Sv.Small ⟨⟨od, oa, os, oc, nx, t0, t1, t2, t3, fa, fs, fc⟩, ra, rs, rc⟩) (w : World) (hx0 : Sv.Is w ⟨⟨od, oa, os, oc, nx, t0, t1, t2, t3, fa, fs, fc⟩, ra, rs, rc⟩) (hn : stB ⟨⟨od, oa, os, oc, nx, t0, t1, t2, t3, fa, fs, fc⟩, ra, rs, rc⟩ = false ∨ (stB ⟨⟨od, oa, os, oc, nx, t0, t1, t2, t3, fa, fs, fc⟩, ra, rs, rc⟩ = true ∧ zc0 ⟨nu, vi, cl, sq, ⟨kk, hh, ii, nn, cc, vv, tt⟩⟩ = false)) : Calls Tryz.prog 47 #[.agg #[.int .i64 od, .slice oa os.length oc, .int .i64 nx, .int .i64 t0, .int .i64 t1, .int .i64 t2, .int .i64 t3, .slice fa fs.length fc, .slice ra rs.length rc], .agg #[.int .i64 nu, .int .i64 vi, .int .i64 cl, .int .i64 sq, .int .i64 kk, .int .i64 hh, .int .i64 ii, .int .i64 nn, .int .i64 cc, .int .i64 vv, .int .i64 tt]] w (zcA w (zbO, 1, 0)) := by
 have hp := Hp.start w
 have HSS := z0j hs
 have HIS := z0j hx0
 clear hs hx0
 rcases hn with h1 | ⟨h1, h2⟩
 ·have HB := z0j h1
  clear h1
  go_enter Tryz.func47, Tryz.ntmps47
  go_wp2_with (first | (go_at_call 35; (with_reducible refine (zbE od oa os oc nx t0 t1 t2 t3 fa fs fc ra rs rc _ HB.out HSS.out _ (HIS.out.below hp.below)).mono ?_); rintro e w1 ⟨rfl, hb⟩; replace hp := hp.call hb; clear hb; unfold zon) | go_skip | ((first | ((refine zi _ rfl ?_); refine lZ hp rfl zoj ?_; clear hp; intro b w1 hp) | ((refine zk _ _ rfl ?_); refine lB hp rfl (za rfl) rfl ?_; clear hp; intro b w1 hp) | ((refine zd _ _ rfl ?_); first | refine lA hp rfl (za rfl) zd8 zK ?_) | ((refine zg _ _ _ rfl ?_); (first | refine sA hp rfl (za rfl) (za rfl) zd8 zK ?_); clear hp; intro w1 hp; simp only [spl, z0a, z0b] at hp)); simp only [zc, zb, z0b, z0a]))
  exact bodyPost_ret (zx (rs := [.cell 4 50, .cell 5 54]) Tryz.results47 (.cell rfl (hp.loadAgg zap at1 0 _ (by rfl) (by rfl)) (.cell rfl (hp.loadAgg Zf at0 0 _ (by rfl) (by rfl)) .nil))) rfl ⟨zbO, [], rfl, ⟨Hv.Sm.refl _, rfl⟩, zd9.mono (fun _ h => h) (fun w h => ⟨h, zm.nil _ _⟩), ⟨[], [], rfl, zA.nil _ _, zhc⟩, hp.sub0⟩
 ·have HB := z0j h1
  have HM := z0j h2
  clear h1 h2
  go_enter Tryz.func47, Tryz.ntmps47
  go_wp2_with (first | (go_at_call 35; (with_reducible refine (zbE od oa os oc nx t0 t1 t2 t3 fa fs fc ra rs rc _ HB.out HSS.out _ (HIS.out.below hp.below)).mono ?_); rintro e w1 ⟨rfl, hb⟩; replace hp := hp.call hb; clear hb; unfold zon) | (go_at_call 119; (with_reducible refine (zdo nu vi cl sq kk hh ii nn cc vv tt _ HM.out _).mono ?_); rintro e w1 ⟨rfl, hb⟩; replace hp := hp.call hb; clear hb) | ((first | ((refine zi _ rfl ?_); refine lZ hp rfl zoj ?_; clear hp; intro b w1 hp) | ((refine zk _ _ rfl ?_); refine lB hp rfl (za rfl) rfl ?_; clear hp; intro b w1 hp) | ((refine zd _ _ rfl ?_); first | refine lA hp rfl (za rfl) zd8 zK ?_) | ((refine zg _ _ _ rfl ?_); (first | refine sA hp rfl (za rfl) (za rfl) zd8 zK ?_); clear hp; intro w1 hp; simp only [spl, z0a, z0b] at hp)); simp only [zc, zb, z0b, z0a]))
  exact bodyPost_ret (zx (rs := [.cell 4 50, .cell 5 54]) Tryz.results47 (.cell rfl (hp.loadAgg zap at1 0 _ (by rfl) (by rfl)) (.cell rfl (hp.loadAgg Zf at0 0 _ (by rfl) (by rfl)) .nil))) rfl ⟨zbO, [], rfl, ⟨Hv.Sm.refl _, rfl⟩, zd9.mono (fun _ h => h) (fun w h => ⟨h, zm.nil _ _⟩), ⟨[], [], rfl, zA.nil _ _, zhc⟩, hp.sub0⟩
theorem zi3 {x : Hv} (hx : zJ x) : doP x ⟨0, 0, 0, 0, 0, 0, 0⟩ = (x, 54, 0) := by rw [zi2 hx]; unfold doC; simp
theorem zcC (od : Int) (oa : Option Addr) (os : List Ob) (oc : Nat) (nx t0 t1 t2 t3 : Int) (fa : Option Addr) (fs : List Bl) (fc : Nat) (ra : Option Addr) (rs : List Rw) (rc : Nat) (nu vi cl sq kk hh ii nn cc vv tt : Int) (hs : Sv.Small ⟨⟨od, oa, os, oc, nx, t0, t1, t2, t3, fa, fs, fc⟩, ra, rs, rc⟩) (w : World) (hx0 : Sv.Is w ⟨⟨od, oa, os, oc, nx, t0, t1, t2, t3, fa, fs, fc⟩, ra, rs, rc⟩) (hst : stB ⟨⟨od, oa, os, oc, nx, t0, t1, t2, t3, fa, fs, fc⟩, ra, rs, rc⟩ = true) (hmay : zc0 ⟨nu, vi, cl, sq, ⟨kk, hh, ii, nn, cc, vv, tt⟩⟩ = true) (r1 r2 r3 r4 : Int) (b : Bool) (hf : zdk rs cl = (⟨r1, r2, r3, r4⟩, b)) (g c v : Int)
  (hw : (decide (sq < r2) = true ∧ c = 130 ∧ v = 0) ∨ (decide (sq < r2) = false ∧ (cl == 0) = true ∧ c = r3 ∧ v = r4) ∨ (decide (sq < r2) = false ∧ (cl == 0) = false ∧ (r2 == sq) = true ∧ c = r3 ∧ v = r4)) : Calls Tryz.prog 47 #[.agg #[.int .i64 od, .slice oa os.length oc, .int .i64 nx, .int .i64 t0, .int .i64 t1, .int .i64 t2, .int .i64 t3, .slice fa fs.length fc, .slice ra rs.length rc], .agg #[.int .i64 nu, .int .i64 vi, .int .i64 cl, .int .i64 sq, .int .i64 kk, .int .i64 hh, .int .i64 ii, .int .i64 nn, .int .i64 cc, .int .i64 vv, .int .i64 tt]] w (zcA w (⟨⟨od, oa, os, oc, nx, t0, t1, t2, t3, fa, fs, fc⟩, ra, rs, rc⟩, c, v)) := by
 have hp := Hp.start w; have HSS := z0j hs; have HIS := z0j hx0; have HB := z0j hst; have HM := z0j hmay; have HF := z0j hf; have HRL : Hid (rs.length ≤ 1000) := z0j hs.2; have HRL2 : Hid (rs.length ≤ 2000) := z0j (Nat.le_trans (show rs.length ≤ 1000 from hs.2) (by decide)); have HRF : Hid ((rs.flatMap rwV).length = rs.length * 4) := z0j (zS rwV 4 ZL rs); have HR1 := z0j (zjy rs); have HRI : Hid (zm w ra (rs.flatMap rwV)) := z0j hx0.2; have HS1 : Hid (Hv.Small ⟨od, oa, os, oc, nx, t0, t1, t2, t3, fa, fs, fc⟩) := z0j hs.1; have HI1 : Hid (Hv.Is w ⟨od, oa, os, oc, nx, t0, t1, t2, t3, fa, fs, fc⟩) := z0j hx0.1; have HD0 := z0j (zi3 (zfz hst).hv); clear hs hx0 hst hmay hf
 go_enter Tryz.func47, Tryz.ntmps47
 rcases hw with ⟨g1, rfl, rfl⟩ | ⟨g1, g2, rfl, rfl⟩ | ⟨g1, g2, g3, rfl, rfl⟩
 all_goals
  go_wp2_with (first | (go_at_call 35; (with_reducible refine (zbE od oa os oc nx t0 t1 t2 t3 fa fs fc ra rs rc _ HB.out HSS.out _ (HIS.out.below hp.below)).mono ?_); rintro e w1 ⟨rfl, hb⟩; replace hp := hp.call hb; clear hb; unfold zon) | (go_at_call 119; (with_reducible refine (zdo nu vi cl sq kk hh ii nn cc vv tt _ HM.out _).mono ?_); rintro e w1 ⟨rfl, hb⟩; replace hp := hp.call hb; clear hb) | (go_at_call 120; (with_reducible refine (zgN od oa os oc nx t0 t1 t2 t3 fa fs fc ra rs rc HRL.out cl _ _ _ _ _ HF.out _ (HIS.out.below hp.below)).mono ?_); rintro e w1 ⟨rfl, hb⟩; replace hp := hp.call hb; clear hb) | (go_at_call 121; (with_reducible refine (zgH ra rs.length rc HRL2.out _ HRF.out HR1.out _ (HRI.out.below hp.below)).mono ?_); rintro e w1 ⟨v, RC, rfl, hrc, hpc⟩; obtain ⟨ca, ck, rfl, _⟩ := hrc.kept; have HRC := z0j hrc; replace hp := hp.join hpc; clear hrc hpc; simp only [z0f, z0e, z0i] at hp) | (go_at_call 21; (with_reducible refine (zhI od oa os oc nx t0 t1 t2 t3 fa fs fc 0 0 0 0 0 0 0 _ HD0.out HS1.out _ (HI1.out.below hp.below)).mono ?_); rintro e w1 ⟨⟨odX, oaX, osX, ocX, nxX, t0X, t1X, t2X, t3X, faX, fsX, fcX⟩, RX, rfl, hyX, hkX, hoX, hpX⟩; replace hp := hp.join hpX; have HYX := z0j hyX; have HKX := z0j hkX; have HOX := z0j hoX; clear hpX hyX hkX hoX; simp only [hvL, z0f, z0e, z0i] at hp ⊢) | ((first | ((refine zi _ rfl ?_); refine lZ hp rfl zoj ?_; clear hp; intro b w1 hp) | ((refine zk _ _ rfl ?_); refine lB hp rfl (za rfl) rfl ?_; clear hp; intro b w1 hp) | ((refine zd _ _ rfl ?_); first | refine lO hp rfl (za rfl) zoL zK ?_ | refine lA hp rfl (za rfl) zd8 zK ?_) | ((refine zg _ _ _ rfl ?_); (first | refine sO hp rfl (za rfl) zoL zK ?_ | refine sA hp rfl (za rfl) (za rfl) zd8 zK ?_); clear hp; intro w1 hp; simp only [spl, z0a, z0b] at hp)); simp only [zc, zb, z0b, z0a]))
  obtain ⟨b11, rfl⟩ := hp.id0
  obtain ⟨b9, rfl⟩ := hp.id2
  obtain ⟨b5, rfl⟩ := hp.tail.tail.tail.tail.id0
  obtain ⟨b4, rfl⟩ := hp.tail.tail.tail.tail.id1
  replace hp := Hp.pick4 hp
  refine zf [_, _] (zt.two hp.drew at0 at1) [5] [(0, true), (1, true), (2, true), (3, true), (4, false), (5, false)] (by kernel_rfl) (by kernel_rfl) rfl (by kernel_rfl) (fun _ _ d _ _ h => by cases d <;> exact h) ?_
  replace hp := hp.drew
  repeat' (with_reducible refine zq ?_); first | (with_reducible refine zl ?_) | ((with_reducible refine zw ?_); refine zn rfl ?_; (first | ((with_reducible refine zH _ rfl ?_); refine tM rfl ?_) | ((with_reducible refine zI _ _ rfl ?_); refine tA rfl (za rfl) (by with_reducible first | exact zW | exact Zf) aa5 ?_) | refine tG (fun w _ => (by go_simp; try rfl)) ?_); try simp only [zc, zb, zh, ze, z0b, z0a, z0d, z0c, zj]) | (refine zv rfl (fun K hK => ?_); go_wp2_with (first | (((refine zg _ _ _ rfl ?_); (first | refine sA hp rfl (za rfl) (za rfl) zd8 zK ?_); clear hp; intro w1 hp; simp only [spl, z0a, z0b] at hp); simp only [zc, zb, z0b, z0a])); (first | refine hK.out _ _ (.inl rfl) ?_ | refine hK.out _ _ (.inr (zt.two hp aa5 aa5)) ?_); clear hK K; try simp only [zc, zb, zh, ze, z0b, z0a, z0d, z0c, zj])
  go_wp2_with (first | fail)
  exact bodyPost_ret (zx (rs := [.cell 4 50, .cell 5 54]) Tryz.results47 (.cell rfl (hp.loadAgg zap at3 0 _ (by rfl) (by rfl)) (.cell rfl (hp.loadAgg Zf at2 0 _ (by rfl) (by rfl)) .nil))) rfl ⟨⟨⟨odX, oaX, osX, ocX, nxX, t0X, t1X, t2X, t3X, faX, fsX, fcX⟩, ca, rs, ck⟩, RC ++ RX, rfl, ⟨HYX.out, rfl⟩, (HRC.out.keptS.and HKX.out).mono (fun _ h => h) (fun w ⟨h1, h2⟩ => ⟨h2, h1⟩), ⟨RC, RX, rfl, HRC.out, HOX.out⟩, hp.tail.tail.tail.tail⟩
theorem zrB {l : List Rw} {c : Int} {k : Nat} (h : zb2 l c k = true) : k < l.length := by
 unfold zb2 at h
 split at h
 ·rename_i y hy; exact (List.getElem?_eq_some_iff.1 hy).1
 ·cases h
theorem zkq {l : List Rw} {x : Rw} {k : Nat} (h : ZG 0 l = true) (hk : AtR l x.c k) : (zal l x).length = if zb2 l x.c k = true then l.length else l.length + 1 := by
 have := hk.1
 rw [zg2 h hk]
 split
 ·rw [List.length_set]
 ·rw [List.length_append, List.length_cons, List.length_take, List.length_drop]; omega
theorem ziJ (od : Int) (oa : Option Addr) (os : List Ob) (oc : Nat) (nx t0 t1 t2 t3 : Int) (fa : Option Addr) (fs : List Bl) (fc : Nat) (ra : Option Addr) (rs : List Rw) (rc : Nat) (nu vi cl sq kk hh ii nn cc vv tt : Int) (hs : Sv.Small ⟨⟨od, oa, os, oc, nx, t0, t1, t2, t3, fa, fs, fc⟩, ra, rs, rc⟩) (w : World) (hx0 : Sv.Is w ⟨⟨od, oa, os, oc, nx, t0, t1, t2, t3, fa, fs, fc⟩, ra, rs, rc⟩) (hst : stB ⟨⟨od, oa, os, oc, nx, t0, t1, t2, t3, fa, fs, fc⟩, ra, rs, rc⟩ = true) (hmay : zc0 ⟨nu, vi, cl, sq, ⟨kk, hh, ii, nn, cc, vv, tt⟩⟩ = true) (r1 r2 r3 r4 : Int) (b : Bool) (hf : zdk rs cl = (⟨r1, r2, r3, r4⟩, b)) (s : Hv) (c v : Int) (hlt : decide (sq < r2) = false) (hc0 : (cl == 0) = false) (hne : (r2 == sq) = false) (hd : doP ⟨od, oa, os, oc, nx, t0, t1, t2, t3, fa, fs, fc⟩ ⟨kk, hh, ii, nn, cc, vv, tt⟩ = (s, c, v)) (k : Nat) (hat : AtR rs cl k) (hhb : zb2 rs cl k = true) :
  Calls Tryz.prog 47 #[.agg #[.int .i64 od, .slice oa os.length oc, .int .i64 nx, .int .i64 t0, .int .i64 t1, .int .i64 t2, .int .i64 t3, .slice fa fs.length fc, .slice ra rs.length rc], .agg #[.int .i64 nu, .int .i64 vi, .int .i64 cl, .int .i64 sq, .int .i64 kk, .int .i64 hh, .int .i64 ii, .int .i64 nn, .int .i64 cc, .int .i64 vv, .int .i64 tt]] w (zcA w (⟨s, ra, zal rs ⟨cl, sq, c, v⟩, rc⟩, c, v)) := by
 have hkl := zrB hhb
 have HPUT : Hid (spl (rs.flatMap rwV) (k * 4) [.int .i64 cl, .int .i64 sq, .int .i64 c, .int .i64 v] = (zal rs ⟨cl, sq, c, v⟩).flatMap rwV) := z0j (by rw [zg2 (x := ⟨cl, sq, c, v⟩) (zfz hst).rows hat, if_pos hhb]; exact zkw (x := ⟨cl, sq, c, v⟩) hkl)
 have HLEN : Hid ((zal rs ⟨cl, sq, c, v⟩).length = rs.length) := z0j (by rw [zkq (x := ⟨cl, sq, c, v⟩) (zfz hst).rows hat, if_pos hhb])
 have HPOS : Hid (0 < rs.length) := z0j (by omega)
 have HFIT : Hid (k * 4 + [Value.int .i64 cl, Value.int .i64 sq, Value.int .i64 c, Value.int .i64 v].length ≤ (rs.flatMap rwV).length) := z0j (by rw [zS rwV 4 ZL]; simp only [z0g, z0h]; omega)
 have HAT := z0j hat
 have HHB := z0j hhb
 have HDE := z0j hd
 have f1 : (0 : Int) ≤ (k : Int) := by omega
 have f2 : (k : Int) < (rs.length : Int) := by omega
 have hp := Hp.start w; have HSS := z0j hs; have HIS := z0j hx0; have HB := z0j hst; have HM := z0j hmay; have HF := z0j hf; have HRL : Hid (rs.length ≤ 1000) := z0j hs.2; have HRL2 : Hid (rs.length ≤ 2000) := z0j (Nat.le_trans (show rs.length ≤ 1000 from hs.2) (by decide)); have HRF : Hid ((rs.flatMap rwV).length = rs.length * 4) := z0j (zS rwV 4 ZL rs); have HR1 := z0j (zjy rs); have HRI : Hid (zm w ra (rs.flatMap rwV)) := z0j hx0.2; have HS1 : Hid (Hv.Small ⟨od, oa, os, oc, nx, t0, t1, t2, t3, fa, fs, fc⟩) := z0j hs.1; have HI1 : Hid (Hv.Is w ⟨od, oa, os, oc, nx, t0, t1, t2, t3, fa, fs, fc⟩) := z0j hx0.1; have HD0 := z0j (zi3 (zfz hst).hv); clear hs hx0 hst hmay hf
 clear hat hhb hd hkl
 go_enter Tryz.func47, Tryz.ntmps47
 go_wp2_with (first | (go_at_call 35; (with_reducible refine (zbE od oa os oc nx t0 t1 t2 t3 fa fs fc ra rs rc _ HB.out HSS.out _ (HIS.out.below hp.below)).mono ?_); rintro e w1 ⟨rfl, hb⟩; replace hp := hp.call hb; clear hb; unfold zon) | (go_at_call 119; (with_reducible refine (zdo nu vi cl sq kk hh ii nn cc vv tt _ HM.out _).mono ?_); rintro e w1 ⟨rfl, hb⟩; replace hp := hp.call hb; clear hb) | (go_at_call 120; (with_reducible refine (zgN od oa os oc nx t0 t1 t2 t3 fa fs fc ra rs rc HRL.out cl _ _ _ _ _ HF.out _ (HIS.out.below hp.below)).mono ?_); rintro e w1 ⟨rfl, hb⟩; replace hp := hp.call hb; clear hb) | (go_at_call 121; (with_reducible refine (zgH ra rs.length rc HRL2.out _ HRF.out HR1.out _ (HRI.out.below hp.below)).mono ?_); rintro e w1 ⟨v, RC, rfl, hrc, hpc⟩; obtain ⟨ca, ck, rfl, _⟩ := hrc.kept; obtain ⟨g, rfl, hgn, hgm, rfl, _⟩ := hrc.own HPOS.out; have HRC := z0j hrc; have HGN := z0j hgn; have HGM := z0j hgm; replace hp := hp.join hpc; clear hrc hpc hgn hgm; simp only [z0f, z0e, z0i] at hp) | (go_at_call 21; (with_reducible refine (zhI od oa os oc nx t0 t1 t2 t3 fa fs fc 0 0 0 0 0 0 0 _ HD0.out HS1.out _ (HI1.out.below hp.below)).mono ?_); rintro e w1 ⟨⟨odX, oaX, osX, ocX, nxX, t0X, t1X, t2X, t3X, faX, fsX, fcX⟩, RX, rfl, hyX, hkX, hoX, hpX⟩; replace hp := hp.join hpX; have HYX := z0j hyX; have HKX := z0j hkX; have HOX := z0j hoX; clear hpX hyX hkX hoX; simp only [hvL, z0f, z0e, z0i] at hp ⊢) | (go_at_call 21; (with_reducible refine (zhI od oa os oc nx t0 t1 t2 t3 fa fs fc kk hh ii nn cc vv tt _ HDE.out HS1.out _ (HI1.out.below hp.below)).mono ?_); rintro e w1 ⟨⟨odE, oaE, osE, ocE, nxE, t0E, t1E, t2E, t3E, faE, fsE, fcE⟩, RE, rfl, hyE, hkE, hoE, hpE⟩; replace hp := hp.join hpE; have HYE := z0j hyE; have HKE := z0j hkE; have HOE := z0j hoE; clear hpE hyE hkE hoE; simp only [hvL, z0f, z0e, z0i] at hp ⊢) | (go_at_call 122; (with_reducible refine (zsV rs _ _ HRL.out cl k HAT.out _ (hp.rowIs at8)).mono ?_); rintro e w1 ⟨rfl, hb⟩; replace hp := hp.call hb; clear hb; rw [HHB.out]) | ((refine zg 120 _ _ rfl ?_); refine ZS hp _ _ _ rfl wy g (k * 4) (za rfl) [.int .i64 cl, .int .i64 sq, .int .i64 c, .int .i64 v] (za rfl) zV 8 _ _ _ at8 HFIT.out rfl ?_; clear hp; intro w1 hp; simp only [z0b, z0a] at hp; simp only [zc, zb, z0b, z0a]) | ((first | ((refine zi _ rfl ?_); refine lZ hp rfl zoj ?_; clear hp; intro b w1 hp) | ((refine zk _ _ rfl ?_); refine lB hp rfl (za rfl) rfl ?_; clear hp; intro b w1 hp) | ((refine zd _ _ rfl ?_); first | refine lO hp rfl (za rfl) zoL zK ?_ | refine lA hp rfl (za rfl) zd8 zK ?_) | ((refine zg _ _ _ rfl ?_); (first | refine sA hp rfl (za rfl) (za rfl) zd8 zK ?_); clear hp; intro w1 hp; simp only [spl, z0a, z0b] at hp)); simp only [zc, zb, z0b, z0a]))
 rw [HPUT.out] at hp
 obtain ⟨b11, rfl⟩ := hp.id0
 obtain ⟨b9, rfl⟩ := hp.id2
 obtain ⟨b5, rfl⟩ := hp.tail.tail.tail.tail.id0
 obtain ⟨b4, rfl⟩ := hp.tail.tail.tail.tail.id1
 replace hp := Hp.pick4 hp
 refine zf [_, _] (zt.two hp.drew at0 at1) [5] [(0, true), (1, true), (2, true), (3, true), (4, false), (5, false)] (by kernel_rfl) (by kernel_rfl) rfl (by kernel_rfl) (fun _ _ d _ _ h => by cases d <;> exact h) ?_
 replace hp := hp.drew
 repeat' (with_reducible refine zq ?_); first | (with_reducible refine zl ?_) | ((with_reducible refine zw ?_); refine zn rfl ?_; (first | ((with_reducible refine zH _ rfl ?_); refine tM rfl ?_) | ((with_reducible refine zI _ _ rfl ?_); refine tA rfl (za rfl) (by with_reducible first | exact zW | exact Zf) aa5 ?_) | refine tG (fun w _ => (by go_simp; try rfl)) ?_); try simp only [zc, zb, zh, ze, z0b, z0a, z0d, z0c, zj]) | (refine zv rfl (fun K hK => ?_); go_wp2_with (first | (((refine zg _ _ _ rfl ?_); (first | refine sA hp rfl (za rfl) (za rfl) zd8 zK ?_); clear hp; intro w1 hp; simp only [spl, z0a, z0b] at hp); simp only [zc, zb, z0b, z0a])); (first | refine hK.out _ _ (.inl rfl) ?_ | refine hK.out _ _ (.inr (zt.two hp aa5 aa5)) ?_); clear hK K; try simp only [zc, zb, zh, ze, z0b, z0a, z0d, z0c, zj])
 go_wp2_with (first | fail)
 refine bodyPost_ret (zx (rs := [.cell 4 50, .cell 5 54]) Tryz.results47 (.cell rfl (hp.loadAgg zap at3 0 _ (by rfl) (by rfl)) (.cell rfl (hp.loadAgg Zf at2 0 _ (by rfl) (by rfl)) .nil))) rfl ⟨⟨⟨odE, oaE, osE, ocE, nxE, t0E, t1E, t2E, t3E, faE, fsE, fcE⟩, some ⟨g, 0, none⟩, zal rs ⟨cl, sq, c, v⟩, ck⟩, [⟨g, (zal rs ⟨cl, sq, c, v⟩).flatMap rwV, 120, ck * 4⟩] ++ RE, ?_, ⟨HYE.out, rfl⟩, ((ZK.row g _ 120 _).and HKE.out).mono (fun _ h => h) (fun w ⟨h1, h2⟩ => ⟨h2, h1⟩), ⟨_, RE, rfl, ⟨zS rwV 4 ZL _, .inr ⟨g, ck, rfl, by simp only; rw [HLEN.out]; exact HGN.out, HGM.out, rfl⟩⟩, HOE.out⟩, hp.tail.tail.tail.tail.kp⟩
 simp only [svL, hvL, z0f, z0e]
 rw [HLEN.out]
 rfl
theorem Hp.bring {B : Nat} {w0 w : World} {x : Blk} {K R T : List Blk} (hp : Hp B w0 w (x :: (K ++ (R ++ T)))) : Hp B w0 w (x :: (R ++ (K ++ T))) := hp.kp
theorem Hp.unbring {B : Nat} {w0 w : World} {K R T : List Blk} (hp : Hp B w0 w (R ++ (K ++ T))) : Hp B w0 w (K ++ (R ++ T)) := hp.kp
theorem ziK (od : Int) (oa : Option Addr) (os : List Ob) (oc : Nat) (nx t0 t1 t2 t3 : Int) (fa : Option Addr) (fs : List Bl) (fc : Nat) (ra : Option Addr) (rs : List Rw) (rc : Nat) (nu vi cl sq kk hh ii nn cc vv tt : Int) (hs : Sv.Small ⟨⟨od, oa, os, oc, nx, t0, t1, t2, t3, fa, fs, fc⟩, ra, rs, rc⟩) (w : World) (hx0 : Sv.Is w ⟨⟨od, oa, os, oc, nx, t0, t1, t2, t3, fa, fs, fc⟩, ra, rs, rc⟩) (hst : stB ⟨⟨od, oa, os, oc, nx, t0, t1, t2, t3, fa, fs, fc⟩, ra, rs, rc⟩ = true) (hmay : zc0 ⟨nu, vi, cl, sq, ⟨kk, hh, ii, nn, cc, vv, tt⟩⟩ = true) (r1 r2 r3 r4 : Int) (b : Bool) (hf : zdk rs cl = (⟨r1, r2, r3, r4⟩, b)) (s : Hv) (c v : Int) (hlt : decide (sq < r2) = false) (hc0 : (cl == 0) = false) (hne : (r2 == sq) = false) (hd : doP ⟨od, oa, os, oc, nx, t0, t1, t2, t3, fa, fs, fc⟩ ⟨kk, hh, ii, nn, cc, vv, tt⟩ = (s, c, v)) (k : Nat) (hat : AtR rs cl k) (hhb : zb2 rs cl k = false) :
  Calls Tryz.prog 47 #[.agg #[.int .i64 od, .slice oa os.length oc, .int .i64 nx, .int .i64 t0, .int .i64 t1, .int .i64 t2, .int .i64 t3, .slice fa fs.length fc, .slice ra rs.length rc], .agg #[.int .i64 nu, .int .i64 vi, .int .i64 cl, .int .i64 sq, .int .i64 kk, .int .i64 hh, .int .i64 ii, .int .i64 nn, .int .i64 cc, .int .i64 vv, .int .i64 tt]] w (zcA w (⟨s, ra, zal rs ⟨cl, sq, c, v⟩, rc⟩, c, v)) := by
 have hkl := hat.1
 have hin := zpn rs k ⟨0, 0, 0, 0⟩ hkl
 obtain ⟨ms, hms⟩ : ∃ ms, ms = rs.take k ++ (⟨0, 0, 0, 0⟩ : Rw) :: rs.drop k := ⟨_, rfl⟩
 have hml : ms.length = rs.length + 1 := by rw [hms, List.length_append, List.length_cons, List.length_take, List.length_drop]; omega
 have hset : ms.set k ⟨cl, sq, c, v⟩ = rs.take k ++ (⟨cl, sq, c, v⟩ : Rw) :: rs.drop k := by
  have hl : (rs.take k).length = k := by rw [List.length_take]; omega
  rw [hms, List.set_append_right _ _ (by omega), hl, Nat.sub_self, List.set_cons_zero]
 rw [← hms] at hin
 have HINS : Hid (zcI 4 (rs.flatMap rwV) [.int .i64 0, .int .i64 0, .int .i64 0, .int .i64 0] k = ms.flatMap rwV) := z0j hin
 have HPUT : Hid (spl (ms.flatMap rwV) (k * 4) [.int .i64 cl, .int .i64 sq, .int .i64 c, .int .i64 v] = (zal rs ⟨cl, sq, c, v⟩).flatMap rwV) := z0j (by rw [zg2 (x := ⟨cl, sq, c, v⟩) (zfz hst).rows hat, if_neg (by rw [hhb]; decide), ← hset]; exact zkw (x := ⟨cl, sq, c, v⟩) (by omega))
 have HLEN : Hid ((zal rs ⟨cl, sq, c, v⟩).length = rs.length + 1) := z0j (by rw [zkq (x := ⟨cl, sq, c, v⟩) (zfz hst).rows hat, if_neg (by rw [hhb]; decide)])
 have HFIT : Hid (k * 4 + [Value.int .i64 cl, Value.int .i64 sq, Value.int .i64 c, Value.int .i64 v].length ≤ (ms.flatMap rwV).length) := z0j (by rw [zS rwV 4 ZL]; simp only [z0g, z0h]; omega)
 have HAT := z0j hat
 have HHB := z0j hhb
 have HDE := z0j hd
 have HKL := z0j hkl
 have f1 : (0 : Int) ≤ (k : Int) := by omega
 have f2 : (k : Int) < ((rs.length + 1 : Nat) : Int) := by omega
 have f3 : (k : Int) < (rs.length : Int) + 1 := by omega
 have hp := Hp.start w; have HSS := z0j hs; have HIS := z0j hx0; have HB := z0j hst; have HM := z0j hmay; have HF := z0j hf; have HRL : Hid (rs.length ≤ 1000) := z0j hs.2; have HRL2 : Hid (rs.length ≤ 2000) := z0j (Nat.le_trans (show rs.length ≤ 1000 from hs.2) (by decide)); have HRF : Hid ((rs.flatMap rwV).length = rs.length * 4) := z0j (zS rwV 4 ZL rs); have HR1 := z0j (zjy rs); have HRI : Hid (zm w ra (rs.flatMap rwV)) := z0j hx0.2; have HS1 : Hid (Hv.Small ⟨od, oa, os, oc, nx, t0, t1, t2, t3, fa, fs, fc⟩) := z0j hs.1; have HI1 : Hid (Hv.Is w ⟨od, oa, os, oc, nx, t0, t1, t2, t3, fa, fs, fc⟩) := z0j hx0.1; have HD0 := z0j (zi3 (zfz hst).hv); clear hs hx0 hst hmay hf
 clear hat hhb hd hkl hin hms hml hset
 go_enter Tryz.func47, Tryz.ntmps47
 go_wp2_with (first | (go_at_call 35; (with_reducible refine (zbE od oa os oc nx t0 t1 t2 t3 fa fs fc ra rs rc _ HB.out HSS.out _ (HIS.out.below hp.below)).mono ?_); rintro e w1 ⟨rfl, hb⟩; replace hp := hp.call hb; clear hb; unfold zon) | (go_at_call 119; (with_reducible refine (zdo nu vi cl sq kk hh ii nn cc vv tt _ HM.out _).mono ?_); rintro e w1 ⟨rfl, hb⟩; replace hp := hp.call hb; clear hb) | (go_at_call 120; (with_reducible refine (zgN od oa os oc nx t0 t1 t2 t3 fa fs fc ra rs rc HRL.out cl _ _ _ _ _ HF.out _ (HIS.out.below hp.below)).mono ?_); rintro e w1 ⟨rfl, hb⟩; replace hp := hp.call hb; clear hb) | (go_at_call 121; (with_reducible refine (zgH ra rs.length rc HRL2.out _ HRF.out HR1.out _ (HRI.out.below hp.below)).mono ?_); rintro e w1 ⟨v, RC, rfl, hrc, hpc⟩; obtain ⟨ca, ck, rfl, _⟩ := hrc.kept; have HRC := z0j hrc; replace hp := hp.join hpc; clear hrc hpc; simp only [z0f, z0e, z0i] at hp) | (go_at_call 21; (with_reducible refine (zhI od oa os oc nx t0 t1 t2 t3 fa fs fc 0 0 0 0 0 0 0 _ HD0.out HS1.out _ (HI1.out.below hp.below)).mono ?_); rintro e w1 ⟨⟨odX, oaX, osX, ocX, nxX, t0X, t1X, t2X, t3X, faX, fsX, fcX⟩, RX, rfl, hyX, hkX, hoX, hpX⟩; replace hp := hp.join hpX; have HYX := z0j hyX; have HKX := z0j hkX; have HOX := z0j hoX; clear hpX hyX hkX hoX; simp only [hvL, z0f, z0e, z0i] at hp ⊢) | (go_at_call 21; (with_reducible refine (zhI od oa os oc nx t0 t1 t2 t3 fa fs fc kk hh ii nn cc vv tt _ HDE.out HS1.out _ (HI1.out.below hp.below)).mono ?_); rintro e w1 ⟨⟨odE, oaE, osE, ocE, nxE, t0E, t1E, t2E, t3E, faE, fsE, fcE⟩, RE, rfl, hyE, hkE, hoE, hpE⟩; replace hp := hp.join hpE; have HYE := z0j hyE; have HKE := z0j hkE; have HOE := z0j hoE; clear hpE hyE hkE hoE; simp only [hvL, z0f, z0e, z0i] at hp ⊢) | (go_at_call 122; (with_reducible refine (zsV rs _ _ HRL.out cl k HAT.out _ (HRC.out.keptS.at hp (fun p hm => by simp [hm]))).mono ?_); rintro e w1 ⟨rfl, hb⟩; replace hp := hp.call hb; clear hb; rw [HHB.out]) | (go_at_call 125; have hq := Hp.bring (K := [_, _, _, _, _, _, _, _]) (R := RC) (T := RX ++ RE) hp; (with_reducible refine (zte rs.length k HRL.out HKL.out (rs.flatMap rwV) _ [.int .i64 0, .int .i64 0, .int .i64 0, .int .i64 0] rfl rfl HR1.out _ _ _ HRC.out hq).mono ?_); clear hp hq; rintro e w1 ⟨v', R', rfl, hr', hp⟩; rw [HINS.out] at hr'; obtain ⟨g, cap, rfl, hgn, hgm, rfl⟩ := hr'.cons2; have HGN := z0j hgn; have HGM := z0j hgm; clear hr' hgn hgm; replace hp := Hp.unbring hp; simp only [z0f, z0e, z0i] at hp) | ((refine zg 120 _ _ rfl ?_); refine ZS hp _ _ _ rfl wy g (k * 4) (za rfl) [.int .i64 cl, .int .i64 sq, .int .i64 c, .int .i64 v] (za rfl) zV 8 _ _ _ at8 HFIT.out rfl ?_; clear hp; intro w1 hp; simp only [z0b, z0a] at hp; simp only [zc, zb, z0b, z0a]) | ((first | ((refine zi _ rfl ?_); refine lZ hp rfl zoj ?_; clear hp; intro b w1 hp) | ((refine zk _ _ rfl ?_); refine lB hp rfl (za rfl) rfl ?_; clear hp; intro b w1 hp) | ((refine zd _ _ rfl ?_); first | refine lO hp rfl (za rfl) zoL zK ?_ | refine lA hp rfl (za rfl) zd8 zK ?_) | ((refine zg _ _ _ rfl ?_); (first | refine sA hp rfl (za rfl) (za rfl) zd8 zK ?_); clear hp; intro w1 hp; simp only [spl, z0a, z0b] at hp) | ((refine zC _ _ _ rfl ?_); refine lS hp rfl (by intro w; go_simp; rfl) ?_; clear hp; intro b w1 hp; simp only [z0g, z0h, Nat.reduceAdd] at hp)); simp only [zc, zb, z0b, z0a]))
 rw [HPUT.out] at hp
 obtain ⟨b11, rfl⟩ := hp.id0
 obtain ⟨b9, rfl⟩ := hp.id2
 obtain ⟨b5, rfl⟩ := hp.tail.tail.tail.tail.id0
 obtain ⟨b4, rfl⟩ := hp.tail.tail.tail.tail.id1
 replace hp := Hp.pick4 hp
 refine zf [_, _] (zt.two hp.drew at0 at1) [5] [(0, true), (1, true), (2, true), (3, true), (4, false), (5, false)] (by kernel_rfl) (by kernel_rfl) rfl (by kernel_rfl) (fun _ _ d _ _ h => by cases d <;> exact h) ?_
 replace hp := hp.drew
 repeat' (with_reducible refine zq ?_); first | (with_reducible refine zl ?_) | ((with_reducible refine zw ?_); refine zn rfl ?_; (first | ((with_reducible refine zH _ rfl ?_); refine tM rfl ?_) | ((with_reducible refine zI _ _ rfl ?_); refine tA rfl (za rfl) (by with_reducible first | exact zW | exact Zf) aa5 ?_) | refine tG (fun w _ => (by go_simp; try rfl)) ?_); try simp only [zc, zb, zh, ze, z0b, z0a, z0d, z0c, zj]) | (refine zv rfl (fun K hK => ?_); go_wp2_with (first | (((refine zg _ _ _ rfl ?_); (first | refine sA hp rfl (za rfl) (za rfl) zd8 zK ?_); clear hp; intro w1 hp; simp only [spl, z0a, z0b] at hp); simp only [zc, zb, z0b, z0a])); (first | refine hK.out _ _ (.inl rfl) ?_ | refine hK.out _ _ (.inr (zt.two hp aa5 aa5)) ?_); clear hK K; try simp only [zc, zb, zh, ze, z0b, z0a, z0d, z0c, zj])
 go_wp2_with (first | fail)
 refine bodyPost_ret (zx (rs := [.cell 4 50, .cell 5 54]) Tryz.results47 (.cell rfl (hp.loadAgg zap at3 0 _ (by rfl) (by rfl)) (.cell rfl (hp.loadAgg Zf at2 0 _ (by rfl) (by rfl)) .nil))) rfl ⟨⟨⟨odE, oaE, osE, ocE, nxE, t0E, t1E, t2E, t3E, faE, fsE, fcE⟩, some ⟨g, 0, none⟩, zal rs ⟨cl, sq, c, v⟩, cap⟩, [⟨g, (zal rs ⟨cl, sq, c, v⟩).flatMap rwV, 120, cap * 4⟩] ++ RE, ?_, ⟨HYE.out, rfl⟩, ((ZK.row g _ 120 _).and HKE.out).mono (fun _ h => h) (fun w ⟨h1, h2⟩ => ⟨h2, h1⟩), ⟨_, RE, rfl, ⟨zS rwV 4 ZL _, .inr ⟨g, cap, rfl, by simp only; rw [HLEN.out]; exact HGN.out, HGM.out, rfl⟩⟩, HOE.out⟩, hp.tail.tail.tail.tail.kp⟩
 simp only [svL, hvL, z0f, z0e]
 rw [HLEN.out]
 rfl
end Go.Proofs.YtaafajaadfgaoaaGreat
