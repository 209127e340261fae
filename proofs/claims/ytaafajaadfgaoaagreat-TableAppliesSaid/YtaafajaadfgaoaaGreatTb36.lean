import Derived.Test.YtaafajaadfgaoaaGreatTb33
import Derived.Test.YtaafajaadfgaoaaGreatTb34
import Derived.Test.YtaafajaadfgaoaaGreatTb35
import Derived.Test.YtaafajaadfgaoaaGreatTb22
set_option linter.unusedSimpArgs false
set_option linter.unusedVariables false
set_option maxRecDepth 100000
set_option maxHeartbeats 60000000
namespace Go.Proofs.YtaafajaadfgaoaaGreat
open Go.RowKit
theorem zep {ty : TypeId} {k : Nat} (h : zac Tryz.prog ty k = true := by with_reducible first | exact zY | exact zU | exact zel) : zac Tryz.prog ty k = true := h
theorem zg6 {ty : TypeId} (h : zN Tryz.prog ty = true := by with_reducible first | exact zw | exact Zd | exact zaa) : zN Tryz.prog ty = true := h
theorem zpv (odX : Int) (oaX : Option Addr) (osX : List Ob) (ocX : Nat) (nxX t0X t1X t2X t3X : Int) (faX : Option Addr) (fsX : List Bl) (fcX : Nat) (raX : Option Addr) (rsX : List Rw) (rcX : Nat) (hs : Sv.Small ⟨⟨odX, oaX, osX, ocX, nxX, t0X, t1X, t2X, t3X, faX, fsX, fcX⟩, raX, rsX, rcX⟩) (w : World) (hx0 : Sv.Is w ⟨⟨odX, oaX, osX, ocX, nxX, t0X, t1X, t2X, t3X, faX, fsX, fcX⟩, raX, rsX, rcX⟩) : Calls Tryz.prog 20 #[.agg #[.int .i64 odX, .slice oaX (List.length osX) ocX, .int .i64 nxX, .int .i64 t0X, .int .i64 t1X, .int .i64 t2X, .int .i64 t3X, .slice faX (List.length fsX) fcX, .slice raX (List.length rsX) rcX]] w fun e w' => ∃ od oa os oc nx t0 t1 t2 t3 fa fs fc ra rs rc R, e = .returned (.agg #[.int .i64 od, .slice oa (List.length os) oc, .int .i64 nx, .int .i64 t0, .int .i64 t1, .int .i64 t2, .int .i64 t3, .slice fa (List.length fs) fc, .slice ra (List.length rs) rc]) ∧ Sv.Sm ⟨⟨odX, oaX, osX, ocX, nxX, t0X, t1X, t2X, t3X, faX, fsX, fcX⟩, raX, rsX, rcX⟩ ⟨⟨od, oa, os, oc, nx, t0, t1, t2, t3, fa, fs, fc⟩, ra, rs, rc⟩ ∧ ZC R (fun w => Sv.Is w ⟨⟨od, oa, os, oc, nx, t0, t1, t2, t3, fa, fs, fc⟩, ra, rs, rc⟩) ∧ Hp w.heap.size w w' R :=
 (zoL _ hs w hx0).mono fun e w' ⟨⟨⟨od, oa, os, oc, nx, t0, t1, t2, t3, fa, fs, fc⟩, ra, rs, rc⟩, R, h1, h2, h3, h4⟩ => ⟨od, oa, os, oc, nx, t0, t1, t2, t3, fa, fs, fc, ra, rs, rc, R, h1, h2, h3, h4⟩
theorem znI {s : Sv} (hs : s.Small) {od : Int} {oa : Option Addr} {os : List Ob} {oc : Nat} {nx t0 t1 t2 t3 : Int} {fa : Option Addr} {fs : List Bl} {fc : Nat} {ra : Option Addr} {rs : List Rw} {rc : Nat} {R : List Blk} (hy : Sv.Sm ⟨⟨od, oa, os, oc, nx, t0, t1, t2, t3, fa, fs, fc⟩, ra, rs, rc⟩ s) (ho : SvO ⟨⟨od, oa, os, oc, nx, t0, t1, t2, t3, fa, fs, fc⟩, ra, rs, rc⟩ R) {B : Nat} {w0 w1 : World} {K : List Blk} (h : Hp B w0 w1 (R ++ K)) :
  Calls Tryz.prog 49 #[.agg #[.int .i64 od, .slice oa os.length oc, .int .i64 nx, .int .i64 t0, .int .i64 t1, .int .i64 t2, .int .i64 t3, .slice fa fs.length fc, .slice ra rs.length rc]] w1 fun e w' => e = .returned (.tuple #[]) ∧ ∃ D, Hp B w0 w' (D ++ K) := by
 obtain ⟨RR, RH, rfl, h1, RO, RF, M, rfl, h2⟩ := ho
 have hsm := hs.sm hy.symm
 have ha := hsm.1.1.1
 have hb := hsm.1.2
 have hc := hsm.2
 simp only at ha hb hc
 exact zoK ⟨⟨od, oa, os, oc, nx, t0, t1, t2, t3, fa, fs, fc⟩, ra, rs, rc⟩ (by simp only; omega) (by simp only; omega) (by simp only; omega) hsm.1.1.2 h1 h2 (by simpa only [List.append_assoc] using h)
theorem zpx {B : Nat} {w0 w : World} {p1 p2 p3 p4 p5 p6 p7 : Blk} {RO RY RZ : List Blk} (hp : Hp B w0 w (p1 :: p2 :: p3 :: p4 :: p5 :: p6 :: p7 :: (RO ++ (RY ++ RZ)))) : Hp B w0 w (RY ++ (p1 :: p2 :: p3 :: p4 :: p5 :: p6 :: p7 :: (RO ++ RZ))) := hp.kp
theorem zpy {B : Nat} {w0 w : World} {p1 p2 p3 p4 p5 p6 p7 : Blk} {D L : List Blk} (hp : Hp B w0 w (D ++ (p1 :: p2 :: p3 :: p4 :: p5 :: p6 :: p7 :: L))) : Hp B w0 w (p1 :: p2 :: p3 :: p4 :: p5 :: p6 :: p7 :: L) := hp.kp
theorem zij (odX : Int) (oaX : Option Addr) (osX : List Ob) (ocX : Nat) (nxX t0X t1X t2X t3X : Int) (faX : Option Addr) (fsX : List Bl) (fcX : Nat) (raX : Option Addr) (rsX : List Rw) (rcX : Nat) (nu vi cl sq kk hh ii nn cc vv tt : Int) (w : World) (hx : Sv.Is w ⟨⟨odX, oaX, osX, ocX, nxX, t0X, t1X, t2X, t3X, faX, fsX, fcX⟩, raX, rsX, rcX⟩) (hnx : nxX ≤ 9223372036854775807) :
  Calls Tryz.prog 9 #[.agg #[.int .i64 odX, .slice oaX (List.length osX) ocX, .int .i64 nxX, .int .i64 t0X, .int .i64 t1X, .int .i64 t2X, .int .i64 t3X, .slice faX (List.length fsX) fcX, .slice raX (List.length rsX) rcX], .agg #[.int .i64 nu, .int .i64 vi, .int .i64 cl, .int .i64 sq, .int .i64 kk, .int .i64 hh, .int .i64 ii, .int .i64 nn, .int .i64 cc, .int .i64 vv, .int .i64 tt]] w fun e w' => e = .returned (.bool true) ∧ Below w.heap.size w w' := by
 have hp := Hp.start w
 have HIX := z0j hx
 have HNX := z0j hnx
 clear hx hnx
 obtain ⟨⟨ss, rcc, rvv⟩, hd⟩ : ∃ r, ZT ⟨⟨odX, oaX, osX, ocX, nxX, t0X, t1X, t2X, t3X, faX, fsX, fcX⟩, raX, rsX, rcX⟩ ⟨nu, vi, cl, sq, ⟨kk, hh, ii, nn, cc, vv, tt⟩⟩ = r := ⟨_, rfl⟩
 have HD1 := z0j hd
 have hsml := zgX ⟨⟨odX, oaX, osX, ocX, nxX, t0X, t1X, t2X, t3X, faX, fsX, fcX⟩, raX, rsX, rcX⟩ ⟨nu, vi, cl, sq, ⟨kk, hh, ii, nn, cc, vv, tt⟩⟩
 rw [hd] at hsml
 have HSS : Hid ss.Small := z0j hsml
 clear hd hsml
 go_enter Tryz.func9, Tryz.ntmps9
 go_wp2_with (first | (go_at_call 19; (with_reducible refine (zoh odX oaX osX ocX nxX t0X t1X t2X t3X faX fsX fcX raX rsX rcX _ (HIX.out.below hp.below)).mono ?_); rintro e w1 ⟨bb, rfl, hbb, hb⟩; replace hp := hp.call hb; clear hb; cases bb) | go_skip | ((first | ((refine zh _ rfl ?_); refine lZ hp rfl (by with_reducible first | exact Z7 | exact zJ) ?_; clear hp; intro b w1 hp) | ((refine zi _ _ rfl ?_); refine lB hp rfl (zb rfl) rfl ?_; clear hp; intro b w1 hp) | ((refine zg _ _ rfl ?_); first | refine lO hp rfl (zb rfl) zg6 zq ?_ | refine lA hp rfl (zb rfl) zep zq ?_) | ((refine zf _ _ _ rfl ?_); (first | refine sO hp rfl (zb rfl) zg6 zq ?_ | refine sA hp rfl (zb rfl) (zb rfl) zep zq ?_ | refine sG hp rfl (zb rfl) (zb rfl) zep zq ?_); clear hp; intro w1 hp; simp only [spl, z0a, z0b] at hp)); simp only [ze, zd, z0b, z0a]))
 ·have HSX := z0j (hbb (by first | rfl | trivial))
  clear hbb
  go_wp2_with (first | (go_at_call 20; (with_reducible refine (zpv odX oaX osX ocX nxX t0X t1X t2X t3X faX fsX fcX raX rsX rcX HSX.out _ (HIX.out.below hp.below)).mono ?_); rintro e w1 ⟨odO, oaO, osO, ocO, nxO, t0O, t1O, t2O, t3O, faO, fsO, fcO, raO, rsO, rcO, RO, rfl, hsm, hk, hpn⟩; replace hp := hp.join hpn; have HOM := z0j hsm; have HOK := z0j hk; clear hpn hsm hk; simp only [z0f, z0e, z0i] at hp) | go_skip | ((first | ((refine zh _ rfl ?_); refine lZ hp rfl (by with_reducible first | exact Z7 | exact zJ) ?_; clear hp; intro b w1 hp) | ((refine zi _ _ rfl ?_); refine lB hp rfl (zb rfl) rfl ?_; clear hp; intro b w1 hp) | ((refine zg _ _ rfl ?_); first | refine lO hp rfl (zb rfl) zg6 zq ?_ | refine lA hp rfl (zb rfl) zep zq ?_) | ((refine zf _ _ _ rfl ?_); (first | refine sO hp rfl (zb rfl) zg6 zq ?_ | refine sA hp rfl (zb rfl) (zb rfl) zep zq ?_ | refine sG hp rfl (zb rfl) (zb rfl) zep zq ?_); clear hp; intro w1 hp; simp only [spl, z0a, z0b] at hp)); simp only [ze, zd, z0b, z0a]))
  have HSO : Hid (Sv.Small ⟨⟨odO, oaO, osO, ocO, nxO, t0O, t1O, t2O, t3O, faO, fsO, fcO⟩, raO, rsO, rcO⟩) := z0j (HSX.out.sm HOM.out)
  have HNO : Hid (nxO ≤ 9223372036854775807) := z0j (by have h1 := HOM.out.1.nx; have h2 := HNX.out; simp only at h1; omega)
  obtain ⟨⟨so, c2, v2⟩, hd2⟩ : ∃ r, ZT ⟨⟨odO, oaO, osO, ocO, nxO, t0O, t1O, t2O, t3O, faO, fsO, fcO⟩, raO, rsO, rcO⟩ ⟨nu, vi, cl, sq, ⟨kk, hh, ii, nn, cc, vv, tt⟩⟩ = r := ⟨_, rfl⟩
  have hsm2 := zgW HOM.out ⟨nu, vi, cl, sq, ⟨kk, hh, ii, nn, cc, vv, tt⟩⟩
  rw [HD1.out, hd2] at hsm2
  obtain ⟨hq1, hq2⟩ := hsm2
  simp only at hq1 hq2
  injection hq1 with q1 q2
  subst q1 q2
  have HD2 := z0j hd2
  have HSQ : Hid (ss.Sm so) := z0j hq2
  clear hd2 hq2
  go_wp2_with (first | (go_at_call 47; (with_reducible refine (zcW odX oaX osX ocX nxX t0X t1X t2X t3X faX fsX fcX raX rsX rcX nu vi cl sq kk hh ii nn cc vv tt _ HD1.out HSX.out _ (HIX.out.below hp.below)).mono ?_); rintro e w1 ⟨⟨⟨odY, oaY, osY, ocY, nxY, t0Y, t1Y, t2Y, t3Y, faY, fsY, fcY⟩, raY, rsY, rcY⟩, RY, rfl, hy, hk, hoy, hpY⟩; replace hp := hp.join hpY; have HYN := z0j hy; have HKN := z0j hk; have HOY := z0j hoy; clear hpY hy hk hoy; simp only [svL, hvL, z0f, z0e, z0i] at hp ⊢) | (go_at_call 48; (with_reducible refine (zlR odO oaO osO ocO nxO t0O t1O t2O t3O faO fsO fcO raO rsO rcO nu vi cl sq kk hh ii nn cc vv tt so rcc rvv HD2.out HSO.out HNO.out _ (HOK.out.at hp (fun p hm => by simp [hm]))).mono ?_); rintro e w1 ⟨odZ, oaZ, osZ, ocZ, nxZ, t0Z, t1Z, t2Z, t3Z, faZ, fsZ, fcZ, raZ, rsZ, rcZ, RZ, rfl, hyz, hkz, hpn⟩; replace hp := hp.join hpn; have HYZ := z0j hyz; have HKZ := z0j hkz; clear hpn hyz hkz; simp only [z0f, z0e, z0i] at hp) | (go_at_call 26; (with_reducible refine (ziw odY oaY osY ocY nxY t0Y t1Y t2Y t3Y faY fsY fcY raY rsY rcY odZ oaZ osZ ocZ nxZ t0Z t1Z t2Z t3Z faZ fsZ fcZ raZ rsZ rcZ (HSS.out.sm HYN.out.symm) (HYN.out.trans (HSQ.out.trans HYZ.out.symm)) _ (HKN.out.at hp (fun p hm => by simp [hm])) (HKZ.out.at hp (fun p hm => by simp [hm]))).mono ?_); rintro e w1 ⟨rfl, hb⟩; replace hp := hp.call hb; clear hb) | (go_at_call 49; (with_reducible refine (znI HSS.out HYN.out HOY.out (zpx hp)).mono ?_); clear hp; rintro e w1 ⟨rfl, D, hp⟩; replace hp := zpy hp) | (go_at_call 50; (with_reducible refine (zkl _).mono ?_); rintro e w1 ⟨rfl, hb⟩; replace hp := hp.call hb; clear hb) | (go_at_call 26; (with_reducible refine (ziw odX oaX osX ocX nxX t0X t1X t2X t3X faX fsX fcX raX rsX rcX odO oaO osO ocO nxO t0O t1O t2O t3O faO fsO fcO raO rsO rcO HSX.out HOM.out _ (HIX.out.below hp.below) (HOK.out.at hp (fun p hm => by simp [hm]))).mono ?_); rintro e w1 ⟨rfl, hb⟩; replace hp := hp.call hb; clear hb) | go_skip | ((first | ((refine zh _ rfl ?_); refine lZ hp rfl (by with_reducible first | exact Z7 | exact zJ) ?_; clear hp; intro b w1 hp) | ((refine zi _ _ rfl ?_); refine lB hp rfl (zb rfl) rfl ?_; clear hp; intro b w1 hp) | ((refine zg _ _ rfl ?_); first | refine lO hp rfl (zb rfl) zg6 zq ?_ | refine lA hp rfl (zb rfl) zep zq ?_) | ((refine zf _ _ _ rfl ?_); (first | refine sO hp rfl (zb rfl) zg6 zq ?_ | refine sA hp rfl (zb rfl) (zb rfl) zep zq ?_ | refine sG hp rfl (zb rfl) (zb rfl) zep zq ?_); clear hp; intro w1 hp; simp only [spl, z0a, z0b] at hp)); simp only [ze, zd, z0b, z0a]))
  go_ret
  exact ⟨rfl, hp.below⟩
 ·go_wp2_with (first | go_skip | ((first | ((refine zh _ rfl ?_); refine lZ hp rfl (by with_reducible first | exact Z7 | exact zJ) ?_; clear hp; intro b w1 hp) | ((refine zi _ _ rfl ?_); refine lB hp rfl (zb rfl) rfl ?_; clear hp; intro b w1 hp) | ((refine zg _ _ rfl ?_); first | refine lO hp rfl (zb rfl) zg6 zq ?_ | refine lA hp rfl (zb rfl) zep zq ?_) | ((refine zf _ _ _ rfl ?_); (first | refine sO hp rfl (zb rfl) zg6 zq ?_ | refine sA hp rfl (zb rfl) (zb rfl) zep zq ?_ | refine sG hp rfl (zb rfl) (zb rfl) zep zq ?_); clear hp; intro w1 hp; simp only [spl, z0a, z0b] at hp)); simp only [ze, zd, z0b, z0a]))
  go_ret
  exact ⟨rfl, hp.below⟩
theorem zpP (x : Sv) (nu vi cl sq kk hh ii nn cc vv tt : Int) (w : World) (hx : (x.Is w ∧ x.W64) ∧ x.hv.nx ≤ 9223372036854775807) :
  Calls Tryz.prog 9 #[.agg (svL x).toArray, .agg #[.int .i64 nu, .int .i64 vi, .int .i64 cl, .int .i64 sq, .int .i64 kk, .int .i64 hh, .int .i64 ii, .int .i64 nn, .int .i64 cc, .int .i64 vv, .int .i64 tt]] w fun e w' => e = .returned (.bool true) ∧ Below w.heap.size w w' := by
 obtain ⟨⟨odX, oaX, osX, ocX, nxX, t0X, t1X, t2X, t3X, faX, fsX, fcX⟩, raX, rsX, rcX⟩ := x
 exact zij odX oaX osX ocX nxX t0X t1X t2X t3X faX fsX fcX raX rsX rcX nu vi cl sq kk hh ii nn cc vv tt w hx.1.1 hx.2
end Go.Proofs.YtaafajaadfgaoaaGreat
