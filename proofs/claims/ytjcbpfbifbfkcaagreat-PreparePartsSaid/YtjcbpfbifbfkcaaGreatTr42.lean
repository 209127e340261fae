import Derived.Test.YtjcbpfbifbfkcaaGreatTr41
set_option linter.unusedSimpArgs false
set_option linter.unusedVariables false
set_option maxRecDepth 100000
set_option maxHeartbeats 60000000
namespace Go.Proofs.YtjcbpfbifbfkcaaGreat
open Go.RowKit
theorem ztY {ty : TypeId} (h : zF Tryz.prog ty = true := by with_reducible first | exact zm | exact Zt | exact zat | exact Zf) : zF Tryz.prog ty = true := h
theorem zf7 (id vw : Int) (od : Int) (oa : Option Addr) (os : List Ob) (oc : Nat) (nx t0 t1 t2 t3 : Int) (fa : Option Addr) (fs : List Bl) (fc : Nat) (ra : Option Addr) (rs : List Rw) (rc : Nat) (la : Option Addr) (l : List Env) (n lc : Nat) (hn : l.length = n) (hs : Sv.Small ⟨⟨od, oa, os, oc, nx, t0, t1, t2, t3, fa, fs, fc⟩, ra, rs, rc⟩) (hl : n ≤ 100000) (w : World) (hx0 : Sv.Is w ⟨⟨od, oa, os, oc, nx, t0, t1, t2, t3, fa, fs, fc⟩, ra, rs, rc⟩) (hla : zr w la (l.flatMap ZI)) (s : Sv) (ms : List Rw) (m : Nat) (hm : ms.length = m) (hr : zaO ⟨⟨od, oa, os, oc, nx, t0, t1, t2, t3, fa, fs, fc⟩, ra, rs, rc⟩ l = (s, ms)) :
  Calls Tryz.prog 49 #[.int .i64 id, .int .i64 vw, .agg #[.int .i64 od, .slice oa os.length oc, .int .i64 nx, .int .i64 t0, .int .i64 t1, .int .i64 t2, .int .i64 t3, .slice fa fs.length fc, .slice ra rs.length rc], .slice la n lc] w fun e w' => ∃ (y : Sv) (a : Option Addr) (c : Nat) (RO R : List Blk), e = .returned (.tuple #[.agg (svL y).toArray, .slice a m c]) ∧ y.Sm s ∧ ZD R (fun w => y.Is w) ∧ zB 167 23 (.slice a m c) m (ms.flatMap (zgh id vw)) RO ∧ Hp w.heap.size w w' (RO ++ R) := by
 subst hn hm
 refine (zcT id vw od oa os oc nx t0 t1 t2 t3 fa fs fc ra rs rc la l lc hs hl w hx0 hla _ hr).mono fun e w' h => ?_
 obtain ⟨y, v, RO, R, h1, h2, h3, h4, h5⟩ := h
 obtain ⟨a, c, rfl, _⟩ := h4.kept
 exact ⟨y, a, c, RO, R, h1, h2, h3, h4, h5⟩
theorem zbp {P : Program} {c : Code} {Q : Exit → Act → World → Prop} {a : Act} {w : World} {A : Nat → Sv → Option Addr → Nat → Act} (R : Nat → Sv → Option Addr → Nat → World → Prop)
  (h : c.wp P (fun e a' w' => match e with | .normal => ∃ x y z u, a' = A x y z u ∧ R x y z u w' | _ => False) a w) (k : ∀ x y z u w', R x y z u w' → Q .normal (A x y z u) w') : c.wp P Q a w :=
 Code.wp_mono (fun e a' w' hq => by cases e <;> first | exact hq.elim | (obtain ⟨x, y, z, u, ha, hr⟩ := hq; subst ha; exact k x y z u w' hr)) h
theorem zoX (id vw : Int) (l : List Rw) : (l.flatMap (zgh id vw)).all (·.oneCell') = true := by
 rw [List.all_flatMap]; exact List.all_eq_true.2 fun x _ => rfl
theorem zmJ {w : World} {la : Option Addr} {es : List Env} (ha : zr w la (es.flatMap ZI)) (k : Nat) : zr w la ((es.take k).flatMap ZI) := by
 rw [← zgv]
 intro i v hi
 rw [List.getElem?_take] at hi
 split at hi
 ·exact ha i v hi
 ·cases hi
theorem zmT (id vw : Int) (od : Int) (oa : Option Addr) (os : List Ob) (oc : Nat) (nx t0 t1 t2 t3 : Int) (fa : Option Addr) (fs : List Bl) (fc : Nat) (ra : Option Addr) (rs : List Rw) (rc : Nat) (la : Option Addr) (lc : Nat) (hst : StR ⟨⟨od, oa, os, oc, nx, t0, t1, t2, t3, fa, fs, fc⟩, ra, rs, rc⟩) (w : World) (hx0 : Sv.Is w ⟨⟨od, oa, os, oc, nx, t0, t1, t2, t3, fa, fs, fc⟩, ra, rs, rc⟩) : Calls Tryz.prog 13 #[.int .i64 id, .int .i64 vw, .agg #[.int .i64 od, .slice oa os.length oc, .int .i64 nx, .int .i64 t0, .int .i64 t1, .int .i64 t2, .int .i64 t3, .slice fa fs.length fc, .slice ra rs.length rc], .slice la 0 lc, .int .i64 0] w fun e w' => e = .returned (.bool true) ∧ Below w.heap.size w w' := by
 have hp := Hp.start w
 have HIS := z0j hx0
 have HZ : Hid (([] : List Env).length = 0) := z0j rfl
 have HZR : Hid (([] : List Rw).length = 0) := z0j rfl
 have HZ1 : Hid (0 ≤ 100000) := z0j (by decide)
 have HR1 : Hid (zaO ⟨⟨od, oa, os, oc, nx, t0, t1, t2, t3, fa, fs, fc⟩, ra, rs, rc⟩ [] = (⟨⟨od, oa, os, oc, nx, t0, t1, t2, t3, fa, fs, fc⟩, ra, rs, rc⟩, [])) := z0j (zby hst (fun e he => by cases he))
 have HSX : Hid (∀ y : Sv, y.Sm ⟨⟨od, oa, os, oc, nx, t0, t1, t2, t3, fa, fs, fc⟩, ra, rs, rc⟩ → y.Small) := z0j (fun y h => hst.small.sm h.symm)
 have HOD : Hid (∀ y : Sv, y.Sm ⟨⟨od, oa, os, oc, nx, t0, t1, t2, t3, fa, fs, fc⟩, ra, rs, rc⟩ → y.hv.od ≠ 0) := z0j (fun y h => zjB h hst)
 have HR3 : Hid (∀ y : Sv, y.Sm ⟨⟨od, oa, os, oc, nx, t0, t1, t2, t3, fa, fs, fc⟩, ra, rs, rc⟩ → zaO y [] = (y, [])) := z0j (fun y h => zby (zdh ((zea h).trans (zd2 hst))) (fun e he => by cases he))
 have HXZ : Hid (∀ x : Sv, x.Sm ⟨⟨od, oa, os, oc, nx, t0, t1, t2, t3, fa, fs, fc⟩, ra, rs, rc⟩ → ∀ y : Sv, y.Sm ⟨⟨od, oa, os, oc, nx, t0, t1, t2, t3, fa, fs, fc⟩, ra, rs, rc⟩ → ∀ z : Sv, z.Sm y → x.Sm z) := z0j (fun x h1 y h2 z h3 => (h1.trans h2.symm).trans h3.symm)
 obtain ⟨i0, hi0, hz0, hz1, hz2⟩ := info_parts zjA
 clear hst hx0
 go_enter Tryz.func13, Tryz.ntmps13
 go_wp2_with (first | (go_at_call 32; (with_reducible refine (zf5 od oa os oc nx t0 t1 t2 t3 fa fs fc ra rs rc _ (HIS.out.below hp.below)).mono ?_); rintro e w1 ⟨bb, rfl, hbb, hb⟩; replace hp := hp.call hb; clear hb; cases bb) | go_skip | ((first | ((refine zf _ rfl ?_); refine lZ hp rfl zN ?_; clear hp; intro b w1 hp) | ((refine zi _ _ rfl ?_); refine lB hp rfl (za rfl) rfl ?_; clear hp; intro b w1 hp) | ((refine ze _ _ rfl ?_); refine lA hp rfl (za rfl) zy zn ?_) | ((refine zd _ _ _ rfl ?_); (first | refine sA hp rfl (za rfl) (za rfl) zy zn ?_ | refine sG hp rfl (za rfl) (za rfl) zy zn ?_); clear hp; intro w1 hp; simp only [spl, z0a, z0b] at hp)); simp only [zc, zb, z0b, z0a]))
 ·have HSS := z0j (hbb (by first | rfl | trivial))
  clear hbb
  go_wp2_with (first | (go_at_call 49; (with_reducible refine (zf7 id vw od oa os oc nx t0 t1 t2 t3 fa fs fc ra rs rc _ [] 0 _ HZ.out HSS.out HZ1.out _ (HIS.out.below hp.below) (zr.nil _ _) _ [] 0 HZR.out HR1.out).mono ?_); rintro e w1 ⟨⟨⟨odX, oaX, osX, ocX, nxX, t0X, t1X, t2X, t3X, faX, fsX, fcX⟩, raX, rsX, rcX⟩, amX, cmX, ROX, RX, rfl, hyX, hkX, hoX, hpX⟩; replace hp := hp.join hpX; have HYX := z0j hyX; have HKX := z0j hkX; clear hpX hyX hkX hoX; simp only [svL, hvL, z0f, z0e, z0i] at hp ⊢) | (go_at_call 48; (with_reducible refine (zaE _).mono ?_); rintro e w1 ⟨rfl, hb⟩; replace hp := hp.call hb; clear hb) | (go_at_call 39; (with_reducible refine (zfc odX oaX osX ocX nxX t0X t1X t2X t3X faX fsX fcX raX rsX rcX (HOD.out _ HYX.out) _).mono ?_); rintro e w1 ⟨rfl, hb⟩; replace hp := hp.call hb; clear hb) | go_skip | ((first | ((refine zf _ rfl ?_); refine lZ hp rfl zN ?_; clear hp; intro b w1 hp) | ((refine zi _ _ rfl ?_); refine lB hp rfl (za rfl) rfl ?_; clear hp; intro b w1 hp) | ((refine ze _ _ rfl ?_); refine lA hp rfl (za rfl) zy zn ?_) | ((refine zd _ _ _ rfl ?_); (first | refine sA hp rfl (za rfl) (za rfl) zy zn ?_ | refine sG hp rfl (za rfl) (za rfl) zy zn ?_); clear hp; intro w1 hp; simp only [spl, z0a, z0b] at hp)); simp only [zc, zb, z0b, z0a]))
  obtain ⟨b11, hb11⟩ := hp.id0
  obtain ⟨b7, hb7⟩ := hp.id1
  subst hb11 hb7
  apply zbp (R := fun bh y a c w' => Hid (y.Sm ⟨⟨od, oa, os, oc, nx, t0, t1, t2, t3, fa, fs, fc⟩, ra, rs, rc⟩) ∧ ∃ RO RY, Hid (zB 167 23 (.slice a 0 c) 0 (([] : List Rw).flatMap (zgh id vw)) RO) ∧ Hid (ZD RY fun w => y.Is w) ∧ Hp w.heap.size w w' (⟨bh, svL y, 67, 9⟩ :: ⟨b11, [.int .i64 odX, .slice oaX osX.length ocX, .int .i64 nxX, .int .i64 t0X, .int .i64 t1X, .int .i64 t2X, .int .i64 t3X, .slice faX fsX.length fcX, .slice raX rsX.length rcX], 67, 9⟩ :: ⟨b7, [.int .i64 od, .slice oa os.length oc, .int .i64 nx, .int .i64 t0, .int .i64 t1, .int .i64 t2, .int .i64 t3, .slice fa fs.length fc, .slice ra rs.length rc], 67, 9⟩ :: (RO ++ (RY ++ (ROX ++ RX)))))
  case h =>
   refine Zh [_] (zv.one hp.drew at1) [] (.take 0 (.take 1 (.take 2 (.take 3 (.take 4 (.take 5 (.two 6 (.take 7 (.take 8 (.take 9 (.one 10 (.one 11 (.one 12 .nil)))))) 10 (.one 6 (.take 7 (.take 8 (.take 9 (.one 11 (.one 12 .nil))))))))))))) (by kernel_rfl) (by kernel_rfl) (by kernel_rfl) (by kernel_rfl) (fun _ _ d _ _ h => by cases d <;> exact h) ?_
   replace hp := hp.drew
   repeat' (with_reducible refine zcp ?_); first | (with_reducible refine zbq ?_) | ((with_reducible refine zaR ?_); refine zu rfl ?_; (first | ((with_reducible refine zT _ rfl ?_); refine tM rfl ?_) | ((with_reducible refine zW _ _ rfl ?_); refine tA rfl (za rfl) zy zn ?_) | refine tG (fun w _ => (by go_simp; try rfl)) ?_); refine zcs ?_; try simp only [zc, zb, zj, zg, z0b, z0a, z0d, z0c, zl]) | ((first | refine zbv (ZB rfl (fun K hK => ?_)) | refine zbs (ZB rfl (fun K hK => ?_)) (ZB rfl (fun K hK => ?_))) <;> (go_wp2_with (first | (go_at_call 49; (with_reducible refine (zf7 id vw od oa os oc nx t0 t1 t2 t3 fa fs fc ra rs rc _ [] 0 _ HZ.out HSS.out HZ1.out _ (HIS.out.below hp.below) (zr.nil _ _) _ [] 0 HZR.out HR1.out).mono ?_); rintro e w1 ⟨y, am, cm, RO, RY, rfl, hy, hk, ho, hpY⟩; replace hp := hp.join hpY; have HYN := z0j hy; have HKN := z0j hk; have HON := z0j ho; clear hpY hy hk ho; simp only [z0f, z0e, z0i] at hp) | ((refine zf 67 rfl ?_); refine lZ hp rfl zN ?_; clear hp; intro bh w1 hp; simp only [zc, zb, z0b, z0a]) | go_skip | ((first | ((refine zf _ rfl ?_); refine lZ hp rfl zN ?_; clear hp; intro b w1 hp) | ((refine zd _ _ _ rfl ?_); (first | refine sA hp rfl (za rfl) (za rfl) zy zn ?_ | refine sG hp rfl (za rfl) (za rfl) zy zn ?_); clear hp; intro w1 hp; simp only [spl, z0a, z0b] at hp)); simp only [zc, zb, z0b, z0a])); (refine hK.out _ _ (.inr (zv.one hp zn)) ?_); clear hK K; try simp only [zc, zb, zj, zg, z0b, z0a, z0d, z0c, zl]))
   all_goals exact ⟨bh, y, am, cm, rfl, HYN, RO, RY, HON, HKN, hp.kp⟩
  clear hp
  rintro bY y amY cmY w1 ⟨HYY, ROY, RY, HOY, HKY, hp⟩
  obtain ⟨⟨odY, oaY, osY, ocY, nxY, t0Y, t1Y, t2Y, t3Y, faY, fsY, fcY⟩, raY, rsY, rcY⟩ := y
  simp only [svL, hvL, z0f, z0e] at hp ⊢
  go_wp2_with (first | go_skip | ((first | ((refine zf _ rfl ?_); refine lZ hp rfl zN ?_; clear hp; intro b w1 hp) | ((refine zi _ _ rfl ?_); refine lB hp rfl (za rfl) rfl ?_; clear hp; intro b w1 hp) | ((refine ze _ _ rfl ?_); refine lA hp rfl (za rfl) zy zn ?_) | ((refine zd _ _ _ rfl ?_); (first | refine sA hp rfl (za rfl) (za rfl) zy zn ?_ | refine sG hp rfl (za rfl) (za rfl) zy zn ?_); clear hp; intro w1 hp; simp only [spl, z0a, z0b] at hp)); simp only [zc, zb, z0b, z0a]))
  apply zbp (R := fun bh y a c w' => Hid (y.Sm ⟨⟨odY, oaY, osY, ocY, nxY, t0Y, t1Y, t2Y, t3Y, faY, fsY, fcY⟩, raY, rsY, rcY⟩) ∧ ∃ RO RZ, Hid (ZD RZ fun w => y.Is w) ∧ Hp w.heap.size w w' (⟨bh, svL y, 67, 9⟩ :: ⟨bY, [.int .i64 odY, .slice oaY osY.length ocY, .int .i64 nxY, .int .i64 t0Y, .int .i64 t1Y, .int .i64 t2Y, .int .i64 t3Y, .slice faY fsY.length fcY, .slice raY rsY.length rcY], 67, 9⟩ :: ⟨b11, [.int .i64 odX, .slice oaX osX.length ocX, .int .i64 nxX, .int .i64 t0X, .int .i64 t1X, .int .i64 t2X, .int .i64 t3X, .slice faX fsX.length fcX, .slice raX rsX.length rcX], 67, 9⟩ :: ⟨b7, [.int .i64 od, .slice oa os.length oc, .int .i64 nx, .int .i64 t0, .int .i64 t1, .int .i64 t2, .int .i64 t3, .slice fa fs.length fc, .slice ra rs.length rc], 67, 9⟩ :: (ROY ++ (RO ++ (RZ ++ (RY ++ (ROX ++ RX)))))))
  case h =>
   refine Zh [_] (zv.one hp.drew at0) [] (.take 0 (.take 1 (.take 2 (.take 3 (.take 4 (.take 5 (.two 6 (.take 7 (.take 8 (.take 9 (.one 10 (.one 11 (.one 12 .nil)))))) 10 (.one 6 (.take 7 (.take 8 (.take 9 (.one 11 (.one 12 .nil))))))))))))) (by kernel_rfl) (by kernel_rfl) (by kernel_rfl) (by kernel_rfl) (fun _ _ d _ _ h => by cases d <;> exact h) ?_
   replace hp := hp.drew
   repeat' (with_reducible refine zcp ?_); first | (with_reducible refine zbq ?_) | ((with_reducible refine zaR ?_); refine zu rfl ?_; (first | ((with_reducible refine zT _ rfl ?_); refine tM rfl ?_) | ((with_reducible refine zW _ _ rfl ?_); refine tA rfl (za rfl) zy zn ?_) | refine tG (fun w _ => (by go_simp; try rfl)) ?_); refine zcs ?_; try simp only [zc, zb, zj, zg, z0b, z0a, z0d, z0c, zl]) | ((first | refine zbv (ZB rfl (fun K hK => ?_)) | refine zbs (ZB rfl (fun K hK => ?_)) (ZB rfl (fun K hK => ?_))) <;> (go_wp2_with (first | (go_at_call 49; (with_reducible refine (zf7 id vw odY oaY osY ocY nxY t0Y t1Y t2Y t3Y faY fsY fcY raY rsY rcY _ [] 0 _ HZ.out (HSX.out _ HYY.out) HZ1.out _ (HKY.out.at hp (fun p hm => by simp [hm])) (zr.nil _ _) _ [] 0 HZR.out (HR3.out _ HYY.out)).mono ?_); rintro e w1 ⟨y, am, cm, RO, RY, rfl, hy, hk, ho, hpY⟩; replace hp := hp.join hpY; have HYN := z0j hy; have HKN := z0j hk; have HON := z0j ho; clear hpY hy hk ho; simp only [z0f, z0e, z0i] at hp) | ((refine zf 67 rfl ?_); refine lZ hp rfl zN ?_; clear hp; intro bh w1 hp; simp only [zc, zb, z0b, z0a]) | go_skip | ((first | ((refine zf _ rfl ?_); refine lZ hp rfl zN ?_; clear hp; intro b w1 hp) | ((refine zd _ _ _ rfl ?_); (first | refine sA hp rfl (za rfl) (za rfl) zy zn ?_ | refine sG hp rfl (za rfl) (za rfl) zy zn ?_); clear hp; intro w1 hp; simp only [spl, z0a, z0b] at hp)); simp only [zc, zb, z0b, z0a])); (refine hK.out _ _ (.inr (zv.one hp zn)) ?_); clear hK K; try simp only [zc, zb, zj, zg, z0b, z0a, z0d, z0c, zl]))
   all_goals exact ⟨bh, y, am, cm, rfl, HYN, RO, _, HKN, hp.kp⟩
  clear hp
  rintro bZ y amZ cmZ w1 ⟨HYZ, ROZ, RZ, HKZ, hp⟩
  obtain ⟨⟨odZ, oaZ, osZ, ocZ, nxZ, t0Z, t1Z, t2Z, t3Z, faZ, fsZ, fcZ⟩, raZ, rsZ, rcZ⟩ := y
  simp only [svL, hvL, z0f, z0e] at hp ⊢
  go_wp2_with (first | (with_reducible refine zJ _ _ 89 rfl ?_; fail) | ((refine zJ _ _ 89 rfl ?_); refine zR (K := [_, _, _, _]) (R := ROY) (M := ROZ ++ (RZ ++ (RY ++ (ROX ++ RX)))) hp _ _ _ rfl wy i0 _ 208 Tryz.underlying89 hi0 hz0 hz1 hz2 rfl (by decide) (za rfl) HOY.out amZ 0 cmZ (za rfl) [] rfl (zr.nil _ _) rfl (by decide) (by decide) ?_; clear hp; intro v' R' w1 hR' hp; obtain ⟨av, kv, rfl, hkv⟩ := hR'.kept; clear hR' hkv; simp only [z0f, z0e] at hp; simp only [zc, zb, z0b, z0a]) | (go_at_call 48; (with_reducible refine (zaE _).mono ?_); rintro e w1 ⟨rfl, hb⟩; replace hp := hp.call hb; clear hb) | (go_at_call 39; (with_reducible refine (zgx odX oaX osX ocX nxX t0X t1X t2X t3X faX fsX fcX raX rsX rcX odZ oaZ osZ ocZ nxZ t0Z t1Z t2Z t3Z faZ fsZ fcZ raZ rsZ rcZ (HSX.out _ HYX.out) (HXZ.out _ HYX.out _ HYY.out _ HYZ.out) _ (HKX.out.at hp (fun p hm => by simp [hm])) (HKZ.out.at hp (fun p hm => by simp [hm]))).mono ?_); rintro e w1 ⟨rfl, hb⟩; replace hp := hp.call hb; clear hb) | (go_at_call 50; (with_reducible refine (ziQ id vw [] _ _ 0 _ _ HZR.out HZ1.out _ (zr.nil _ _) (zr.nil _ _)).mono ?_); rintro e w1 ⟨rfl, hb⟩; replace hp := hp.call hb; clear hb) | go_skip | ((first | ((refine zf _ rfl ?_); refine lZ hp rfl zN ?_; clear hp; intro b w1 hp) | ((refine zi _ _ rfl ?_); refine lB hp rfl (za rfl) rfl ?_; clear hp; intro b w1 hp) | ((refine ze _ _ rfl ?_); refine lA hp rfl (za rfl) zy zn ?_) | ((refine zd _ _ _ rfl ?_); (first | refine sA hp rfl (za rfl) (za rfl) zy zn ?_ | refine sG hp rfl (za rfl) (za rfl) zy zn ?_); clear hp; intro w1 hp; simp only [spl, z0a, z0b] at hp)); simp only [zc, zb, z0b, z0a]))
  go_ret
  exact ⟨rfl, hp.below⟩
 ·go_wp2_with (first | go_skip | ((first | ((refine zf _ rfl ?_); refine lZ hp rfl zN ?_; clear hp; intro b w1 hp) | ((refine zi _ _ rfl ?_); refine lB hp rfl (za rfl) rfl ?_; clear hp; intro b w1 hp) | ((refine ze _ _ rfl ?_); refine lA hp rfl (za rfl) zy zn ?_) | ((refine zd _ _ _ rfl ?_); (first | refine sA hp rfl (za rfl) (za rfl) zy zn ?_ | refine sG hp rfl (za rfl) (za rfl) zy zn ?_); clear hp; intro w1 hp; simp only [spl, z0a, z0b] at hp)); simp only [zc, zb, z0b, z0a]))
  go_ret
  exact ⟨rfl, hp.below⟩
theorem ztE (id vw : Int) (od : Int) (oa : Option Addr) (os : List Ob) (oc : Nat) (nx t0 t1 t2 t3 : Int) (fa : Option Addr) (fs : List Bl) (fc : Nat) (ra : Option Addr) (rs : List Rw) (rc : Nat) (la : Option Addr) (l : List Env) (lc : Nat) (ai : Int) (hlc : l.length ≤ lc) (w : World) (hx0 : Sv.Is w ⟨⟨od, oa, os, oc, nx, t0, t1, t2, t3, fa, fs, fc⟩, ra, rs, rc⟩) (hla : zr w la (l.flatMap ZI)) : Calls Tryz.prog 13 #[.int .i64 id, .int .i64 vw, .agg #[.int .i64 od, .slice oa os.length oc, .int .i64 nx, .int .i64 t0, .int .i64 t1, .int .i64 t2, .int .i64 t3, .slice fa fs.length fc, .slice ra rs.length rc], .slice la l.length lc, .int .i64 ai] w fun e w' => e = .returned (.bool true) ∧ Below w.heap.size w w' := by
 have hp := Hp.start w
 have HIS := z0j hx0
 have HLA := z0j hla
 clear hx0 hla
 by_cases hbad : 300 < l.length ∨ ai < 0 ∨ (l.length : Int) < ai
 ·have hway : (decide ((300 : Int) < (l.length : Int)) = true) ∨ (decide ((300 : Int) < (l.length : Int)) = false ∧ decide (ai < 0) = true) ∨ (decide ((300 : Int) < (l.length : Int)) = false ∧ decide (ai < 0) = false ∧ decide ((l.length : Int) < ai) = true) := by
   simp only [decide_eq_true_eq, decide_eq_false_iff_not]; omega
  clear hbad
  rcases hway with e1 | ⟨e1, e2⟩ | ⟨e1, e2, e3⟩
  all_goals
   go_enter Tryz.func13, Tryz.ntmps13
   go_wp2_with (first | (go_at_call 32; (with_reducible refine (zf5 od oa os oc nx t0 t1 t2 t3 fa fs fc ra rs rc _ (HIS.out.below hp.below)).mono ?_); rintro e w1 ⟨bb, rfl, hbb, hb⟩; replace hp := hp.call hb; clear hb; cases bb) | go_skip | ((first | ((refine zf _ rfl ?_); refine lZ hp rfl zN ?_; clear hp; intro b w1 hp) | ((refine zi _ _ rfl ?_); refine lB hp rfl (za rfl) rfl ?_; clear hp; intro b w1 hp) | ((refine ze _ _ rfl ?_); refine lA hp rfl (za rfl) zy zn ?_) | ((refine zd _ _ _ rfl ?_); (first | refine sA hp rfl (za rfl) (za rfl) zy zn ?_ | refine sG hp rfl (za rfl) (za rfl) zy zn ?_); clear hp; intro w1 hp; simp only [spl, z0a, z0b] at hp)); simp only [zc, zb, z0b, z0a]))
   all_goals
    go_wp2_with (first | go_skip | ((first | ((refine zf _ rfl ?_); refine lZ hp rfl zN ?_; clear hp; intro b w1 hp) | ((refine zi _ _ rfl ?_); refine lB hp rfl (za rfl) rfl ?_; clear hp; intro b w1 hp) | ((refine ze _ _ rfl ?_); refine lA hp rfl (za rfl) zy zn ?_) | ((refine zd _ _ _ rfl ?_); (first | refine sA hp rfl (za rfl) (za rfl) zy zn ?_ | refine sG hp rfl (za rfl) (za rfl) zy zn ?_); clear hp; intro w1 hp; simp only [spl, z0a, z0b] at hp)); simp only [zc, zb, z0b, z0a]))
    go_ret
    exact ⟨rfl, hp.below⟩
 ·have e1 : decide ((300 : Int) < (l.length : Int)) = false := by simp; omega
  have e2 : decide (ai < 0) = false := by simp; omega
  have e3 : decide ((l.length : Int) < ai) = false := by simp; omega
  obtain ⟨k, hk⟩ : ∃ k : Nat, ai = k := ⟨ai.toNat, by omega⟩
  have hkl : k ≤ l.length := by omega
  have hl3 : l.length ≤ 300 := by omega
  subst hk
  clear hbad
  have HL : Hid (l.length ≤ 100000) := z0j (by omega)
  by_cases hyes : stB ⟨⟨od, oa, os, oc, nx, t0, t1, t2, t3, fa, fs, fc⟩, ra, rs, rc⟩ = true ∧ ∀ e ∈ l, zbn e = true
  case neg =>
   have HR1 : Hid (zaO ⟨⟨od, oa, os, oc, nx, t0, t1, t2, t3, fa, fs, fc⟩, ra, rs, rc⟩ l = (ZL, [])) := z0j (zgX hyes)
   clear hyes
   go_enter Tryz.func13, Tryz.ntmps13
   go_wp2_with (first | (go_at_call 32; (with_reducible refine (zf5 od oa os oc nx t0 t1 t2 t3 fa fs fc ra rs rc _ (HIS.out.below hp.below)).mono ?_); rintro e w1 ⟨bb, rfl, hbb, hb⟩; replace hp := hp.call hb; clear hb; cases bb) | go_skip | ((first | ((refine zf _ rfl ?_); refine lZ hp rfl zN ?_; clear hp; intro b w1 hp) | ((refine zi _ _ rfl ?_); refine lB hp rfl (za rfl) rfl ?_; clear hp; intro b w1 hp) | ((refine ze _ _ rfl ?_); refine lA hp rfl (za rfl) zy zn ?_) | ((refine zd _ _ _ rfl ?_); (first | refine sA hp rfl (za rfl) (za rfl) zy zn ?_ | refine sG hp rfl (za rfl) (za rfl) zy zn ?_); clear hp; intro w1 hp; simp only [spl, z0a, z0b] at hp)); simp only [zc, zb, z0b, z0a]))
   ·have HSS := z0j (hbb (by first | rfl | trivial))
    clear hbb
    go_wp2_with (first | (go_at_call 49; (with_reducible refine (zcT id vw od oa os oc nx t0 t1 t2 t3 fa fs fc ra rs rc _ l _ HSS.out HL.out _ (HIS.out.below hp.below) (HLA.out.below hp.below) _ HR1.out).mono ?_); rintro e w1 ⟨⟨⟨odX, oaX, osX, ocX, nxX, t0X, t1X, t2X, t3X, faX, fsX, fcX⟩, raX, rsX, rcX⟩, vX, ROX, RX, rfl, hyX, hkX, hoX, hpX⟩; obtain ⟨amX, cmX, rfl, hmX⟩ := hoX.kept; replace hp := hp.join hpX; have HYX := z0j hyX; have HKX := z0j hkX; have HMX := z0j hmX; clear hpX hyX hkX hoX hmX; simp only [svL, hvL, z0f, z0e, z0i] at hp ⊢) | (go_at_call 48; (with_reducible refine (zaE _).mono ?_); rintro e w1 ⟨rfl, hb⟩; replace hp := hp.call hb; clear hb) | (go_at_call 39; (with_reducible refine (ziu odX oaX osX ocX nxX t0X t1X t2X t3X faX fsX fcX raX rsX rcX HYX.out _ (HKX.out.at hp (fun p hm => by simp [hm]))).mono ?_); rintro e w1 ⟨rfl, hb⟩; replace hp := hp.call hb; clear hb) | go_skip | ((first | ((refine zf _ rfl ?_); refine lZ hp rfl zN ?_; clear hp; intro b w1 hp) | ((refine zi _ _ rfl ?_); refine lB hp rfl (za rfl) rfl ?_; clear hp; intro b w1 hp) | ((refine ze _ _ rfl ?_); refine lA hp rfl (za rfl) zy zn ?_) | ((refine zd _ _ _ rfl ?_); (first | refine sA hp rfl (za rfl) (za rfl) zy zn ?_ | refine sG hp rfl (za rfl) (za rfl) zy zn ?_); clear hp; intro w1 hp; simp only [spl, z0a, z0b] at hp)); simp only [zc, zb, z0b, z0a]))
    go_ret
    exact ⟨rfl, hp.below⟩
   ·go_wp2_with (first | go_skip | ((first | ((refine zf _ rfl ?_); refine lZ hp rfl zN ?_; clear hp; intro b w1 hp) | ((refine zi _ _ rfl ?_); refine lB hp rfl (za rfl) rfl ?_; clear hp; intro b w1 hp) | ((refine ze _ _ rfl ?_); refine lA hp rfl (za rfl) zy zn ?_) | ((refine zd _ _ _ rfl ?_); (first | refine sA hp rfl (za rfl) (za rfl) zy zn ?_ | refine sG hp rfl (za rfl) (za rfl) zy zn ?_); clear hp; intro w1 hp; simp only [spl, z0a, z0b] at hp)); simp only [zc, zb, z0b, z0a]))
    go_ret
    exact ⟨rfl, hp.below⟩
  have hst := zdh hyes.1
  have hm1 : ∀ e ∈ l.take k, zbn e = true := fun e he => hyes.2 e (List.mem_of_mem_take he)
  have hm2 : ∀ e ∈ l.drop k, zbn e = true := fun e he => hyes.2 e (List.mem_of_mem_drop he)
  have hrr := zbC hst hyes.2
  have hr2 := zbC hst hm1
  have HR1 : Hid (zaO ⟨⟨od, oa, os, oc, nx, t0, t1, t2, t3, fa, fs, fc⟩, ra, rs, rc⟩ l = (za2 ⟨⟨od, oa, os, oc, nx, t0, t1, t2, t3, fa, fs, fc⟩, ra, rs, rc⟩ l, zbu ⟨⟨od, oa, os, oc, nx, t0, t1, t2, t3, fa, fs, fc⟩, ra, rs, rc⟩ l)) := z0j (zby hst hyes.2)
  have HSX : Hid (∀ y : Sv, y.Sm (za2 ⟨⟨od, oa, os, oc, nx, t0, t1, t2, t3, fa, fs, fc⟩, ra, rs, rc⟩ l) → y.Small) := z0j (fun y h => hrr.small.sm h.symm)
  have HOD : Hid (∀ y : Sv, y.Sm (za2 ⟨⟨od, oa, os, oc, nx, t0, t1, t2, t3, fa, fs, fc⟩, ra, rs, rc⟩ l) → y.hv.od ≠ 0) := z0j (fun y h => zjB h hrr)
  obtain ⟨s2, hs2⟩ : ∃ s, za2 ⟨⟨od, oa, os, oc, nx, t0, t1, t2, t3, fa, fs, fc⟩, ra, rs, rc⟩ (l.take k) = s := ⟨_, rfl⟩
  obtain ⟨m2, hm2'⟩ : ∃ m, zbu ⟨⟨od, oa, os, oc, nx, t0, t1, t2, t3, fa, fs, fc⟩, ra, rs, rc⟩ (l.take k) = m := ⟨_, rfl⟩
  obtain ⟨m3, hm3'⟩ : ∃ m, zbu s2 (l.drop k) = m := ⟨_, rfl⟩
  obtain ⟨n2, hn2⟩ : ∃ n, m2.length = n := ⟨_, rfl⟩
  obtain ⟨n3, hn3⟩ : ∃ n, m3.length = n := ⟨_, rfl⟩
  have hout : zbu ⟨⟨od, oa, os, oc, nx, t0, t1, t2, t3, fa, fs, fc⟩, ra, rs, rc⟩ l = m2 ++ m3 := by
   conv => lhs; rw [← List.take_append_drop k l]
   rw [zgM, hs2, hm2', hm3']
  have hrun : za2 ⟨⟨od, oa, os, oc, nx, t0, t1, t2, t3, fa, fs, fc⟩, ra, rs, rc⟩ l = za2 s2 (l.drop k) := by
   conv => lhs; rw [← List.take_append_drop k l]
   rw [zkg, hs2]
  have hol : (zbu ⟨⟨od, oa, os, oc, nx, t0, t1, t2, t3, fa, fs, fc⟩, ra, rs, rc⟩ l).length ≤ 300 := by have := zeZ l ⟨⟨od, oa, os, oc, nx, t0, t1, t2, t3, fa, fs, fc⟩, ra, rs, rc⟩; omega
  have h23 : n2 + n3 ≤ 300 := by rw [hout, List.length_append] at hol; omega
  rw [hs2] at hr2
  have HN2 := z0j hn2
  have HN3 := z0j hn3
  have HR2 : Hid (zaO ⟨⟨od, oa, os, oc, nx, t0, t1, t2, t3, fa, fs, fc⟩, ra, rs, rc⟩ (l.take k) = (s2, m2)) := z0j (by rw [zby hst hm1, hs2, hm2'])
  have HSY : Hid (∀ y : Sv, y.Sm s2 → y.Small) := z0j (fun y h => hr2.small.sm h.symm)
  have HR3 : Hid (∀ y : Sv, y.Sm s2 → zaO y (l.drop k) = (za2 y (l.drop k), m3)) := z0j (fun y h => by
   rw [zby (zdh ((zea h).trans (zd2 hr2))) hm2, zj4 h, hm3'])
  have HXZ : Hid (∀ x : Sv, x.Sm (za2 ⟨⟨od, oa, os, oc, nx, t0, t1, t2, t3, fa, fs, fc⟩, ra, rs, rc⟩ l) → ∀ y : Sv, y.Sm s2 → ∀ z : Sv, z.Sm (za2 y (l.drop k)) → x.Sm z) := z0j (fun x h1 y h2 z h3 => by
   rw [hrun] at h1
   exact h1.trans (h3.trans (zke h2)).symm)
  have HOL : Hid ((zbu ⟨⟨od, oa, os, oc, nx, t0, t1, t2, t3, fa, fs, fc⟩, ra, rs, rc⟩ l).length ≤ 100000) := z0j (by omega)
  have HKW : Hid (∀ (w1 : World) {av : Option Addr}, zr w1 av (m2.flatMap (zgh id vw) ++ m3.flatMap (zgh id vw)) → zr w1 av ((zbu ⟨⟨od, oa, os, oc, nx, t0, t1, t2, t3, fa, fs, fc⟩, ra, rs, rc⟩ l).flatMap (zgh id vw))) := z0j (fun w1 av h => by rw [hout, List.flatMap_append]; exact h)
  have HNS : Hid (n2 + n3 = (zbu ⟨⟨od, oa, os, oc, nx, t0, t1, t2, t3, fa, fs, fc⟩, ra, rs, rc⟩ l).length) := z0j (by rw [hout, List.length_append, hn2, hn3])
  have HFL : Hid ((m3.flatMap (zgh id vw)).length = n3 * 23) := z0j (by rw [Ze (zgh id vw) 23 (ze2 id vw), hn3])
  have HF1 := z0j (zoX id vw m3)
  have HM1 : Hid (n2 + n3 ≤ maxLen) := z0j (by unfold maxLen; omega)
  have HM2 : Hid ((n2 + n3) * 208 ≤ 140737488355328) := z0j (by omega)
  have HTK : Hid ((l.take k).length = k) := z0j (by rw [List.length_take]; omega)
  have HDK : Hid ((l.drop k).length = l.length - k) := z0j (by rw [List.length_drop])
  have HKL : Hid (k ≤ 100000) := z0j (by omega)
  have HDL : Hid (l.length - k ≤ 100000) := z0j (by omega)
  obtain ⟨i0, hi0, hz0, hz1, hz2⟩ := info_parts zjA
  have f1 : (0 : Int) ≤ (k : Int) := by omega
  have f2 : (k : Int) ≤ (lc : Int) := by omega
  have f3 : (k : Int) ≤ (l.length : Int) := by omega
  have HL1 := z0j (zmJ HLA.out k)
  rcases Nat.eq_zero_or_pos l.length with hz | hpos
  ·obtain rfl : l = [] := List.eq_nil_of_length_eq_zero hz
   obtain rfl : k = 0 := by simpa using hkl
   exact zmT id vw od oa os oc nx t0 t1 t2 t3 fa fs fc ra rs rc la lc hst w HIS.out
  obtain ⟨bq, off, rfl, _⟩ := HLA.out.elems 11 Z8 hpos (by decide)
  have hck : (¬ lc = k ∧ Hid (zr w (some ⟨bq, off + k * 11, none⟩) ((l.drop k).flatMap ZI))) ∨ (k = lc ∧ Hid (∀ w' a, zr w' a ((l.drop k).flatMap ZI)) ∧ Hid ((l.drop k).length = 0) ∧ Hid (0 ≤ 100000)) := by
   by_cases h : lc = k
   ·refine .inr ⟨h.symm, z0j (fun w' a => ?_), z0j (by rw [List.length_drop]; omega), z0j (by decide)⟩
    rw [List.drop_eq_nil_of_le (by omega)]
    exact zr.nil _ _
   ·refine .inl ⟨h, z0j ?_⟩
    have := zop HLA.out k (l.length - k)
    rw [List.take_of_length_le (by rw [List.length_drop]; omega)] at this
    exact this
  clear hyes hst hm1 hm2 hrr hr2 hs2 hm2' hm3' hn2 hn3 hout hrun hol h23 hl3 hpos
  rcases hck with ⟨f4, HL2⟩ | ⟨rfl, HL2b, HDK0, HDL0⟩
  all_goals
   go_enter Tryz.func13, Tryz.ntmps13
   go_wp2_with (first | (go_at_call 32; (with_reducible refine (zf5 od oa os oc nx t0 t1 t2 t3 fa fs fc ra rs rc _ (HIS.out.below hp.below)).mono ?_); rintro e w1 ⟨bb, rfl, hbb, hb⟩; replace hp := hp.call hb; clear hb; cases bb) | go_skip | ((first | ((refine zf _ rfl ?_); refine lZ hp rfl zN ?_; clear hp; intro b w1 hp) | ((refine zi _ _ rfl ?_); refine lB hp rfl (za rfl) rfl ?_; clear hp; intro b w1 hp) | ((refine ze _ _ rfl ?_); refine lA hp rfl (za rfl) zy zn ?_) | ((refine zd _ _ _ rfl ?_); (first | refine sA hp rfl (za rfl) (za rfl) zy zn ?_ | refine sG hp rfl (za rfl) (za rfl) zy zn ?_); clear hp; intro w1 hp; simp only [spl, z0a, z0b] at hp)); simp only [zc, zb, z0b, z0a]))
   ·have HSS := z0j (hbb (by first | rfl | trivial))
    clear hbb
    go_wp2_with (first | (go_at_call 49; (with_reducible refine (zcT id vw od oa os oc nx t0 t1 t2 t3 fa fs fc ra rs rc _ l _ HSS.out HL.out _ (HIS.out.below hp.below) (HLA.out.below hp.below) _ HR1.out).mono ?_); rintro e w1 ⟨⟨⟨odX, oaX, osX, ocX, nxX, t0X, t1X, t2X, t3X, faX, fsX, fcX⟩, raX, rsX, rcX⟩, vX, ROX, RX, rfl, hyX, hkX, hoX, hpX⟩; obtain ⟨amX, cmX, rfl, hmX⟩ := hoX.kept; replace hp := hp.join hpX; have HYX := z0j hyX; have HKX := z0j hkX; have HMX := z0j hmX; clear hpX hyX hkX hoX hmX; simp only [svL, hvL, z0f, z0e, z0i] at hp ⊢) | (go_at_call 48; (with_reducible refine (zaE _).mono ?_); rintro e w1 ⟨rfl, hb⟩; replace hp := hp.call hb; clear hb) | (go_at_call 39; (with_reducible refine (zfc odX oaX osX ocX nxX t0X t1X t2X t3X faX fsX fcX raX rsX rcX (HOD.out _ HYX.out) _).mono ?_); rintro e w1 ⟨rfl, hb⟩; replace hp := hp.call hb; clear hb) | go_skip | ((first | ((refine zf _ rfl ?_); refine lZ hp rfl zN ?_; clear hp; intro b w1 hp) | ((refine zi _ _ rfl ?_); refine lB hp rfl (za rfl) rfl ?_; clear hp; intro b w1 hp) | ((refine ze _ _ rfl ?_); refine lA hp rfl (za rfl) zy zn ?_) | ((refine zd _ _ _ rfl ?_); (first | refine sA hp rfl (za rfl) (za rfl) zy zn ?_ | refine sG hp rfl (za rfl) (za rfl) zy zn ?_); clear hp; intro w1 hp; simp only [spl, z0a, z0b] at hp)); simp only [zc, zb, z0b, z0a]))
    obtain ⟨b11, hb11⟩ := hp.id0
    obtain ⟨b7, hb7⟩ := hp.id1
    subst hb11 hb7
    apply zbp (R := fun bh y a c w' => Hid (y.Sm s2) ∧ ∃ RO RY, Hid (zB 167 23 (.slice a n2 c) n2 (m2.flatMap (zgh id vw)) RO) ∧ Hid (ZD RY fun w => y.Is w) ∧ Hp w.heap.size w w' (⟨bh, svL y, 67, 9⟩ :: ⟨b11, [.int .i64 odX, .slice oaX osX.length ocX, .int .i64 nxX, .int .i64 t0X, .int .i64 t1X, .int .i64 t2X, .int .i64 t3X, .slice faX fsX.length fcX, .slice raX rsX.length rcX], 67, 9⟩ :: ⟨b7, [.int .i64 od, .slice oa os.length oc, .int .i64 nx, .int .i64 t0, .int .i64 t1, .int .i64 t2, .int .i64 t3, .slice fa fs.length fc, .slice ra rs.length rc], 67, 9⟩ :: (RO ++ (RY ++ (ROX ++ RX)))))
    case h =>
     refine Zh [_] (zv.one hp.drew at1) [] (.take 0 (.take 1 (.take 2 (.take 3 (.take 4 (.take 5 (.two 6 (.take 7 (.take 8 (.take 9 (.one 10 (.one 11 (.one 12 .nil)))))) 10 (.one 6 (.take 7 (.take 8 (.take 9 (.one 11 (.one 12 .nil))))))))))))) (by kernel_rfl) (by kernel_rfl) (by kernel_rfl) (by kernel_rfl) (fun _ _ d _ _ h => by cases d <;> exact h) ?_
     replace hp := hp.drew
     repeat' (with_reducible refine zcp ?_); first | (with_reducible refine zbq ?_) | ((with_reducible refine zaR ?_); refine zu rfl ?_; (first | ((with_reducible refine zT _ rfl ?_); refine tM rfl ?_) | ((with_reducible refine zW _ _ rfl ?_); refine tA rfl (za rfl) zy zn ?_) | refine tG (fun w _ => (by go_simp; try rfl)) ?_); refine zcs ?_; try simp only [zc, zb, zj, zg, z0b, z0a, z0d, z0c, zl]) | ((first | refine zbv (ZB rfl (fun K hK => ?_)) | refine zbs (ZB rfl (fun K hK => ?_)) (ZB rfl (fun K hK => ?_))) <;> (go_wp2_with (first | (go_at_call 49; (with_reducible refine (zf7 id vw od oa os oc nx t0 t1 t2 t3 fa fs fc ra rs rc _ (l.take k) k _ HTK.out HSS.out HKL.out _ (HIS.out.below hp.below) (HL1.out.below hp.below) s2 m2 n2 HN2.out HR2.out).mono ?_); rintro e w1 ⟨y, am, cm, RO, RY, rfl, hy, hk, ho, hpY⟩; replace hp := hp.join hpY; have HYN := z0j hy; have HKN := z0j hk; have HON := z0j ho; clear hpY hy hk ho; simp only [z0f, z0e, z0i] at hp) | ((refine zf 67 rfl ?_); refine lZ hp rfl zN ?_; clear hp; intro bh w1 hp; simp only [zc, zb, z0b, z0a]) | go_skip | ((first | ((refine zf _ rfl ?_); refine lZ hp rfl zN ?_; clear hp; intro b w1 hp) | ((refine zd _ _ _ rfl ?_); (first | refine sA hp rfl (za rfl) (za rfl) zy zn ?_ | refine sG hp rfl (za rfl) (za rfl) zy zn ?_); clear hp; intro w1 hp; simp only [spl, z0a, z0b] at hp)); simp only [zc, zb, z0b, z0a])); (refine hK.out _ _ (.inr (zv.one hp zn)) ?_); clear hK K; try simp only [zc, zb, zj, zg, z0b, z0a, z0d, z0c, zl]))
     all_goals exact ⟨bh, y, am, cm, rfl, HYN, RO, RY, HON, HKN, hp.kp⟩
    clear hp
    rintro bY y amY cmY w1 ⟨HYY, ROY, RY, HOY, HKY, hp⟩
    obtain ⟨⟨odY, oaY, osY, ocY, nxY, t0Y, t1Y, t2Y, t3Y, faY, fsY, fcY⟩, raY, rsY, rcY⟩ := y
    simp only [svL, hvL, z0f, z0e] at hp ⊢
    go_wp2_with (first | go_skip | ((first | ((refine zf _ rfl ?_); refine lZ hp rfl zN ?_; clear hp; intro b w1 hp) | ((refine zi _ _ rfl ?_); refine lB hp rfl (za rfl) rfl ?_; clear hp; intro b w1 hp) | ((refine ze _ _ rfl ?_); refine lA hp rfl (za rfl) zy zn ?_) | ((refine zd _ _ _ rfl ?_); (first | refine sA hp rfl (za rfl) (za rfl) zy zn ?_ | refine sG hp rfl (za rfl) (za rfl) zy zn ?_); clear hp; intro w1 hp; simp only [spl, z0a, z0b] at hp)); simp only [zc, zb, z0b, z0a]))
    apply zbp (R := fun bh y a c w' => Hid (y.Sm (za2 ⟨⟨odY, oaY, osY, ocY, nxY, t0Y, t1Y, t2Y, t3Y, faY, fsY, fcY⟩, raY, rsY, rcY⟩ (l.drop k))) ∧ ∃ RO RZ, Hid (zB 167 23 (.slice a n3 c) n3 (m3.flatMap (zgh id vw)) RO) ∧ Hid (ZD RZ fun w => y.Is w) ∧ Hp w.heap.size w w' (⟨bh, svL y, 67, 9⟩ :: ⟨bY, [.int .i64 odY, .slice oaY osY.length ocY, .int .i64 nxY, .int .i64 t0Y, .int .i64 t1Y, .int .i64 t2Y, .int .i64 t3Y, .slice faY fsY.length fcY, .slice raY rsY.length rcY], 67, 9⟩ :: ⟨b11, [.int .i64 odX, .slice oaX osX.length ocX, .int .i64 nxX, .int .i64 t0X, .int .i64 t1X, .int .i64 t2X, .int .i64 t3X, .slice faX fsX.length fcX, .slice raX rsX.length rcX], 67, 9⟩ :: ⟨b7, [.int .i64 od, .slice oa os.length oc, .int .i64 nx, .int .i64 t0, .int .i64 t1, .int .i64 t2, .int .i64 t3, .slice fa fs.length fc, .slice ra rs.length rc], 67, 9⟩ :: (ROY ++ (RO ++ (RZ ++ (RY ++ (ROX ++ RX)))))))
    case h =>
     refine Zh [_] (zv.one hp.drew at0) [] (.take 0 (.take 1 (.take 2 (.take 3 (.take 4 (.take 5 (.two 6 (.take 7 (.take 8 (.take 9 (.one 10 (.one 11 (.one 12 .nil)))))) 10 (.one 6 (.take 7 (.take 8 (.take 9 (.one 11 (.one 12 .nil))))))))))))) (by kernel_rfl) (by kernel_rfl) (by kernel_rfl) (by kernel_rfl) (fun _ _ d _ _ h => by cases d <;> exact h) ?_
     replace hp := hp.drew
     repeat' (with_reducible refine zcp ?_); first | (with_reducible refine zbq ?_) | ((with_reducible refine zaR ?_); refine zu rfl ?_; (first | ((with_reducible refine zT _ rfl ?_); refine tM rfl ?_) | ((with_reducible refine zW _ _ rfl ?_); refine tA rfl (za rfl) zy zn ?_) | refine tG (fun w _ => (by go_simp; try rfl)) ?_); refine zcs ?_; try simp only [zc, zb, zj, zg, z0b, z0a, z0d, z0c, zl]) | ((first | refine zbv (ZB rfl (fun K hK => ?_)) | refine zbs (ZB rfl (fun K hK => ?_)) (ZB rfl (fun K hK => ?_))) <;> (go_wp2_with (first | (go_at_call 49; (first | (with_reducible refine (zf7 id vw odY oaY osY ocY nxY t0Y t1Y t2Y t3Y faY fsY fcY raY rsY rcY _ (l.drop k) _ _ HDK.out (HSY.out _ HYY.out) HDL.out _ (HKY.out.at hp (fun p hm => by simp [hm])) (HL2.out.below hp.below) _ m3 n3 HN3.out (HR3.out _ HYY.out)).mono ?_) | (with_reducible refine (zf7 id vw odY oaY osY ocY nxY t0Y t1Y t2Y t3Y faY fsY fcY raY rsY rcY _ (l.drop k) _ _ HDK0.out (HSY.out _ HYY.out) HDL0.out _ (HKY.out.at hp (fun p hm => by simp [hm])) (HL2b.out _ _) _ m3 n3 HN3.out (HR3.out _ HYY.out)).mono ?_)); rintro e w1 ⟨y, am, cm, RO, RY, rfl, hy, hk, ho, hpY⟩; replace hp := hp.join hpY; have HYN := z0j hy; have HKN := z0j hk; have HON := z0j ho; clear hpY hy hk ho; simp only [z0f, z0e, z0i] at hp) | ((refine zf 67 rfl ?_); refine lZ hp rfl zN ?_; clear hp; intro bh w1 hp; simp only [zc, zb, z0b, z0a]) | go_skip | ((first | ((refine zf _ rfl ?_); refine lZ hp rfl zN ?_; clear hp; intro b w1 hp) | ((refine zd _ _ _ rfl ?_); (first | refine sA hp rfl (za rfl) (za rfl) zy zn ?_ | refine sG hp rfl (za rfl) (za rfl) zy zn ?_); clear hp; intro w1 hp; simp only [spl, z0a, z0b] at hp)); simp only [zc, zb, z0b, z0a])); (refine hK.out _ _ (.inr (zv.one hp zn)) ?_); clear hK K; try simp only [zc, zb, zj, zg, z0b, z0a, z0d, z0c, zl]))
     all_goals exact ⟨bh, y, am, cm, rfl, HYN, RO, _, HON, HKN, hp.kp⟩
    clear hp
    rintro bZ y amZ cmZ w1 ⟨HYZ, ROZ, RZ, HOZ, HKZ, hp⟩
    obtain ⟨⟨odZ, oaZ, osZ, ocZ, nxZ, t0Z, t1Z, t2Z, t3Z, faZ, fsZ, fcZ⟩, raZ, rsZ, rcZ⟩ := y
    obtain ⟨amZ2, cmZ2, hvz, hmz⟩ := HOZ.out.kept
    injection hvz with e4 _ e5
    subst e4 e5
    have HMZ := z0j hmz
    clear hmz
    simp only [svL, hvL, z0f, z0e] at hp ⊢
    go_wp2_with (first | (with_reducible refine zJ _ _ 89 rfl ?_; fail) | ((refine zJ _ _ 89 rfl ?_); refine zR (K := [_, _, _, _]) (R := ROY) (M := ROZ ++ (RZ ++ (RY ++ (ROX ++ RX)))) hp _ _ _ rfl wy i0 _ 208 Tryz.underlying89 hi0 hz0 hz1 hz2 rfl (by decide) (za rfl) HOY.out amZ n3 cmZ (za rfl) _ HFL.out (HMZ.out.at hp (fun p hm => by simp [hm])) HF1.out HM1.out HM2.out ?_; clear hp; intro v' R' w1 hR' hp; obtain ⟨av, kv, rfl, hkv⟩ := hR'.kept; have HKV := z0j hkv; clear hR' hkv; simp only [z0f, z0e] at hp; simp only [zc, zb, z0b, z0a]) | go_skip | ((first | ((refine zf _ rfl ?_); refine lZ hp rfl zN ?_; clear hp; intro b w1 hp) | ((refine zi _ _ rfl ?_); refine lB hp rfl (za rfl) rfl ?_; clear hp; intro b w1 hp) | ((refine ze _ _ rfl ?_); refine lA hp rfl (za rfl) zy zn ?_) | ((refine zd _ _ _ rfl ?_); (first | refine sA hp rfl (za rfl) (za rfl) zy zn ?_ | refine sG hp rfl (za rfl) (za rfl) zy zn ?_); clear hp; intro w1 hp; simp only [spl, z0a, z0b] at hp)); simp only [zc, zb, z0b, z0a]))
    rw [HNS.out]
    go_wp2_with (first | (go_at_call 48; (with_reducible refine (zaE _).mono ?_); rintro e w1 ⟨rfl, hb⟩; replace hp := hp.call hb; clear hb) | (go_at_call 39; (with_reducible refine (zgx odX oaX osX ocX nxX t0X t1X t2X t3X faX fsX fcX raX rsX rcX odZ oaZ osZ ocZ nxZ t0Z t1Z t2Z t3Z faZ fsZ fcZ raZ rsZ rcZ (HSX.out _ HYX.out) (HXZ.out _ HYX.out _ HYY.out _ HYZ.out) _ (HKX.out.at hp (fun p hm => by simp [hm])) (HKZ.out.at hp (fun p hm => by simp [hm]))).mono ?_); rintro e w1 ⟨rfl, hb⟩; replace hp := hp.call hb; clear hb) | (go_at_call 50; (with_reducible refine (ziQ id vw (zbu ⟨⟨od, oa, os, oc, nx, t0, t1, t2, t3, fa, fs, fc⟩, ra, rs, rc⟩ l) _ _ _ _ _ rfl HOL.out _ (HMX.out.at hp (fun p hm => by simp [hm])) (HKW.out _ (HKV.out.at hp (fun p hm => by simp [hm])))).mono ?_); rintro e w1 ⟨rfl, hb⟩; replace hp := hp.call hb; clear hb) | go_skip | ((first | ((refine zf _ rfl ?_); refine lZ hp rfl zN ?_; clear hp; intro b w1 hp) | ((refine zi _ _ rfl ?_); refine lB hp rfl (za rfl) rfl ?_; clear hp; intro b w1 hp) | ((refine ze _ _ rfl ?_); refine lA hp rfl (za rfl) zy zn ?_) | ((refine zd _ _ _ rfl ?_); (first | refine sA hp rfl (za rfl) (za rfl) zy zn ?_ | refine sG hp rfl (za rfl) (za rfl) zy zn ?_); clear hp; intro w1 hp; simp only [spl, z0a, z0b] at hp)); simp only [zc, zb, z0b, z0a]))
    go_ret
    exact ⟨rfl, hp.below⟩
   ·go_wp2_with (first | go_skip | ((first | ((refine zf _ rfl ?_); refine lZ hp rfl zN ?_; clear hp; intro b w1 hp) | ((refine zi _ _ rfl ?_); refine lB hp rfl (za rfl) rfl ?_; clear hp; intro b w1 hp) | ((refine ze _ _ rfl ?_); refine lA hp rfl (za rfl) zy zn ?_) | ((refine zd _ _ _ rfl ?_); (first | refine sA hp rfl (za rfl) (za rfl) zy zn ?_ | refine sG hp rfl (za rfl) (za rfl) zy zn ?_); clear hp; intro w1 hp; simp only [spl, z0a, z0b] at hp)); simp only [zc, zb, z0b, z0a]))
    go_ret
    exact ⟨rfl, hp.below⟩
theorem zsW (id vw : Int) (x : Sv) (la : Option Addr) (l : List Env) (lc : Nat) (ai : Int) (hlc : l.length ≤ lc) (w : World) (hx0 : x.Is w) (hla : zr w la (l.flatMap ZI)) : Calls Tryz.prog 13 #[.int .i64 id, .int .i64 vw, .agg (svL x).toArray, .slice la l.length lc, .int .i64 ai] w fun e w' => e = .returned (.bool true) ∧ Below w.heap.size w w' := by
 obtain ⟨⟨od, oa, os, oc, nx, t0, t1, t2, t3, fa, fs, fc⟩, ra, rs, rc⟩ := x
 exact ztE id vw od oa os oc nx t0 t1 t2 t3 fa fs fc ra rs rc la l lc ai hlc w hx0 hla
end Go.Proofs.YtjcbpfbifbfkcaaGreat
