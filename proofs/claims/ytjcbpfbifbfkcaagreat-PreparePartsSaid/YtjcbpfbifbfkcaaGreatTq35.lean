import Derived.Test.YtjcbpfbifbfkcaaGreatTq34
set_option linter.unusedSimpArgs false
set_option linter.unusedVariables false
set_option maxRecDepth 100000
set_option maxHeartbeats 60000000
namespace Go.Proofs.YtjcbpfbifbfkcaaGreat
open Go.RowKit
theorem zlD {ty : TypeId} {l : List Value} {n : Nat} (h : zaL Tryz.prog ty = some (l, n) := by with_reducible first | exact zN | exact zL | exact zab) : zaL Tryz.prog ty = some (l, n) := h
theorem zbc {ty : TypeId} {k : Nat} (h : ZM Tryz.prog ty k = true := by with_reducible first | exact zy | exact Zq | exact zt | exact zsq) : ZM Tryz.prog ty k = true := h
theorem zuk {ty : TypeId} (h : zF Tryz.prog ty = true := by with_reducible first | exact zm | exact Zt | exact zat | exact Zf | exact Za) : zF Tryz.prog ty = true := h
def zed (w : World) (id vw : Int) (r : Sv × List Rw) (e : Ending) (w' : World) : Prop :=
 ∃ (y : Sv) (v : Value) (RO R : List Blk), e = .returned (.tuple #[.agg (svL y).toArray, v]) ∧ y.Sm r.1 ∧ ZD R (fun w => y.Is w) ∧ zB 167 23 v r.2.length (r.2.flatMap (zgh id vw)) RO ∧ Hp w.heap.size w w' (RO ++ R)
theorem zhp {w w' : World} {id vw : Int} (hb : Below w.heap.size w w') : zed w id vw (ZL, []) (.returned (.tuple #[.agg #[.int .i64 0, .slice none 0 0, .int .i64 0, .int .i64 0, .int .i64 0, .int .i64 0, .int .i64 0, .slice none 0 0, .slice none 0 0], .slice none 0 0])) w' :=
 ⟨ZL, _, [], [], rfl, ⟨Hv.Sm.refl _, rfl⟩, ze7.mono (fun _ h => h) (fun w h => ⟨h, zr.nil _ _⟩), zB.nil _ _, (Hp.start w).call hb⟩
theorem znf (id vw : Int) (od : Int) (oa : Option Addr) (os : List Ob) (oc : Nat) (nx t0 t1 t2 t3 : Int) (fa : Option Addr) (fs : List Bl) (fc : Nat) (ra : Option Addr) (rs : List Rw) (rc : Nat) (la : Option Addr) (l : List Env) (lc : Nat) (hs : Sv.Small ⟨⟨od, oa, os, oc, nx, t0, t1, t2, t3, fa, fs, fc⟩, ra, rs, rc⟩) (hl : l.length ≤ 100000) (w : World) (hx0 : Sv.Is w ⟨⟨od, oa, os, oc, nx, t0, t1, t2, t3, fa, fs, fc⟩, ra, rs, rc⟩) (hla : zr w la (l.flatMap ZI)) (h : stB ⟨⟨od, oa, os, oc, nx, t0, t1, t2, t3, fa, fs, fc⟩, ra, rs, rc⟩ = false) : Calls Tryz.prog 49 #[.int .i64 id, .int .i64 vw, .agg #[.int .i64 od, .slice oa os.length oc, .int .i64 nx, .int .i64 t0, .int .i64 t1, .int .i64 t2, .int .i64 t3, .slice fa fs.length fc, .slice ra rs.length rc], .slice la l.length lc] w (zed w id vw (ZL, [])) := by
 have hp := Hp.start w; have HSS := z0j hs; have HIS := z0j hx0; have HLA := z0j hla; have HL := z0j hl; clear hs hx0 hla
 have HB := z0j h
 clear h hl
 go_enter Tryz.func49, Tryz.ntmps49
 go_wp2_with (first | (go_at_call 89; (with_reducible refine (zaZ od oa os oc nx t0 t1 t2 t3 fa fs fc ra rs rc _ HB.out HSS.out _ (HIS.out.below hp.below)).mono ?_); rintro e w1 ⟨rfl, hb⟩; replace hp := hp.call hb; clear hb; simp only [zkX, if_true, Bool.false_eq_true, if_false]) | go_skip | ((first | ((refine zf _ rfl ?_); refine lZ hp rfl zlD ?_; clear hp; intro b w1 hp) | ((refine zi _ _ rfl ?_); refine lB hp rfl (za rfl) rfl ?_; clear hp; intro b w1 hp) | ((refine ze _ _ rfl ?_); first | refine lO hp rfl (za rfl) zat zn ?_ | refine lA hp rfl (za rfl) zbc zn ?_ | refine lR hp rfl (za rfl) zbc HX.out ?_) | ((refine zd _ _ _ rfl ?_); (first | refine sA hp rfl (za rfl) (za rfl) zbc zn ?_ | refine sG hp rfl (za rfl) (za rfl) zbc zn ?_); clear hp; intro w1 hp; simp only [spl, z0a, z0b] at hp)); simp only [zc, zb, z0b, z0a]))
 exact bodyPost_ret (zD (rs := [.cell 8 67, .tmp 9]) Tryz.results49 (.cell rfl (hp.loadAgg zy at0 0 _ (by rfl) (by rfl)) (.tmp rfl .nil))) rfl (zhp hp.below)
theorem znq (id vw : Int) (od : Int) (oa : Option Addr) (os : List Ob) (oc : Nat) (nx t0 t1 t2 t3 : Int) (fa : Option Addr) (fs : List Bl) (fc : Nat) (ra : Option Addr) (rs : List Rw) (rc : Nat) (la : Option Addr) (l : List Env) (lc : Nat) (hs : Sv.Small ⟨⟨od, oa, os, oc, nx, t0, t1, t2, t3, fa, fs, fc⟩, ra, rs, rc⟩) (hl : l.length ≤ 100000) (w : World) (hx0 : Sv.Is w ⟨⟨od, oa, os, oc, nx, t0, t1, t2, t3, fa, fs, fc⟩, ra, rs, rc⟩) (hla : zr w la (l.flatMap ZI)) (h : stB ⟨⟨od, oa, os, oc, nx, t0, t1, t2, t3, fa, fs, fc⟩, ra, rs, rc⟩ = true) (h2 : zd9 l = false) : Calls Tryz.prog 49 #[.int .i64 id, .int .i64 vw, .agg #[.int .i64 od, .slice oa os.length oc, .int .i64 nx, .int .i64 t0, .int .i64 t1, .int .i64 t2, .int .i64 t3, .slice fa fs.length fc, .slice ra rs.length rc], .slice la l.length lc] w (zed w id vw (ZL, [])) := by
 have hp := Hp.start w; have HSS := z0j hs; have HIS := z0j hx0; have HLA := z0j hla; have HL := z0j hl; clear hs hx0 hla
 have HB := z0j h
 have HM := z0j h2
 clear h h2 hl
 go_enter Tryz.func49, Tryz.ntmps49
 go_wp2_with (first | (go_at_call 89; (with_reducible refine (zaZ od oa os oc nx t0 t1 t2 t3 fa fs fc ra rs rc _ HB.out HSS.out _ (HIS.out.below hp.below)).mono ?_); rintro e w1 ⟨rfl, hb⟩; replace hp := hp.call hb; clear hb; simp only [zkX, if_true, Bool.false_eq_true, if_false]) | (go_at_call 116; (with_reducible refine (zj8 l la lc _ HM.out HL.out _ (HLA.out.below hp.below)).mono ?_); rintro e w1 ⟨rfl, hb⟩; replace hp := hp.call hb; clear hb; simp only [Bool.not_true, Bool.not_false]) | go_skip | ((first | ((refine zf _ rfl ?_); refine lZ hp rfl zlD ?_; clear hp; intro b w1 hp) | ((refine zi _ _ rfl ?_); refine lB hp rfl (za rfl) rfl ?_; clear hp; intro b w1 hp) | ((refine ze _ _ rfl ?_); first | refine lO hp rfl (za rfl) zat zn ?_ | refine lA hp rfl (za rfl) zbc zn ?_ | refine lR hp rfl (za rfl) zbc HX.out ?_) | ((refine zd _ _ _ rfl ?_); (first | refine sA hp rfl (za rfl) (za rfl) zbc zn ?_ | refine sG hp rfl (za rfl) (za rfl) zbc zn ?_); clear hp; intro w1 hp; simp only [spl, z0a, z0b] at hp)); simp only [zc, zb, z0b, z0a]))
 exact bodyPost_ret (zD (rs := [.cell 8 67, .tmp 9]) Tryz.results49 (.cell rfl (hp.loadAgg zy at0 0 _ (by rfl) (by rfl)) (.tmp rfl .nil))) rfl (zhp hp.below)
theorem zoe : zbn ⟨1, 0, 0, 0, ⟨0, 0, 0, 0, 0, 0, 0⟩⟩ = true := by rfl
theorem zlA {x : Sv} (hx : StR x) : z7 x ⟨1, 0, 0, 0, ⟨0, 0, 0, 0, 0, 0, 0⟩⟩ = (x, 0, 0) := zkr hx zoe (.inl ⟨rfl, rfl⟩)
theorem zeZ : ∀ (l : List Env) (s : Sv), (zbu s l).length ≤ l.length
 | [], s => Nat.le_refl _
 | e :: r, s => by
  unfold zbu
  have := zeZ r (z7 s e).1
  have h2 : (zlR e (z7 s e).2).length ≤ 1 := by unfold zlR; split <;> simp
  rw [List.length_append, List.length_cons]; omega
theorem zoI (id vw : Int) (od : Int) (oa : Option Addr) (os : List Ob) (oc : Nat) (nx t0 t1 t2 t3 : Int) (fa : Option Addr) (fs : List Bl) (fc : Nat) (ra : Option Addr) (rs : List Rw) (rc : Nat) (la : Option Addr) (l : List Env) (lc : Nat) (hs : Sv.Small ⟨⟨od, oa, os, oc, nx, t0, t1, t2, t3, fa, fs, fc⟩, ra, rs, rc⟩) (hl : l.length ≤ 100000) (w : World) (hx0 : Sv.Is w ⟨⟨od, oa, os, oc, nx, t0, t1, t2, t3, fa, fs, fc⟩, ra, rs, rc⟩) (hla : zr w la (l.flatMap ZI)) (h : stB ⟨⟨od, oa, os, oc, nx, t0, t1, t2, t3, fa, fs, fc⟩, ra, rs, rc⟩ = true) (h2 : zd9 l = true) : Calls Tryz.prog 49 #[.int .i64 id, .int .i64 vw, .agg #[.int .i64 od, .slice oa os.length oc, .int .i64 nx, .int .i64 t0, .int .i64 t1, .int .i64 t2, .int .i64 t3, .slice fa fs.length fc, .slice ra rs.length rc], .slice la l.length lc] w (zed w id vw (za2 ⟨⟨od, oa, os, oc, nx, t0, t1, t2, t3, fa, fs, fc⟩, ra, rs, rc⟩ l, zbu ⟨⟨od, oa, os, oc, nx, t0, t1, t2, t3, fa, fs, fc⟩, ra, rs, rc⟩ l)) := by
 have hp := Hp.start w; have HSS := z0j hs; have HIS := z0j hx0; have HLA := z0j hla; have HL := z0j hl; clear hs hx0 hla
 have hst := zdh h
 have HST := z0j hst
 have HB := z0j h
 have HM := z0j h2
 have HD0 := z0j (zlA hst)
 have HMAY := z0j (zce.1 h2)
 clear h h2 hst hl
 go_enter Tryz.func49, Tryz.ntmps49
 go_wp2_with (first | (go_at_call 89; (with_reducible refine (zaZ od oa os oc nx t0 t1 t2 t3 fa fs fc ra rs rc _ HB.out HSS.out _ (HIS.out.below hp.below)).mono ?_); rintro e w1 ⟨rfl, hb⟩; replace hp := hp.call hb; clear hb; simp only [zkX, if_true, Bool.false_eq_true, if_false]) | (go_at_call 116; (with_reducible refine (zj8 l la lc _ HM.out HL.out _ (HLA.out.below hp.below)).mono ?_); rintro e w1 ⟨rfl, hb⟩; replace hp := hp.call hb; clear hb; simp only [Bool.not_true, Bool.not_false]) | (go_at_call 47; (with_reducible refine (zkc od oa os oc nx t0 t1 t2 t3 fa fs fc ra rs rc 1 0 0 0 0 0 0 0 0 0 0 _ HD0.out HSS.out _ (HIS.out.below hp.below)).mono ?_); rintro e w1 ⟨⟨⟨odA, oaA, osA, ocA, nxA, t0A, t1A, t2A, t3A, faA, fsA, fcA⟩, raA, rsA, rcA⟩, RA, rfl, hyA, hkA, _, hpA⟩; replace hp := hp.join hpA; have HYA := z0j hyA; have HKA := z0j hkA; clear hpA hyA hkA; simp only [svL, hvL, z0f, z0e, z0i] at hp ⊢) | go_skip | ((first | ((refine zf _ rfl ?_); refine lZ hp rfl zlD ?_; clear hp; intro b w1 hp) | ((refine zi _ _ rfl ?_); refine lB hp rfl (za rfl) rfl ?_; clear hp; intro b w1 hp) | ((refine ze _ _ rfl ?_); first | refine lO hp rfl (za rfl) zat zn ?_ | refine lA hp rfl (za rfl) zbc zn ?_ | refine lR hp rfl (za rfl) zbc HX.out ?_) | ((refine zd _ _ _ rfl ?_); (first | refine sA hp rfl (za rfl) (za rfl) zbc zn ?_ | refine sG hp rfl (za rfl) (za rfl) zbc zn ?_); clear hp; intro w1 hp; simp only [spl, z0a, z0b] at hp)); simp only [zc, zb, z0b, z0a]))
 obtain ⟨bw, hbw⟩ := hp.id0
 obtain ⟨b8, hb8⟩ := hp.id1
 subst hbw hb8
 have hl := HL.out
 go_loopg [37] l.length (fun kq i wr => ∃ (q : Nat) (y : Sv) (v : Value) (RO R : List Blk), kq + q = l.length ∧ i = .int .i64 q ∧ Hid (y.Sm (za2 ⟨⟨od, oa, os, oc, nx, t0, t1, t2, t3, fa, fs, fc⟩, ra, rs, rc⟩ (l.take q))) ∧ Hid (ZD R fun w => y.Is w) ∧ Hid (zB 167 23 v (zbu ⟨⟨od, oa, os, oc, nx, t0, t1, t2, t3, fa, fs, fc⟩, ra, rs, rc⟩ (l.take q)).length ((zbu ⟨⟨od, oa, os, oc, nx, t0, t1, t2, t3, fa, fs, fc⟩, ra, rs, rc⟩ (l.take q)).flatMap (zgh id vw)) RO) ∧ Hp w.heap.size w wr (⟨bw, .int .i64 id :: .int .i64 vw :: (svL y ++ [v]), 172, 12⟩ :: ⟨b8, [.int .i64 0, .slice none 0 0, .int .i64 0, .int .i64 0, .int .i64 0, .int .i64 0, .int .i64 0, .slice none 0 0, .slice none 0 0], 67, 9⟩ :: (RO ++ R)))
 case atStart => exact ⟨0, ⟨⟨odA, oaA, osA, ocA, nxA, t0A, t1A, t2A, t3A, faA, fsA, fcA⟩, raA, rsA, rcA⟩, _, [], RA, by omega, rfl, z0j HYA.out, z0j HKA.out, z0j (zB.nil _ _), by simp only [svL, hvL, z0f, z0e]; exact hp.kp⟩
 case round =>
  clear hp
  obtain ⟨q, y, vo, RO, R, hkq, rfl, HY, HKY, HRO, hp⟩ := hrel
  by_cases hlt : q < l.length
  ·obtain ⟨bq, off, rfl, hx⟩ := HLA.out.elems 11 Z8 (by omega) (by omega)
   have hj := List.getElem?_eq_getElem (l := l) (i := q) (by omega)
   replace hx := hx q _ hj
   have htk : l.take (q + 1) = l.take q ++ [l[q]] := by rw [List.take_add_one, hj]; rfl
   clear hj
   generalize l[q]'(by omega) = en at hx htk
   obtain ⟨nu, vi, cl, sq, ⟨kk, hh, ii, nn, cc, vv, tt⟩⟩ := en
   simp only [ZI, opL, z0f, z0e] at hx
   have HX := z0j hx
   have hright : StR (za2 ⟨⟨od, oa, os, oc, nx, t0, t1, t2, t3, fa, fs, fc⟩, ra, rs, rc⟩ (l.take q)) := zbC HST.out (fun e he => HMAY.out e (List.mem_of_mem_take he))
   have HSY := z0j (hright.small.sm HY.out.symm)
   have HML : Hid ((zbu ⟨⟨od, oa, os, oc, nx, t0, t1, t2, t3, fa, fs, fc⟩, ra, rs, rc⟩ (l.take q)).length ≤ 100000) := z0j (by have := zeZ (l.take q) ⟨⟨od, oa, os, oc, nx, t0, t1, t2, t3, fa, fs, fc⟩, ra, rs, rc⟩; rw [List.length_take] at this; omega)
   obtain ⟨res, hd⟩ : ∃ res, z7 y ⟨nu, vi, cl, sq, ⟨kk, hh, ii, nn, cc, vv, tt⟩⟩ = res := ⟨_, rfl⟩
   have hap := zd0 HY.out ⟨nu, vi, cl, sq, ⟨kk, hh, ii, nn, cc, vv, tt⟩⟩
   have hnext : res.1.Sm (za2 ⟨⟨od, oa, os, oc, nx, t0, t1, t2, t3, fa, fs, fc⟩, ra, rs, rc⟩ (l.take (q + 1))) := by rw [htk, zhH, ← hd]; exact hap.2
   have hout : zbu ⟨⟨od, oa, os, oc, nx, t0, t1, t2, t3, fa, fs, fc⟩, ra, rs, rc⟩ (l.take (q + 1)) = zbu ⟨⟨od, oa, os, oc, nx, t0, t1, t2, t3, fa, fs, fc⟩, ra, rs, rc⟩ (l.take q) ++ zlR ⟨nu, vi, cl, sq, ⟨kk, hh, ii, nn, cc, vv, tt⟩⟩ res.2 := by rw [htk, zmG, ← hd, hap.1]
   have HNX := z0j hnext
   have HOUT := z0j hout
   have HKB : Hid (ZD (⟨b8, [.int .i64 0, .slice none 0 0, .int .i64 0, .int .i64 0, .int .i64 0, .int .i64 0, .int .i64 0, .slice none 0 0, .slice none 0 0], 67, 9⟩ :: R) fun w => y.Is w) := z0j (HKY.out.mono (fun p hm => List.mem_cons_of_mem _ hm) fun w h => h)
   obtain ⟨⟨odY, oaY, osY, ocY, nxY, t0Y, t1Y, t2Y, t3Y, faY, fsY, fcY⟩, raY, rsY, rcY⟩ := y
   have HD1 := z0j hd
   have f3 : (0 : Int) ≤ (q : Int) := by omega
   have f4 : (q : Int) < (l.length : Int) := by omega
   clear hx hd hnext hright htk HY hap hout
   simp only [svL, hvL, z0f, z0e] at hp
   go_wp2_with (first | (go_at_call 118; (with_reducible refine (zrF bw id vw odY oaY osY ocY nxY t0Y t1Y t2Y t3Y faY fsY fcY raY rsY rcY vo (zbu ⟨⟨od, oa, os, oc, nx, t0, t1, t2, t3, fa, fs, fc⟩, ra, rs, rc⟩ (l.take q)) nu vi cl sq kk hh ii nn cc vv tt _ HD1.out HSY.out HML.out HRO.out HKB.out hp.kp).mono ?_); rintro e w1 ⟨rfl, yA, vA, ROA, RA, hyA, hkA, hroA, hpA⟩; clear hp; have hp := hpA; have HYA := z0j hyA; have HKA := z0j hkA; have HRA := z0j hroA; clear hpA hyA hkA hroA) | go_skip | ((first | ((refine zf _ rfl ?_); refine lZ hp rfl zlD ?_; clear hp; intro b w1 hp) | ((refine zi _ _ rfl ?_); refine lB hp rfl (za rfl) rfl ?_; clear hp; intro b w1 hp) | ((refine ze _ _ rfl ?_); first | refine lO hp rfl (za rfl) zat zn ?_ | refine lA hp rfl (za rfl) zbc zn ?_ | refine lR hp rfl (za rfl) zbc HX.out ?_) | ((refine zd _ _ _ rfl ?_); (first | refine sA hp rfl (za rfl) (za rfl) zbc zn ?_ | refine sG hp rfl (za rfl) (za rfl) zbc zn ?_); clear hp; intro w1 hp; simp only [spl, z0a, z0b] at hp)); simp only [zc, zb, z0b, z0a]))
   go_roundg (gk - 1)
   case measure => omega
   case rel => exact ⟨q + 1, yA, vA, ROA, RA ++ R, by omega, by go_num, z0j (HYA.out.trans HNX.out), z0j (HKA.out.mono (fun p hm => List.mem_append_left _ hm) fun w h => h), z0j (by rw [HOUT.out]; exact HRA.out), hp.kp⟩
  ·obtain rfl : q = l.length := by omega
   have f3 : decide ((l.length : Int) < (l.length : Int)) = false := by simp
   have HY2 : Hid (y.Sm (za2 ⟨⟨od, oa, os, oc, nx, t0, t1, t2, t3, fa, fs, fc⟩, ra, rs, rc⟩ l)) := z0j (by have := HY.out; rw [List.take_length] at this; exact this)
   have HRO2 : Hid (zB 167 23 vo (zbu ⟨⟨od, oa, os, oc, nx, t0, t1, t2, t3, fa, fs, fc⟩, ra, rs, rc⟩ l).length ((zbu ⟨⟨od, oa, os, oc, nx, t0, t1, t2, t3, fa, fs, fc⟩, ra, rs, rc⟩ l).flatMap (zgh id vw)) RO) := z0j (by have := HRO.out; rw [List.take_length] at this; exact this)
   obtain ⟨⟨odY, oaY, osY, ocY, nxY, t0Y, t1Y, t2Y, t3Y, faY, fsY, fcY⟩, raY, rsY, rcY⟩ := y
   simp only [svL, hvL, z0f, z0e] at hp
   clear hkq hlt HY HRO
   go_wp2_with (first | go_skip | ((first | ((refine zf _ rfl ?_); refine lZ hp rfl zlD ?_; clear hp; intro b w1 hp) | ((refine zi _ _ rfl ?_); refine lB hp rfl (za rfl) rfl ?_; clear hp; intro b w1 hp) | ((refine ze _ _ rfl ?_); first | refine lO hp rfl (za rfl) zat zn ?_ | refine lA hp rfl (za rfl) zbc zn ?_ | refine lR hp rfl (za rfl) zbc HX.out ?_) | ((refine zd _ _ _ rfl ?_); (first | refine sA hp rfl (za rfl) (za rfl) zbc zn ?_ | refine sG hp rfl (za rfl) (za rfl) zbc zn ?_); clear hp; intro w1 hp; simp only [spl, z0a, z0b] at hp)); simp only [zc, zb, z0b, z0a]))
   refine zh [_] (zv.one hp.drew at0) [9] [(0, true), (1, true), (2, true), (3, true), (4, true), (5, true), (6, true), (7, true), (8, false), (9, false)] (by kernel_rfl) (by kernel_rfl) rfl (by kernel_rfl) (fun _ _ d _ _ h => by cases d <;> exact h) ?_
   replace hp := hp.drew
   repeat' (with_reducible refine zx ?_); first | (with_reducible refine zq ?_) | ((with_reducible refine zE ?_); refine zu rfl ?_; (first | ((with_reducible refine zT _ rfl ?_); refine tM rfl ?_) | ((with_reducible refine zW _ _ rfl ?_); first | refine tA rfl (za rfl) zy zn ?_ | refine tO rfl (za rfl) zat zn ?_) | refine tG (fun w _ => (by go_simp; try rfl)) ?_); try simp only [zc, zb, zj, zg, z0b, z0a, z0d, z0c, zl]) | (refine zC rfl (fun K hK => ?_); go_wp2_with (first | go_skip | (((refine zd _ _ _ rfl ?_); (first | refine sA hp rfl (za rfl) (za rfl) zbc zn ?_ | refine sG hp rfl (za rfl) (za rfl) zbc zn ?_); clear hp; intro w1 hp; simp only [spl, z0a, z0b] at hp); simp only [zc, zb, z0b, z0a])); (first | refine hK.out _ _ (.inl rfl) ?_ | refine hK.out _ _ (.inr (zv.one hp zn)) ?_); clear hK K; try simp only [zc, zb, zj, zg, z0b, z0a, z0d, z0c, zl])
   go_wp2_with (first | go_skip | ((first | ((refine zf _ rfl ?_); refine lZ hp rfl zlD ?_; clear hp; intro b w1 hp) | ((refine zi _ _ rfl ?_); refine lB hp rfl (za rfl) rfl ?_; clear hp; intro b w1 hp) | ((refine ze _ _ rfl ?_); first | refine lO hp rfl (za rfl) zat zn ?_ | refine lA hp rfl (za rfl) zbc zn ?_ | refine lR hp rfl (za rfl) zbc HX.out ?_) | ((refine zd _ _ _ rfl ?_); (first | refine sA hp rfl (za rfl) (za rfl) zbc zn ?_ | refine sG hp rfl (za rfl) (za rfl) zbc zn ?_); clear hp; intro w1 hp; simp only [spl, z0a, z0b] at hp)); simp only [zc, zb, z0b, z0a]))
   exact bodyPost_ret (zD (rs := [.cell 8 67, .tmp 9]) Tryz.results49 (.cell rfl (hp.loadAgg zy at1 0 _ (by rfl) (by rfl)) (.tmp rfl .nil))) rfl ⟨⟨⟨odY, oaY, osY, ocY, nxY, t0Y, t1Y, t2Y, t3Y, faY, fsY, fcY⟩, raY, rsY, rcY⟩, vo, RO, R, rfl, HY2.out, HKY.out, HRO2.out, hp.kp⟩
theorem zcT (id vw : Int) (od : Int) (oa : Option Addr) (os : List Ob) (oc : Nat) (nx t0 t1 t2 t3 : Int) (fa : Option Addr) (fs : List Bl) (fc : Nat) (ra : Option Addr) (rs : List Rw) (rc : Nat) (la : Option Addr) (l : List Env) (lc : Nat) (hs : Sv.Small ⟨⟨od, oa, os, oc, nx, t0, t1, t2, t3, fa, fs, fc⟩, ra, rs, rc⟩) (hl : l.length ≤ 100000) (w : World) (hx0 : Sv.Is w ⟨⟨od, oa, os, oc, nx, t0, t1, t2, t3, fa, fs, fc⟩, ra, rs, rc⟩) (hla : zr w la (l.flatMap ZI)) (r : Sv × List Rw) (hr : zaO ⟨⟨od, oa, os, oc, nx, t0, t1, t2, t3, fa, fs, fc⟩, ra, rs, rc⟩ l = r) : Calls Tryz.prog 49 #[.int .i64 id, .int .i64 vw, .agg #[.int .i64 od, .slice oa os.length oc, .int .i64 nx, .int .i64 t0, .int .i64 t1, .int .i64 t2, .int .i64 t3, .slice fa fs.length fc, .slice ra rs.length rc], .slice la l.length lc] w (zed w id vw r) := by
 subst hr
 cases h1 : stB ⟨⟨od, oa, os, oc, nx, t0, t1, t2, t3, fa, fs, fc⟩, ra, rs, rc⟩ with
 | false =>
  rw [show zaO ⟨⟨od, oa, os, oc, nx, t0, t1, t2, t3, fa, fs, fc⟩, ra, rs, rc⟩ l = (ZL, []) by unfold zaO; rw [if_neg (by rw [h1]; simp)]]
  exact znf id vw od oa os oc nx t0 t1 t2 t3 fa fs fc ra rs rc la l lc hs hl w hx0 hla h1
 | true => cases h2 : zd9 l with
  | false =>
   rw [show zaO ⟨⟨od, oa, os, oc, nx, t0, t1, t2, t3, fa, fs, fc⟩, ra, rs, rc⟩ l = (ZL, []) by unfold zaO; rw [if_neg (by rintro ⟨_, h3⟩; rw [zce.2 h3] at h2; cases h2)]]
   exact znq id vw od oa os oc nx t0 t1 t2 t3 fa fs fc ra rs rc la l lc hs hl w hx0 hla h1 h2
  | true =>
   rw [show zaO ⟨⟨od, oa, os, oc, nx, t0, t1, t2, t3, fa, fs, fc⟩, ra, rs, rc⟩ l = (za2 ⟨⟨od, oa, os, oc, nx, t0, t1, t2, t3, fa, fs, fc⟩, ra, rs, rc⟩ l, zbu ⟨⟨od, oa, os, oc, nx, t0, t1, t2, t3, fa, fs, fc⟩, ra, rs, rc⟩ l) by unfold zaO; rw [if_pos ⟨h1, zce.1 h2⟩]]
   exact zoI id vw od oa os oc nx t0 t1 t2 t3 fa fs fc ra rs rc la l lc hs hl w hx0 hla h1 h2
end Go.Proofs.YtjcbpfbifbfkcaaGreat
