/- The walk of the law HeapDoes. -/
import Derived.Test.YtppdjlgjcdmiaaaGreatED
import Derived.Test.YtppdjlgjcdmiaaaGreatEW
import Derived.Test.YtppdjlgjcdmiaaaGreatDX
import Derived.Test.YtppdjlgjcdmiaaaGreatQC
set_option linter.unusedSimpArgs false
set_option linter.unusedVariables false
namespace Go.Proofs.YtppdjlgjcdmiaaaGreat
open Go.RowKit
theorem gaEL0 {ty : TypeId} {k : Nat} (h : aggB Tryz.prog ty k = true := by with_reducible first | exact agg26 | exact agg34 | exact agg29) : aggB Tryz.prog ty k = true := h
theorem ceEL1 {ty : TypeId} (h : cellB Tryz.prog ty = true := by with_reducible first | exact cell3 | exact cell4 | exact cell32 | exact cell27) : cellB Tryz.prog ty = true := h
theorem pull7 {B : Nat} {w0 w : World} {p1 p2 p3 p4 p5 p6 p7 : Blk} {A X Z : List Blk} (hp : Hp B w0 w (p1 :: p2 :: p3 :: p4 :: p5 :: p6 :: p7 :: (A ++ (X ++ Z)))) : Hp B w0 w (X ++ (p1 :: p2 :: p3 :: p4 :: p5 :: p6 :: p7 :: A)) := hp.kp
theorem push7 {B : Nat} {w0 w : World} {p1 p2 p3 p4 p5 p6 p7 : Blk} {A D : List Blk} (hp : Hp B w0 w (D ++ (p1 :: p2 :: p3 :: p4 :: p5 :: p6 :: p7 :: A))) : Hp B w0 w (p1 :: p2 :: p3 :: p4 :: p5 :: p6 :: p7 :: A) := hp.kp
theorem rdo11L (od : Int) (oa : Option Addr) (os : List Ob) (oc : Nat) (nx t0 t1 t2 t3 : Int) (fa : Option Addr) (fs : List Bl) (fc : Nat) (kk hh ii nn cc vv tt : Int) {x : Hv} {r : Hv × Int × Int} (hr : doP x ⟨kk, hh, ii, nn, cc, vv, tt⟩ = r) (hsm : x.Sm ⟨od, oa, os, oc, nx, t0, t1, t2, t3, fa, fs, fc⟩) (hs : x.Small) (hnx : x.nx ≤ 9223372036854775807) (w : World) (h : Hv.Is w ⟨od, oa, os, oc, nx, t0, t1, t2, t3, fa, fs, fc⟩) :
    Calls Tryz.prog 11 #[.agg #[.int .i64 od, .slice oa os.length oc, .int .i64 nx, .int .i64 t0, .int .i64 t1, .int .i64 t2, .int .i64 t3, .slice fa fs.length fc], .agg #[.int .i64 kk, .int .i64 hh, .int .i64 ii, .int .i64 nn, .int .i64 cc, .int .i64 vv, .int .i64 tt]] w (DoPost w r) := by
  subst hr
  refine (rdo11 ⟨od, oa, os, oc, nx, t0, t1, t2, t3, fa, fs, fc⟩ kk hh ii nn cc vv tt (hs.sm hsm) (Int.le_trans (Int.le_of_eq hsm.nx.symm) hnx) w h).mono fun e w' hq => ?_
  obtain ⟨y, R, he, hy, hk, ho, hp⟩ := hq
  obtain ⟨g1, g2⟩ := doP_sm hsm.symm ⟨kk, hh, ii, nn, cc, vv, tt⟩
  exact ⟨y, R, by rw [he, g1], hy.trans g2, hk, ho, hp⟩
set_option maxRecDepth 100000 in
set_option maxHeartbeats 8000000 in
theorem law3 (x : Hv) (kk hh ii nn cc vv tt : Int) (w : World) (hs : x.Is w ∧ x.nx ≤ 9223372036854775807) : Calls Tryz.prog 3 #[.agg (hvL x).toArray, .agg #[.int .i64 kk, .int .i64 hh, .int .i64 ii, .int .i64 nn, .int .i64 cc, .int .i64 vv, .int .i64 tt]] w fun e w' => e = .returned (.bool true) ∧ Below w.heap.size w w' := by
  have hp := Hp.start w
  obtain ⟨⟨s, rc, rv⟩, hd⟩ : ∃ r, doP x ⟨kk, hh, ii, nn, cc, vv, tt⟩ = r := ⟨_, rfl⟩
  have HS2 : RowKit.Hid s.Small := Lib.hid (by have := doP_small (x := x) ⟨kk, hh, ii, nn, cc, vv, tt⟩; rw [hd] at this; exact this)
  have HD2 := Lib.hid hd
  have HNX := Lib.hid hs.2
  have HIS := Lib.hid hs.1
  obtain ⟨od, oa, os, oc, nx, t0, t1, t2, t3, fa, fs, fc⟩ := x
  clear hs hd
  simp only [hvL]
  go_enter Tryz.func3, Tryz.ntmps3
  go_wp2_with (first | (go_at_call 8; (with_reducible refine (big8L od oa os oc nx t0 t1 t2 t3 fa fs fc _ (HIS.out.below hp.below)).mono ?_); rintro e w1 ⟨bb, rfl, hbb, hb⟩; replace hp := hp.call hb; clear hb; cases bb) | go_skip | ((first | ((with_reducible refine pre_alloc _ rfl ?_); refine lZ hp rfl (by with_reducible first | exact zero34 | exact zero26) ?_; clear hp; intro b w1 hp) | ((with_reducible refine pre_box _ _ rfl ?_); refine lB hp rfl (slot_tmp rfl) rfl ?_; clear hp; intro b w1 hp) | ((with_reducible refine pre_load _ _ rfl ?_); first | refine lO hp rfl (slot_tmp rfl) ceEL1 aa14 ?_ | refine lA hp rfl (slot_tmp rfl) gaEL0 aa14 ?_) | ((with_reducible refine pre_store _ _ _ rfl ?_); (first | refine sO hp rfl (slot_tmp rfl) ceEL1 aa14 ?_ | refine sA hp rfl (slot_tmp rfl) (slot_tmp rfl) gaEL0 aa14 ?_ | refine sG hp rfl (slot_tmp rfl) (slot_tmp rfl) gaEL0 aa14 ?_); clear hp; intro w1 hp; simp only [spl, List.set_cons_zero, List.set_cons_succ] at hp)); simp only [put_some, put_none, List.set_cons_succ, List.set_cons_zero]))
  · have HSS := Lib.hid (hbb (by first | rfl | trivial))
    clear hbb
    go_wp2_with (first | (go_at_call 9; (with_reducible refine (own9L od oa os oc nx t0 t1 t2 t3 fa fs fc HSS.out _ (HIS.out.below hp.below)).mono ?_); rintro e w1 ⟨⟨odY, oaY, osY, ocY, nxY, t0Y, t1Y, t2Y, t3Y, faY, fsY, fcY⟩, RY, rfl, hsmy, hk, hp5⟩; replace hp := hp.join hp5; have HKY := Lib.hid hk; have HSMY := Lib.hid hsmy; clear hp5 hk hsmy; simp only [hvL, List.cons_append, List.nil_append, List.append_assoc] at hp ⊢) | (go_at_call 10; (with_reducible refine (doh10L od oa os oc nx t0 t1 t2 t3 fa fs fc _ _ _ _ _ _ _ _ HD2.out HSS.out _ (HIS.out.below hp.below)).mono ?_); rintro e w1 ⟨⟨odX, oaX, osX, ocX, nxX, t0X, t1X, t2X, t3X, faX, fsX, fcX⟩, RX, rfl, hyX, hkX, hoX, hpX⟩; replace hp := hp.join hpX; have HYX := Lib.hid hyX; have HKX := Lib.hid hkX; have HOX := Lib.hid hoX; clear hpX hyX hkX hoX; simp only [hvL, List.cons_append, List.nil_append, List.append_assoc] at hp ⊢) | (go_at_call 11; (with_reducible refine (rdo11L odY oaY osY ocY nxY t0Y t1Y t2Y t3Y faY fsY fcY kk hh ii nn cc vv tt HD2.out HSMY.out HSS.out HNX.out _ (HKY.out.at hp (fun p hm => by simp [hm]))).mono ?_); rintro e w1 ⟨⟨odZ, oaZ, osZ, ocZ, nxZ, t0Z, t1Z, t2Z, t3Z, faZ, fsZ, fcZ⟩, RZ, rfl, hyZ, hkZ, _, hpZ⟩; replace hp := hp.join hpZ; have HYZ := Lib.hid hyZ; have HKZ := Lib.hid hkZ; clear hpZ hyZ hkZ; simp only [hvL, List.cons_append, List.nil_append, List.append_assoc] at hp ⊢) | (go_at_call 12; (with_reducible refine (same12L odX oaX osX ocX nxX t0X t1X t2X t3X faX fsX fcX odZ oaZ osZ ocZ nxZ t0Z t1Z t2Z t3Z faZ fsZ fcZ (HS2.out.sm HYX.out.symm) (HYX.out.trans HYZ.out.symm) _ (HKX.out.at hp (fun p hm => by simp [hm])) (HKZ.out.at hp (fun p hm => by simp [hm]))).mono ?_); rintro e w1 ⟨rfl, hb⟩; replace hp := hp.call hb; clear hb) | go_skip | ((first | ((with_reducible refine pre_alloc _ rfl ?_); refine lZ hp rfl (by with_reducible first | exact zero34 | exact zero26) ?_; clear hp; intro b w1 hp) | ((with_reducible refine pre_box _ _ rfl ?_); refine lB hp rfl (slot_tmp rfl) rfl ?_; clear hp; intro b w1 hp) | ((with_reducible refine pre_load _ _ rfl ?_); first | refine lO hp rfl (slot_tmp rfl) ceEL1 aa14 ?_ | refine lA hp rfl (slot_tmp rfl) gaEL0 aa14 ?_) | ((with_reducible refine pre_store _ _ _ rfl ?_); (first | refine sO hp rfl (slot_tmp rfl) ceEL1 aa14 ?_ | refine sA hp rfl (slot_tmp rfl) (slot_tmp rfl) gaEL0 aa14 ?_ | refine sG hp rfl (slot_tmp rfl) (slot_tmp rfl) gaEL0 aa14 ?_); clear hp; intro w1 hp; simp only [spl, List.set_cons_zero, List.set_cons_succ] at hp)); simp only [put_some, put_none, List.set_cons_succ, List.set_cons_zero]))
    have HOV : RowKit.Hid (∀ {K : List Blk} {w1 : World}, Hp w.heap.size w w1 (RX ++ K) → Calls Tryz.prog 13 #[.agg #[.int .i64 odX, .slice oaX osX.length ocX, .int .i64 nxX, .int .i64 t0X, .int .i64 t1X, .int .i64 t2X, .int .i64 t3X, .slice faX fsX.length fcX]] w1 fun e w' => e = .returned (.tuple #[]) ∧ ∃ D, Hp w.heap.size w w' (D ++ K)) := Lib.hid (fun h => by
      obtain ⟨RO, RF, M, rfl, hvr⟩ := HOX.out
      have hsm := HS2.out.sm HYX.out.symm
      exact over13 ⟨odX, oaX, osX, ocX, nxX, t0X, t1X, t2X, t3X, faX, fsX, fcX⟩ (by have := hsm.1.1; omega) (by have := hsm.2; omega) hsm.1.2 ⟨RO, RF, M, hvr, by simpa only [List.append_assoc] using h⟩)
    go_wp2_with (first | (go_at_call 13; (with_reducible refine (HOV.out (pull7 hp)).mono ?_); clear hp; rintro e w1 ⟨rfl, D, hp⟩; replace hp := push7 hp) | (go_at_call 14; (with_reducible refine (does14 _).mono ?_); rintro e w1 ⟨rfl, hb⟩; replace hp := hp.call hb; clear hb) | (go_at_call 12; (with_reducible refine (same12L od oa os oc nx t0 t1 t2 t3 fa fs fc odY oaY osY ocY nxY t0Y t1Y t2Y t3Y faY fsY fcY HSS.out HSMY.out _ (HIS.out.below hp.below) (HKY.out.at hp (fun p hm => by simp [hm]))).mono ?_); rintro e w1 ⟨rfl, hb⟩; replace hp := hp.call hb; clear hb) | go_skip | ((first | ((with_reducible refine pre_alloc _ rfl ?_); refine lZ hp rfl (by with_reducible first | exact zero34 | exact zero26) ?_; clear hp; intro b w1 hp) | ((with_reducible refine pre_box _ _ rfl ?_); refine lB hp rfl (slot_tmp rfl) rfl ?_; clear hp; intro b w1 hp) | ((with_reducible refine pre_load _ _ rfl ?_); first | refine lO hp rfl (slot_tmp rfl) ceEL1 aa14 ?_ | refine lA hp rfl (slot_tmp rfl) gaEL0 aa14 ?_) | ((with_reducible refine pre_store _ _ _ rfl ?_); (first | refine sO hp rfl (slot_tmp rfl) ceEL1 aa14 ?_ | refine sA hp rfl (slot_tmp rfl) (slot_tmp rfl) gaEL0 aa14 ?_ | refine sG hp rfl (slot_tmp rfl) (slot_tmp rfl) gaEL0 aa14 ?_); clear hp; intro w1 hp; simp only [spl, List.set_cons_zero, List.set_cons_succ] at hp)); simp only [put_some, put_none, List.set_cons_succ, List.set_cons_zero]))
    go_ret
    exact ⟨rfl, hp.below⟩
  · go_ret
    exact ⟨rfl, hp.below⟩
end Go.Proofs.YtppdjlgjcdmiaaaGreat
