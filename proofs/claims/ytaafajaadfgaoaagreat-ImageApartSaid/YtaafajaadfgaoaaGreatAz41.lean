/- Parts of the proof. -/
import Derived.Test.YtaafajaadfgaoaaGreatAz35
import Derived.Test.YtaafajaadfgaoaaGreatAz37
import Derived.Test.YtaafajaadfgaoaaGreatAz38
import Derived.Test.YtaafajaadfgaoaaGreatAz2
import Derived.Test.YtaafajaadfgaoaaGreatAz24
import Derived.Test.YtaafajaadfgaoaaGreatAz40
import Derived.Test.YtaafajaadfgaoaaGreatAz23
open List renaming set_cons_zero → zSet, set_cons_succ → sSet
/- table.Apply of any state and entry. -/
set_option linter.unusedSimpArgs false
set_option linter.unusedVariables false
namespace Go.Proofs.YtaafajaadfgaoaaGreat
open Go.RowKit
theorem big19L (od : Int) (oa : Option Addr) (os : List Ob) (oc : Nat) (nx t0 t1 t2 t3 : Int) (fa : Option Addr) (fs : List Bl) (fc : Nat) (ra : Option Addr) (rs : List Rw) (rc : Nat) (w : World) (hx0 : Sv.Is w ⟨⟨od, oa, os, oc, nx, t0, t1, t2, t3, fa, fs, fc⟩, ra, rs, rc⟩) : Calls Tryz.prog 19 #[.agg #[.int .i64 od, .slice oa os.length oc, .int .i64 nx, .int .i64 t0, .int .i64 t1, .int .i64 t2, .int .i64 t3, .slice fa fs.length fc, .slice ra rs.length rc]] w (BigPost6 w ⟨⟨od, oa, os, oc, nx, t0, t1, t2, t3, fa, fs, fc⟩, ra, rs, rc⟩) := big19 _ w hx0
end Go.Proofs.YtaafajaadfgaoaaGreat
/- The walk of State. -/
namespace Go.Proofs.YtaafajaadfgaoaaGreat
open Go.RowKit
theorem SvO.kept2 {y : Sv} {R : List Blk} (h : SvO y R) : Kept R fun w => y.Is w := by
  obtain ⟨RR, RH, rfl, h1, h2⟩ := h
  obtain ⟨a, c, hv, hk⟩ := h1.kept
  injection hv with e1 e2 e3
  rw [← e1] at hk
  intro B w0 w L hp hm
  exact ⟨h2.kept.at hp (fun p hp2 => hm p (List.mem_append_right _ hp2)), hk.at hp (fun p hp2 => hm p (List.mem_append_left _ hp2))⟩
end Go.Proofs.YtaafajaadfgaoaaGreat
/- The chapter's examples of states; the walk of the law ImageApart. -/
namespace Go.Proofs.YtaafajaadfgaoaaGreat
open Go.RowKit
theorem ceXA0 {ty : TypeId} (h : cellB Tryz.prog ty = true := by with_reducible first | exact cell3 | exact cell4 | exact cell37 | exact cell57 | exact cell48) : cellB Tryz.prog ty = true := h
theorem rowB_bytes (r : Rw) : Bytes (rowB r) := by unfold rowB; exact (bn4_bytes _).app (bi8_bytes _)
theorem stateB_bytes (x : Sv) : Bytes (stateB x) := by
  unfold stateB
  refine Bytes.app (Bytes.app (beS_bytes 4 _) (heapB_bytes _)) (Bytes.app (bn4_bytes _) fun y hy => ?_)
  obtain ⟨r, _, h⟩ := List.mem_flatMap.1 hy
  exact rowB_bytes r y h
theorem puts_no (od : Int) (oa : Option Addr) (os : List Ob) (oc : Nat) (nx t0 t1 t2 t3 : Int) (fa : Option Addr) (fs : List Bl) (fc : Nat) (ra : Option Addr) (rs : List Rw) (rc : Nat) (hb : stB ⟨⟨od, oa, os, oc, nx, t0, t1, t2, t3, fa, fs, fc⟩, ra, rs, rc⟩ = false) (hs : Sv.Small ⟨⟨od, oa, os, oc, nx, t0, t1, t2, t3, fa, fs, fc⟩, ra, rs, rc⟩) (w : World) (hx0 : Sv.Is w ⟨⟨od, oa, os, oc, nx, t0, t1, t2, t3, fa, fs, fc⟩, ra, rs, rc⟩) :
    Calls Tryz.prog 22 #[.agg #[.int .i64 od, .slice oa os.length oc, .int .i64 nx, .int .i64 t0, .int .i64 t1, .int .i64 t2, .int .i64 t3, .slice fa fs.length fc, .slice ra rs.length rc]] w fun e w' => e = .returned (.tuple #[.slice none 0 0, .int .i64 60]) ∧ Below w.heap.size w w' := puts22_no _ hb hs w hx0
theorem puts_yes (od : Int) (oa : Option Addr) (os : List Ob) (oc : Nat) (nx t0 t1 t2 t3 : Int) (fa : Option Addr) (fs : List Bl) (fc : Nat) (ra : Option Addr) (rs : List Rw) (rc : Nat) (bs : List Nat) (hbs : stateB ⟨⟨od, oa, os, oc, nx, t0, t1, t2, t3, fa, fs, fc⟩, ra, rs, rc⟩ = bs) (hb : stB ⟨⟨od, oa, os, oc, nx, t0, t1, t2, t3, fa, fs, fc⟩, ra, rs, rc⟩ = true) (w : World) (hx0 : Sv.Is w ⟨⟨od, oa, os, oc, nx, t0, t1, t2, t3, fa, fs, fc⟩, ra, rs, rc⟩) :
    Calls Tryz.prog 22 #[.agg #[.int .i64 od, .slice oa os.length oc, .int .i64 nx, .int .i64 t0, .int .i64 t1, .int .i64 t2, .int .i64 t3, .slice fa fs.length fc, .slice ra rs.length rc]] w fun e w' => ∃ a c m R, e = .returned (.tuple #[.slice a m c, .int .i64 0]) ∧ bs.length = m ∧ m ≤ c ∧ SubRow 5 1 (.slice a m c) m (bs.flatMap byV) R ∧ Kept R (fun w => RdAt w a bs) ∧ Hp w.heap.size w w' R := by
  subst hbs
  refine (puts22_yes _ hb w hx0).mono fun e w' h => ?_
  obtain ⟨a, c, R, h1, h2, h3⟩ := h
  have hby : Bytes (stateB ⟨⟨od, oa, os, oc, nx, t0, t1, t2, t3, fa, fs, fc⟩, ra, rs, rc⟩) := stateB_bytes _
  exact ⟨a, c, _, R, h1, rfl, h2.cap rfl, h2, h2.keptS.mono (fun _ hp => hp) fun w hw => ⟨hw, hby⟩, h3⟩
def sx3 (ra : Option Addr) (y : Hv) : Sv := ⟨y, ra, [⟨1, 2, 0, -3⟩], 1⟩
theorem sx3_right {y : Hv} (h : y.Sm (oneHv 3)) (ra : Option Addr) : stB (sx3 ra y) = true := by
  unfold stB sx3
  rw [hright_sm h, right_one3]
  kernel_rfl
theorem sx3_W64 {y : Hv} (h : y.Sm (oneHv 3)) (ra : Option Addr) : (sx3 ra y).W64 := by
  refine ⟨w64_sm h.symm (fun o ho => by cases ho), fun r hr => ?_⟩
  have : r = ⟨1, 2, 0, -3⟩ := by simpa [sx3] using hr
  subst this
  exact ⟨by decide, by decide⟩
theorem puts_sx (od : Int) (oa : Option Addr) (os : List Ob) (oc : Nat) (nx t0 t1 t2 t3 : Int) (fa : Option Addr) (fs : List Bl) (fc : Nat) (ra : Option Addr) (h : Hv.Sm ⟨od, oa, os, oc, nx, t0, t1, t2, t3, fa, fs, fc⟩ (oneHv 3)) (w : World) (hx : Hv.Is w ⟨od, oa, os, oc, nx, t0, t1, t2, t3, fa, fs, fc⟩) (hr : RowIs w ra [.int .i64 1, .int .i64 2, .int .i64 0, .int .i64 (-3)]) :
    Calls Tryz.prog 22 #[.agg #[.int .i64 od, .slice oa os.length oc, .int .i64 nx, .int .i64 t0, .int .i64 t1, .int .i64 t2, .int .i64 t3, .slice fa fs.length fc, .slice ra 1 1]] w fun e w' => ∃ a c m R, e = .returned (.tuple #[.slice a m c, .int .i64 0]) ∧ (stateB (sx3 ra ⟨od, oa, os, oc, nx, t0, t1, t2, t3, fa, fs, fc⟩)).length = m ∧ m ≤ c ∧ Kept R (fun w => RdAt w a (stateB (sx3 ra ⟨od, oa, os, oc, nx, t0, t1, t2, t3, fa, fs, fc⟩))) ∧ Hp w.heap.size w w' R :=
  (puts_yes od oa os oc nx t0 t1 t2 t3 fa fs fc ra [⟨1, 2, 0, -3⟩] 1 _ rfl (sx3_right h ra) w ⟨hx, hr⟩).mono fun e w' ⟨a, c, m, R, h1, h2, h3, _, h5, h6⟩ => ⟨a, c, m, R, h1, h2, h3, h5, h6⟩
theorem gets_sx {y : Hv} (ra : Option Addr) (h : y.Sm (oneHv 3)) (a : Option Addr) (m c : Nat) (hm : (stateB (sx3 ra y)).length = m) (hmc : m ≤ c) (w : World) (ha : RdAt w a (stateB (sx3 ra y))) :
    Calls Tryz.prog 37 #[.slice a m c] w fun e w' => ∃ od oa on oc nx t0 t1 t2 t3 fa fn fc b off rc R, e = .returned (.tuple #[.agg #[.int .i64 od, .slice oa on oc, .int .i64 nx, .int .i64 t0, .int .i64 t1, .int .i64 t2, .int .i64 t3, .slice fa fn fc, .slice (some ⟨b, off, none⟩) 1 rc], .int .i64 0]) ∧ Kept R (fun w => w.cell? ⟨b, off + 3, none⟩ = some (.int .i64 (-3))) ∧ Hp w.heap.size w w' R := by
  subst hm
  have hst := st_of (sx3_right h ra)
  have hlen : (stateB (sx3 ra y)).length ≤ 1000000000 := by
    have h1 := heapB_len hst.hv
    unfold stateB
    rw [List.length_append, List.length_append, List.length_append, beS_len, bn4_len, rowsB_len]
    have : (sx3 ra y).rs.length = 1 := rfl
    rw [this]
    simp only [List.length_cons, List.length_nil]; omega
  refine (gets37 _ a c hmc hlen w ha).mono fun e w' h2 => ?_
  rw [stateR_put hst (sx3_W64 h ra)] at h2
  obtain ⟨z, R, h3, h4, h5, h6⟩ := h2
  have hk := h5.kept2
  obtain ⟨⟨od, oa, os, oc, nx, t0, t1, t2, t3, fa, fs, fc⟩, ra2, rs2, rc2⟩ := z
  have hrs : rs2 = [⟨1, 2, 0, -3⟩] := h4.2
  subst hrs
  have hr := (hk.now h6).2
  obtain ⟨b, off, hra, _⟩ := hr.elems 4 rwV_len Nat.zero_lt_one (by decide)
  simp only at hra
  subst hra
  exact ⟨od, oa, _, oc, nx, t0, t1, t2, t3, fa, _, fc, b, off, rc2, R, h3, hk.mono (fun p hp => hp) (fun w hw => RowIs.fixC hw.2 3 _ rfl), h6⟩
theorem check_sx (od : Int) (oa : Option Addr) (os : List Ob) (oc : Nat) (nx t0 t1 t2 t3 : Int) (fa : Option Addr) (fs : List Bl) (fc : Nat) (ra : Option Addr) (h : Hv.Sm ⟨od, oa, os, oc, nx, t0, t1, t2, t3, fa, fs, fc⟩ (oneHv 3)) (w : World) (hx : Hv.Is w ⟨od, oa, os, oc, nx, t0, t1, t2, t3, fa, fs, fc⟩) (hr : RowIs w ra [.int .i64 1, .int .i64 2, .int .i64 0, .int .i64 (-3)]) :
    Calls Tryz.prog 35 #[.agg #[.int .i64 od, .slice oa os.length oc, .int .i64 nx, .int .i64 t0, .int .i64 t1, .int .i64 t2, .int .i64 t3, .slice fa fs.length fc, .slice ra 1 1]] w fun e w' => e = .returned (.int .i64 0) ∧ Below w.heap.size w w' :=
  check35L od oa os oc nx t0 t1 t2 t3 fa fs fc ra [⟨1, 2, 0, -3⟩] 1 true (sx3_right h ra) (st_of (sx3_right h ra)).small w ⟨hx, hr⟩
theorem check_zero (w : World) : Calls Tryz.prog 35 #[.agg #[.int .i64 0, .slice none 0 0, .int .i64 0, .int .i64 0, .int .i64 0, .int .i64 0, .int .i64 0, .slice none 0 0, .slice none 0 0]] w fun e w' => e = .returned (.int .i64 60) ∧ Below w.heap.size w w' :=
  check35L 0 none [] 0 0 0 0 0 0 none [] 0 none [] 0 false stB_zero zeroSv_small w (is_none.at (Hp.start w) (fun p h => by cases h) |> fun h => ⟨h, RowIs.nil _ _⟩)
set_option maxRecDepth 100000 in
set_option maxHeartbeats 8000000 in
theorem states23 (w : World) : Calls Tryz.prog 23 #[] w fun e w' => e = .returned (.bool true) ∧ Below w.heap.size w w' := by
  have hp := Hp.start w
  go_enter Tryz.func23, Tryz.ntmps23
  go_wp2_with (first | (go_at_call 81; (with_reducible refine (newh_3 _).mono ?_); rintro e w1 ⟨od, oa, os, oc, nx, t0, t1, t2, t3, fa, fs, fc, RN, rfl, hsm, hk, hpn⟩; replace hp := hp.join hpn; have HSM := Lib.hid hsm; have HK := Lib.hid hk; clear hpn hsm hk; simp only [List.cons_append, List.nil_append] at hp) | (go_at_call 22; (with_reducible refine (puts_sx od oa os oc nx t0 t1 t2 t3 fa fs fc _ HSM.out _ (HK.out.at hp (fun p hm => by simp [hm])) (hp.rowIs at1)).mono ?_); rintro e w1 ⟨ab, cb, mb, RB, rfl, hmb, hcb, hkb, hpn⟩; replace hp := hp.join hpn; have HMB := Lib.hid hmb; have HCB := Lib.hid hcb; have HKB := Lib.hid hkb; clear hpn hcb hkb hmb; simp only [List.cons_append, List.nil_append] at hp) | (go_at_call 37; (with_reducible refine (gets_sx _ HSM.out ab mb cb HMB.out HCB.out _ (HKB.out.at hp (fun p hm => by simp [hm]))).mono ?_); rintro e w1 ⟨odX, oaX, onX, ocX, nxX, t0X, t1X, t2X, t3X, faX, fnX, fcX, bX, offX, rcX, RX, rfl, hkx, hpn⟩; replace hp := hp.join hpn; have HKX := Lib.hid hkx; clear hpn hkx; simp only [List.cons_append, List.nil_append] at hp) | (go_at_call 35; (with_reducible refine (check_sx od oa os oc nx t0 t1 t2 t3 fa fs fc _ HSM.out _ (HK.out.at hp (fun p hm => by simp [hm])) (hp.rowIs at2)).mono ?_); rintro e w1 ⟨rfl, hb⟩; replace hp := hp.call hb; clear hb) | (go_at_call 35; (with_reducible refine (check_zero _).mono ?_); rintro e w1 ⟨rfl, hb⟩; replace hp := hp.call hb; clear hb) | ((with_reducible refine pre_load 3 _ rfl ?_); refine lRO (Hp.start _) rfl (sTm rfl) cell3 (HKX.out.at hp (fun p hm => by simp [hm])) ?_; simp only [put_some, put_none, sSet, zSet]) | go_skip | ((first | ((with_reducible refine pre_alloc _ rfl ?_); refine lZ hp rfl (by with_reducible first | exact zero47 | exact zero50) ?_; clear hp; intro b w1 hp) | ((with_reducible refine pre_box _ _ rfl ?_); refine lB hp rfl (sTm rfl) rfl ?_; clear hp; intro b w1 hp) | ((with_reducible refine pre_load _ _ rfl ?_); first | refine lO hp rfl (sTm rfl) ceXA0 aa14 ?_ | refine lA hp rfl (sTm rfl) (by with_reducible first | exact agg47 | exact agg50) aa14 ?_) | ((with_reducible refine pre_store _ _ _ rfl ?_); (first | refine sO hp rfl (sTm rfl) ceXA0 aa14 ?_ | refine sA hp rfl (sTm rfl) (sTm rfl) (by with_reducible first | exact agg47 | exact agg50) aa14 ?_ | refine sG hp rfl (sTm rfl) (sTm rfl) (by with_reducible first | exact agg47 | exact agg50) aa14 ?_); clear hp; intro w1 hp; simp only [spl, zSet, sSet] at hp) | ((with_reducible refine pre_build _ _ _ rfl ?_); refine lS hp rfl (by intro w; go_simp; rfl) ?_; clear hp; intro b w1 hp; simp only [List.length_cons, List.length_nil, Nat.reduceAdd] at hp)); simp only [put_some, put_none, sSet, zSet]))
  go_ret
  exact ⟨rfl, hp.below⟩
end Go.Proofs.YtaafajaadfgaoaaGreat
