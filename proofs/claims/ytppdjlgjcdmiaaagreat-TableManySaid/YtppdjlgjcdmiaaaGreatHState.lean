/- The walks of Own, Same and Big of states. -/
import Derived.Test.YtppdjlgjcdmiaaaGreatQC
set_option linter.unusedSimpArgs false
set_option linter.unusedVariables false
namespace Go.Proofs.YtppdjlgjcdmiaaaGreat
open Go.RowKit
theorem zeHState0 {ty : TypeId} {l : List Value} {n : Nat} (h : zeroL Tryz.prog ty = some (l, n) := by with_reducible first | exact zero43 | exact zero26 | exact zero57) : zeroL Tryz.prog ty = some (l, n) := h
theorem gaHState1 {ty : TypeId} {k : Nat} (h : aggB Tryz.prog ty k = true := by with_reducible first | exact agg43 | exact agg26 | exact agg57) : aggB Tryz.prog ty k = true := h
theorem ceHState2 {ty : TypeId} (h : cellB Tryz.prog ty = true := by with_reducible first | exact cell3 | exact cell4 | exact cell22 | exact cell24 | exact cell41) : cellB Tryz.prog ty = true := h
theorem rws_one (l : List Rw) : (l.flatMap rwV).all (·.oneCell') = true := by
  rw [List.all_eq_true]; intro u hu; obtain ⟨x, _, hx⟩ := List.mem_flatMap.1 hu; simp [rwV] at hx; rcases hx with rfl | rfl | rfl | rfl <;> rfl
def OwnPost6 (w : World) (x : Sv) (e : Ending) (w' : World) : Prop := ∃ y R, e = .returned (.agg (svL y).toArray) ∧ x.Sm y ∧ Kept R (fun w => y.Is w) ∧ Hp w.heap.size w w' R
set_option maxRecDepth 100000 in
set_option maxHeartbeats 8000000 in
theorem own16 (x : Sv) (hs : x.Small) (w : World) (hx0 : x.Is w) : Calls Tryz.prog 16 #[.agg (svL x).toArray] w (OwnPost6 w x) := by
  obtain ⟨i1, hi1, hy0, hy1, hy2⟩ := info_parts info57
  obtain ⟨hv, ra, rs, rc⟩ := x
  obtain ⟨hs1, hs2⟩ := hs
  obtain ⟨hh, hr⟩ := hx0
  simp only at hs1 hs2 hh hr
  have HH := Lib.hid hh
  have HR := Lib.hid hr
  have sm1 : rs.length ≤ maxLen := by unfold maxLen; omega
  have sm2 : rs.length * 32 ≤ 140737488355328 := by omega
  have hp := Hp.start w
  clear hh hr hs2
  obtain ⟨hv1, hhv⟩ : ∃ v, v = hv := ⟨_, rfl⟩
  rw [← hhv]
  obtain ⟨od, oa, os, oc, nx, t0, t1, t2, t3, fa, fs, fc⟩ := hv1
  subst hhv
  simp only [svL, hvL, List.cons_append, List.nil_append]
  go_enter Tryz.func16, Tryz.ntmps16
  go_wp2_with (first | (go_at_call 9; (with_reducible refine (own9L od oa os oc nx t0 t1 t2 t3 fa fs fc hs1 _ (HH.out.below hp.below)).mono ?_); rintro e w1 ⟨⟨od', oa', os', oc', nx', t0', t1', t2', t3', fa', fs', fc'⟩, R, rfl, hsm, hk, hp5⟩; replace hp := hp.join hp5; have HSM := Lib.hid hsm; have HK := Lib.hid hk; clear hp5 hsm hk; simp only [List.cons_append, List.nil_append, hvL] at hp ⊢) | ((with_reducible refine pre_append _ _ 41 rfl ?_); refine wpList_appendRowK hp _ _ _ rfl wy 57 i1 _ 4 32 Tryz.underlying41 hi1 hy0 hy1 hy2 rfl (by decide) (slot_tmp rfl) ra rs.length rc (slot_tmp rfl) _ (by rw [flat_len rwV 4 rwV_len]) (HR.out.below hp.below) (rws_one rs) sm1 sm2 ?_; clear hp; intro a1 c1 R1 w1 hr1 _ hp; have HR1 := Lib.hid hr1; clear hr1; simp only [List.cons_append, List.append_assoc] at hp; simp only [put_some, put_none, List.set_cons_succ, List.set_cons_zero]) | go_skip | ((first | ((with_reducible refine pre_alloc _ rfl ?_); refine lZ hp rfl zeHState0 ?_; clear hp; intro b w1 hp) | ((with_reducible refine pre_box _ _ rfl ?_); refine lB hp rfl (slot_tmp rfl) rfl ?_; clear hp; intro b w1 hp) | ((with_reducible refine pre_load _ _ rfl ?_); first | refine lO hp rfl (slot_tmp rfl) ceHState2 aa14 ?_ | refine lA hp rfl (slot_tmp rfl) gaHState1 aa14 ?_ | refine lR hp rfl (slot_tmp rfl) gaHState1 HX.out ?_ | refine lR hp rfl (slot_tmp rfl) gaHState1 HY.out ?_) | ((with_reducible refine pre_store _ _ _ rfl ?_); (first | refine sO hp rfl (slot_tmp rfl) ceHState2 aa14 ?_ | refine sA hp rfl (slot_tmp rfl) (slot_tmp rfl) gaHState1 aa14 ?_ | refine sG hp rfl (slot_tmp rfl) (slot_tmp rfl) gaHState1 aa14 ?_); clear hp; intro w1 hp; simp only [spl, List.set_cons_zero, List.set_cons_succ] at hp)); simp only [put_some, put_none, List.set_cons_succ, List.set_cons_zero]))
  refine bodyPost_ret (results_one (rs := [.cell 2 43]) Tryz.results16 (.cell rfl (hp.loadAgg agg43 at0 0 _ (by rfl) (by rfl)) .nil)) rfl ⟨⟨⟨od', oa', os', oc', nx', t0', t1', t2', t3', fa', fs', fc'⟩, a1, rs, c1⟩, R ++ R1, rfl, ⟨HSM.out, rfl⟩, ?_, hp.tail.tail⟩
  intro B w0 w' L hpx hm
  exact ⟨HK.out B w0 w' L hpx (fun p hp2 => hm p (by simp [hp2])), HR1.out B w0 w' L hpx (fun p hp2 => hm p (by simp [hp2]))⟩
set_option maxRecDepth 100000 in
set_option maxHeartbeats 8000000 in
theorem same19 (x y : Sv) (hs : x.Small) (hxy : x.Sm y) (w : World) (hx0 : x.Is w) (hy0 : y.Is w) : Calls Tryz.prog 19 #[.agg (svL x).toArray, .agg (svL y).toArray] w fun e w' => e = .returned (.bool true) ∧ Below w.heap.size w w' := by
  obtain ⟨hv, ra, rs, rc⟩ := x
  obtain ⟨hv', ra', rs', rc'⟩ := y
  obtain ⟨hs1, hs2⟩ := hs
  obtain ⟨hsm, hrs⟩ := hxy
  obtain ⟨hh, hr⟩ := hx0
  obtain ⟨hh', hr'⟩ := hy0
  simp only at hs1 hs2 hh hr hh' hr' hsm hrs
  subst hrs
  obtain ⟨hv1, hhv⟩ : ∃ v, v = hv := ⟨_, rfl⟩
  obtain ⟨hv2, hhv2⟩ : ∃ v, v = hv' := ⟨_, rfl⟩
  rw [← hhv, ← hhv2]
  obtain ⟨od, oa, os, oc, nx, t0, t1, t2, t3, fa, fs, fc⟩ := hv1
  obtain ⟨od', oa', os', oc', nx', t0', t1', t2', t3', fa', fs', fc'⟩ := hv2
  subst hhv hhv2
  simp only [svL, hvL, List.cons_append, List.nil_append]
  have HH := Lib.hid hh
  have HH' := Lib.hid hh'
  have HR := Lib.hid hr
  have HR' := Lib.hid hr'
  have HSM := Lib.hid hsm
  have hp := Hp.start w
  clear hh hr hh' hr' hsm
  go_enter Tryz.func19, Tryz.ntmps19
  go_wp2_with (first | (go_at_call 12; (with_reducible refine (same12L od oa os oc nx t0 t1 t2 t3 fa fs fc od' oa' os' oc' nx' t0' t1' t2' t3' fa' fs' fc' hs1 HSM.out _ (HH.out.below hp.below) (HH'.out.below hp.below)).mono ?_); rintro e w1 ⟨rfl, hb⟩; replace hp := hp.call hb; clear hb) | go_skip | ((first | ((with_reducible refine pre_alloc _ rfl ?_); refine lZ hp rfl zeHState0 ?_; clear hp; intro b w1 hp) | ((with_reducible refine pre_box _ _ rfl ?_); refine lB hp rfl (slot_tmp rfl) rfl ?_; clear hp; intro b w1 hp) | ((with_reducible refine pre_load _ _ rfl ?_); first | refine lO hp rfl (slot_tmp rfl) ceHState2 aa14 ?_ | refine lA hp rfl (slot_tmp rfl) gaHState1 aa14 ?_ | refine lR hp rfl (slot_tmp rfl) gaHState1 HX.out ?_ | refine lR hp rfl (slot_tmp rfl) gaHState1 HY.out ?_) | ((with_reducible refine pre_store _ _ _ rfl ?_); (first | refine sO hp rfl (slot_tmp rfl) ceHState2 aa14 ?_ | refine sA hp rfl (slot_tmp rfl) (slot_tmp rfl) gaHState1 aa14 ?_ | refine sG hp rfl (slot_tmp rfl) (slot_tmp rfl) gaHState1 aa14 ?_); clear hp; intro w1 hp; simp only [spl, List.set_cons_zero, List.set_cons_succ] at hp)); simp only [put_some, put_none, List.set_cons_succ, List.set_cons_zero]))
  obtain ⟨b1, rfl⟩ := hp.id1
  go_loopg [5] rs.length (fun k i wr => ∃ j : Nat, k + j = rs.length ∧ i = .int .i64 j ∧ Hp w.heap.size w wr [⟨b, [.int .i64 od', .slice oa' os'.length oc', .int .i64 nx', .int .i64 t0', .int .i64 t1', .int .i64 t2', .int .i64 t3', .slice fa' fs'.length fc', .slice ra' rs.length rc'], 43, 9⟩, ⟨b1, [.int .i64 od, .slice oa os.length oc, .int .i64 nx, .int .i64 t0, .int .i64 t1, .int .i64 t2, .int .i64 t3, .slice fa fs.length fc, .slice ra rs.length rc], 43, 9⟩])
  case atStart => exact ⟨0, by omega, rfl, hp⟩
  case round =>
    clear hp
    obtain ⟨j, hkj, rfl, hp⟩ := hrel
    by_cases hlt : j < rs.length
    · obtain ⟨bq, off, rfl, hx⟩ := HR.out.elems 4 rwV_len (by omega) (by omega)
      obtain ⟨bq', off', rfl, hy⟩ := HR'.out.elems 4 rwV_len (by omega) (by omega)
      have hj := List.getElem?_eq_getElem hlt
      replace hx := hx j _ hj
      replace hy := hy j _ hj
      clear hj
      generalize rs[j] = x at hx hy
      obtain ⟨xc, xs, xe, xv⟩ := x
      simp only [rwV] at hx hy
      have HX := Lib.hid hx
      have HY := Lib.hid hy
      clear hx hy
      have e1 : (0 : Int) ≤ (j : Int) := by omega
      have e2 : (j : Int) < (rs.length : Int) := by omega
      go_wp2_with (first | go_skip | ((first | ((with_reducible refine pre_alloc _ rfl ?_); refine lZ hp rfl zeHState0 ?_; clear hp; intro b w1 hp) | ((with_reducible refine pre_box _ _ rfl ?_); refine lB hp rfl (slot_tmp rfl) rfl ?_; clear hp; intro b w1 hp) | ((with_reducible refine pre_load _ _ rfl ?_); first | refine lO hp rfl (slot_tmp rfl) ceHState2 aa14 ?_ | refine lA hp rfl (slot_tmp rfl) gaHState1 aa14 ?_ | refine lR hp rfl (slot_tmp rfl) gaHState1 HX.out ?_ | refine lR hp rfl (slot_tmp rfl) gaHState1 HY.out ?_) | ((with_reducible refine pre_store _ _ _ rfl ?_); (first | refine sO hp rfl (slot_tmp rfl) ceHState2 aa14 ?_ | refine sA hp rfl (slot_tmp rfl) (slot_tmp rfl) gaHState1 aa14 ?_ | refine sG hp rfl (slot_tmp rfl) (slot_tmp rfl) gaHState1 aa14 ?_); clear hp; intro w1 hp; simp only [spl, List.set_cons_zero, List.set_cons_succ] at hp)); simp only [put_some, put_none, List.set_cons_succ, List.set_cons_zero]))
      refine wp_region_keeps _ (Keeps.all hp.drew) [] [(0, true), (1, true), (2, true), (3, true), (4, true), (5, true), (6, true), (7, true), (8, true), (9, true), (10, true)] (by kernel_rfl) (by kernel_rfl) rfl (by kernel_rfl) (fun _ _ d _ _ h => by cases d <;> exact h) ?_
      replace hp := hp.drew
      repeat' (with_reducible refine plan_is ?_); first | (with_reducible refine plan_nil ?_) | ((with_reducible refine plan_t ?_); refine plan_tk rfl ?_; (first | ((with_reducible refine tk_mv _ rfl ?_); refine tM rfl ?_) | ((with_reducible refine tk_ld _ _ rfl ?_); first | refine tA rfl (slot_tmp rfl) agg57 aa14 ?_ | refine tO rfl (slot_tmp rfl) cell41 aa14 ?_ | refine tR rfl (slot_tmp rfl) agg57 HX.out ?_ | refine tR rfl (slot_tmp rfl) agg57 HY.out ?_) | refine tG (fun w _ => (by go_simp; try rfl)) ?_); try simp only [put_some, put_none, eval_tmp, eval_const, List.set_cons_succ, List.set_cons_zero, List.getD_cons_succ, List.getD_cons_zero, wrap_eq])
      go_wp2_with fail
      go_roundg (gk - 1)
      case measure => omega
      case rel => exact ⟨j + 1, by omega, by go_num, hp⟩
    · have e2 : decide ((j : Int) < (rs.length : Int)) = false := by simp; omega
      go_wp2_with (first | go_skip | ((first | ((with_reducible refine pre_alloc _ rfl ?_); refine lZ hp rfl zeHState0 ?_; clear hp; intro b w1 hp) | ((with_reducible refine pre_box _ _ rfl ?_); refine lB hp rfl (slot_tmp rfl) rfl ?_; clear hp; intro b w1 hp) | ((with_reducible refine pre_load _ _ rfl ?_); first | refine lO hp rfl (slot_tmp rfl) ceHState2 aa14 ?_ | refine lA hp rfl (slot_tmp rfl) gaHState1 aa14 ?_ | refine lR hp rfl (slot_tmp rfl) gaHState1 HX.out ?_ | refine lR hp rfl (slot_tmp rfl) gaHState1 HY.out ?_) | ((with_reducible refine pre_store _ _ _ rfl ?_); (first | refine sO hp rfl (slot_tmp rfl) ceHState2 aa14 ?_ | refine sA hp rfl (slot_tmp rfl) (slot_tmp rfl) gaHState1 aa14 ?_ | refine sG hp rfl (slot_tmp rfl) (slot_tmp rfl) gaHState1 aa14 ?_); clear hp; intro w1 hp; simp only [spl, List.set_cons_zero, List.set_cons_succ] at hp)); simp only [put_some, put_none, List.set_cons_succ, List.set_cons_zero]))
      go_ret
      exact ⟨rfl, hp.below⟩
def BigPost6 (w : World) (x : Sv) (e : Ending) (w' : World) : Prop := ∃ b, e = .returned (.bool b) ∧ (b = false → x.Small) ∧ Below w.heap.size w w'
set_option maxRecDepth 100000 in
set_option maxHeartbeats 8000000 in
theorem big15 (x : Sv) (w : World) (hx0 : x.Is w) : Calls Tryz.prog 15 #[.agg (svL x).toArray] w (BigPost6 w x) := by
  obtain ⟨hv, ra, rs, rc⟩ := x
  obtain ⟨hh, hr⟩ := hx0
  simp only at hh hr
  obtain ⟨hv1, hhv⟩ : ∃ v, v = hv := ⟨_, rfl⟩
  rw [← hhv]
  obtain ⟨od, oa, os, oc, nx, t0, t1, t2, t3, fa, fs, fc⟩ := hv1
  subst hhv
  simp only [svL, hvL, List.cons_append, List.nil_append]
  have HH := Lib.hid hh
  have hp := Hp.start w
  clear hh hr
  by_cases d1 : (1000 : Int) < (rs.length : Int)
  · go_enter Tryz.func15, Tryz.ntmps15
    go_wp2_with (first | go_skip | ((first | ((with_reducible refine pre_alloc _ rfl ?_); refine lZ hp rfl zeHState0 ?_; clear hp; intro b w1 hp) | ((with_reducible refine pre_box _ _ rfl ?_); refine lB hp rfl (slot_tmp rfl) rfl ?_; clear hp; intro b w1 hp) | ((with_reducible refine pre_load _ _ rfl ?_); first | refine lO hp rfl (slot_tmp rfl) ceHState2 aa14 ?_ | refine lA hp rfl (slot_tmp rfl) gaHState1 aa14 ?_ | refine lR hp rfl (slot_tmp rfl) gaHState1 HX.out ?_ | refine lR hp rfl (slot_tmp rfl) gaHState1 HY.out ?_) | ((with_reducible refine pre_store _ _ _ rfl ?_); (first | refine sO hp rfl (slot_tmp rfl) ceHState2 aa14 ?_ | refine sA hp rfl (slot_tmp rfl) (slot_tmp rfl) gaHState1 aa14 ?_ | refine sG hp rfl (slot_tmp rfl) (slot_tmp rfl) gaHState1 aa14 ?_); clear hp; intro w1 hp; simp only [spl, List.set_cons_zero, List.set_cons_succ] at hp)); simp only [put_some, put_none, List.set_cons_succ, List.set_cons_zero]))
    go_ret
    exact ⟨true, rfl, (by intro h; cases h), hp.below⟩
  · have d2 : decide ((1000 : Int) < (rs.length : Int)) = false := by simp; omega
    have HL : RowKit.Hid (rs.length ≤ 1000) := Lib.hid (by omega)
    clear d1
    go_enter Tryz.func15, Tryz.ntmps15
    go_wp2_with (first | (go_at_call 8; (with_reducible refine (big8L od oa os oc nx t0 t1 t2 t3 fa fs fc _ (HH.out.below hp.below)).mono ?_); rintro e w1 ⟨bb, rfl, hbb, hb⟩; replace hp := hp.call hb; have HBB := Lib.hid hbb; clear hb hbb) | go_skip | ((first | ((with_reducible refine pre_alloc _ rfl ?_); refine lZ hp rfl zeHState0 ?_; clear hp; intro b w1 hp) | ((with_reducible refine pre_box _ _ rfl ?_); refine lB hp rfl (slot_tmp rfl) rfl ?_; clear hp; intro b w1 hp) | ((with_reducible refine pre_load _ _ rfl ?_); first | refine lO hp rfl (slot_tmp rfl) ceHState2 aa14 ?_ | refine lA hp rfl (slot_tmp rfl) gaHState1 aa14 ?_ | refine lR hp rfl (slot_tmp rfl) gaHState1 HX.out ?_ | refine lR hp rfl (slot_tmp rfl) gaHState1 HY.out ?_) | ((with_reducible refine pre_store _ _ _ rfl ?_); (first | refine sO hp rfl (slot_tmp rfl) ceHState2 aa14 ?_ | refine sA hp rfl (slot_tmp rfl) (slot_tmp rfl) gaHState1 aa14 ?_ | refine sG hp rfl (slot_tmp rfl) (slot_tmp rfl) gaHState1 aa14 ?_); clear hp; intro w1 hp; simp only [spl, List.set_cons_zero, List.set_cons_succ] at hp)); simp only [put_some, put_none, List.set_cons_succ, List.set_cons_zero]))
    go_ret
    exact ⟨bb, rfl, fun h => ⟨HBB.out h, HL.out⟩, hp.below⟩
end Go.Proofs.YtppdjlgjcdmiaaaGreat
