/- Parts of the proof. -/
import Derived.Test.YtaafajaadfgaoaaGreatAz2
import Derived.Test.YtaafajaadfgaoaaGreatAz23
import Derived.Test.YtaafajaadfgaoaaGreatAz1
open List renaming set_cons_zero → zSet, set_cons_succ → sSet
/- The walks of Own, Same and Big of states. -/
set_option linter.unusedSimpArgs false
set_option linter.unusedVariables false
namespace Go.Proofs.YtaafajaadfgaoaaGreat
open Go.RowKit
theorem zeHState0 {ty : TypeId} {l : List Value} {n : Nat} (h : zeroL Tryz.prog ty = some (l, n) := by with_reducible first | exact zero50 | exact zero47 | exact zero120) : zeroL Tryz.prog ty = some (l, n) := h
theorem gaHState1 {ty : TypeId} {k : Nat} (h : aggB Tryz.prog ty k = true := by with_reducible first | exact agg50 | exact agg47 | exact agg120) : aggB Tryz.prog ty k = true := h
theorem ceHState2 {ty : TypeId} (h : cellB Tryz.prog ty = true := by with_reducible first | exact cell3 | exact cell4 | exact cell43 | exact cell45 | exact cell48) : cellB Tryz.prog ty = true := h
theorem rws_one (l : List Rw) : (l.flatMap rwV).all (·.oneCell') = true := by
  rw [List.all_eq_true]; intro u hu; obtain ⟨x, _, hx⟩ := List.mem_flatMap.1 hu; simp [rwV] at hx; rcases hx with rfl | rfl | rfl | rfl <;> rfl
def OwnPost6 (w : World) (x : Sv) (e : Ending) (w' : World) : Prop := ∃ y R, e = .returned (.agg (svL y).toArray) ∧ x.Sm y ∧ Kept R (fun w => y.Is w) ∧ Hp w.heap.size w w' R
set_option maxRecDepth 100000 in
set_option maxHeartbeats 8000000 in
theorem own20 (x : Sv) (hs : x.Small) (w : World) (hx0 : x.Is w) : Calls Tryz.prog 20 #[.agg (svL x).toArray] w (OwnPost6 w x) := by
  obtain ⟨i1, hi1, hy0, hy1, hy2⟩ := info_parts info120
  obtain ⟨hv, ra, rs, rc⟩ := x
  obtain ⟨hs1, hs2⟩ := hs
  obtain ⟨hh, hr⟩ := hx0
  simp only at hs1 hs2 hh hr
  have HH := Lib.hid hh
  have HR := Lib.hid hr
  have sm1 : rs.length ≤ maxLen := by unfold maxLen; omega
  have sm2 : rs.length * 32 ≤ 140737488355328 := by omega
  have hp := Hp.start w
  clear hh hr hs2
  obtain ⟨hv1, hhv⟩ : ∃ v, v = hv := ⟨_, rfl⟩
  rw [← hhv]
  obtain ⟨od, oa, os, oc, nx, t0, t1, t2, t3, fa, fs, fc⟩ := hv1
  subst hhv
  simp only [svL, hvL, List.cons_append, List.nil_append]
  go_enter Tryz.func20, Tryz.ntmps20
  go_wp2_with (first | (go_at_call 73; (with_reducible refine (own73L od oa os oc nx t0 t1 t2 t3 fa fs fc hs1 _ (HH.out.below hp.below)).mono ?_); rintro e w1 ⟨⟨od', oa', os', oc', nx', t0', t1', t2', t3', fa', fs', fc'⟩, R, rfl, hsm, hk, hp5⟩; replace hp := hp.join hp5; have HSM := Lib.hid hsm; have HK := Lib.hid hk; clear hp5 hsm hk; simp only [List.cons_append, List.nil_append, hvL] at hp ⊢) | ((with_reducible refine pre_append _ _ 48 rfl ?_); refine wpList_appendRowK hp _ _ _ rfl wy 120 i1 _ 4 32 Tryz.underlying48 hi1 hy0 hy1 hy2 rfl (by decide) (sTm rfl) ra rs.length rc (sTm rfl) _ (by rw [flat_len rwV 4 rwV_len]) (HR.out.below hp.below) (rws_one rs) sm1 sm2 ?_; clear hp; intro a1 c1 R1 w1 hr1 _ hp; have HR1 := Lib.hid hr1; clear hr1; simp only [List.cons_append, List.append_assoc] at hp; simp only [put_some, put_none, sSet, zSet]) | go_skip | ((first | ((with_reducible refine pre_alloc _ rfl ?_); refine lZ hp rfl zeHState0 ?_; clear hp; intro b w1 hp) | ((with_reducible refine pre_box _ _ rfl ?_); refine lB hp rfl (sTm rfl) rfl ?_; clear hp; intro b w1 hp) | ((with_reducible refine pre_load _ _ rfl ?_); first | refine lO hp rfl (sTm rfl) ceHState2 aa14 ?_ | refine lA hp rfl (sTm rfl) gaHState1 aa14 ?_ | refine lR hp rfl (sTm rfl) gaHState1 HX.out ?_ | refine lR hp rfl (sTm rfl) gaHState1 HY.out ?_) | ((with_reducible refine pre_store _ _ _ rfl ?_); (first | refine sO hp rfl (sTm rfl) ceHState2 aa14 ?_ | refine sA hp rfl (sTm rfl) (sTm rfl) gaHState1 aa14 ?_ | refine sG hp rfl (sTm rfl) (sTm rfl) gaHState1 aa14 ?_); clear hp; intro w1 hp; simp only [spl, zSet, sSet] at hp)); simp only [put_some, put_none, sSet, zSet]))
  refine bodyPost_ret (results_one (rs := [.cell 2 50]) Tryz.results20 (.cell rfl (hp.loadAgg agg50 at0 0 _ (by rfl) (by rfl)) .nil)) rfl ⟨⟨⟨od', oa', os', oc', nx', t0', t1', t2', t3', fa', fs', fc'⟩, a1, rs, c1⟩, R ++ R1, rfl, ⟨HSM.out, rfl⟩, ?_, hp.tail.tail⟩
  intro B w0 w' L hpx hm
  exact ⟨HK.out B w0 w' L hpx (fun p hp2 => hm p (by simp [hp2])), HR1.out B w0 w' L hpx (fun p hp2 => hm p (by simp [hp2]))⟩
set_option maxRecDepth 100000 in
set_option maxHeartbeats 8000000 in
theorem same26 (x y : Sv) (hs : x.Small) (hxy : x.Sm y) (w : World) (hx0 : x.Is w) (hy0 : y.Is w) : Calls Tryz.prog 26 #[.agg (svL x).toArray, .agg (svL y).toArray] w fun e w' => e = .returned (.bool true) ∧ Below w.heap.size w w' := by
  obtain ⟨hv, ra, rs, rc⟩ := x
  obtain ⟨hv', ra', rs', rc'⟩ := y
  obtain ⟨hs1, hs2⟩ := hs
  obtain ⟨hsm, hrs⟩ := hxy
  obtain ⟨hh, hr⟩ := hx0
  obtain ⟨hh', hr'⟩ := hy0
  simp only at hs1 hs2 hh hr hh' hr' hsm hrs
  subst hrs
  obtain ⟨hv1, hhv⟩ : ∃ v, v = hv := ⟨_, rfl⟩
  obtain ⟨hv2, hhv2⟩ : ∃ v, v = hv' := ⟨_, rfl⟩
  rw [← hhv, ← hhv2]
  obtain ⟨od, oa, os, oc, nx, t0, t1, t2, t3, fa, fs, fc⟩ := hv1
  obtain ⟨od', oa', os', oc', nx', t0', t1', t2', t3', fa', fs', fc'⟩ := hv2
  subst hhv hhv2
  simp only [svL, hvL, List.cons_append, List.nil_append]
  have HH := Lib.hid hh
  have HH' := Lib.hid hh'
  have HR := Lib.hid hr
  have HR' := Lib.hid hr'
  have HSM := Lib.hid hsm
  have hp := Hp.start w
  clear hh hr hh' hr' hsm
  go_enter Tryz.func26, Tryz.ntmps26
  go_wp2_with (first | (go_at_call 27; (with_reducible refine (same27L od oa os oc nx t0 t1 t2 t3 fa fs fc od' oa' os' oc' nx' t0' t1' t2' t3' fa' fs' fc' hs1 HSM.out _ (HH.out.below hp.below) (HH'.out.below hp.below)).mono ?_); rintro e w1 ⟨rfl, hb⟩; replace hp := hp.call hb; clear hb) | go_skip | ((first | ((with_reducible refine pre_alloc _ rfl ?_); refine lZ hp rfl zeHState0 ?_; clear hp; intro b w1 hp) | ((with_reducible refine pre_box _ _ rfl ?_); refine lB hp rfl (sTm rfl) rfl ?_; clear hp; intro b w1 hp) | ((with_reducible refine pre_load _ _ rfl ?_); first | refine lO hp rfl (sTm rfl) ceHState2 aa14 ?_ | refine lA hp rfl (sTm rfl) gaHState1 aa14 ?_ | refine lR hp rfl (sTm rfl) gaHState1 HX.out ?_ | refine lR hp rfl (sTm rfl) gaHState1 HY.out ?_) | ((with_reducible refine pre_store _ _ _ rfl ?_); (first | refine sO hp rfl (sTm rfl) ceHState2 aa14 ?_ | refine sA hp rfl (sTm rfl) (sTm rfl) gaHState1 aa14 ?_ | refine sG hp rfl (sTm rfl) (sTm rfl) gaHState1 aa14 ?_); clear hp; intro w1 hp; simp only [spl, zSet, sSet] at hp)); simp only [put_some, put_none, sSet, zSet]))
  obtain ⟨b1, rfl⟩ := hp.id1
  go_loopg [5] rs.length (fun k i wr => ∃ j : Nat, k + j = rs.length ∧ i = .int .i64 j ∧ Hp w.heap.size w wr [⟨b, [.int .i64 od', .slice oa' os'.length oc', .int .i64 nx', .int .i64 t0', .int .i64 t1', .int .i64 t2', .int .i64 t3', .slice fa' fs'.length fc', .slice ra' rs.length rc'], 50, 9⟩, ⟨b1, [.int .i64 od, .slice oa os.length oc, .int .i64 nx, .int .i64 t0, .int .i64 t1, .int .i64 t2, .int .i64 t3, .slice fa fs.length fc, .slice ra rs.length rc], 50, 9⟩])
  case atStart => exact ⟨0, by omega, rfl, hp⟩
  case round =>
    clear hp
    obtain ⟨j, hkj, rfl, hp⟩ := hrel
    by_cases hlt : j < rs.length
    · obtain ⟨bq, off, rfl, hx⟩ := HR.out.elems 4 rwV_len (by omega) (by omega)
      obtain ⟨bq', off', rfl, hy⟩ := HR'.out.elems 4 rwV_len (by omega) (by omega)
      have hj := List.getElem?_eq_getElem hlt
      replace hx := hx j _ hj
      replace hy := hy j _ hj
      clear hj
      generalize rs[j] = x at hx hy
      obtain ⟨xc, xs, xe, xv⟩ := x
      simp only [rwV] at hx hy
      have HX := Lib.hid hx
      have HY := Lib.hid hy
      clear hx hy
      have e1 : (0 : Int) ≤ (j : Int) := by omega
      have e2 : (j : Int) < (rs.length : Int) := by omega
      go_wp2_with (first | go_skip | ((first | ((with_reducible refine pre_alloc _ rfl ?_); refine lZ hp rfl zeHState0 ?_; clear hp; intro b w1 hp) | ((with_reducible refine pre_box _ _ rfl ?_); refine lB hp rfl (sTm rfl) rfl ?_; clear hp; intro b w1 hp) | ((with_reducible refine pre_load _ _ rfl ?_); first | refine lO hp rfl (sTm rfl) ceHState2 aa14 ?_ | refine lA hp rfl (sTm rfl) gaHState1 aa14 ?_ | refine lR hp rfl (sTm rfl) gaHState1 HX.out ?_ | refine lR hp rfl (sTm rfl) gaHState1 HY.out ?_) | ((with_reducible refine pre_store _ _ _ rfl ?_); (first | refine sO hp rfl (sTm rfl) ceHState2 aa14 ?_ | refine sA hp rfl (sTm rfl) (sTm rfl) gaHState1 aa14 ?_ | refine sG hp rfl (sTm rfl) (sTm rfl) gaHState1 aa14 ?_); clear hp; intro w1 hp; simp only [spl, zSet, sSet] at hp)); simp only [put_some, put_none, sSet, zSet]))
      refine wp_region_keeps _ (Keeps.all hp.drew) [] [(0, true), (1, true), (2, true), (3, true), (4, true), (5, true), (6, true), (7, true), (8, true), (9, true), (10, true)] (by kernel_rfl) (by kernel_rfl) rfl (by kernel_rfl) (fun _ _ d _ _ h => by cases d <;> exact h) ?_
      replace hp := hp.drew
      repeat' (with_reducible refine plan_is ?_); first | (with_reducible refine plan_nil ?_) | ((with_reducible refine plan_t ?_); refine plan_tk rfl ?_; (first | ((with_reducible refine tk_mv _ rfl ?_); refine tM rfl ?_) | ((with_reducible refine tk_ld _ _ rfl ?_); first | refine tA rfl (sTm rfl) agg120 aa14 ?_ | refine tO rfl (sTm rfl) cell48 aa14 ?_ | refine tR rfl (sTm rfl) agg120 HX.out ?_ | refine tR rfl (sTm rfl) agg120 HY.out ?_) | refine tG (fun w _ => (by go_simp; try rfl)) ?_); try simp only [put_some, put_none, eval_tmp, eval_const, sSet, zSet, List.getD_cons_succ, List.getD_cons_zero, wrap_eq])
      go_wp2_with fail
      go_roundg (gk - 1)
      case measure => omega
      case rel => exact ⟨j + 1, by omega, by go_num, hp⟩
    · have e2 : decide ((j : Int) < (rs.length : Int)) = false := by simp; omega
      go_wp2_with (first | go_skip | ((first | ((with_reducible refine pre_alloc _ rfl ?_); refine lZ hp rfl zeHState0 ?_; clear hp; intro b w1 hp) | ((with_reducible refine pre_box _ _ rfl ?_); refine lB hp rfl (sTm rfl) rfl ?_; clear hp; intro b w1 hp) | ((with_reducible refine pre_load _ _ rfl ?_); first | refine lO hp rfl (sTm rfl) ceHState2 aa14 ?_ | refine lA hp rfl (sTm rfl) gaHState1 aa14 ?_ | refine lR hp rfl (sTm rfl) gaHState1 HX.out ?_ | refine lR hp rfl (sTm rfl) gaHState1 HY.out ?_) | ((with_reducible refine pre_store _ _ _ rfl ?_); (first | refine sO hp rfl (sTm rfl) ceHState2 aa14 ?_ | refine sA hp rfl (sTm rfl) (sTm rfl) gaHState1 aa14 ?_ | refine sG hp rfl (sTm rfl) (sTm rfl) gaHState1 aa14 ?_); clear hp; intro w1 hp; simp only [spl, zSet, sSet] at hp)); simp only [put_some, put_none, sSet, zSet]))
      go_ret
      exact ⟨rfl, hp.below⟩
def BigPost6 (w : World) (x : Sv) (e : Ending) (w' : World) : Prop := ∃ b, e = .returned (.bool b) ∧ (b = false → x.Small) ∧ Below w.heap.size w w'
set_option maxRecDepth 100000 in
set_option maxHeartbeats 8000000 in
theorem big19 (x : Sv) (w : World) (hx0 : x.Is w) : Calls Tryz.prog 19 #[.agg (svL x).toArray] w (BigPost6 w x) := by
  obtain ⟨hv, ra, rs, rc⟩ := x
  obtain ⟨hh, hr⟩ := hx0
  simp only at hh hr
  obtain ⟨hv1, hhv⟩ : ∃ v, v = hv := ⟨_, rfl⟩
  rw [← hhv]
  obtain ⟨od, oa, os, oc, nx, t0, t1, t2, t3, fa, fs, fc⟩ := hv1
  subst hhv
  simp only [svL, hvL, List.cons_append, List.nil_append]
  have HH := Lib.hid hh
  have hp := Hp.start w
  clear hh hr
  by_cases d1 : (1000 : Int) < (rs.length : Int)
  · go_enter Tryz.func19, Tryz.ntmps19
    go_wp2_with (first | go_skip | ((first | ((with_reducible refine pre_alloc _ rfl ?_); refine lZ hp rfl zeHState0 ?_; clear hp; intro b w1 hp) | ((with_reducible refine pre_box _ _ rfl ?_); refine lB hp rfl (sTm rfl) rfl ?_; clear hp; intro b w1 hp) | ((with_reducible refine pre_load _ _ rfl ?_); first | refine lO hp rfl (sTm rfl) ceHState2 aa14 ?_ | refine lA hp rfl (sTm rfl) gaHState1 aa14 ?_ | refine lR hp rfl (sTm rfl) gaHState1 HX.out ?_ | refine lR hp rfl (sTm rfl) gaHState1 HY.out ?_) | ((with_reducible refine pre_store _ _ _ rfl ?_); (first | refine sO hp rfl (sTm rfl) ceHState2 aa14 ?_ | refine sA hp rfl (sTm rfl) (sTm rfl) gaHState1 aa14 ?_ | refine sG hp rfl (sTm rfl) (sTm rfl) gaHState1 aa14 ?_); clear hp; intro w1 hp; simp only [spl, zSet, sSet] at hp)); simp only [put_some, put_none, sSet, zSet]))
    go_ret
    exact ⟨true, rfl, (by intro h; cases h), hp.below⟩
  · have d2 : decide ((1000 : Int) < (rs.length : Int)) = false := by simp; omega
    have HL : RowKit.Hid (rs.length ≤ 1000) := Lib.hid (by omega)
    clear d1
    go_enter Tryz.func19, Tryz.ntmps19
    go_wp2_with (first | (go_at_call 72; (with_reducible refine (big72L od oa os oc nx t0 t1 t2 t3 fa fs fc _ (HH.out.below hp.below)).mono ?_); rintro e w1 ⟨bb, rfl, hbb, hb⟩; replace hp := hp.call hb; have HBB := Lib.hid hbb; clear hb hbb) | go_skip | ((first | ((with_reducible refine pre_alloc _ rfl ?_); refine lZ hp rfl zeHState0 ?_; clear hp; intro b w1 hp) | ((with_reducible refine pre_box _ _ rfl ?_); refine lB hp rfl (sTm rfl) rfl ?_; clear hp; intro b w1 hp) | ((with_reducible refine pre_load _ _ rfl ?_); first | refine lO hp rfl (sTm rfl) ceHState2 aa14 ?_ | refine lA hp rfl (sTm rfl) gaHState1 aa14 ?_ | refine lR hp rfl (sTm rfl) gaHState1 HX.out ?_ | refine lR hp rfl (sTm rfl) gaHState1 HY.out ?_) | ((with_reducible refine pre_store _ _ _ rfl ?_); (first | refine sO hp rfl (sTm rfl) ceHState2 aa14 ?_ | refine sA hp rfl (sTm rfl) (sTm rfl) gaHState1 aa14 ?_ | refine sG hp rfl (sTm rfl) (sTm rfl) gaHState1 aa14 ?_); clear hp; intro w1 hp; simp only [spl, zSet, sSet] at hp)); simp only [put_some, put_none, sSet, zSet]))
    go_ret
    exact ⟨bb, rfl, fun h => ⟨HBB.out h, HL.out⟩, hp.below⟩
end Go.Proofs.YtaafajaadfgaoaaGreat
/- What an entry makes of a state: the plain law. No program in sight. -/
namespace Go.Proofs.YtaafajaadfgaoaaGreat
def rowOk (last : Int) (x : Rw) : Bool := decide (last < x.c ∧ x.c ≤ 4 ∧ 1 ≤ x.s ∧ x.s ≤ 1000000 ∧ 0 ≤ x.e ∧ x.e ≤ 65535)
def rowsOk : Int → List Rw → Bool
  | _, [] => true
  | last, x :: r => rowOk last x && rowsOk x.c r
noncomputable def stB (x : Sv) : Bool := hrightB x.hv && rowsOk 0 x.rs
theorem rowsOk_cons {last : Int} {x : Rw} {r : List Rw} : rowsOk last (x :: r) = true ↔ rowOk last x = true ∧ rowsOk x.c r = true := by simp [rowsOk]
theorem rowOk_iff {last : Int} {x : Rw} : rowOk last x = true ↔ last < x.c ∧ x.c ≤ 4 ∧ 1 ≤ x.s ∧ x.s ≤ 1000000 ∧ 0 ≤ x.e ∧ x.e ≤ 65535 := by simp [rowOk]
theorem rowsOk_mem : ∀ {l : List Rw} {last : Int}, rowsOk last l = true → ∀ x ∈ l, rowOk last x = true
  | [], _, _, x, hx => by cases hx
  | y :: r, last, h, x, hx => by
    obtain ⟨h1, h2⟩ := rowsOk_cons.1 h
    rcases List.mem_cons.1 hx with rfl | hx
    · exact h1
    · have h3 := rowOk_iff.1 h1
      have h4 := rowOk_iff.1 (rowsOk_mem h2 x hx)
      exact rowOk_iff.2 ⟨by omega, h4.2⟩
theorem rowsOk_len : ∀ {l : List Rw} {last : Int}, rowsOk last l = true → last ≤ 4 → (l.length : Int) ≤ 4 - last
  | [], _, _, h => by simp; omega
  | y :: r, last, h, _ => by
    obtain ⟨h1, h2⟩ := rowsOk_cons.1 h
    have h3 := rowOk_iff.1 h1
    have := rowsOk_len h2 h3.2.1
    simp only [List.length_cons]; omega
structure StR (x : Sv) : Prop where
  hv : HRight x.hv
  rows : rowsOk 0 x.rs = true
theorem st_of {x : Sv} (h : stB x = true) : StR x := by
  unfold stB at h
  rw [Bool.and_eq_true] at h
  exact ⟨hright_of h.1, h.2⟩
theorem st_yes {x : Sv} (h : StR x) : stB x = true := by unfold stB; rw [hright_yes h.hv, h.rows]; rfl
theorem StR.small {x : Sv} (h : StR x) : x.Small := ⟨h.hv.small, by have := rowsOk_len h.rows (by decide); omega⟩
theorem stB_sm {x y : Sv} (h : x.Sm y) : stB x = stB y := by unfold stB; rw [hright_sm h.1, h.2]
end Go.Proofs.YtaafajaadfgaoaaGreat
/- The walk of image.Check. -/
namespace Go.Proofs.YtaafajaadfgaoaaGreat
open Go.RowKit
theorem gaYK0 {ty : TypeId} {k : Nat} (h : aggB Tryz.prog ty k = true := by with_reducible first | exact agg50 | exact agg47 | exact agg120) : aggB Tryz.prog ty k = true := h
theorem ceYK1 {ty : TypeId} (h : cellB Tryz.prog ty = true := by with_reducible first | exact cell3 | exact cell4 | exact cell48 | exact cell37) : cellB Tryz.prog ty = true := h
theorem row_ways (last : Int) (x : Rw) : (decide (last < x.c) = false ∧ rowOk last x = false) ∨ (decide (last < x.c) = true ∧ decide (x.c ≤ 4) = false ∧ rowOk last x = false) ∨
    (decide (last < x.c) = true ∧ decide (x.c ≤ 4) = true ∧ decide (1 ≤ x.s) = false ∧ rowOk last x = false) ∨ (decide (last < x.c) = true ∧ decide (x.c ≤ 4) = true ∧ decide (1 ≤ x.s) = true ∧ decide (x.s ≤ 1000000) = false ∧ rowOk last x = false) ∨
    (decide (last < x.c) = true ∧ decide (x.c ≤ 4) = true ∧ decide (1 ≤ x.s) = true ∧ decide (x.s ≤ 1000000) = true ∧ decide (0 ≤ x.e) = false ∧ rowOk last x = false) ∨
    (decide (last < x.c) = true ∧ decide (x.c ≤ 4) = true ∧ decide (1 ≤ x.s) = true ∧ decide (x.s ≤ 1000000) = true ∧ decide (0 ≤ x.e) = true ∧ decide (x.e ≤ 65535) = false ∧ rowOk last x = false) ∨
    (decide (last < x.c) = true ∧ decide (x.c ≤ 4) = true ∧ decide (1 ≤ x.s) = true ∧ decide (x.s ≤ 1000000) = true ∧ decide (0 ≤ x.e) = true ∧ decide (x.e ≤ 65535) = true ∧ rowOk last x = true) := by
  unfold rowOk
  simp only [decide_eq_true_eq, decide_eq_false_iff_not]
  omega
def errS (b : Bool) : Int := if b then 0 else 60
set_option maxRecDepth 100000 in
set_option maxHeartbeats 8000000 in
theorem check35 (x : Sv) (r : Bool) (hr : stB x = r) (hs : x.Small) (w : World) (hx0 : x.Is w) :
    Calls Tryz.prog 35 #[.agg (svL x).toArray] w fun e w' => e = .returned (.int .i64 (errS r)) ∧ Below w.heap.size w w' := by
  obtain ⟨⟨od, oa, os, oc, nx, t0, t1, t2, t3, fa, fs, fc⟩, ra, rs, rc⟩ := x
  obtain ⟨hb, hhb⟩ : ∃ b, hrightB ⟨od, oa, os, oc, nx, t0, t1, t2, t3, fa, fs, fc⟩ = b := ⟨_, rfl⟩
  have hq : (hb && rowsOk 0 rs) = r := by rw [← hr]; unfold stB; simp only; rw [hhb]
  obtain ⟨hi, hri⟩ := hx0
  simp only at hi hri
  simp only [svL, hvL, List.cons_append, List.nil_append]
  have hl : rs.length ≤ 1000 := hs.2
  have HB := Lib.hid hhb
  have HQ := Lib.hid hq
  have HSS : RowKit.Hid (Hv.Small ⟨od, oa, os, oc, nx, t0, t1, t2, t3, fa, fs, fc⟩) := Lib.hid hs.1
  have HIS := Lib.hid hi
  have HR : RowKit.Hid (RowIs w ra (rs.flatMap rwV)) := Lib.hid hri
  have he : ((errI hb == 0) : Bool) = hb := by cases hb <;> rfl
  have hp := Hp.start w
  clear hr hhb hq hi hri hs
  go_enter Tryz.func35, Tryz.ntmps35
  go_wp2_with (first | (go_at_call 74; (with_reducible refine (check74L od oa os oc nx t0 t1 t2 t3 fa fs fc _ HB.out HSS.out _ (HIS.out.below hp.below)).mono ?_); rintro e w1 ⟨rfl, hb⟩; replace hp := hp.call hb; clear hb) | go_skip | ((first | ((with_reducible refine pre_alloc _ rfl ?_); refine lZ hp rfl zero120 ?_; clear hp; intro b w1 hp) | ((with_reducible refine pre_box _ _ rfl ?_); refine lB hp rfl (sTm rfl) rfl ?_; clear hp; intro b w1 hp) | ((with_reducible refine pre_load _ _ rfl ?_); first | refine lO hp rfl (sTm rfl) ceYK1 aa14 ?_ | refine lA hp rfl (sTm rfl) gaYK0 aa14 ?_ | refine lR hp rfl (sTm rfl) gaYK0 HX.out ?_) | ((with_reducible refine pre_store _ _ _ rfl ?_); (first | refine sO hp rfl (sTm rfl) ceYK1 aa14 ?_ | refine sA hp rfl (sTm rfl) (sTm rfl) gaYK0 aa14 ?_ | refine sG hp rfl (sTm rfl) (sTm rfl) gaYK0 aa14 ?_); clear hp; intro w1 hp; simp only [spl, zSet, sSet] at hp)); simp only [put_some, put_none, sSet, zSet]))
  obtain ⟨b1, rfl⟩ := hp.id0
  go_loopg [3, 4, 14] rs.length (fun k o l i wr => ∃ (q : Nat) (ok : Bool) (last : Int) (L : List Blk), k + q = rs.length ∧ o = .bool ok ∧ l = .int .i64 last ∧ i = .int .i64 q ∧ RowKit.Hid ((ok && rowsOk last (rs.drop q)) = r) ∧ Hp w.heap.size w wr L)
  case atStart => exact ⟨0, hb, 0, _, by omega, by first | rfl | (rw [he]), rfl, rfl, Lib.hid (by simpa using HQ.out), hp⟩
  case round =>
    clear hp
    obtain ⟨q, ok, last, L, hkq, rfl, rfl, rfl, HI, hp⟩ := hrel
    by_cases hlt : q < rs.length
    · obtain ⟨bq, off, rfl, hx⟩ := HR.out.elems 4 rwV_len (by omega) (by omega)
      have hj := List.getElem?_eq_getElem hlt
      replace hx := hx q _ hj
      have hdrop := List.drop_eq_getElem_cons hlt
      have hin := HI.out
      rw [hdrop] at hin
      clear hj hdrop HI
      generalize rs[q] = x at hx hin
      have hw := row_ways last x
      obtain ⟨yc, ys, ye, yv⟩ := x
      simp only [rwV] at hx
      simp only [rowsOk] at hin
      simp only at hw
      have HX := Lib.hid hx
      have HIN := Lib.hid hin
      have e1 : (0 : Int) ≤ (q : Int) := by omega
      have e2 : (q : Int) < (rs.length : Int) := by omega
      clear hx hin
      cases ok with
      | false =>
        clear hw
        go_wp2_with (first | go_skip | ((first | ((with_reducible refine pre_alloc _ rfl ?_); refine lZ hp rfl zero120 ?_; clear hp; intro b w1 hp) | ((with_reducible refine pre_box _ _ rfl ?_); refine lB hp rfl (sTm rfl) rfl ?_; clear hp; intro b w1 hp) | ((with_reducible refine pre_load _ _ rfl ?_); first | refine lO hp rfl (sTm rfl) ceYK1 aa14 ?_ | refine lA hp rfl (sTm rfl) gaYK0 aa14 ?_ | refine lR hp rfl (sTm rfl) gaYK0 HX.out ?_) | ((with_reducible refine pre_store _ _ _ rfl ?_); (first | refine sO hp rfl (sTm rfl) ceYK1 aa14 ?_ | refine sA hp rfl (sTm rfl) (sTm rfl) gaYK0 aa14 ?_ | refine sG hp rfl (sTm rfl) (sTm rfl) gaYK0 aa14 ?_); clear hp; intro w1 hp; simp only [spl, zSet, sSet] at hp)); simp only [put_some, put_none, sSet, zSet]))
        go_roundg (gk - 1)
        case measure => omega
        case rel => exact ⟨q + 1, false, yc, _, by omega, rfl, rfl, by go_num, Lib.hid (by simpa using HIN.out), hp⟩
      | true =>
        rcases hw with ⟨d1, g⟩ | ⟨d1, d2, g⟩ | ⟨d1, d2, d3, g⟩ | ⟨d1, d2, d3, d4, g⟩ | ⟨d1, d2, d3, d4, d5, g⟩ | ⟨d1, d2, d3, d4, d5, d6, g⟩ | ⟨d1, d2, d3, d4, d5, d6, g⟩
        all_goals
          have HG := Lib.hid g
          clear g
          go_wp2_with (first | go_skip | ((first | ((with_reducible refine pre_alloc _ rfl ?_); refine lZ hp rfl zero120 ?_; clear hp; intro b w1 hp) | ((with_reducible refine pre_box _ _ rfl ?_); refine lB hp rfl (sTm rfl) rfl ?_; clear hp; intro b w1 hp) | ((with_reducible refine pre_load _ _ rfl ?_); first | refine lO hp rfl (sTm rfl) ceYK1 aa14 ?_ | refine lA hp rfl (sTm rfl) gaYK0 aa14 ?_ | refine lR hp rfl (sTm rfl) gaYK0 HX.out ?_) | ((with_reducible refine pre_store _ _ _ rfl ?_); (first | refine sO hp rfl (sTm rfl) ceYK1 aa14 ?_ | refine sA hp rfl (sTm rfl) (sTm rfl) gaYK0 aa14 ?_ | refine sG hp rfl (sTm rfl) (sTm rfl) gaYK0 aa14 ?_); clear hp; intro w1 hp; simp only [spl, zSet, sSet] at hp)); simp only [put_some, put_none, sSet, zSet]))
          go_roundg (gk - 1)
          case measure => omega
          case rel => exact ⟨q + 1, _, yc, _, by omega, rfl, rfl, by go_num, Lib.hid (by have h := HIN.out; rw [HG.out] at h; simpa using h), hp⟩
    · have e2 : decide ((q : Int) < (rs.length : Int)) = false := by simp; omega
      have hr : ok = r := by have h := HI.out; rw [List.drop_eq_nil_of_le (by omega)] at h; simpa [rowsOk] using h
      subst hr
      clear HI HQ
      cases ok with
      | true =>
        go_wp2_with (first | go_skip | ((first | ((with_reducible refine pre_alloc _ rfl ?_); refine lZ hp rfl zero120 ?_; clear hp; intro b w1 hp) | ((with_reducible refine pre_box _ _ rfl ?_); refine lB hp rfl (sTm rfl) rfl ?_; clear hp; intro b w1 hp) | ((with_reducible refine pre_load _ _ rfl ?_); first | refine lO hp rfl (sTm rfl) ceYK1 aa14 ?_ | refine lA hp rfl (sTm rfl) gaYK0 aa14 ?_ | refine lR hp rfl (sTm rfl) gaYK0 HX.out ?_) | ((with_reducible refine pre_store _ _ _ rfl ?_); (first | refine sO hp rfl (sTm rfl) ceYK1 aa14 ?_ | refine sA hp rfl (sTm rfl) (sTm rfl) gaYK0 aa14 ?_ | refine sG hp rfl (sTm rfl) (sTm rfl) gaYK0 aa14 ?_); clear hp; intro w1 hp; simp only [spl, zSet, sSet] at hp)); simp only [put_some, put_none, sSet, zSet]))
        go_ret
        exact ⟨rfl, hp.below⟩
      | false =>
        go_wp2_with (first | go_skip | ((first | ((with_reducible refine pre_alloc _ rfl ?_); refine lZ hp rfl zero120 ?_; clear hp; intro b w1 hp) | ((with_reducible refine pre_box _ _ rfl ?_); refine lB hp rfl (sTm rfl) rfl ?_; clear hp; intro b w1 hp) | ((with_reducible refine pre_load _ _ rfl ?_); first | refine lO hp rfl (sTm rfl) ceYK1 aa14 ?_ | refine lA hp rfl (sTm rfl) gaYK0 aa14 ?_ | refine lR hp rfl (sTm rfl) gaYK0 HX.out ?_) | ((with_reducible refine pre_store _ _ _ rfl ?_); (first | refine sO hp rfl (sTm rfl) ceYK1 aa14 ?_ | refine sA hp rfl (sTm rfl) (sTm rfl) gaYK0 aa14 ?_ | refine sG hp rfl (sTm rfl) (sTm rfl) gaYK0 aa14 ?_); clear hp; intro w1 hp; simp only [spl, zSet, sSet] at hp)); simp only [put_some, put_none, sSet, zSet]))
        go_ret
        exact ⟨rfl, hp.below⟩
theorem check35L (od : Int) (oa : Option Addr) (os : List Ob) (oc : Nat) (nx t0 t1 t2 t3 : Int) (fa : Option Addr) (fs : List Bl) (fc : Nat) (ra : Option Addr) (rs : List Rw) (rc : Nat) (r : Bool) (hr : stB ⟨⟨od, oa, os, oc, nx, t0, t1, t2, t3, fa, fs, fc⟩, ra, rs, rc⟩ = r)
    (hs : Sv.Small ⟨⟨od, oa, os, oc, nx, t0, t1, t2, t3, fa, fs, fc⟩, ra, rs, rc⟩) (w : World) (h : Sv.Is w ⟨⟨od, oa, os, oc, nx, t0, t1, t2, t3, fa, fs, fc⟩, ra, rs, rc⟩) :
    Calls Tryz.prog 35 #[.agg #[.int .i64 od, .slice oa os.length oc, .int .i64 nx, .int .i64 t0, .int .i64 t1, .int .i64 t2, .int .i64 t3, .slice fa fs.length fc, .slice ra rs.length rc]] w fun e w' => e = .returned (.int .i64 (errS r)) ∧ Below w.heap.size w w' := check35 _ r hr hs w h
end Go.Proofs.YtaafajaadfgaoaaGreat
