import Derived.Test.YtcjbepaclbhjaaaTjDD
import Derived.Test.YtcjbepaclbhjaaaTjKSm
/- The walk of heap.Do: what an operation makes of a heap. -/
set_option linter.unusedSimpArgs false
set_option linter.unusedVariables false
namespace Go.Proofs.Ytcjbepaclbhjaaa
open Go.RowKit
theorem gaDV0 {ty : TypeId} {k : Nat} (h : aggB Try.prog ty k = true := by with_reducible first | exact agg27 | exact agg62 | exact agg34 | exact agg39) : aggB Try.prog ty k = true := h
theorem ceDV1 {ty : TypeId} (h : cellB Try.prog ty = true := by with_reducible first | exact cell3 | exact cell4 | exact cell28 | exact cell58) : cellB Try.prog ty = true := h
theorem do19 {x : Hv} (hx : HRight x) (kk hh ii nn cc vv tt : Int) {B bw : Nat} {w0 w : World} {K : List Blk} (hW : WorkAt B w0 w bw x K) :
    Calls Try.prog 19 #[.pointer (some ⟨bw, 0, none⟩), .agg #[.int .i64 kk, .int .i64 hh, .int .i64 ii, .int .i64 nn, .int .i64 cc, .int .i64 vv, .int .i64 tt]] w (WorkPost B w0 bw (doC x ⟨kk, hh, ii, nn, cc, vv, tt⟩).1 (doC x ⟨kk, hh, ii, nn, cc, vv, tt⟩).2.1 (doC x ⟨kk, hh, ii, nn, cc, vv, tt⟩).2.2 K) := by
  unfold doC
  by_cases h1 : kk = 1
  · rw [if_pos h1]
    exact do19_call hW (.inl ⟨h1, Lib.hid (fun h => alloc35 hx h)⟩)
  · rw [if_neg h1]
    by_cases h2 : kk = 2 ∨ kk = 3 ∨ kk = 4 ∨ kk = 6 ∨ kk = 7
    · rw [if_pos h2]
      exact do19_call hW (.inr ⟨h2, Lib.hid (fun h => at36 hx h2 h)⟩)
    · rw [if_neg h2]
      by_cases h3 : kk = 5 ∨ kk = 8
      · rw [if_pos h3]
        unfold topC
        simp only
        by_cases hi : ii < 0 ∨ 3 < ii
        · rw [if_pos hi]
          exact do19_noidx h3 (by simp [inB]; omega) hW
        · rw [if_neg hi]
          obtain ⟨q, rfl, hq⟩ : ∃ q : Nat, ii = q ∧ (q = 0 ∨ q = 1 ∨ q = 2 ∨ q = 3) := ⟨ii.toNat, by omega, by omega⟩
          rcases h3 with rfl | rfl
          · simp only [Int.reduceEq, if_false]
            cases hto : leadsC x.os tt with
            | true => rcases hq with rfl | rfl | rfl | rfl
                      · exact do19_root0 hx hto hW
                      · exact do19_root1 hx hto hW
                      · exact do19_root2 hx hto hW
                      · exact do19_root3 hx hto hW
            | false => rcases hq with rfl | rfl | rfl | rfl
                       · exact do19_root0n hx hto hW
                       · exact do19_root1n hx hto hW
                       · exact do19_root2n hx hto hW
                       · exact do19_root3n hx hto hW
          · simp only [if_true]
            exact do19_top hq hW
      · rw [if_neg h3]
        exact do19_form (by omega) hW
def strip (o : Ob) : Ob := mkOb o.h o.p o.o o.ws o.ls
def core (x : Hv) : Hv := { x with oa := none, os := x.os.map strip, oc := 0, fa := none, fc := 0 }
theorem strip_sm {a b : Ob} : a.Sm b ↔ strip a = strip b := by
  unfold Ob.Sm strip mkOb
  constructor
  · rintro ⟨h1, h2, h3, h4, h5⟩; rw [h1, h2, h3, h4, h5]
  · intro h; injection h with h1 h2 h3 h4 h5 h6 h7 h8 h9; exact ⟨h1, h2, h3, h5, h8⟩
theorem obs_sm {l k : List Ob} : ObsSm l k ↔ l.map strip = k.map strip := by
  constructor
  · rintro ⟨h1, h2⟩
    apply List.ext_getElem?
    intro i
    rw [List.getElem?_map, List.getElem?_map]
    cases ha : l[i]? with
    | none => rw [List.getElem?_eq_none (by have := List.getElem?_eq_none_iff.1 ha; omega)]
    | some a =>
      have hl := (List.getElem?_eq_some_iff.1 ha).1
      have hb := List.getElem?_eq_getElem (l := k) (i := i) (by omega)
      rw [hb]
      exact congrArg some (strip_sm.1 (h2 i a _ ha hb))
  · intro h
    refine ⟨by have := congrArg List.length h; simpa using this, fun i a b ha hb => strip_sm.2 ?_⟩
    have h3 : (l.map strip)[i]? = (k.map strip)[i]? := by rw [h]
    rw [List.getElem?_map, List.getElem?_map, ha, hb] at h3
    injection h3
theorem sm_core {x y : Hv} : x.Sm y ↔ core x = core y := by
  unfold core
  constructor
  · rintro ⟨h1, h2, h3, h4, h5, h6, h7, h8⟩
    obtain ⟨⟩ := x
    obtain ⟨⟩ := y
    simp only at h1 h2 h3 h4 h5 h6 h7 h8
    rw [h1, h2, h3, h4, h5, h6, h8, obs_sm.1 h7]
  · intro h
    obtain ⟨⟩ := x
    obtain ⟨⟩ := y
    simp only at h
    injection h with h1 h2 h3 h4 h5 h6 h7 h8 h9 h10 h11 h12
    exact ⟨h1, h5, h6, h7, h8, h9, obs_sm.2 h3, h11⟩
theorem place_strip (l : List Ob) (h : Int) : placeO (l.map strip) h = placeO l h := by
  induction l with
  | nil => rfl
  | cons o l ih => simp only [List.map_cons, placeO, ih]; rfl
theorem leads_strip (l : List Ob) (t : Int) : leadsC (l.map strip) t = leadsC l t := by
  unfold leadsC
  congr 1
  rw [List.any_map]
  rfl
theorem strip_strip (o : Ob) : strip (strip o) = strip o := rfl
theorem map_strip (l : List Ob) : (l.map strip).map strip = l.map strip := by rw [List.map_map]; apply List.map_congr_left; intro o _; rfl
theorem eraseIdx_map' {α β : Type} (f : α → β) (l : List α) (i : Nat) : (l.map f).eraseIdx i = (l.eraseIdx i).map f := by
  induction l generalizing i with
  | nil => rfl
  | cons x l ih => cases i with
    | zero => rfl
    | succ i => simp [ih]
theorem doC_core (x : Hv) (o : Opd) : (doC (core x) o).2 = (doC x o).2 ∧ core (doC (core x) o).1 = core (doC x o).1 := by
  obtain ⟨od, oa, os, oc, nx, t0, t1, t2, t3, fa, fs, fc⟩ := x
  have hcut : ∀ h : Int, strip ∘ cutO h ∘ strip = strip ∘ cutO h := fun h => rfl
  unfold doC core
  split
  · unfold allocC
    simp only
    split
    · exact ⟨rfl, by simp [map_strip, strip_strip]⟩
    · split
      · exact ⟨rfl, by simp [map_strip, strip_strip]⟩
      · split
        · exact ⟨rfl, by simp [map_strip, strip_strip]⟩
        · exact ⟨rfl, by simp [bornH, map_strip, strip, mkOb]⟩
  · split
    · unfold atC
      simp only [place_strip]
      split
      · exact ⟨rfl, by simp [map_strip, strip_strip]⟩
      · rename_i i hi
        obtain ⟨b, hb, _⟩ := place_some hi
        simp only [List.getElem?_map, hb, Option.map_some]
        split
        · refine ⟨rfl, ?_⟩
          simp only [freeH, eraseIdx_map', List.map_map]
          rfl
        · have hrow : rowC o (strip b) = rowC o b := by unfold rowC strip mkOb; rfl
          rw [hrow]
          split
          · exact ⟨rfl, by simp [map_strip, strip_strip]⟩
          · split
            · refine ⟨rfl, ?_⟩
              simp only [writeH, List.map_set, map_strip]
              rfl
            · split
              · rw [leads_strip]
                split
                · refine ⟨rfl, ?_⟩
                  simp only [linkH, List.map_set, map_strip]
                  rfl
                · exact ⟨rfl, by simp [map_strip, strip_strip]⟩
              · exact ⟨rfl, by simp [map_strip, strip_strip]⟩
    · split
      · unfold topC
        simp only [leads_strip]
        split
        · exact ⟨rfl, by simp [map_strip, strip_strip]⟩
        · split
          · exact ⟨rfl, by simp [map_strip, strip_strip]⟩
          · split
            · refine ⟨rfl, ?_⟩
              unfold topH
              split <;> simp [map_strip, strip_strip]
            · exact ⟨rfl, by simp [map_strip, strip_strip]⟩
      · exact ⟨rfl, by simp [map_strip, strip_strip]⟩
theorem doC_sm {x y : Hv} (h : x.Sm y) (o : Opd) : (doC x o).2 = (doC y o).2 ∧ (doC x o).1.Sm (doC y o).1 := by
  have h1 := doC_core x o
  have h2 := doC_core y o
  rw [sm_core.1 h] at h1
  exact ⟨h1.1.symm.trans h2.1, sm_core.2 (h1.2.symm.trans h2.2)⟩
noncomputable def doP (x : Hv) (o : Opd) : Hv × Int × Int := if hrightB x = true then doC x o else (zeroHv, 1, 0)
theorem doP_yes {x : Hv} (h : HRight x) (o : Opd) : doP x o = doC x o := by unfold doP; rw [if_pos (hright_yes h)]
theorem doP_no {x : Hv} (h : hrightB x = false) (o : Opd) : doP x o = (zeroHv, 1, 0) := by unfold doP; rw [if_neg (by rw [h]; decide)]
def HvO (y : Hv) (R : List Blk) : Prop := ∃ RO RF M, R = RO ++ (RF ++ M) ∧ HvR y RO RF M
def DoPost (w : World) (r : Hv × Int × Int) (e : Ending) (w' : World) : Prop :=
  ∃ y R, e = .returned (.tuple #[.agg (hvL y).toArray, .agg #[.int .i64 r.2.1, .int .i64 r.2.2]]) ∧ y.Sm r.1 ∧ Kept R (fun w => y.Is w) ∧ HvO y R ∧ Hp w.heap.size w w' R
theorem do419 {y s : Hv} {rc rv kk hh ii nn cc vv tt : Int} (hx : HRight y) (h2 : (doC y ⟨kk, hh, ii, nn, cc, vv, tt⟩).2 = (rc, rv)) (hs : (doC y ⟨kk, hh, ii, nn, cc, vv, tt⟩).1.Sm s) {B bw : Nat} {w0 w : World} {z1 z2 z3 z4 : Blk} {RO RF M : List Blk} (hR : HvR y RO RF M) (hp : Hp B w0 w (z1 :: z2 :: z3 :: z4 :: ⟨bw, hvL y, 62, 8⟩ :: (RO ++ (RF ++ (M ++ []))))) :
    Calls Try.prog 19 #[.pointer (some ⟨bw, 0, none⟩), .agg #[.int .i64 kk, .int .i64 hh, .int .i64 ii, .int .i64 nn, .int .i64 cc, .int .i64 vv, .int .i64 tt]] w fun e w' => e = .returned (.agg #[.int .i64 rc, .int .i64 rv]) ∧ ∃ (y2 : Hv) (RO2 RF2 M2 : List Blk), y2.Sm s ∧ HvR y2 RO2 RF2 M2 ∧ Hp B w0 w' (z1 :: z2 :: z3 :: ⟨bw, hvL y2, 62, 8⟩ :: (RO2 ++ (RF2 ++ M2))) := by
  refine (do19 hx kk hh ii nn cc vv tt (K := [z1, z2, z3]) ⟨RO, RF, M, hR, hp.kp⟩).mono fun e w' ⟨he, y2, hy2, RO2, RF2, M2, hR2, hp2⟩ => ⟨?_, y2, RO2, RF2, M2, hy2.trans hs, hR2, hp2.kp⟩
  rw [he, h2]; rfl
theorem begin18L (od : Int) (oa : Option Addr) (os : List Ob) (oc : Nat) (nx t0 t1 t2 t3 : Int) (fa : Option Addr) (fs : List Bl) (fc : Nat) (hs : Hv.Small ⟨od, oa, os, oc, nx, t0, t1, t2, t3, fa, fs, fc⟩) (w : World) (h : Hv.Is w ⟨od, oa, os, oc, nx, t0, t1, t2, t3, fa, fs, fc⟩) :
    Calls Try.prog 18 #[.agg #[.int .i64 od, .slice oa os.length oc, .int .i64 nx, .int .i64 t0, .int .i64 t1, .int .i64 t2, .int .i64 t3, .slice fa fs.length fc]] w (BeginPost w ⟨od, oa, os, oc, nx, t0, t1, t2, t3, fa, fs, fc⟩) := begin18 _ hs w h
theorem zero_own : HvO zeroHv [] := ⟨[], [], [], rfl, OwnRow.nil _ _, OwnRow.nil _ _, ObsR.nil⟩
set_option maxRecDepth 100000 in
set_option maxHeartbeats 8000000 in
theorem doh7_no (x : Hv) (kk hh ii nn cc vv tt : Int) (hs : x.Small) (w : World) (h : x.Is w) (hb : hrightB x = false) : Calls Try.prog 7 #[.agg (hvL x).toArray, .agg #[.int .i64 kk, .int .i64 hh, .int .i64 ii, .int .i64 nn, .int .i64 cc, .int .i64 vv, .int .i64 tt]] w (DoPost w (doP x ⟨kk, hh, ii, nn, cc, vv, tt⟩)) := by
  rw [doP_no hb]
  obtain ⟨od, oa, os, oc, nx, t0, t1, t2, t3, fa, fs, fc⟩ := x
  have HB := Lib.hid hb
  have HSM := Lib.hid hs
  have HIS := Lib.hid h
  clear hb hs h
  simp only [hvL]
  have hp := Hp.start w
  go_enter Try.func7, Try.ntmps7
  go_wp2_with (first | (go_at_call 16; (with_reducible refine (check16L od oa os oc nx t0 t1 t2 t3 fa fs fc _ HB.out HSM.out _ (HIS.out.below hp.below)).mono ?_); rintro e w1 ⟨rfl, hb⟩; replace hp := hp.call hb; clear hb; first | rw [errI_true] | rw [errI_false]) | (go_at_call 17; (with_reducible refine (no17 _ _).mono ?_); rintro e w1 ⟨rfl, hb⟩; replace hp := hp.call hb; clear hb; unfold resV) | go_skip | ((first | ((with_reducible refine pre_alloc _ rfl ?_); refine lZ hp rfl (by with_reducible first | exact zero34 | exact zero27) ?_; clear hp; intro b w1 hp) | ((with_reducible refine pre_box _ _ rfl ?_); refine lB hp rfl (slot_tmp rfl) rfl ?_; clear hp; intro b w1 hp) | ((with_reducible refine pre_load _ _ rfl ?_); first | refine lO hp rfl (slot_tmp rfl) ceDV1 aa5 ?_ | refine lA hp rfl (slot_tmp rfl) gaDV0 aa5 ?_) | ((with_reducible refine pre_store _ _ _ rfl ?_); (first | refine sO hp rfl (slot_tmp rfl) ceDV1 aa5 ?_ | refine sA hp rfl (slot_tmp rfl) (slot_tmp rfl) gaDV0 aa5 ?_ | refine sG hp rfl (slot_tmp rfl) (slot_tmp rfl) gaDV0 aa5 ?_); clear hp; intro w1 hp; simp only [spl, List.set_cons_zero, List.set_cons_succ] at hp)); simp only [put_some, put_none, List.set_cons_succ, List.set_cons_zero]))
  exact bodyPost_ret (results_many (rs := [.cell 4 27, .cell 5 34]) Try.results7 (.cell rfl (hp.loadAgg agg27 at1 0 _ (by rfl) (by rfl)) (.cell rfl (hp.loadAgg agg34 at0 0 _ (by rfl) (by rfl)) .nil))) rfl ⟨zeroHv, [], rfl, Hv.Sm.refl _, is_none, zero_own, hp.sub0⟩
set_option maxRecDepth 100000 in
set_option maxHeartbeats 8000000 in
theorem doh7_yes (x : Hv) (kk hh ii nn cc vv tt : Int) (hs : x.Small) (w : World) (h : x.Is w) (hx : HRight x) : Calls Try.prog 7 #[.agg (hvL x).toArray, .agg #[.int .i64 kk, .int .i64 hh, .int .i64 ii, .int .i64 nn, .int .i64 cc, .int .i64 vv, .int .i64 tt]] w (DoPost w (doP x ⟨kk, hh, ii, nn, cc, vv, tt⟩)) := by
  rw [doP_yes hx]
  have HRT : RowKit.Hid (∀ y : Hv, y.Sm x → HRight y ∧ (doC y ⟨kk, hh, ii, nn, cc, vv, tt⟩).2 = (doC x ⟨kk, hh, ii, nn, cc, vv, tt⟩).2 ∧ (doC y ⟨kk, hh, ii, nn, cc, vv, tt⟩).1.Sm (doC x ⟨kk, hh, ii, nn, cc, vv, tt⟩).1) := Lib.hid (fun y hy => ⟨hright_mono hy.symm hx, doC_sm hy _⟩)
  have hb := hright_yes hx
  generalize doC x ⟨kk, hh, ii, nn, cc, vv, tt⟩ = r at HRT ⊢
  obtain ⟨s, rc, rv⟩ := r
  obtain ⟨od, oa, os, oc, nx, t0, t1, t2, t3, fa, fs, fc⟩ := x
  have HB := Lib.hid hb
  have HSM := Lib.hid hs
  have HIS := Lib.hid h
  clear hb hs h hx
  simp only [hvL]
  have hp := Hp.start w
  go_enter Try.func7, Try.ntmps7
  go_wp2_with (first | (go_at_call 16; (with_reducible refine (check16L od oa os oc nx t0 t1 t2 t3 fa fs fc _ HB.out HSM.out _ (HIS.out.below hp.below)).mono ?_); rintro e w1 ⟨rfl, hb⟩; replace hp := hp.call hb; clear hb; first | rw [errI_true] | rw [errI_false]) | (go_at_call 17; (with_reducible refine (no17 _ _).mono ?_); rintro e w1 ⟨rfl, hb⟩; replace hp := hp.call hb; clear hb; unfold resV) | (go_at_call 18; (with_reducible refine (begin18L od oa os oc nx t0 t1 t2 t3 fa fs fc HSM.out _ (HIS.out.below hp.below)).mono ?_); rintro e w1 ⟨bw, y, rfl, hy, RO, RF, M, hR, hpx⟩; replace hp := hp.join hpx; have HY := Lib.hid hy; have HR := Lib.hid hR; clear hpx hy hR; simp only [List.cons_append, List.nil_append] at hp) | go_skip | ((first | ((with_reducible refine pre_alloc _ rfl ?_); refine lZ hp rfl (by with_reducible first | exact zero34 | exact zero27) ?_; clear hp; intro b w1 hp) | ((with_reducible refine pre_box _ _ rfl ?_); refine lB hp rfl (slot_tmp rfl) rfl ?_; clear hp; intro b w1 hp) | ((with_reducible refine pre_load _ _ rfl ?_); first | refine lO hp rfl (slot_tmp rfl) ceDV1 aa5 ?_ | refine lA hp rfl (slot_tmp rfl) gaDV0 aa5 ?_) | ((with_reducible refine pre_store _ _ _ rfl ?_); (first | refine sO hp rfl (slot_tmp rfl) ceDV1 aa5 ?_ | refine sA hp rfl (slot_tmp rfl) (slot_tmp rfl) gaDV0 aa5 ?_ | refine sG hp rfl (slot_tmp rfl) (slot_tmp rfl) gaDV0 aa5 ?_); clear hp; intro w1 hp; simp only [spl, List.set_cons_zero, List.set_cons_succ] at hp)); simp only [put_some, put_none, List.set_cons_succ, List.set_cons_zero]))
  go_wp2_with (first | (go_at_call 19; (with_reducible refine (do419 (HRT.out y HY.out).1 (HRT.out y HY.out).2.1 (HRT.out y HY.out).2.2 HR.out hp).mono ?_); clear hp; rintro e w1 ⟨rfl, ⟨od2, oa2, os2, oc2, nx2, t02, t12, t22, t32, fa2, fs2, fc2⟩, RO2, RF2, M2, hy2, hR2, hp⟩; have HR2 := Lib.hid hR2; have HY2 := Lib.hid hy2; clear hR2 hy2; simp only [hvL] at hp) | go_skip | ((first | ((with_reducible refine pre_alloc _ rfl ?_); refine lZ hp rfl (by with_reducible first | exact zero34 | exact zero27) ?_; clear hp; intro b w1 hp) | ((with_reducible refine pre_box _ _ rfl ?_); refine lB hp rfl (slot_tmp rfl) rfl ?_; clear hp; intro b w1 hp) | ((with_reducible refine pre_load _ _ rfl ?_); first | refine lO hp rfl (slot_tmp rfl) ceDV1 aa5 ?_ | refine lA hp rfl (slot_tmp rfl) gaDV0 aa5 ?_) | ((with_reducible refine pre_store _ _ _ rfl ?_); (first | refine sO hp rfl (slot_tmp rfl) ceDV1 aa5 ?_ | refine sA hp rfl (slot_tmp rfl) (slot_tmp rfl) gaDV0 aa5 ?_ | refine sG hp rfl (slot_tmp rfl) (slot_tmp rfl) gaDV0 aa5 ?_); clear hp; intro w1 hp; simp only [spl, List.set_cons_zero, List.set_cons_succ] at hp)); simp only [put_some, put_none, List.set_cons_succ, List.set_cons_zero]))
  refine wp_region_keeps [_, _] (Keeps.two hp.drew at0 at4) [6] [(0, true), (1, true), (2, true), (3, true), (4, true), (5, false), (6, false)] (by kernel_rfl) (by kernel_rfl) rfl (by kernel_rfl) (fun _ _ d _ _ h => by cases d <;> exact h) ?_
  replace hp := hp.drew
  repeat' (with_reducible refine plan_is ?_); first | (with_reducible refine plan_nil ?_) | ((with_reducible refine plan_t ?_); refine plan_tk rfl ?_; (first | ((with_reducible refine tk_mv _ rfl ?_); refine tM rfl ?_) | ((with_reducible refine tk_ld _ _ rfl ?_); refine tA rfl (slot_tmp rfl) (by with_reducible first | exact agg27 | exact agg34) aa5 ?_) | refine tG (fun w _ => (by go_simp; try rfl)) ?_); try simp only [put_some, put_none, eval_tmp, eval_const, List.set_cons_succ, List.set_cons_zero, List.getD_cons_succ, List.getD_cons_zero, wrap_eq]) | (refine plan_do rfl (fun K hK => ?_); go_wp2_with (first | go_skip | (((with_reducible refine pre_store _ _ _ rfl ?_); (first | refine sO hp rfl (slot_tmp rfl) ceDV1 aa5 ?_ | refine sA hp rfl (slot_tmp rfl) (slot_tmp rfl) gaDV0 aa5 ?_ | refine sG hp rfl (slot_tmp rfl) (slot_tmp rfl) gaDV0 aa5 ?_); clear hp; intro w1 hp; simp only [spl, List.set_cons_zero, List.set_cons_succ] at hp); simp only [put_some, put_none, List.set_cons_succ, List.set_cons_zero])); (first | refine hK.out _ _ (.inl rfl) ?_ | refine hK.out _ _ (.inr (Keeps.two hp aa5 aa5)) ?_); clear hK K; try simp only [put_some, put_none, eval_tmp, eval_const, List.set_cons_succ, List.set_cons_zero, List.getD_cons_succ, List.getD_cons_zero, wrap_eq])
  go_wp2_with (first | go_skip | ((first | ((with_reducible refine pre_alloc _ rfl ?_); refine lZ hp rfl (by with_reducible first | exact zero34 | exact zero27) ?_; clear hp; intro b w1 hp) | ((with_reducible refine pre_box _ _ rfl ?_); refine lB hp rfl (slot_tmp rfl) rfl ?_; clear hp; intro b w1 hp) | ((with_reducible refine pre_load _ _ rfl ?_); first | refine lO hp rfl (slot_tmp rfl) ceDV1 aa5 ?_ | refine lA hp rfl (slot_tmp rfl) gaDV0 aa5 ?_) | ((with_reducible refine pre_store _ _ _ rfl ?_); (first | refine sO hp rfl (slot_tmp rfl) ceDV1 aa5 ?_ | refine sA hp rfl (slot_tmp rfl) (slot_tmp rfl) gaDV0 aa5 ?_ | refine sG hp rfl (slot_tmp rfl) (slot_tmp rfl) gaDV0 aa5 ?_); clear hp; intro w1 hp; simp only [spl, List.set_cons_zero, List.set_cons_succ] at hp)); simp only [put_some, put_none, List.set_cons_succ, List.set_cons_zero]))
  exact bodyPost_ret (results_many (rs := [.cell 4 27, .cell 5 34]) Try.results7 (.cell rfl (hp.loadAgg agg27 at2 0 _ (by rfl) (by rfl)) (.cell rfl (hp.loadAgg agg34 at1 0 _ (by rfl) (by rfl)) .nil))) rfl ⟨⟨od2, oa2, os2, oc2, nx2, t02, t12, t22, t32, fa2, fs2, fc2⟩, _, rfl, HY2.out, HR2.out.kept, ⟨RO2, RF2, M2, rfl, HR2.out⟩, hp.kp⟩
theorem hright_of {x : Hv} (h : hrightB x = true) : HRight x := by unfold hrightB at h; simpa using h
theorem doh7 (x : Hv) (kk hh ii nn cc vv tt : Int) (hs : x.Small) (w : World) (h : x.Is w) : Calls Try.prog 7 #[.agg (hvL x).toArray, .agg #[.int .i64 kk, .int .i64 hh, .int .i64 ii, .int .i64 nn, .int .i64 cc, .int .i64 vv, .int .i64 tt]] w (DoPost w (doP x ⟨kk, hh, ii, nn, cc, vv, tt⟩)) := by
  cases hb : hrightB x with
  | false => exact doh7_no x kk hh ii nn cc vv tt hs w h hb
  | true => exact doh7_yes x kk hh ii nn cc vv tt hs w h (hright_of hb)
theorem doh7L (od : Int) (oa : Option Addr) (os : List Ob) (oc : Nat) (nx t0 t1 t2 t3 : Int) (fa : Option Addr) (fs : List Bl) (fc : Nat) (kk hh ii nn cc vv tt : Int) (r : Hv × Int × Int) (hr : doP ⟨od, oa, os, oc, nx, t0, t1, t2, t3, fa, fs, fc⟩ ⟨kk, hh, ii, nn, cc, vv, tt⟩ = r)
    (hs : Hv.Small ⟨od, oa, os, oc, nx, t0, t1, t2, t3, fa, fs, fc⟩) (w : World) (h : Hv.Is w ⟨od, oa, os, oc, nx, t0, t1, t2, t3, fa, fs, fc⟩) :
    Calls Try.prog 7 #[.agg #[.int .i64 od, .slice oa os.length oc, .int .i64 nx, .int .i64 t0, .int .i64 t1, .int .i64 t2, .int .i64 t3, .slice fa fs.length fc], .agg #[.int .i64 kk, .int .i64 hh, .int .i64 ii, .int .i64 nn, .int .i64 cc, .int .i64 vv, .int .i64 tt]] w (DoPost w r) :=
  hr ▸ doh7 ⟨od, oa, os, oc, nx, t0, t1, t2, t3, fa, fs, fc⟩ kk hh ii nn cc vv tt hs w h
end Go.Proofs.Ytcjbepaclbhjaaa
