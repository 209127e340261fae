/- The walk of the document's Done. -/
import Derived.Test.YtppdjlgjcdmiaaaGreatEB
set_option linter.unusedSimpArgs false
set_option linter.unusedVariables false
namespace Go.Proofs.YtppdjlgjcdmiaaaGreat
open Go.RowKit
theorem gaEC0 {ty : TypeId} {k : Nat} (h : aggB Tryz.prog ty k = true := by with_reducible first | exact agg26 | exact agg29 | exact agg34) : aggB Tryz.prog ty k = true := h
theorem ceEC1 {ty : TypeId} (h : cellB Tryz.prog ty = true := by with_reducible first | exact cell3 | exact cell4 | exact cell22 | exact cell27) : cellB Tryz.prog ty = true := h
theorem place_is {os : List Ob} {t r : Int} (h : PlaceI os t r) : (r = -1 ∧ placeO os t = none) ∨ ∃ (i : Nat) (g : Ob), r = i ∧ os[i]? = some g ∧ placeO os t = some i := by
  rcases h with ⟨rfl, h⟩ | ⟨j, o, rfl, hj, ho, hf⟩
  · exact .inl ⟨rfl, place_none.2 h⟩
  · right
    refine ⟨j, o, rfl, hj, ?_⟩
    cases hp : placeO os t with
    | none => exact absurd ho (place_none.1 hp o (List.mem_of_getElem? hj))
    | some i =>
      obtain ⟨o', ho', hoh, hfirst⟩ := place_some hp
      rcases Nat.lt_trichotomy i j with h | h | h
      · exact absurd hoh (hf i o' h ho')
      · rw [h]
      · exact absurd ho (hfirst j o h hj)
theorem object73 {x : Hv} (hx : HRight x) {kk hh ii nn cc vv tt : Int} (hk : kk = 2 ∨ kk = 3 ∨ kk = 4 ∨ kk = 6 ∨ kk = 7) {r : Int} (hr : PlaceI x.os hh r) {B : Nat} {w0 w : World} {K : List Blk} (hW : RefAt B w0 w x K) :
    Calls Tryz.prog 73 #[.agg (hvL x).toArray, .agg #[.int .i64 kk, .int .i64 hh, .int .i64 ii, .int .i64 nn, .int .i64 cc, .int .i64 vv, .int .i64 tt], .int .i64 r] w (RefPost B w0 (atC x ⟨kk, hh, ii, nn, cc, vv, tt⟩).1 (atC x ⟨kk, hh, ii, nn, cc, vv, tt⟩).2.1 (atC x ⟨kk, hh, ii, nn, cc, vv, tt⟩).2.2 K) := by
  have hol : x.os.length ≤ 1000 := by have := hx.len; omega
  unfold atC
  simp only
  rcases place_is hr with ⟨rfl, hn⟩ | ⟨i, g, rfl, hg, hn⟩
  · rw [hn]; exact object73_none hW
  · rw [hn]
    simp only [hg]
    have hnat : ∀ {n : Nat}, ¬ (ii < 0 ∨ (n : Int) ≤ ii) → ∃ q : Nat, ii = q ∧ q < n := fun h => ⟨ii.toNat, by omega, by omega⟩
    rcases hk with rfl | rfl | rfl | rfl | rfl
    · exact object73_free hx hg hol hW
    · simp only [rowC, Int.reduceEq, or_self, if_false, if_true]
      by_cases h : ii < 0 ∨ (g.ws.length : Int) ≤ ii
      · rw [if_pos h]; exact object73_noidx3 hg hol h hW
      · obtain ⟨q, rfl, hq⟩ := hnat h
        rw [if_neg h]; exact object73_write hg hol hq hW
    · simp only [rowC, Int.reduceEq, or_false, false_or, if_false, if_true]
      by_cases h : ii < 0 ∨ (g.ls.length : Int) ≤ ii
      · rw [if_pos h]; exact object73_noidx4 hg hol h hW
      · obtain ⟨q, rfl, hq⟩ := hnat h
        rw [if_neg h]
        cases hto : leadsC x.os tt with
        | true => exact object73_link hg hol hq hto hW
        | false => exact object73_nolink hg hol hq hto hW
    · simp only [rowC, Int.reduceEq, or_self, if_false, if_true]
      by_cases h : ii < 0 ∨ (g.ws.length : Int) ≤ ii
      · rw [if_pos h]; exact object73_noidx6 hg hol h hW
      · obtain ⟨q, rfl, hq⟩ := hnat h
        rw [if_neg h]
        have hv := List.getElem?_eq_getElem hq
        have he : g.ws.getD q 0 = g.ws[q] := by simp [hq]
        simp only [Int.toNat_natCast, he]
        exact object73_read hg hol hq hv hW
    · simp only [rowC, Int.reduceEq, or_true, if_false, if_true]
      by_cases h : ii < 0 ∨ (g.ls.length : Int) ≤ ii
      · rw [if_pos h]; exact object73_noidx7 hg hol h hW
      · obtain ⟨q, rfl, hq⟩ := hnat h
        rw [if_neg h]
        have hv := List.getElem?_eq_getElem hq
        have he : g.ls.getD q 0 = g.ls[q] := by simp [hq]
        simp only [Int.toNat_natCast, he]
        exact object73_follow hg hol hq hv hW
theorem RefPost.to {B : Nat} {w0 : World} {s s' : Hv} {c v c' v' : Int} {K : List Blk} {e : Ending} {w' : World} (h : RefPost B w0 s' c' v' K e w') (h2 : (c', v') = (c, v)) (hs : s'.Sm s) : RefPost B w0 s c v K e w' := by
  injection h2 with h2 h3
  subst h2 h3
  obtain ⟨y, he, hy, hr⟩ := h
  exact ⟨y, he, hy.trans hs, hr⟩
theorem owno9L (od : Int) (oa : Option Addr) (os : List Ob) (oc : Nat) (nx t0 t1 t2 t3 : Int) (fa : Option Addr) (fs : List Bl) (fc : Nat) (hs : Hv.Small ⟨od, oa, os, oc, nx, t0, t1, t2, t3, fa, fs, fc⟩) (w : World) (h : Hv.Is w ⟨od, oa, os, oc, nx, t0, t1, t2, t3, fa, fs, fc⟩) :
    Calls Tryz.prog 9 #[.agg #[.int .i64 od, .slice oa os.length oc, .int .i64 nx, .int .i64 t0, .int .i64 t1, .int .i64 t2, .int .i64 t3, .slice fa fs.length fc]] w (OwnPostO w ⟨od, oa, os, oc, nx, t0, t1, t2, t3, fa, fs, fc⟩) := owno9 _ hs w h
theorem ref_wrap {B : Nat} {w0 : World} {y : Hv} {RO RF M : List Blk} (hR : HvR y RO RF M) {p1 p2 p3 p4 : Blk} {w : World} (hp : Hp B w0 w (p1 :: p2 :: p3 :: p4 :: (RO ++ (RF ++ M)))) : RefAt B w0 w y [p1, p2, p3, p4] := ⟨RO, RF, M, hR, hp.kp⟩
theorem ref_back {B : Nat} {w0 : World} {RO RF M : List Blk} {p1 p2 p3 p4 : Blk} {w : World} (hp : Hp B w0 w (RO ++ (RF ++ (M ++ [p1, p2, p3, p4])))) : Hp B w0 w (p1 :: p2 :: p3 :: p4 :: (RO ++ (RF ++ M))) := hp.kp
set_option maxRecDepth 100000 in
set_option maxHeartbeats 8000000 in
theorem done31_alloc (x : Hv) (kk hh ii nn cc vv tt : Int) (hs : x.Small) (w : World) (h : x.Is w) (hx : HRight x) (hk : kk = 1) : Calls Tryz.prog 31 #[.agg (hvL x).toArray, .agg #[.int .i64 kk, .int .i64 hh, .int .i64 ii, .int .i64 nn, .int .i64 cc, .int .i64 vv, .int .i64 tt]] w (DoPost w (doC x ⟨kk, hh, ii, nn, cc, vv, tt⟩)) := by
  have HRT : RowKit.Hid (∀ y : Hv, y.Sm x → HRight y ∧ ((allocC y ⟨kk, hh, ii, nn, cc, vv, tt⟩).2.1, (allocC y ⟨kk, hh, ii, nn, cc, vv, tt⟩).2.2) = (doC x ⟨kk, hh, ii, nn, cc, vv, tt⟩).2 ∧ (allocC y ⟨kk, hh, ii, nn, cc, vv, tt⟩).1.Sm (doC x ⟨kk, hh, ii, nn, cc, vv, tt⟩).1) := Lib.hid (fun y hy => by
    have h1 := doC_sm hy ⟨kk, hh, ii, nn, cc, vv, tt⟩
    have h2 : doC y ⟨kk, hh, ii, nn, cc, vv, tt⟩ = allocC y ⟨kk, hh, ii, nn, cc, vv, tt⟩ := by subst hk; simp [doC]
    rw [h2] at h1
    exact ⟨hright_mono hy.symm hx, h1⟩)
  generalize doC x ⟨kk, hh, ii, nn, cc, vv, tt⟩ = r at HRT ⊢
  obtain ⟨s, rc, rv⟩ := r
  obtain ⟨od, oa, os, oc, nx, t0, t1, t2, t3, fa, fs, fc⟩ := x
  have HSM := Lib.hid hs
  have HIS := Lib.hid h
  subst hk
  clear hs h hx
  simp only [hvL]
  have hp := Hp.start w
  go_enter Tryz.func31, Tryz.ntmps31
  go_wp2_with (first | (go_at_call 9; (with_reducible refine (owno9L od oa os oc nx t0 t1 t2 t3 fa fs fc HSM.out _ (HIS.out.below hp.below)).mono ?_); rintro e w1 ⟨⟨yd, ya, ys, yc, yn, y0, y1, y2, y3, za, zs, zc⟩, RO, RF, M, rfl, hy, hR, hpx⟩; replace hp := hp.join hpx; have HY := Lib.hid hy; have HR := Lib.hid hR; clear hpx hy hR; simp only [hvL]; simp only [List.cons_append, List.nil_append, List.append_assoc] at hp) | go_skip | ((first | ((with_reducible refine pre_alloc _ rfl ?_); refine lZ hp rfl (by with_reducible first | exact zero26 | exact zero34) ?_; clear hp; intro b w1 hp) | ((with_reducible refine pre_box _ _ rfl ?_); refine lB hp rfl (slot_tmp rfl) rfl ?_; clear hp; intro b w1 hp) | ((with_reducible refine pre_load _ _ rfl ?_); first | refine lO hp rfl (slot_tmp rfl) ceEC1 aa5 ?_ | refine lA hp rfl (slot_tmp rfl) gaEC0 aa5 ?_) | ((with_reducible refine pre_store _ _ _ rfl ?_); (first | refine sO hp rfl (slot_tmp rfl) ceEC1 aa5 ?_ | refine sA hp rfl (slot_tmp rfl) (slot_tmp rfl) gaEC0 aa5 ?_ | refine sG hp rfl (slot_tmp rfl) (slot_tmp rfl) gaEC0 aa5 ?_); clear hp; intro w1 hp; simp only [spl, List.set_cons_zero, List.set_cons_succ] at hp) | ((with_reducible refine pre_build _ _ _ rfl ?_); refine lS hp rfl (by intro w; go_simp; rfl) ?_; clear hp; intro b w1 hp; simp only [List.length_cons, List.length_nil, Nat.reduceAdd] at hp)); simp only [put_some, put_none, List.set_cons_succ, List.set_cons_zero]))
  have HCL : RowKit.Hid (∀ {K : List Blk} {w1 : World}, RefAt w.heap.size w w1 (⟨yd, ya, ys, yc, yn, y0, y1, y2, y3, za, zs, zc⟩ : Hv) K → Calls Tryz.prog 72 #[.agg #[.int .i64 yd, .slice ya ys.length yc, .int .i64 yn, .int .i64 y0, .int .i64 y1, .int .i64 y2, .int .i64 y3, .slice za zs.length zc], .agg #[.int .i64 1, .int .i64 hh, .int .i64 ii, .int .i64 nn, .int .i64 cc, .int .i64 vv, .int .i64 tt]] w1 (RefPost w.heap.size w s rc rv K)) := Lib.hid (fun hW => by
    obtain ⟨g1, g2, g3⟩ := HRT.out _ HY.out.symm
    exact (alloc72 g1 hW).mono fun _ _ hh => hh.to g2 g3)
  have HWK : RowKit.Hid (∀ {p1 p2 p3 p4 : Blk} {w1 : World}, Hp w.heap.size w w1 (p1 :: p2 :: p3 :: p4 :: (RO ++ (RF ++ M))) → RefAt w.heap.size w w1 (⟨yd, ya, ys, yc, yn, y0, y1, y2, y3, za, zs, zc⟩ : Hv) [p1, p2, p3, p4]) := Lib.hid (fun h => ref_wrap HR.out h)
  have HBK : RowKit.Hid (∀ {RO RF M : List Blk} {p1 p2 p3 p4 : Blk} {w1 : World}, Hp w.heap.size w w1 (RO ++ (RF ++ (M ++ [p1, p2, p3, p4]))) → Hp w.heap.size w w1 (p1 :: p2 :: p3 :: p4 :: (RO ++ (RF ++ M)))) := Lib.hid (fun h => ref_back h)
  go_wp2_with (first | (go_at_call 72; (with_reducible refine (HCL.out (HWK.out hp)).mono ?_); clear hp; rintro e w1 ⟨⟨ud, ua, us, uc, un, u0, u1, u2, u3, va, vs, vc⟩, rfl, hu, RO2, RF2, M2, hR2, hp⟩; replace hp := HBK.out hp; have HU := Lib.hid hu; have HR2 := Lib.hid hR2; clear hu hR2; simp only [hvL]) | go_skip | ((first | ((with_reducible refine pre_alloc _ rfl ?_); refine lZ hp rfl (by with_reducible first | exact zero26 | exact zero34) ?_; clear hp; intro b w1 hp) | ((with_reducible refine pre_box _ _ rfl ?_); refine lB hp rfl (slot_tmp rfl) rfl ?_; clear hp; intro b w1 hp) | ((with_reducible refine pre_load _ _ rfl ?_); first | refine lO hp rfl (slot_tmp rfl) ceEC1 aa5 ?_ | refine lA hp rfl (slot_tmp rfl) gaEC0 aa5 ?_) | ((with_reducible refine pre_store _ _ _ rfl ?_); (first | refine sO hp rfl (slot_tmp rfl) ceEC1 aa5 ?_ | refine sA hp rfl (slot_tmp rfl) (slot_tmp rfl) gaEC0 aa5 ?_ | refine sG hp rfl (slot_tmp rfl) (slot_tmp rfl) gaEC0 aa5 ?_); clear hp; intro w1 hp; simp only [spl, List.set_cons_zero, List.set_cons_succ] at hp) | ((with_reducible refine pre_build _ _ _ rfl ?_); refine lS hp rfl (by intro w; go_simp; rfl) ?_; clear hp; intro b w1 hp; simp only [List.length_cons, List.length_nil, Nat.reduceAdd] at hp)); simp only [put_some, put_none, List.set_cons_succ, List.set_cons_zero]))
  exact bodyPost_ret (results_many (rs := [.cell 4 26, .cell 5 34]) Tryz.results31 (.cell rfl (hp.loadAgg agg26 at1 0 _ (by rfl) (by rfl)) (.cell rfl (hp.loadAgg agg34 at0 0 _ (by rfl) (by rfl)) .nil))) rfl ⟨⟨ud, ua, us, uc, un, u0, u1, u2, u3, va, vs, vc⟩, _, rfl, HU.out, HR2.out.kept, ⟨RO2, RF2, M2, rfl, HR2.out⟩, hp.tail.tail.tail.tail⟩
set_option maxRecDepth 100000 in
set_option maxHeartbeats 8000000 in
theorem done31_top (x : Hv) (kk hh ii nn cc vv tt : Int) (hs : x.Small) (w : World) (h : x.Is w) (hx : HRight x) (hk : kk = 5 ∨ kk = 8) : Calls Tryz.prog 31 #[.agg (hvL x).toArray, .agg #[.int .i64 kk, .int .i64 hh, .int .i64 ii, .int .i64 nn, .int .i64 cc, .int .i64 vv, .int .i64 tt]] w (DoPost w (doC x ⟨kk, hh, ii, nn, cc, vv, tt⟩)) := by
  have HRT : RowKit.Hid (∀ y : Hv, y.Sm x → HRight y ∧ ((topC y ⟨kk, hh, ii, nn, cc, vv, tt⟩).2.1, (topC y ⟨kk, hh, ii, nn, cc, vv, tt⟩).2.2) = (doC x ⟨kk, hh, ii, nn, cc, vv, tt⟩).2 ∧ (topC y ⟨kk, hh, ii, nn, cc, vv, tt⟩).1.Sm (doC x ⟨kk, hh, ii, nn, cc, vv, tt⟩).1) := Lib.hid (fun y hy => by
    have h1 := doC_sm hy ⟨kk, hh, ii, nn, cc, vv, tt⟩
    have h2 : doC y ⟨kk, hh, ii, nn, cc, vv, tt⟩ = topC y ⟨kk, hh, ii, nn, cc, vv, tt⟩ := by rcases hk with rfl | rfl <;> simp [doC]
    rw [h2] at h1
    exact ⟨hright_mono hy.symm hx, h1⟩)
  generalize doC x ⟨kk, hh, ii, nn, cc, vv, tt⟩ = r at HRT ⊢
  obtain ⟨s, rc, rv⟩ := r
  have HC0 : RowKit.Hid (∀ {y : Hv}, y.Sm x → ∀ ⦃K : List Blk⦄ ⦃w1 : World⦄, RefAt w.heap.size w w1 y K → Calls Tryz.prog 75 #[.agg (hvL y).toArray, .agg #[.int .i64 kk, .int .i64 hh, .int .i64 ii, .int .i64 nn, .int .i64 cc, .int .i64 vv, .int .i64 tt]] w1 (RefPost w.heap.size w s rc rv K)) := Lib.hid (fun hy _ _ hW => by
    obtain ⟨g1, g2, g3⟩ := HRT.out _ hy
    exact (top75 hk (by have := g1.len; omega) hW).mono fun _ _ hh => hh.to g2 g3)
  have HL0 : RowKit.Hid (∀ {y : Hv}, y.Sm x → y.os.length ≤ 1000) := Lib.hid (fun hy => by have := (HRT.out _ hy).1.len; omega)
  obtain ⟨od, oa, os, oc, nx, t0, t1, t2, t3, fa, fs, fc⟩ := x
  have HSM := Lib.hid hs
  have HIS := Lib.hid h
  clear hs h hx HRT
  simp only [hvL]
  have hp := Hp.start w
  rcases hk with rfl | rfl
  all_goals
    go_enter Tryz.func31, Tryz.ntmps31
    go_wp2_with (first | (go_at_call 9; (with_reducible refine (owno9L od oa os oc nx t0 t1 t2 t3 fa fs fc HSM.out _ (HIS.out.below hp.below)).mono ?_); rintro e w1 ⟨⟨yd, ya, ys, yc, yn, y0, y1, y2, y3, za, zs, zc⟩, RO, RF, M, rfl, hy, hR, hpx⟩; replace hp := hp.join hpx; have HY := Lib.hid hy; have HR := Lib.hid hR; clear hpx hy hR; simp only [hvL]; simp only [List.cons_append, List.nil_append, List.append_assoc] at hp) | go_skip | ((first | ((with_reducible refine pre_alloc _ rfl ?_); refine lZ hp rfl (by with_reducible first | exact zero26 | exact zero34) ?_; clear hp; intro b w1 hp) | ((with_reducible refine pre_box _ _ rfl ?_); refine lB hp rfl (slot_tmp rfl) rfl ?_; clear hp; intro b w1 hp) | ((with_reducible refine pre_load _ _ rfl ?_); first | refine lO hp rfl (slot_tmp rfl) ceEC1 aa5 ?_ | refine lA hp rfl (slot_tmp rfl) gaEC0 aa5 ?_) | ((with_reducible refine pre_store _ _ _ rfl ?_); (first | refine sO hp rfl (slot_tmp rfl) ceEC1 aa5 ?_ | refine sA hp rfl (slot_tmp rfl) (slot_tmp rfl) gaEC0 aa5 ?_ | refine sG hp rfl (slot_tmp rfl) (slot_tmp rfl) gaEC0 aa5 ?_); clear hp; intro w1 hp; simp only [spl, List.set_cons_zero, List.set_cons_succ] at hp) | ((with_reducible refine pre_build _ _ _ rfl ?_); refine lS hp rfl (by intro w; go_simp; rfl) ?_; clear hp; intro b w1 hp; simp only [List.length_cons, List.length_nil, Nat.reduceAdd] at hp)); simp only [put_some, put_none, List.set_cons_succ, List.set_cons_zero]))
    have HRO : RowKit.Hid (Kept RO fun w => RowIs w ya (ys.flatMap obV)) := Lib.hid HR.out.objs.keptS
    have HCL := Lib.hid (HC0.out HY.out.symm)
    simp only [hvL] at HCL
    have HYL := Lib.hid (HL0.out HY.out.symm)
    simp only at HYL
    clear HC0 HL0
    have HWK : RowKit.Hid (∀ {p1 p2 p3 p4 : Blk} {w1 : World}, Hp w.heap.size w w1 (p1 :: p2 :: p3 :: p4 :: (RO ++ (RF ++ M))) → RefAt w.heap.size w w1 (⟨yd, ya, ys, yc, yn, y0, y1, y2, y3, za, zs, zc⟩ : Hv) [p1, p2, p3, p4]) := Lib.hid (fun h => ref_wrap HR.out h)
    have HBK : RowKit.Hid (∀ {RO RF M : List Blk} {p1 p2 p3 p4 : Blk} {w1 : World}, Hp w.heap.size w w1 (RO ++ (RF ++ (M ++ [p1, p2, p3, p4]))) → Hp w.heap.size w w1 (p1 :: p2 :: p3 :: p4 :: (RO ++ (RF ++ M)))) := Lib.hid (fun h => ref_back h)
    go_wp2_with (first | (go_at_call 75; (with_reducible refine (HCL.out (HWK.out hp)).mono ?_); clear hp; rintro e w1 ⟨⟨ud, ua, us, uc, un, u0, u1, u2, u3, va, vs, vc⟩, rfl, hu, RO2, RF2, M2, hR2, hp⟩; replace hp := HBK.out hp; have HU := Lib.hid hu; have HR2 := Lib.hid hR2; clear hu hR2; simp only [hvL]) | go_skip | ((first | ((with_reducible refine pre_alloc _ rfl ?_); refine lZ hp rfl (by with_reducible first | exact zero26 | exact zero34) ?_; clear hp; intro b w1 hp) | ((with_reducible refine pre_box _ _ rfl ?_); refine lB hp rfl (slot_tmp rfl) rfl ?_; clear hp; intro b w1 hp) | ((with_reducible refine pre_load _ _ rfl ?_); first | refine lO hp rfl (slot_tmp rfl) ceEC1 aa5 ?_ | refine lA hp rfl (slot_tmp rfl) gaEC0 aa5 ?_) | ((with_reducible refine pre_store _ _ _ rfl ?_); (first | refine sO hp rfl (slot_tmp rfl) ceEC1 aa5 ?_ | refine sA hp rfl (slot_tmp rfl) (slot_tmp rfl) gaEC0 aa5 ?_ | refine sG hp rfl (slot_tmp rfl) (slot_tmp rfl) gaEC0 aa5 ?_); clear hp; intro w1 hp; simp only [spl, List.set_cons_zero, List.set_cons_succ] at hp) | ((with_reducible refine pre_build _ _ _ rfl ?_); refine lS hp rfl (by intro w; go_simp; rfl) ?_; clear hp; intro b w1 hp; simp only [List.length_cons, List.length_nil, Nat.reduceAdd] at hp)); simp only [put_some, put_none, List.set_cons_succ, List.set_cons_zero]))
    exact bodyPost_ret (results_many (rs := [.cell 4 26, .cell 5 34]) Tryz.results31 (.cell rfl (hp.loadAgg agg26 at1 0 _ (by rfl) (by rfl)) (.cell rfl (hp.loadAgg agg34 at0 0 _ (by rfl) (by rfl)) .nil))) rfl ⟨⟨ud, ua, us, uc, un, u0, u1, u2, u3, va, vs, vc⟩, _, rfl, HU.out, HR2.out.kept, ⟨RO2, RF2, M2, rfl, HR2.out⟩, hp.tail.tail.tail.tail⟩
set_option maxRecDepth 100000 in
set_option maxHeartbeats 8000000 in
theorem done31_at (x : Hv) (kk hh ii nn cc vv tt : Int) (hs : x.Small) (w : World) (h : x.Is w) (hx : HRight x) (hk : kk = 2 ∨ kk = 3 ∨ kk = 4 ∨ kk = 6 ∨ kk = 7) : Calls Tryz.prog 31 #[.agg (hvL x).toArray, .agg #[.int .i64 kk, .int .i64 hh, .int .i64 ii, .int .i64 nn, .int .i64 cc, .int .i64 vv, .int .i64 tt]] w (DoPost w (doC x ⟨kk, hh, ii, nn, cc, vv, tt⟩)) := by
  have HRT : RowKit.Hid (∀ y : Hv, y.Sm x → HRight y ∧ ((atC y ⟨kk, hh, ii, nn, cc, vv, tt⟩).2.1, (atC y ⟨kk, hh, ii, nn, cc, vv, tt⟩).2.2) = (doC x ⟨kk, hh, ii, nn, cc, vv, tt⟩).2 ∧ (atC y ⟨kk, hh, ii, nn, cc, vv, tt⟩).1.Sm (doC x ⟨kk, hh, ii, nn, cc, vv, tt⟩).1) := Lib.hid (fun y hy => by
    have h1 := doC_sm hy ⟨kk, hh, ii, nn, cc, vv, tt⟩
    have h2 : doC y ⟨kk, hh, ii, nn, cc, vv, tt⟩ = atC y ⟨kk, hh, ii, nn, cc, vv, tt⟩ := by rcases hk with rfl | rfl | rfl | rfl | rfl <;> simp [doC]
    rw [h2] at h1
    exact ⟨hright_mono hy.symm hx, h1⟩)
  generalize doC x ⟨kk, hh, ii, nn, cc, vv, tt⟩ = r at HRT ⊢
  obtain ⟨s, rc, rv⟩ := r
  have HC0 : RowKit.Hid (∀ {y : Hv}, y.Sm x → ∀ ⦃r : Int⦄, PlaceI y.os hh r → ∀ ⦃K : List Blk⦄ ⦃w1 : World⦄, RefAt w.heap.size w w1 y K → Calls Tryz.prog 73 #[.agg (hvL y).toArray, .agg #[.int .i64 kk, .int .i64 hh, .int .i64 ii, .int .i64 nn, .int .i64 cc, .int .i64 vv, .int .i64 tt], .int .i64 r] w1 (RefPost w.heap.size w s rc rv K)) := Lib.hid (fun hy _ hr _ _ hW => by
    obtain ⟨g1, g2, g3⟩ := HRT.out _ hy
    exact (object73 g1 hk hr hW).mono fun _ _ hh => hh.to g2 g3)
  have HL0 : RowKit.Hid (∀ {y : Hv}, y.Sm x → y.os.length ≤ 1000) := Lib.hid (fun hy => by have := (HRT.out _ hy).1.len; omega)
  obtain ⟨od, oa, os, oc, nx, t0, t1, t2, t3, fa, fs, fc⟩ := x
  have HSM := Lib.hid hs
  have HIS := Lib.hid h
  clear hs h hx HRT
  simp only [hvL]
  have hp := Hp.start w
  rcases hk with rfl | rfl | rfl | rfl | rfl
  all_goals
    go_enter Tryz.func31, Tryz.ntmps31
    go_wp2_with (first | (go_at_call 9; (with_reducible refine (owno9L od oa os oc nx t0 t1 t2 t3 fa fs fc HSM.out _ (HIS.out.below hp.below)).mono ?_); rintro e w1 ⟨⟨yd, ya, ys, yc, yn, y0, y1, y2, y3, za, zs, zc⟩, RO, RF, M, rfl, hy, hR, hpx⟩; replace hp := hp.join hpx; have HY := Lib.hid hy; have HR := Lib.hid hR; clear hpx hy hR; simp only [hvL]; simp only [List.cons_append, List.nil_append, List.append_assoc] at hp) | go_skip | ((first | ((with_reducible refine pre_alloc _ rfl ?_); refine lZ hp rfl (by with_reducible first | exact zero26 | exact zero34) ?_; clear hp; intro b w1 hp) | ((with_reducible refine pre_box _ _ rfl ?_); refine lB hp rfl (slot_tmp rfl) rfl ?_; clear hp; intro b w1 hp) | ((with_reducible refine pre_load _ _ rfl ?_); first | refine lO hp rfl (slot_tmp rfl) ceEC1 aa5 ?_ | refine lA hp rfl (slot_tmp rfl) gaEC0 aa5 ?_) | ((with_reducible refine pre_store _ _ _ rfl ?_); (first | refine sO hp rfl (slot_tmp rfl) ceEC1 aa5 ?_ | refine sA hp rfl (slot_tmp rfl) (slot_tmp rfl) gaEC0 aa5 ?_ | refine sG hp rfl (slot_tmp rfl) (slot_tmp rfl) gaEC0 aa5 ?_); clear hp; intro w1 hp; simp only [spl, List.set_cons_zero, List.set_cons_succ] at hp) | ((with_reducible refine pre_build _ _ _ rfl ?_); refine lS hp rfl (by intro w; go_simp; rfl) ?_; clear hp; intro b w1 hp; simp only [List.length_cons, List.length_nil, Nat.reduceAdd] at hp)); simp only [put_some, put_none, List.set_cons_succ, List.set_cons_zero]))
    have HRO : RowKit.Hid (Kept RO fun w => RowIs w ya (ys.flatMap obV)) := Lib.hid HR.out.objs.keptS
    have HCL := Lib.hid (HC0.out HY.out.symm)
    simp only [hvL] at HCL
    have HYL := Lib.hid (HL0.out HY.out.symm)
    simp only at HYL
    clear HC0 HL0
    have HWK : RowKit.Hid (∀ {p1 p2 p3 p4 : Blk} {w1 : World}, Hp w.heap.size w w1 (p1 :: p2 :: p3 :: p4 :: (RO ++ (RF ++ M))) → RefAt w.heap.size w w1 (⟨yd, ya, ys, yc, yn, y0, y1, y2, y3, za, zs, zc⟩ : Hv) [p1, p2, p3, p4]) := Lib.hid (fun h => ref_wrap HR.out h)
    have HBK : RowKit.Hid (∀ {RO RF M : List Blk} {p1 p2 p3 p4 : Blk} {w1 : World}, Hp w.heap.size w w1 (RO ++ (RF ++ (M ++ [p1, p2, p3, p4]))) → Hp w.heap.size w w1 (p1 :: p2 :: p3 :: p4 :: (RO ++ (RF ++ M)))) := Lib.hid (fun h => ref_back h)
    go_wp2_with (first | go_skip | ((first | ((with_reducible refine pre_alloc _ rfl ?_); refine lZ hp rfl (by with_reducible first | exact zero26 | exact zero34) ?_; clear hp; intro b w1 hp) | ((with_reducible refine pre_box _ _ rfl ?_); refine lB hp rfl (slot_tmp rfl) rfl ?_; clear hp; intro b w1 hp) | ((with_reducible refine pre_load _ _ rfl ?_); first | refine lO hp rfl (slot_tmp rfl) ceEC1 aa5 ?_ | refine lA hp rfl (slot_tmp rfl) gaEC0 aa5 ?_) | ((with_reducible refine pre_store _ _ _ rfl ?_); (first | refine sO hp rfl (slot_tmp rfl) ceEC1 aa5 ?_ | refine sA hp rfl (slot_tmp rfl) (slot_tmp rfl) gaEC0 aa5 ?_ | refine sG hp rfl (slot_tmp rfl) (slot_tmp rfl) gaEC0 aa5 ?_); clear hp; intro w1 hp; simp only [spl, List.set_cons_zero, List.set_cons_succ] at hp) | ((with_reducible refine pre_build _ _ _ rfl ?_); refine lS hp rfl (by intro w; go_simp; rfl) ?_; clear hp; intro b w1 hp; simp only [List.length_cons, List.length_nil, Nat.reduceAdd] at hp)); simp only [put_some, put_none, List.set_cons_succ, List.set_cons_zero]))
    refine wp_region_keeps [_, _] (Keeps.two hp.drew at2 at3) [9, 10] [(0, true), (1, true), (2, true), (3, true), (4, true), (5, false), (6, false), (7, true), (8, true), (9, false), (10, false)] (by kernel_rfl) (by kernel_rfl) rfl (by kernel_rfl) (fun _ _ d _ _ h => by cases d <;> exact h) ?_
    replace hp := hp.drew
    repeat' (with_reducible refine plan_is ?_); first | (with_reducible refine plan_nil ?_) | ((with_reducible refine plan_t ?_); refine plan_tk rfl ?_; (first | ((with_reducible refine tk_ld _ _ rfl ?_); first | refine tA rfl (slot_tmp rfl) (by with_reducible first | exact agg26 | exact agg29) aa5 ?_ | refine tO rfl (slot_tmp rfl) cell3 aa5 ?_) | refine tG (fun w _ => (by go_simp; try rfl)) ?_); try simp only [put_some, put_none, eval_tmp, eval_const, List.set_cons_succ, List.set_cons_zero, List.getD_cons_succ, List.getD_cons_zero, wrap_eq]) | (refine plan_do rfl (fun K hK => ?_); go_wp2_with (first | (go_at_call 74; (with_reducible refine (place74 yd ya ys yc yn y0 y1 y2 y3 za zs.length zc HYL.out hh _ (HRO.out.at hp (fun p hm => by simp [hm]))).mono ?_); rintro e w1 ⟨pr, rfl, hpr, hb⟩; replace hp := hp.call hb; have HPR := Lib.hid hpr; clear hb hpr) | (go_at_call 73; (with_reducible refine (HCL.out HPR.out (HWK.out hp)).mono ?_); clear hp; rintro e w1 ⟨⟨ud, ua, us, uc, un, u0, u1, u2, u3, va, vs, vc⟩, rfl, hu, RO2, RF2, M2, hR2, hp⟩; replace hp := HBK.out hp; have HU := Lib.hid hu; have HR2 := Lib.hid hR2; clear hu hR2; simp only [hvL]) | go_skip | (((with_reducible refine pre_store _ _ _ rfl ?_); (first | refine sO hp rfl (slot_tmp rfl) ceEC1 aa5 ?_ | refine sA hp rfl (slot_tmp rfl) (slot_tmp rfl) gaEC0 aa5 ?_ | refine sG hp rfl (slot_tmp rfl) (slot_tmp rfl) gaEC0 aa5 ?_); clear hp; intro w1 hp; simp only [spl, List.set_cons_zero, List.set_cons_succ] at hp); simp only [put_some, put_none, List.set_cons_succ, List.set_cons_zero])); (first | refine hK.out _ _ (.inl rfl) ?_ | refine hK.out _ _ (.inr (Keeps.two hp aa5 aa5)) ?_); clear hK K; try simp only [put_some, put_none, eval_tmp, eval_const, List.set_cons_succ, List.set_cons_zero, List.getD_cons_succ, List.getD_cons_zero, wrap_eq])
    go_wp2_with (first | go_skip | ((first | ((with_reducible refine pre_alloc _ rfl ?_); refine lZ hp rfl (by with_reducible first | exact zero26 | exact zero34) ?_; clear hp; intro b w1 hp) | ((with_reducible refine pre_box _ _ rfl ?_); refine lB hp rfl (slot_tmp rfl) rfl ?_; clear hp; intro b w1 hp) | ((with_reducible refine pre_load _ _ rfl ?_); first | refine lO hp rfl (slot_tmp rfl) ceEC1 aa5 ?_ | refine lA hp rfl (slot_tmp rfl) gaEC0 aa5 ?_) | ((with_reducible refine pre_store _ _ _ rfl ?_); (first | refine sO hp rfl (slot_tmp rfl) ceEC1 aa5 ?_ | refine sA hp rfl (slot_tmp rfl) (slot_tmp rfl) gaEC0 aa5 ?_ | refine sG hp rfl (slot_tmp rfl) (slot_tmp rfl) gaEC0 aa5 ?_); clear hp; intro w1 hp; simp only [spl, List.set_cons_zero, List.set_cons_succ] at hp) | ((with_reducible refine pre_build _ _ _ rfl ?_); refine lS hp rfl (by intro w; go_simp; rfl) ?_; clear hp; intro b w1 hp; simp only [List.length_cons, List.length_nil, Nat.reduceAdd] at hp)); simp only [put_some, put_none, List.set_cons_succ, List.set_cons_zero]))
    exact bodyPost_ret (results_many (rs := [.cell 4 26, .cell 5 34]) Tryz.results31 (.cell rfl (hp.loadAgg agg26 at1 0 _ (by rfl) (by rfl)) (.cell rfl (hp.loadAgg agg34 at0 0 _ (by rfl) (by rfl)) .nil))) rfl ⟨⟨ud, ua, us, uc, un, u0, u1, u2, u3, va, vs, vc⟩, _, rfl, HU.out, HR2.out.kept, ⟨RO2, RF2, M2, rfl, HR2.out⟩, hp.tail.tail.tail.tail⟩
set_option maxRecDepth 100000 in
set_option maxHeartbeats 8000000 in
theorem done31_form (x : Hv) (kk hh ii nn cc vv tt : Int) (hs : x.Small) (w : World) (h : x.Is w) (hx : HRight x) (hk : kk ≠ 1 ∧ kk ≠ 2 ∧ kk ≠ 3 ∧ kk ≠ 4 ∧ kk ≠ 5 ∧ kk ≠ 6 ∧ kk ≠ 7 ∧ kk ≠ 8) : Calls Tryz.prog 31 #[.agg (hvL x).toArray, .agg #[.int .i64 kk, .int .i64 hh, .int .i64 ii, .int .i64 nn, .int .i64 cc, .int .i64 vv, .int .i64 tt]] w (DoPost w (doC x ⟨kk, hh, ii, nn, cc, vv, tt⟩)) := by
  obtain ⟨k1, k2, k3, k4, k5, k6, k7, k8⟩ := hk
  rw [show doC x ⟨kk, hh, ii, nn, cc, vv, tt⟩ = (x, 54, 0) by simp [doC, k1, k2, k3, k4, k5, k6, k7, k8]]
  have e1 : (kk == 1) = false := by simp [k1]
  have e2 : (kk == 2) = false := by simp [k2]
  have e3 : (kk == 3) = false := by simp [k3]
  have e4 : (kk == 4) = false := by simp [k4]
  have e5 : (kk == 5) = false := by simp [k5]
  have e6 : (kk == 6) = false := by simp [k6]
  have e7 : (kk == 7) = false := by simp [k7]
  have e8 : (kk == 8) = false := by simp [k8]
  obtain ⟨od, oa, os, oc, nx, t0, t1, t2, t3, fa, fs, fc⟩ := x
  have HSM := Lib.hid hs
  have HIS := Lib.hid h
  clear hs h hx k1 k2 k3 k4 k5 k6 k7 k8
  simp only [hvL]
  have hp := Hp.start w
  go_enter Tryz.func31, Tryz.ntmps31
  go_wp2_with (first | (go_at_call 9; (with_reducible refine (owno9L od oa os oc nx t0 t1 t2 t3 fa fs fc HSM.out _ (HIS.out.below hp.below)).mono ?_); rintro e w1 ⟨⟨yd, ya, ys, yc, yn, y0, y1, y2, y3, za, zs, zc⟩, RO, RF, M, rfl, hy, hR, hpx⟩; replace hp := hp.join hpx; have HY := Lib.hid hy; have HR := Lib.hid hR; clear hpx hy hR; simp only [hvL]; simp only [List.cons_append, List.nil_append, List.append_assoc] at hp) | go_skip | ((first | ((with_reducible refine pre_alloc _ rfl ?_); refine lZ hp rfl (by with_reducible first | exact zero26 | exact zero34) ?_; clear hp; intro b w1 hp) | ((with_reducible refine pre_box _ _ rfl ?_); refine lB hp rfl (slot_tmp rfl) rfl ?_; clear hp; intro b w1 hp) | ((with_reducible refine pre_load _ _ rfl ?_); first | refine lO hp rfl (slot_tmp rfl) ceEC1 aa5 ?_ | refine lA hp rfl (slot_tmp rfl) gaEC0 aa5 ?_) | ((with_reducible refine pre_store _ _ _ rfl ?_); (first | refine sO hp rfl (slot_tmp rfl) ceEC1 aa5 ?_ | refine sA hp rfl (slot_tmp rfl) (slot_tmp rfl) gaEC0 aa5 ?_ | refine sG hp rfl (slot_tmp rfl) (slot_tmp rfl) gaEC0 aa5 ?_); clear hp; intro w1 hp; simp only [spl, List.set_cons_zero, List.set_cons_succ] at hp) | ((with_reducible refine pre_build _ _ _ rfl ?_); refine lS hp rfl (by intro w; go_simp; rfl) ?_; clear hp; intro b w1 hp; simp only [List.length_cons, List.length_nil, Nat.reduceAdd] at hp)); simp only [put_some, put_none, List.set_cons_succ, List.set_cons_zero]))
  exact bodyPost_ret (results_many (rs := [.cell 4 26, .cell 5 34]) Tryz.results31 (.cell rfl (hp.loadAgg agg26 at1 0 _ (by rfl) (by rfl)) (.cell rfl (hp.loadAgg agg34 at0 0 _ (by rfl) (by rfl)) .nil))) rfl ⟨(⟨yd, ya, ys, yc, yn, y0, y1, y2, y3, za, zs, zc⟩ : Hv), _, rfl, HY.out.symm, HR.out.kept, ⟨RO, RF, M, rfl, HR.out⟩, hp.tail.tail.tail.tail⟩
theorem done31 (x : Hv) (kk hh ii nn cc vv tt : Int) (hs : x.Small) (w : World) (h : x.Is w) (hx : HRight x) : Calls Tryz.prog 31 #[.agg (hvL x).toArray, .agg #[.int .i64 kk, .int .i64 hh, .int .i64 ii, .int .i64 nn, .int .i64 cc, .int .i64 vv, .int .i64 tt]] w (DoPost w (doC x ⟨kk, hh, ii, nn, cc, vv, tt⟩)) := by
  by_cases h1 : kk = 1
  · exact done31_alloc x kk hh ii nn cc vv tt hs w h hx h1
  · by_cases h2 : kk = 2 ∨ kk = 3 ∨ kk = 4 ∨ kk = 6 ∨ kk = 7
    · exact done31_at x kk hh ii nn cc vv tt hs w h hx h2
    · by_cases h3 : kk = 5 ∨ kk = 8
      · exact done31_top x kk hh ii nn cc vv tt hs w h hx h3
      · exact done31_form x kk hh ii nn cc vv tt hs w h hx (by omega)
end Go.Proofs.YtppdjlgjcdmiaaaGreat
