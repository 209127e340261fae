/- The walk of the document's Do. -/
import Derived.Test.YtppdjlgjcdmiaaaGreatEC
import Derived.Test.YtppdjlgjcdmiaaaGreatKRefB
set_option linter.unusedSimpArgs false
set_option linter.unusedVariables false
namespace Go.Proofs.YtppdjlgjcdmiaaaGreat
open Go.RowKit
theorem gaED0 {ty : TypeId} {k : Nat} (h : aggB Tryz.prog ty k = true := by with_reducible first | exact agg26 | exact agg29 | exact agg34) : aggB Tryz.prog ty k = true := h
theorem ceED1 {ty : TypeId} (h : cellB Tryz.prog ty = true := by with_reducible first | exact cell3 | exact cell4 | exact cell22 | exact cell27) : cellB Tryz.prog ty = true := h
set_option maxRecDepth 100000 in
set_option maxHeartbeats 8000000 in
theorem rdo11_no (x : Hv) (kk hh ii nn cc vv tt : Int) (hs : x.Small) (hnx : x.nx ≤ 9223372036854775807) (w : World) (h : x.Is w) (hb : hrightB x = false) : Calls Tryz.prog 11 #[.agg (hvL x).toArray, .agg #[.int .i64 kk, .int .i64 hh, .int .i64 ii, .int .i64 nn, .int .i64 cc, .int .i64 vv, .int .i64 tt]] w (DoPost w (doP x ⟨kk, hh, ii, nn, cc, vv, tt⟩)) := by
  rw [doP_no hb]
  have HRG : RowKit.Hid (∀ w1, Below w.heap.size w w1 → Calls Tryz.prog 30 #[.agg (hvL x).toArray] w1 fun e w' => e = .returned (.bool false) ∧ Below w1.heap.size w1 w') := Lib.hid (fun w1 hw => by have := right30 x hs hnx w1 (h.below hw); rw [hb] at this; exact this)
  obtain ⟨od, oa, os, oc, nx, t0, t1, t2, t3, fa, fs, fc⟩ := x
  clear hb hs h
  simp only [hvL] at HRG ⊢
  have hp := Hp.start w
  go_enter Tryz.func11, Tryz.ntmps11
  go_wp2_with (first | (go_at_call 30; (with_reducible refine (HRG.out _ hp.below).mono ?_); rintro e w1 ⟨rfl, hb⟩; replace hp := hp.call hb; clear hb) | go_skip | ((first | ((with_reducible refine pre_alloc _ rfl ?_); refine lZ hp rfl (by with_reducible first | exact zero26 | exact zero34) ?_; clear hp; intro b w1 hp) | ((with_reducible refine pre_box _ _ rfl ?_); refine lB hp rfl (slot_tmp rfl) rfl ?_; clear hp; intro b w1 hp) | ((with_reducible refine pre_load _ _ rfl ?_); first | refine lO hp rfl (slot_tmp rfl) ceED1 aa5 ?_ | refine lA hp rfl (slot_tmp rfl) gaED0 aa5 ?_) | ((with_reducible refine pre_store _ _ _ rfl ?_); (first | refine sO hp rfl (slot_tmp rfl) ceED1 aa5 ?_ | refine sA hp rfl (slot_tmp rfl) (slot_tmp rfl) gaED0 aa5 ?_ | refine sG hp rfl (slot_tmp rfl) (slot_tmp rfl) gaED0 aa5 ?_); clear hp; intro w1 hp; simp only [spl, List.set_cons_zero, List.set_cons_succ] at hp) | ((with_reducible refine pre_build _ _ _ rfl ?_); refine lS hp rfl (by intro w; go_simp; rfl) ?_; clear hp; intro b w1 hp; simp only [List.length_cons, List.length_nil, Nat.reduceAdd] at hp)); simp only [put_some, put_none, List.set_cons_succ, List.set_cons_zero]))
  exact bodyPost_ret (results_many (rs := [.cell 4 26, .cell 5 34]) Tryz.results11 (.cell rfl (hp.loadAgg agg26 at1 0 _ (by rfl) (by rfl)) (.cell rfl (hp.loadAgg agg34 at0 0 _ (by rfl) (by rfl)) .nil))) rfl ⟨zeroHv, [], rfl, Hv.Sm.refl _, is_none, zero_own, hp.sub0⟩
set_option maxRecDepth 100000 in
set_option maxHeartbeats 8000000 in
theorem rdo11_yes (x : Hv) (kk hh ii nn cc vv tt : Int) (hs : x.Small) (hnx : x.nx ≤ 9223372036854775807) (w : World) (h : x.Is w) (hx : HRight x) : Calls Tryz.prog 11 #[.agg (hvL x).toArray, .agg #[.int .i64 kk, .int .i64 hh, .int .i64 ii, .int .i64 nn, .int .i64 cc, .int .i64 vv, .int .i64 tt]] w (DoPost w (doP x ⟨kk, hh, ii, nn, cc, vv, tt⟩)) := by
  rw [doP_yes hx]
  have hb := hright_yes hx
  have HRG : RowKit.Hid (∀ w1, Below w.heap.size w w1 → Calls Tryz.prog 30 #[.agg (hvL x).toArray] w1 fun e w' => e = .returned (.bool true) ∧ Below w1.heap.size w1 w') := Lib.hid (fun w1 hw => by have := right30 x hs hnx w1 (h.below hw); rw [hb] at this; exact this)
  have HDN : RowKit.Hid (∀ w1, Below w.heap.size w w1 → Calls Tryz.prog 31 #[.agg (hvL x).toArray, .agg #[.int .i64 kk, .int .i64 hh, .int .i64 ii, .int .i64 nn, .int .i64 cc, .int .i64 vv, .int .i64 tt]] w1 (DoPost w1 (doC x ⟨kk, hh, ii, nn, cc, vv, tt⟩))) := Lib.hid (fun w1 hw => done31 x kk hh ii nn cc vv tt hs w1 (h.below hw) hx)
  generalize doC x ⟨kk, hh, ii, nn, cc, vv, tt⟩ = r at HDN ⊢
  obtain ⟨s, rc, rv⟩ := r
  obtain ⟨od, oa, os, oc, nx, t0, t1, t2, t3, fa, fs, fc⟩ := x
  clear hb hs h hx
  simp only [hvL] at HRG HDN ⊢
  have hp := Hp.start w
  go_enter Tryz.func11, Tryz.ntmps11
  go_wp2_with (first | (go_at_call 30; (with_reducible refine (HRG.out _ hp.below).mono ?_); rintro e w1 ⟨rfl, hb⟩; replace hp := hp.call hb; clear hb) | (go_at_call 31; (with_reducible refine (HDN.out _ hp.below).mono ?_); rintro e w1 ⟨⟨ud, ua, us, uc, un, u0, u1, u2, u3, va, vs, vc⟩, R, rfl, hu, hkr, ho, hpx⟩; replace hp := hp.join hpx; have HU := Lib.hid hu; have HKR := Lib.hid hkr; have HOW := Lib.hid ho; clear hpx hu hkr ho; simp only [hvL]; simp only [List.cons_append, List.nil_append] at hp) | go_skip | ((first | ((with_reducible refine pre_alloc _ rfl ?_); refine lZ hp rfl (by with_reducible first | exact zero26 | exact zero34) ?_; clear hp; intro b w1 hp) | ((with_reducible refine pre_box _ _ rfl ?_); refine lB hp rfl (slot_tmp rfl) rfl ?_; clear hp; intro b w1 hp) | ((with_reducible refine pre_load _ _ rfl ?_); first | refine lO hp rfl (slot_tmp rfl) ceED1 aa5 ?_ | refine lA hp rfl (slot_tmp rfl) gaED0 aa5 ?_) | ((with_reducible refine pre_store _ _ _ rfl ?_); (first | refine sO hp rfl (slot_tmp rfl) ceED1 aa5 ?_ | refine sA hp rfl (slot_tmp rfl) (slot_tmp rfl) gaED0 aa5 ?_ | refine sG hp rfl (slot_tmp rfl) (slot_tmp rfl) gaED0 aa5 ?_); clear hp; intro w1 hp; simp only [spl, List.set_cons_zero, List.set_cons_succ] at hp) | ((with_reducible refine pre_build _ _ _ rfl ?_); refine lS hp rfl (by intro w; go_simp; rfl) ?_; clear hp; intro b w1 hp; simp only [List.length_cons, List.length_nil, Nat.reduceAdd] at hp)); simp only [put_some, put_none, List.set_cons_succ, List.set_cons_zero]))
  exact bodyPost_ret (results_many (rs := [.cell 4 26, .cell 5 34]) Tryz.results11 (.cell rfl (hp.loadAgg agg26 at1 0 _ (by rfl) (by rfl)) (.cell rfl (hp.loadAgg agg34 at0 0 _ (by rfl) (by rfl)) .nil))) rfl ⟨⟨ud, ua, us, uc, un, u0, u1, u2, u3, va, vs, vc⟩, R, rfl, HU.out, HKR.out, HOW.out, hp.tail.tail.tail.tail⟩
theorem rdo11 (x : Hv) (kk hh ii nn cc vv tt : Int) (hs : x.Small) (hnx : x.nx ≤ 9223372036854775807) (w : World) (h : x.Is w) : Calls Tryz.prog 11 #[.agg (hvL x).toArray, .agg #[.int .i64 kk, .int .i64 hh, .int .i64 ii, .int .i64 nn, .int .i64 cc, .int .i64 vv, .int .i64 tt]] w (DoPost w (doP x ⟨kk, hh, ii, nn, cc, vv, tt⟩)) := by
  cases hb : hrightB x with
  | false => exact rdo11_no x kk hh ii nn cc vv tt hs hnx w h hb
  | true => exact rdo11_yes x kk hh ii nn cc vv tt hs hnx w h (hright_of hb)
end Go.Proofs.YtppdjlgjcdmiaaaGreat
