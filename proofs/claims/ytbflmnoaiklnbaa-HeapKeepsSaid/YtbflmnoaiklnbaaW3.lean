/- The walk of the law HeapKeeps. -/
import Derived.Test.YtbflmnoaiklnbaaW2
set_option linter.unusedSimpArgs false
set_option linter.unusedVariables false
namespace Go.Proofs.Ytbflmnoaiklnbaa
open Go.RowKit
theorem gaW30 {ty : TypeId} {k : Nat} (h : aggB Try.prog ty k = true := by with_reducible first | exact agg26 | exact agg63 | exact agg61) : aggB Try.prog ty k = true := h
theorem ceW31 {ty : TypeId} (h : cellB Try.prog ty = true := by with_reducible first | exact cell3 | exact cell4 | exact cell30 | exact cell59) : cellB Try.prog ty = true := h
/-- What an operation keeps: the plain law. -/
theorem keeps_law {x : Hv} (o : Opd) : ((doC x o).2.1 ≠ 0 → (doC x o).1 = x ∧ (doC x o).2.2 = 0) ∧ (o.k = 6 ∨ o.k = 7 ∨ o.k = 8 → (doC x o).1 = x) ∧
    ((doC x o).2.1 = 0 → ¬ (o.k = 6 ∨ o.k = 7 ∨ o.k = 8) → (o.k = 1 → (doC x o).2.2 = x.nx ∧ (doC x o).1.nx = x.nx + 1) ∧ (o.k ≠ 1 → (doC x o).1.nx = x.nx ∧ (doC x o).2.2 = 0)) := by
  obtain ⟨kk, hh, ii, nn, cc, vv, tt⟩ := o
  unfold doC
  simp only
  by_cases h1 : kk = 1
  · subst h1
    simp only [if_true]
    unfold allocC
    split
    · simp
    · split
      · simp
      · split
        · simp
        · simp [bornH]
  · rw [if_neg h1]
    by_cases h2 : kk = 2 ∨ kk = 3 ∨ kk = 4 ∨ kk = 6 ∨ kk = 7
    · rw [if_pos h2]
      unfold atC
      simp only
      split
      · simp
      · split
        · simp
        · split
          · rename_i h3; subst h3; simp [freeH]
          · split
            · simp
            · split
              · rename_i h3; subst h3; simp [writeH]
              · split
                · rename_i h3; subst h3
                  split
                  · simp [linkH]
                  · simp
                · simp; omega
    · rw [if_neg h2]
      by_cases h3 : kk = 5 ∨ kk = 8
      · rw [if_pos h3]
        unfold topC
        simp only
        split
        · simp
        · split
          · rename_i h4; subst h4; simp
          · split
            · have : kk = 5 := by omega
              subst this
              simp
              unfold topH
              split <;> rfl
            · simp
      · rw [if_neg h3]
        simp
set_option maxRecDepth 100000 in
set_option maxHeartbeats 16000000 in
theorem law6 (x : Hv) (kk hh ii nn cc vv tt : Int) (w : World) (hs : x.Is w ∧ x.nx ≤ 9223372036854775807) : Calls Try.prog 6 #[.agg (hvL x).toArray, .agg #[.int .i64 kk, .int .i64 hh, .int .i64 ii, .int .i64 nn, .int .i64 cc, .int .i64 vv, .int .i64 tt]] w fun e w' => e = .returned (.bool true) ∧ Below w.heap.size w w' := by
  have hp := Hp.start w
  have HIS := Lib.hid hs.1
  clear hs
  have hsmall := doP_small (x := x) ⟨kk, hh, ii, nn, cc, vv, tt⟩
  obtain ⟨⟨s, c, v⟩, hd⟩ : ∃ r, doP x ⟨kk, hh, ii, nn, cc, vv, tt⟩ = r := ⟨_, rfl⟩
  rw [hd] at hsmall
  have HS2 := Lib.hid hsmall
  have hway : (hrightB x = false ∧ c = 1) ∨ (hrightB x = true ∧ hrightB s = true ∧ 1 ≤ x.nx ∧ x.nx ≤ 1000001 ∧
      ((c ≠ 0 ∧ s = x ∧ v = 0) ∨ (c = 0 ∧ (kk = 6 ∨ kk = 7 ∨ kk = 8) ∧ s = x) ∨ (c = 0 ∧ kk = 1 ∧ v = x.nx ∧ s.nx = x.nx + 1) ∨ (c = 0 ∧ kk ≠ 1 ∧ kk ≠ 6 ∧ kk ≠ 7 ∧ kk ≠ 8 ∧ s.nx = x.nx ∧ v = 0))) := by
    cases hb : hrightB x with
    | false => rw [doP_no hb] at hd; injection hd with _ hd; injection hd with hd _; exact .inl ⟨rfl, hd.symm⟩
    | true =>
      have hx := hright_of hb
      rw [doP_yes hx] at hd
      have h1 := keeps_law (x := x) ⟨kk, hh, ii, nn, cc, vv, tt⟩
      have h2 := doC_right hx ⟨kk, hh, ii, nn, cc, vv, tt⟩
      rw [hd] at h1 h2
      simp only at h1 h2
      obtain ⟨k1, k2, k3⟩ := h1
      refine .inr ⟨rfl, hright_yes h2, hx.lo, hx.hi, ?_⟩
      by_cases hc : c = 0
      · by_cases ha : kk = 6 ∨ kk = 7 ∨ kk = 8
        · exact .inr (.inl ⟨hc, ha, k2 ha⟩)
        · obtain ⟨k4, k5⟩ := k3 hc ha
          by_cases h1 : kk = 1
          · exact .inr (.inr (.inl ⟨hc, h1, k4 h1⟩))
          · exact .inr (.inr (.inr ⟨hc, h1, by omega, by omega, by omega, k5 h1⟩))
      · exact .inl ⟨hc, k1 hc⟩
  obtain ⟨od, oa, os, oc, nx, t0, t1, t2, t3, fa, fs, fc⟩ := x
  have HD2 : RowKit.Hid (doP ⟨od, oa, os, oc, nx, t0, t1, t2, t3, fa, fs, fc⟩ ⟨kk, hh, ii, nn, cc, vv, tt⟩ = (s, c, v)) := Lib.hid hd
  clear hd hsmall
  simp only [hvL]
  rcases hway with ⟨hq, rfl⟩ | ⟨hq, hq2, hlo, hhi, hway⟩
  · have HQ := Lib.hid hq
    clear hq
    go_enter Try.func6, Try.ntmps6
    go_wp2_with (first | (go_at_call 12; (with_reducible refine (big12L od oa os oc nx t0 t1 t2 t3 fa fs fc _ (HIS.out.below hp.below)).mono ?_); rintro e w1 ⟨bb, rfl, hbb, hb⟩; replace hp := hp.call hb; clear hb; cases bb) | go_skip | ((first | ((with_reducible refine pre_alloc _ rfl ?_); refine lZ hp rfl (by with_reducible first | exact zero63 | exact zero26) ?_; clear hp; intro b w1 hp) | ((with_reducible refine pre_box _ _ rfl ?_); refine lB hp rfl (slot_tmp rfl) rfl ?_; clear hp; intro b w1 hp) | ((with_reducible refine pre_load _ _ rfl ?_); first | refine lO hp rfl (slot_tmp rfl) ceW31 aa14 ?_ | refine lA hp rfl (slot_tmp rfl) gaW30 aa14 ?_) | ((with_reducible refine pre_store _ _ _ rfl ?_); (first | refine sO hp rfl (slot_tmp rfl) ceW31 aa14 ?_ | refine sA hp rfl (slot_tmp rfl) (slot_tmp rfl) gaW30 aa14 ?_ | refine sG hp rfl (slot_tmp rfl) (slot_tmp rfl) gaW30 aa14 ?_); clear hp; intro w1 hp; simp only [spl, List.set_cons_zero, List.set_cons_succ] at hp)); simp only [put_some, put_none, List.set_cons_succ, List.set_cons_zero]))
    · have HSS := Lib.hid (hbb (by first | rfl | trivial))
      clear hbb
      go_wp2_with (first | (go_at_call 33; (with_reducible refine (doh33L od oa os oc nx t0 t1 t2 t3 fa fs fc _ _ _ _ _ _ _ _ HD2.out HSS.out _ (HIS.out.below hp.below)).mono ?_); rintro e w1 ⟨⟨odX, oaX, osX, ocX, nxX, t0X, t1X, t2X, t3X, faX, fsX, fcX⟩, RX, rfl, hyX, hkX, _, hpX⟩; have hnx := hyX.nx.symm; replace hp := hp.join hpX; have HYX := Lib.hid hyX; have HKX := Lib.hid hkX; clear hpX hyX hkX; simp only [hvL, List.cons_append, List.nil_append, List.append_assoc] at hp ⊢; simp only at hnx; subst hnx) | (go_at_call 34; (with_reducible refine (check34L od oa os oc nx t0 t1 t2 t3 fa fs fc _ HQ.out HSS.out _ (HIS.out.below hp.below)).mono ?_); rintro e w1 ⟨rfl, hb⟩; replace hp := hp.call hb; clear hb; first | rw [errI_true] | rw [errI_false]) | (go_at_call 34; (with_reducible refine (check34L odX oaX osX ocX _ t0X t1X t2X t3X faX fsX fcX true ((hright_sm HYX.out).trans HQ2.out) (HS2.out.sm HYX.out.symm) _ (HKX.out.at hp (fun p hm => by simp [hm]))).mono ?_); rintro e w1 ⟨rfl, hb⟩; replace hp := hp.call hb; clear hb; rw [errI_true]) | (go_at_call 16; (with_reducible refine (same16L odX oaX osX ocX _ t0X t1X t2X t3X faX fsX fcX od oa os oc nx t0 t1 t2 t3 fa fs fc (HS2.out.sm HYX.out.symm) (HYX.out.trans HSX.out) _ (HKX.out.at hp (fun p hm => by simp [hm])) (HIS.out.below hp.below)).mono ?_); rintro e w1 ⟨rfl, hb⟩; replace hp := hp.call hb; clear hb) | (go_at_call 35; (with_reducible refine (fresh35 _).mono ?_); rintro e w1 ⟨rfl, hb⟩; replace hp := hp.call hb; clear hb) | (go_at_call 36; (with_reducible refine (does36 _).mono ?_); rintro e w1 ⟨rfl, hb⟩; replace hp := hp.call hb; clear hb) | go_skip | ((first | ((with_reducible refine pre_alloc _ rfl ?_); refine lZ hp rfl (by with_reducible first | exact zero63 | exact zero26) ?_; clear hp; intro b w1 hp) | ((with_reducible refine pre_box _ _ rfl ?_); refine lB hp rfl (slot_tmp rfl) rfl ?_; clear hp; intro b w1 hp) | ((with_reducible refine pre_load _ _ rfl ?_); first | refine lO hp rfl (slot_tmp rfl) ceW31 aa14 ?_ | refine lA hp rfl (slot_tmp rfl) gaW30 aa14 ?_) | ((with_reducible refine pre_store _ _ _ rfl ?_); (first | refine sO hp rfl (slot_tmp rfl) ceW31 aa14 ?_ | refine sA hp rfl (slot_tmp rfl) (slot_tmp rfl) gaW30 aa14 ?_ | refine sG hp rfl (slot_tmp rfl) (slot_tmp rfl) gaW30 aa14 ?_); clear hp; intro w1 hp; simp only [spl, List.set_cons_zero, List.set_cons_succ] at hp)); simp only [put_some, put_none, List.set_cons_succ, List.set_cons_zero]))
      go_ret
      exact ⟨rfl, hp.below⟩
    · go_ret
      exact ⟨rfl, hp.below⟩
  · have HQ := Lib.hid hq
    have HQ2 := Lib.hid hq2
    clear hq hq2
    have hk : kk = 6 ∨ kk = 7 ∨ kk = 8 ∨ kk = 1 ∨ (kk ≠ 6 ∧ kk ≠ 7 ∧ kk ≠ 8 ∧ kk ≠ 1) := by omega
    go_enter Try.func6, Try.ntmps6
    go_wp2_with (first | (go_at_call 12; (with_reducible refine (big12L od oa os oc nx t0 t1 t2 t3 fa fs fc _ (HIS.out.below hp.below)).mono ?_); rintro e w1 ⟨bb, rfl, hbb, hb⟩; replace hp := hp.call hb; clear hb; cases bb) | go_skip | ((first | ((with_reducible refine pre_alloc _ rfl ?_); refine lZ hp rfl (by with_reducible first | exact zero63 | exact zero26) ?_; clear hp; intro b w1 hp) | ((with_reducible refine pre_box _ _ rfl ?_); refine lB hp rfl (slot_tmp rfl) rfl ?_; clear hp; intro b w1 hp) | ((with_reducible refine pre_load _ _ rfl ?_); first | refine lO hp rfl (slot_tmp rfl) ceW31 aa14 ?_ | refine lA hp rfl (slot_tmp rfl) gaW30 aa14 ?_) | ((with_reducible refine pre_store _ _ _ rfl ?_); (first | refine sO hp rfl (slot_tmp rfl) ceW31 aa14 ?_ | refine sA hp rfl (slot_tmp rfl) (slot_tmp rfl) gaW30 aa14 ?_ | refine sG hp rfl (slot_tmp rfl) (slot_tmp rfl) gaW30 aa14 ?_); clear hp; intro w1 hp; simp only [spl, List.set_cons_zero, List.set_cons_succ] at hp)); simp only [put_some, put_none, List.set_cons_succ, List.set_cons_zero]))
    · have HSS := Lib.hid (hbb (by first | rfl | trivial))
      clear hbb
      rcases hway with ⟨hc, hsx, rfl⟩ | ⟨rfl, ha, hsx⟩ | ⟨rfl, rfl, hv, hn⟩ | ⟨rfl, h1, h6, h7, h8, hn, rfl⟩
      · have e1 : (c != 0) = true := by simp [hc]
        have e2 : (c == 0) = false := by simp [hc]
        have HSX : RowKit.Hid (s.Sm ⟨od, oa, os, oc, nx, t0, t1, t2, t3, fa, fs, fc⟩) := Lib.hid (by rw [hsx]; exact Hv.Sm.refl _)
        clear hc hsx
        rcases hk with rfl | rfl | rfl | rfl | ⟨g6, g7, g8, g1⟩
        · go_wp2_with (first | (go_at_call 33; (with_reducible refine (doh33L od oa os oc nx t0 t1 t2 t3 fa fs fc _ _ _ _ _ _ _ _ HD2.out HSS.out _ (HIS.out.below hp.below)).mono ?_); rintro e w1 ⟨⟨odX, oaX, osX, ocX, nxX, t0X, t1X, t2X, t3X, faX, fsX, fcX⟩, RX, rfl, hyX, hkX, _, hpX⟩; have hnx := hyX.nx.symm; replace hp := hp.join hpX; have HYX := Lib.hid hyX; have HKX := Lib.hid hkX; clear hpX hyX hkX; simp only [hvL, List.cons_append, List.nil_append, List.append_assoc] at hp ⊢; simp only at hnx; subst hnx) | (go_at_call 34; (with_reducible refine (check34L od oa os oc nx t0 t1 t2 t3 fa fs fc _ HQ.out HSS.out _ (HIS.out.below hp.below)).mono ?_); rintro e w1 ⟨rfl, hb⟩; replace hp := hp.call hb; clear hb; first | rw [errI_true] | rw [errI_false]) | (go_at_call 34; (with_reducible refine (check34L odX oaX osX ocX _ t0X t1X t2X t3X faX fsX fcX true ((hright_sm HYX.out).trans HQ2.out) (HS2.out.sm HYX.out.symm) _ (HKX.out.at hp (fun p hm => by simp [hm]))).mono ?_); rintro e w1 ⟨rfl, hb⟩; replace hp := hp.call hb; clear hb; rw [errI_true]) | (go_at_call 16; (with_reducible refine (same16L odX oaX osX ocX _ t0X t1X t2X t3X faX fsX fcX od oa os oc nx t0 t1 t2 t3 fa fs fc (HS2.out.sm HYX.out.symm) (HYX.out.trans HSX.out) _ (HKX.out.at hp (fun p hm => by simp [hm])) (HIS.out.below hp.below)).mono ?_); rintro e w1 ⟨rfl, hb⟩; replace hp := hp.call hb; clear hb) | (go_at_call 35; (with_reducible refine (fresh35 _).mono ?_); rintro e w1 ⟨rfl, hb⟩; replace hp := hp.call hb; clear hb) | (go_at_call 36; (with_reducible refine (does36 _).mono ?_); rintro e w1 ⟨rfl, hb⟩; replace hp := hp.call hb; clear hb) | go_skip | ((first | ((with_reducible refine pre_alloc _ rfl ?_); refine lZ hp rfl (by with_reducible first | exact zero63 | exact zero26) ?_; clear hp; intro b w1 hp) | ((with_reducible refine pre_box _ _ rfl ?_); refine lB hp rfl (slot_tmp rfl) rfl ?_; clear hp; intro b w1 hp) | ((with_reducible refine pre_load _ _ rfl ?_); first | refine lO hp rfl (slot_tmp rfl) ceW31 aa14 ?_ | refine lA hp rfl (slot_tmp rfl) gaW30 aa14 ?_) | ((with_reducible refine pre_store _ _ _ rfl ?_); (first | refine sO hp rfl (slot_tmp rfl) ceW31 aa14 ?_ | refine sA hp rfl (slot_tmp rfl) (slot_tmp rfl) gaW30 aa14 ?_ | refine sG hp rfl (slot_tmp rfl) (slot_tmp rfl) gaW30 aa14 ?_); clear hp; intro w1 hp; simp only [spl, List.set_cons_zero, List.set_cons_succ] at hp)); simp only [put_some, put_none, List.set_cons_succ, List.set_cons_zero]))
          go_ret
          exact ⟨rfl, hp.below⟩
        · go_wp2_with (first | (go_at_call 33; (with_reducible refine (doh33L od oa os oc nx t0 t1 t2 t3 fa fs fc _ _ _ _ _ _ _ _ HD2.out HSS.out _ (HIS.out.below hp.below)).mono ?_); rintro e w1 ⟨⟨odX, oaX, osX, ocX, nxX, t0X, t1X, t2X, t3X, faX, fsX, fcX⟩, RX, rfl, hyX, hkX, _, hpX⟩; have hnx := hyX.nx.symm; replace hp := hp.join hpX; have HYX := Lib.hid hyX; have HKX := Lib.hid hkX; clear hpX hyX hkX; simp only [hvL, List.cons_append, List.nil_append, List.append_assoc] at hp ⊢; simp only at hnx; subst hnx) | (go_at_call 34; (with_reducible refine (check34L od oa os oc nx t0 t1 t2 t3 fa fs fc _ HQ.out HSS.out _ (HIS.out.below hp.below)).mono ?_); rintro e w1 ⟨rfl, hb⟩; replace hp := hp.call hb; clear hb; first | rw [errI_true] | rw [errI_false]) | (go_at_call 34; (with_reducible refine (check34L odX oaX osX ocX _ t0X t1X t2X t3X faX fsX fcX true ((hright_sm HYX.out).trans HQ2.out) (HS2.out.sm HYX.out.symm) _ (HKX.out.at hp (fun p hm => by simp [hm]))).mono ?_); rintro e w1 ⟨rfl, hb⟩; replace hp := hp.call hb; clear hb; rw [errI_true]) | (go_at_call 16; (with_reducible refine (same16L odX oaX osX ocX _ t0X t1X t2X t3X faX fsX fcX od oa os oc nx t0 t1 t2 t3 fa fs fc (HS2.out.sm HYX.out.symm) (HYX.out.trans HSX.out) _ (HKX.out.at hp (fun p hm => by simp [hm])) (HIS.out.below hp.below)).mono ?_); rintro e w1 ⟨rfl, hb⟩; replace hp := hp.call hb; clear hb) | (go_at_call 35; (with_reducible refine (fresh35 _).mono ?_); rintro e w1 ⟨rfl, hb⟩; replace hp := hp.call hb; clear hb) | (go_at_call 36; (with_reducible refine (does36 _).mono ?_); rintro e w1 ⟨rfl, hb⟩; replace hp := hp.call hb; clear hb) | go_skip | ((first | ((with_reducible refine pre_alloc _ rfl ?_); refine lZ hp rfl (by with_reducible first | exact zero63 | exact zero26) ?_; clear hp; intro b w1 hp) | ((with_reducible refine pre_box _ _ rfl ?_); refine lB hp rfl (slot_tmp rfl) rfl ?_; clear hp; intro b w1 hp) | ((with_reducible refine pre_load _ _ rfl ?_); first | refine lO hp rfl (slot_tmp rfl) ceW31 aa14 ?_ | refine lA hp rfl (slot_tmp rfl) gaW30 aa14 ?_) | ((with_reducible refine pre_store _ _ _ rfl ?_); (first | refine sO hp rfl (slot_tmp rfl) ceW31 aa14 ?_ | refine sA hp rfl (slot_tmp rfl) (slot_tmp rfl) gaW30 aa14 ?_ | refine sG hp rfl (slot_tmp rfl) (slot_tmp rfl) gaW30 aa14 ?_); clear hp; intro w1 hp; simp only [spl, List.set_cons_zero, List.set_cons_succ] at hp)); simp only [put_some, put_none, List.set_cons_succ, List.set_cons_zero]))
          go_ret
          exact ⟨rfl, hp.below⟩
        · go_wp2_with (first | (go_at_call 33; (with_reducible refine (doh33L od oa os oc nx t0 t1 t2 t3 fa fs fc _ _ _ _ _ _ _ _ HD2.out HSS.out _ (HIS.out.below hp.below)).mono ?_); rintro e w1 ⟨⟨odX, oaX, osX, ocX, nxX, t0X, t1X, t2X, t3X, faX, fsX, fcX⟩, RX, rfl, hyX, hkX, _, hpX⟩; have hnx := hyX.nx.symm; replace hp := hp.join hpX; have HYX := Lib.hid hyX; have HKX := Lib.hid hkX; clear hpX hyX hkX; simp only [hvL, List.cons_append, List.nil_append, List.append_assoc] at hp ⊢; simp only at hnx; subst hnx) | (go_at_call 34; (with_reducible refine (check34L od oa os oc nx t0 t1 t2 t3 fa fs fc _ HQ.out HSS.out _ (HIS.out.below hp.below)).mono ?_); rintro e w1 ⟨rfl, hb⟩; replace hp := hp.call hb; clear hb; first | rw [errI_true] | rw [errI_false]) | (go_at_call 34; (with_reducible refine (check34L odX oaX osX ocX _ t0X t1X t2X t3X faX fsX fcX true ((hright_sm HYX.out).trans HQ2.out) (HS2.out.sm HYX.out.symm) _ (HKX.out.at hp (fun p hm => by simp [hm]))).mono ?_); rintro e w1 ⟨rfl, hb⟩; replace hp := hp.call hb; clear hb; rw [errI_true]) | (go_at_call 16; (with_reducible refine (same16L odX oaX osX ocX _ t0X t1X t2X t3X faX fsX fcX od oa os oc nx t0 t1 t2 t3 fa fs fc (HS2.out.sm HYX.out.symm) (HYX.out.trans HSX.out) _ (HKX.out.at hp (fun p hm => by simp [hm])) (HIS.out.below hp.below)).mono ?_); rintro e w1 ⟨rfl, hb⟩; replace hp := hp.call hb; clear hb) | (go_at_call 35; (with_reducible refine (fresh35 _).mono ?_); rintro e w1 ⟨rfl, hb⟩; replace hp := hp.call hb; clear hb) | (go_at_call 36; (with_reducible refine (does36 _).mono ?_); rintro e w1 ⟨rfl, hb⟩; replace hp := hp.call hb; clear hb) | go_skip | ((first | ((with_reducible refine pre_alloc _ rfl ?_); refine lZ hp rfl (by with_reducible first | exact zero63 | exact zero26) ?_; clear hp; intro b w1 hp) | ((with_reducible refine pre_box _ _ rfl ?_); refine lB hp rfl (slot_tmp rfl) rfl ?_; clear hp; intro b w1 hp) | ((with_reducible refine pre_load _ _ rfl ?_); first | refine lO hp rfl (slot_tmp rfl) ceW31 aa14 ?_ | refine lA hp rfl (slot_tmp rfl) gaW30 aa14 ?_) | ((with_reducible refine pre_store _ _ _ rfl ?_); (first | refine sO hp rfl (slot_tmp rfl) ceW31 aa14 ?_ | refine sA hp rfl (slot_tmp rfl) (slot_tmp rfl) gaW30 aa14 ?_ | refine sG hp rfl (slot_tmp rfl) (slot_tmp rfl) gaW30 aa14 ?_); clear hp; intro w1 hp; simp only [spl, List.set_cons_zero, List.set_cons_succ] at hp)); simp only [put_some, put_none, List.set_cons_succ, List.set_cons_zero]))
          go_ret
          exact ⟨rfl, hp.below⟩
        · go_wp2_with (first | (go_at_call 33; (with_reducible refine (doh33L od oa os oc nx t0 t1 t2 t3 fa fs fc _ _ _ _ _ _ _ _ HD2.out HSS.out _ (HIS.out.below hp.below)).mono ?_); rintro e w1 ⟨⟨odX, oaX, osX, ocX, nxX, t0X, t1X, t2X, t3X, faX, fsX, fcX⟩, RX, rfl, hyX, hkX, _, hpX⟩; have hnx := hyX.nx.symm; replace hp := hp.join hpX; have HYX := Lib.hid hyX; have HKX := Lib.hid hkX; clear hpX hyX hkX; simp only [hvL, List.cons_append, List.nil_append, List.append_assoc] at hp ⊢; simp only at hnx; subst hnx) | (go_at_call 34; (with_reducible refine (check34L od oa os oc nx t0 t1 t2 t3 fa fs fc _ HQ.out HSS.out _ (HIS.out.below hp.below)).mono ?_); rintro e w1 ⟨rfl, hb⟩; replace hp := hp.call hb; clear hb; first | rw [errI_true] | rw [errI_false]) | (go_at_call 34; (with_reducible refine (check34L odX oaX osX ocX _ t0X t1X t2X t3X faX fsX fcX true ((hright_sm HYX.out).trans HQ2.out) (HS2.out.sm HYX.out.symm) _ (HKX.out.at hp (fun p hm => by simp [hm]))).mono ?_); rintro e w1 ⟨rfl, hb⟩; replace hp := hp.call hb; clear hb; rw [errI_true]) | (go_at_call 16; (with_reducible refine (same16L odX oaX osX ocX _ t0X t1X t2X t3X faX fsX fcX od oa os oc nx t0 t1 t2 t3 fa fs fc (HS2.out.sm HYX.out.symm) (HYX.out.trans HSX.out) _ (HKX.out.at hp (fun p hm => by simp [hm])) (HIS.out.below hp.below)).mono ?_); rintro e w1 ⟨rfl, hb⟩; replace hp := hp.call hb; clear hb) | (go_at_call 35; (with_reducible refine (fresh35 _).mono ?_); rintro e w1 ⟨rfl, hb⟩; replace hp := hp.call hb; clear hb) | (go_at_call 36; (with_reducible refine (does36 _).mono ?_); rintro e w1 ⟨rfl, hb⟩; replace hp := hp.call hb; clear hb) | go_skip | ((first | ((with_reducible refine pre_alloc _ rfl ?_); refine lZ hp rfl (by with_reducible first | exact zero63 | exact zero26) ?_; clear hp; intro b w1 hp) | ((with_reducible refine pre_box _ _ rfl ?_); refine lB hp rfl (slot_tmp rfl) rfl ?_; clear hp; intro b w1 hp) | ((with_reducible refine pre_load _ _ rfl ?_); first | refine lO hp rfl (slot_tmp rfl) ceW31 aa14 ?_ | refine lA hp rfl (slot_tmp rfl) gaW30 aa14 ?_) | ((with_reducible refine pre_store _ _ _ rfl ?_); (first | refine sO hp rfl (slot_tmp rfl) ceW31 aa14 ?_ | refine sA hp rfl (slot_tmp rfl) (slot_tmp rfl) gaW30 aa14 ?_ | refine sG hp rfl (slot_tmp rfl) (slot_tmp rfl) gaW30 aa14 ?_); clear hp; intro w1 hp; simp only [spl, List.set_cons_zero, List.set_cons_succ] at hp)); simp only [put_some, put_none, List.set_cons_succ, List.set_cons_zero]))
          go_ret
          exact ⟨rfl, hp.below⟩
        · have f6 : (kk == 6) = false := by simp [g6]
          have f7 : (kk == 7) = false := by simp [g7]
          have f8 : (kk == 8) = false := by simp [g8]
          have f1 : (kk == 1) = false := by simp [g1]
          clear g6 g7 g8 g1
          go_wp2_with (first | (go_at_call 33; (with_reducible refine (doh33L od oa os oc nx t0 t1 t2 t3 fa fs fc _ _ _ _ _ _ _ _ HD2.out HSS.out _ (HIS.out.below hp.below)).mono ?_); rintro e w1 ⟨⟨odX, oaX, osX, ocX, nxX, t0X, t1X, t2X, t3X, faX, fsX, fcX⟩, RX, rfl, hyX, hkX, _, hpX⟩; have hnx := hyX.nx.symm; replace hp := hp.join hpX; have HYX := Lib.hid hyX; have HKX := Lib.hid hkX; clear hpX hyX hkX; simp only [hvL, List.cons_append, List.nil_append, List.append_assoc] at hp ⊢; simp only at hnx; subst hnx) | (go_at_call 34; (with_reducible refine (check34L od oa os oc nx t0 t1 t2 t3 fa fs fc _ HQ.out HSS.out _ (HIS.out.below hp.below)).mono ?_); rintro e w1 ⟨rfl, hb⟩; replace hp := hp.call hb; clear hb; first | rw [errI_true] | rw [errI_false]) | (go_at_call 34; (with_reducible refine (check34L odX oaX osX ocX _ t0X t1X t2X t3X faX fsX fcX true ((hright_sm HYX.out).trans HQ2.out) (HS2.out.sm HYX.out.symm) _ (HKX.out.at hp (fun p hm => by simp [hm]))).mono ?_); rintro e w1 ⟨rfl, hb⟩; replace hp := hp.call hb; clear hb; rw [errI_true]) | (go_at_call 16; (with_reducible refine (same16L odX oaX osX ocX _ t0X t1X t2X t3X faX fsX fcX od oa os oc nx t0 t1 t2 t3 fa fs fc (HS2.out.sm HYX.out.symm) (HYX.out.trans HSX.out) _ (HKX.out.at hp (fun p hm => by simp [hm])) (HIS.out.below hp.below)).mono ?_); rintro e w1 ⟨rfl, hb⟩; replace hp := hp.call hb; clear hb) | (go_at_call 35; (with_reducible refine (fresh35 _).mono ?_); rintro e w1 ⟨rfl, hb⟩; replace hp := hp.call hb; clear hb) | (go_at_call 36; (with_reducible refine (does36 _).mono ?_); rintro e w1 ⟨rfl, hb⟩; replace hp := hp.call hb; clear hb) | go_skip | ((first | ((with_reducible refine pre_alloc _ rfl ?_); refine lZ hp rfl (by with_reducible first | exact zero63 | exact zero26) ?_; clear hp; intro b w1 hp) | ((with_reducible refine pre_box _ _ rfl ?_); refine lB hp rfl (slot_tmp rfl) rfl ?_; clear hp; intro b w1 hp) | ((with_reducible refine pre_load _ _ rfl ?_); first | refine lO hp rfl (slot_tmp rfl) ceW31 aa14 ?_ | refine lA hp rfl (slot_tmp rfl) gaW30 aa14 ?_) | ((with_reducible refine pre_store _ _ _ rfl ?_); (first | refine sO hp rfl (slot_tmp rfl) ceW31 aa14 ?_ | refine sA hp rfl (slot_tmp rfl) (slot_tmp rfl) gaW30 aa14 ?_ | refine sG hp rfl (slot_tmp rfl) (slot_tmp rfl) gaW30 aa14 ?_); clear hp; intro w1 hp; simp only [spl, List.set_cons_zero, List.set_cons_succ] at hp)); simp only [put_some, put_none, List.set_cons_succ, List.set_cons_zero]))
          go_ret
          exact ⟨rfl, hp.below⟩
      · have HSX : RowKit.Hid (s.Sm ⟨od, oa, os, oc, nx, t0, t1, t2, t3, fa, fs, fc⟩) := Lib.hid (by rw [hsx]; exact Hv.Sm.refl _)
        clear hsx hk
        rcases ha with rfl | rfl | rfl
        all_goals
          go_wp2_with (first | (go_at_call 33; (with_reducible refine (doh33L od oa os oc nx t0 t1 t2 t3 fa fs fc _ _ _ _ _ _ _ _ HD2.out HSS.out _ (HIS.out.below hp.below)).mono ?_); rintro e w1 ⟨⟨odX, oaX, osX, ocX, nxX, t0X, t1X, t2X, t3X, faX, fsX, fcX⟩, RX, rfl, hyX, hkX, _, hpX⟩; have hnx := hyX.nx.symm; replace hp := hp.join hpX; have HYX := Lib.hid hyX; have HKX := Lib.hid hkX; clear hpX hyX hkX; simp only [hvL, List.cons_append, List.nil_append, List.append_assoc] at hp ⊢; simp only at hnx; subst hnx) | (go_at_call 34; (with_reducible refine (check34L od oa os oc nx t0 t1 t2 t3 fa fs fc _ HQ.out HSS.out _ (HIS.out.below hp.below)).mono ?_); rintro e w1 ⟨rfl, hb⟩; replace hp := hp.call hb; clear hb; first | rw [errI_true] | rw [errI_false]) | (go_at_call 34; (with_reducible refine (check34L odX oaX osX ocX _ t0X t1X t2X t3X faX fsX fcX true ((hright_sm HYX.out).trans HQ2.out) (HS2.out.sm HYX.out.symm) _ (HKX.out.at hp (fun p hm => by simp [hm]))).mono ?_); rintro e w1 ⟨rfl, hb⟩; replace hp := hp.call hb; clear hb; rw [errI_true]) | (go_at_call 16; (with_reducible refine (same16L odX oaX osX ocX _ t0X t1X t2X t3X faX fsX fcX od oa os oc nx t0 t1 t2 t3 fa fs fc (HS2.out.sm HYX.out.symm) (HYX.out.trans HSX.out) _ (HKX.out.at hp (fun p hm => by simp [hm])) (HIS.out.below hp.below)).mono ?_); rintro e w1 ⟨rfl, hb⟩; replace hp := hp.call hb; clear hb) | (go_at_call 35; (with_reducible refine (fresh35 _).mono ?_); rintro e w1 ⟨rfl, hb⟩; replace hp := hp.call hb; clear hb) | (go_at_call 36; (with_reducible refine (does36 _).mono ?_); rintro e w1 ⟨rfl, hb⟩; replace hp := hp.call hb; clear hb) | go_skip | ((first | ((with_reducible refine pre_alloc _ rfl ?_); refine lZ hp rfl (by with_reducible first | exact zero63 | exact zero26) ?_; clear hp; intro b w1 hp) | ((with_reducible refine pre_box _ _ rfl ?_); refine lB hp rfl (slot_tmp rfl) rfl ?_; clear hp; intro b w1 hp) | ((with_reducible refine pre_load _ _ rfl ?_); first | refine lO hp rfl (slot_tmp rfl) ceW31 aa14 ?_ | refine lA hp rfl (slot_tmp rfl) gaW30 aa14 ?_) | ((with_reducible refine pre_store _ _ _ rfl ?_); (first | refine sO hp rfl (slot_tmp rfl) ceW31 aa14 ?_ | refine sA hp rfl (slot_tmp rfl) (slot_tmp rfl) gaW30 aa14 ?_ | refine sG hp rfl (slot_tmp rfl) (slot_tmp rfl) gaW30 aa14 ?_); clear hp; intro w1 hp; simp only [spl, List.set_cons_zero, List.set_cons_succ] at hp)); simp only [put_some, put_none, List.set_cons_succ, List.set_cons_zero]))
          go_ret
          exact ⟨rfl, hp.below⟩
      · clear hk
        have hv' := hv.symm
        subst hv'
        clear hv
        try simp only at hn
        have e4 : s.nx - 1 = nx := by omega
        have e5 : s.nx = nx + 1 := hn
        obtain ⟨sod, soa, sos, soc, snx, st0, st1, st2, st3, sfa, sfs, sfc⟩ := s
        simp only at e4 e5 hn
        subst hn
        go_wp2_with (first | (go_at_call 33; (with_reducible refine (doh33L od oa os oc nx t0 t1 t2 t3 fa fs fc _ _ _ _ _ _ _ _ HD2.out HSS.out _ (HIS.out.below hp.below)).mono ?_); rintro e w1 ⟨⟨odX, oaX, osX, ocX, nxX, t0X, t1X, t2X, t3X, faX, fsX, fcX⟩, RX, rfl, hyX, hkX, _, hpX⟩; have hnx := hyX.nx.symm; replace hp := hp.join hpX; have HYX := Lib.hid hyX; have HKX := Lib.hid hkX; clear hpX hyX hkX; simp only [hvL, List.cons_append, List.nil_append, List.append_assoc] at hp ⊢; simp only at hnx; subst hnx) | (go_at_call 34; (with_reducible refine (check34L od oa os oc nx t0 t1 t2 t3 fa fs fc _ HQ.out HSS.out _ (HIS.out.below hp.below)).mono ?_); rintro e w1 ⟨rfl, hb⟩; replace hp := hp.call hb; clear hb; first | rw [errI_true] | rw [errI_false]) | (go_at_call 34; (with_reducible refine (check34L odX oaX osX ocX _ t0X t1X t2X t3X faX fsX fcX true ((hright_sm HYX.out).trans HQ2.out) (HS2.out.sm HYX.out.symm) _ (HKX.out.at hp (fun p hm => by simp [hm]))).mono ?_); rintro e w1 ⟨rfl, hb⟩; replace hp := hp.call hb; clear hb; rw [errI_true]) | (go_at_call 16; (with_reducible refine (same16L odX oaX osX ocX _ t0X t1X t2X t3X faX fsX fcX od oa os oc nx t0 t1 t2 t3 fa fs fc (HS2.out.sm HYX.out.symm) (HYX.out.trans HSX.out) _ (HKX.out.at hp (fun p hm => by simp [hm])) (HIS.out.below hp.below)).mono ?_); rintro e w1 ⟨rfl, hb⟩; replace hp := hp.call hb; clear hb) | (go_at_call 35; (with_reducible refine (fresh35 _).mono ?_); rintro e w1 ⟨rfl, hb⟩; replace hp := hp.call hb; clear hb) | (go_at_call 36; (with_reducible refine (does36 _).mono ?_); rintro e w1 ⟨rfl, hb⟩; replace hp := hp.call hb; clear hb) | go_skip | ((first | ((with_reducible refine pre_alloc _ rfl ?_); refine lZ hp rfl (by with_reducible first | exact zero63 | exact zero26) ?_; clear hp; intro b w1 hp) | ((with_reducible refine pre_box _ _ rfl ?_); refine lB hp rfl (slot_tmp rfl) rfl ?_; clear hp; intro b w1 hp) | ((with_reducible refine pre_load _ _ rfl ?_); first | refine lO hp rfl (slot_tmp rfl) ceW31 aa14 ?_ | refine lA hp rfl (slot_tmp rfl) gaW30 aa14 ?_) | ((with_reducible refine pre_store _ _ _ rfl ?_); (first | refine sO hp rfl (slot_tmp rfl) ceW31 aa14 ?_ | refine sA hp rfl (slot_tmp rfl) (slot_tmp rfl) gaW30 aa14 ?_ | refine sG hp rfl (slot_tmp rfl) (slot_tmp rfl) gaW30 aa14 ?_); clear hp; intro w1 hp; simp only [spl, List.set_cons_zero, List.set_cons_succ] at hp)); simp only [put_some, put_none, List.set_cons_succ, List.set_cons_zero]))
        go_ret
        exact ⟨rfl, hp.below⟩
      · clear hk
        try simp only at hn
        obtain ⟨sod, soa, sos, soc, snx, st0, st1, st2, st3, sfa, sfs, sfc⟩ := s
        try simp only at hn
        have hn' := hn.symm
        subst hn'
        clear hn
        have f6 : (kk == 6) = false := by simp [h6]
        have f7 : (kk == 7) = false := by simp [h7]
        have f8 : (kk == 8) = false := by simp [h8]
        have f1 : (kk == 1) = false := by simp [h1]
        clear h6 h7 h8 h1
        go_wp2_with (first | (go_at_call 33; (with_reducible refine (doh33L od oa os oc nx t0 t1 t2 t3 fa fs fc _ _ _ _ _ _ _ _ HD2.out HSS.out _ (HIS.out.below hp.below)).mono ?_); rintro e w1 ⟨⟨odX, oaX, osX, ocX, nxX, t0X, t1X, t2X, t3X, faX, fsX, fcX⟩, RX, rfl, hyX, hkX, _, hpX⟩; have hnx := hyX.nx.symm; replace hp := hp.join hpX; have HYX := Lib.hid hyX; have HKX := Lib.hid hkX; clear hpX hyX hkX; simp only [hvL, List.cons_append, List.nil_append, List.append_assoc] at hp ⊢; simp only at hnx; subst hnx) | (go_at_call 34; (with_reducible refine (check34L od oa os oc nx t0 t1 t2 t3 fa fs fc _ HQ.out HSS.out _ (HIS.out.below hp.below)).mono ?_); rintro e w1 ⟨rfl, hb⟩; replace hp := hp.call hb; clear hb; first | rw [errI_true] | rw [errI_false]) | (go_at_call 34; (with_reducible refine (check34L odX oaX osX ocX _ t0X t1X t2X t3X faX fsX fcX true ((hright_sm HYX.out).trans HQ2.out) (HS2.out.sm HYX.out.symm) _ (HKX.out.at hp (fun p hm => by simp [hm]))).mono ?_); rintro e w1 ⟨rfl, hb⟩; replace hp := hp.call hb; clear hb; rw [errI_true]) | (go_at_call 16; (with_reducible refine (same16L odX oaX osX ocX _ t0X t1X t2X t3X faX fsX fcX od oa os oc nx t0 t1 t2 t3 fa fs fc (HS2.out.sm HYX.out.symm) (HYX.out.trans HSX.out) _ (HKX.out.at hp (fun p hm => by simp [hm])) (HIS.out.below hp.below)).mono ?_); rintro e w1 ⟨rfl, hb⟩; replace hp := hp.call hb; clear hb) | (go_at_call 35; (with_reducible refine (fresh35 _).mono ?_); rintro e w1 ⟨rfl, hb⟩; replace hp := hp.call hb; clear hb) | (go_at_call 36; (with_reducible refine (does36 _).mono ?_); rintro e w1 ⟨rfl, hb⟩; replace hp := hp.call hb; clear hb) | go_skip | ((first | ((with_reducible refine pre_alloc _ rfl ?_); refine lZ hp rfl (by with_reducible first | exact zero63 | exact zero26) ?_; clear hp; intro b w1 hp) | ((with_reducible refine pre_box _ _ rfl ?_); refine lB hp rfl (slot_tmp rfl) rfl ?_; clear hp; intro b w1 hp) | ((with_reducible refine pre_load _ _ rfl ?_); first | refine lO hp rfl (slot_tmp rfl) ceW31 aa14 ?_ | refine lA hp rfl (slot_tmp rfl) gaW30 aa14 ?_) | ((with_reducible refine pre_store _ _ _ rfl ?_); (first | refine sO hp rfl (slot_tmp rfl) ceW31 aa14 ?_ | refine sA hp rfl (slot_tmp rfl) (slot_tmp rfl) gaW30 aa14 ?_ | refine sG hp rfl (slot_tmp rfl) (slot_tmp rfl) gaW30 aa14 ?_); clear hp; intro w1 hp; simp only [spl, List.set_cons_zero, List.set_cons_succ] at hp)); simp only [put_some, put_none, List.set_cons_succ, List.set_cons_zero]))
        go_ret
        exact ⟨rfl, hp.below⟩
    · go_ret
      exact ⟨rfl, hp.below⟩
end Go.Proofs.Ytbflmnoaiklnbaa
