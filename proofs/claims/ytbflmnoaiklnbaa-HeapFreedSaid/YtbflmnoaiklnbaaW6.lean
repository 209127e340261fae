/- The walk of the law HeapFreed. -/
import Derived.Test.YtbflmnoaiklnbaaW2
import Derived.Test.YtbflmnoaiklnbaaW6P
import Derived.Test.YtbflmnoaiklnbaaKPlace
set_option linter.unusedSimpArgs false
set_option linter.unusedVariables false
namespace Go.Proofs.Ytbflmnoaiklnbaa
open Go.RowKit
theorem gaW60 {ty : TypeId} {k : Nat} (h : aggB Try.prog ty k = true := by with_reducible first | exact agg26 | exact agg63 | exact agg61 | exact agg76) : aggB Try.prog ty k = true := h
theorem ceW61 {ty : TypeId} (h : cellB Try.prog ty = true := by with_reducible first | exact cell3 | exact cell4 | exact cell30 | exact cell59 | exact cell22 | exact cell74) : cellB Try.prog ty = true := h
theorem gaW62 {ty : TypeId} {k : Nat} (h : aggB Try.prog ty k = true := by with_reducible first | exact agg26 | exact agg76 | exact agg61 | exact agg63) : aggB Try.prog ty k = true := h
theorem ceW63 {ty : TypeId} (h : cellB Try.prog ty = true := by with_reducible first | exact cell3 | exact cell4 | exact cell74 | exact cell22 | exact cell30) : cellB Try.prog ty = true := h
theorem PlaceI.eq {os : List Ob} {t r : Int} (h : PlaceI os t r) {i : Nat} (hi : placeO os t = some i) : r = i := by
  obtain ⟨o, a1, a2, a3⟩ := place_some hi
  rcases h with ⟨_, h⟩ | ⟨j, q, rfl, b1, b2, b3⟩
  · exact absurd a2 (h o (List.mem_of_getElem? a1))
  · rcases Nat.lt_trichotomy j i with h | h | h
    · exact absurd b2 (a3 j q h b1)
    · rw [h]
    · exact absurd a2 (b3 i o h a1)
theorem RowIs.tops' {w : World} {b : Nat} {v0 v1 v2 v7 : Value} {t0 t1 t2 t3 : Int} (h : ∀ j v, [v0, v1, v2, .int .i64 t0, .int .i64 t1, .int .i64 t2, .int .i64 t3, v7][j]? = some v → w.cell? ⟨b, 0 + j, none⟩ = some v) :
    ∀ (m : Nat) t, [t0, t1, t2, t3][m]? = some t → w.cell? ⟨b, 3 + m, none⟩ = some (.int .i64 t) := fun m t ht => by
  have := h (3 + m) (.int .i64 t) (by
    match m, ht with
    | 0, ht => simp at ht; subst ht; rfl
    | 1, ht => simp at ht; subst ht; rfl
    | 2, ht => simp at ht; subst ht; rfl
    | 3, ht => simp at ht; subst ht; rfl)
  rw [Nat.zero_add] at this; exact this
theorem tops_ne {a b c d h : Int} (hn : a ≠ h ∧ b ≠ h ∧ c ≠ h ∧ d ≠ h) {m : Nat} {t : Int} (ht : [a, b, c, d][m]? = some t) : t ≠ h := by
  have := List.mem_of_getElem? ht
  simp only [List.mem_cons, List.not_mem_nil, or_false] at this
  omega
theorem one_row {w : World} {b o : Nat} {x : Value} (h : w.cell? ⟨b, o, none⟩ = some x) : ∀ j v, [x][j]? = some v → w.cell? ⟨b, o + j, none⟩ = some v := fun j v hj => by
  have h1 := (List.getElem?_eq_some_iff.1 hj).1
  simp only [List.length_cons, List.length_nil] at h1
  obtain rfl : j = 0 := by omega
  simp at hj; subst hj; exact h
set_option maxRecDepth 100000 in
set_option maxHeartbeats 16000000 in
theorem law9 (x : Hv) (hh : Int) (w : World) (hs : x.Is w ∧ x.nx ≤ 9223372036854775807) : Calls Try.prog 9 #[.agg (hvL x).toArray, .int .i64 hh] w fun e w' => e = .returned (.bool true) ∧ Below w.heap.size w w' := by
  have hp := Hp.start w
  have HIS := Lib.hid hs.1
  clear hs
  have hs2 := doP_small (x := x) (opX hh)
  have hfr := fun h => freed_P (x := x) (hh := hh) h
  obtain ⟨⟨s2, c2, v2⟩, hd2⟩ : ∃ r, doP x (opX hh) = r := ⟨_, rfl⟩
  rw [hd2] at hs2 hfr
  simp only at hs2 hfr
  have HS2 := Lib.hid hs2
  have HFR := Lib.hid hfr
  clear hs2 hfr
  obtain ⟨od, oa, os, oc, nx, t0, t1, t2, t3, fa, fs, fc⟩ := x
  have HD2 : RowKit.Hid (doP ⟨od, oa, os, oc, nx, t0, t1, t2, t3, fa, fs, fc⟩ ⟨2, hh, 0, 0, 0, 0, 0⟩ = (s2, c2, v2)) := Lib.hid hd2
  clear hd2
  simp only [hvL]
  go_enter Try.func9, Try.ntmps9
  go_wp2_with (first | (go_at_call 12; (with_reducible refine (big12L od oa os oc nx t0 t1 t2 t3 fa fs fc _ (HIS.out.below hp.below)).mono ?_); rintro e w1 ⟨bb, rfl, hbb, hb⟩; replace hp := hp.call hb; clear hb; cases bb) | go_skip | ((first | ((with_reducible refine pre_alloc _ rfl ?_); refine lZ hp rfl (by with_reducible first | exact zero63 | exact zero26) ?_; clear hp; intro b w1 hp) | ((with_reducible refine pre_box _ _ rfl ?_); refine lB hp rfl (slot_tmp rfl) rfl ?_; clear hp; intro b w1 hp) | ((with_reducible refine pre_load _ _ rfl ?_); first | refine lO hp rfl (slot_tmp rfl) ceW61 aa14 ?_ | refine lA hp rfl (slot_tmp rfl) gaW60 aa14 ?_) | ((with_reducible refine pre_store _ _ _ rfl ?_); (first | refine sO hp rfl (slot_tmp rfl) ceW61 aa14 ?_ | refine sA hp rfl (slot_tmp rfl) (slot_tmp rfl) gaW60 aa14 ?_ | refine sG hp rfl (slot_tmp rfl) (slot_tmp rfl) gaW60 aa14 ?_); clear hp; intro w1 hp; simp only [spl, List.set_cons_zero, List.set_cons_succ] at hp)); simp only [put_some, put_none, List.set_cons_succ, List.set_cons_zero]))
  · have HSS := Lib.hid (hbb (by first | rfl | trivial))
    clear hbb
    by_cases hc : c2 = 0
    · obtain ⟨i, g, hpl, hg, hgone, hal, hfn⟩ := HFR.out hc
      have HPL : RowKit.Hid (placeO os hh = some i) := Lib.hid hpl
      have HG : RowKit.Hid (os[i]? = some g) := Lib.hid hg
      have HGN := Lib.hid hgone
      obtain ⟨⟨c3, v3⟩, hd3⟩ : ∃ r, (doP s2 (opA g.ws.length g.ls.length)).2 = r := ⟨_, rfl⟩
      rw [hd3] at hal
      have HAL : RowKit.Hid (c3 = 0 ∨ c3 = 2) := Lib.hid hal
      have HD3 : RowKit.Hid (∀ y : Hv, y.Sm s2 → (doP y ⟨1, 0, 0, g.ws.length, g.ls.length, 0, 0⟩).2 = (c3, v3)) := Lib.hid (fun y hy => (doP_sm hy (opA g.ws.length g.ls.length)).1.trans hd3)
      have HD4 : RowKit.Hid (∀ y : Hv, y.Sm s2 → (doP y ⟨2, hh, 0, 0, 0, 0, 0⟩).2 = (51, 0)) := Lib.hid (fun y hy => (doP_sm hy (opX hh)).1.trans hfn)
      have HOL : RowKit.Hid (os.length ≤ 1000) := Lib.hid (by have := HSS.out.1.1; simp only at this; omega)
      have HOI : RowKit.Hid (RowIs w oa (os.flatMap obV)) := Lib.hid HIS.out.1
      have hlt : i < os.length := (List.getElem?_eq_some_iff.1 hg).1
      have e1 : decide ((i : Int) < 0) = false := decide_eq_false (by omega)
      clear hpl hg hgone hal hfn hd3 HFR
      subst hc
      go_wp2_with (first | (go_at_call 33; (with_reducible refine (doh33L od oa os oc nx t0 t1 t2 t3 fa fs fc _ _ _ _ _ _ _ _ HD2.out HSS.out _ (HIS.out.below hp.below)).mono ?_); rintro e w1 ⟨⟨odX, oaX, osX, ocX, nxX, t0X, t1X, t2X, t3X, faX, fsX, fcX⟩, RX, rfl, hyX, hkX, _, hpX⟩; replace hp := hp.join hpX; have HYX := Lib.hid hyX; have HKX := Lib.hid hkX; clear hpX hyX hkX; simp only [hvL, List.cons_append, List.nil_append, List.append_assoc] at hp ⊢) | (go_at_call 40; (with_reducible refine (place40 od oa os oc nx t0 t1 t2 t3 fa fs.length fc HOL.out hh _ (HOI.out.below hp.below)).mono ?_); rintro e w1 ⟨pr, rfl, hpr, hb⟩; replace hp := hp.call hb; obtain rfl := hpr.eq HPL.out; clear hb hpr) | go_skip | ((first | ((with_reducible refine pre_alloc _ rfl ?_); refine lZ hp rfl (by with_reducible first | exact zero63 | exact zero26) ?_; clear hp; intro b w1 hp) | ((with_reducible refine pre_box _ _ rfl ?_); refine lB hp rfl (slot_tmp rfl) rfl ?_; clear hp; intro b w1 hp) | ((with_reducible refine pre_load _ _ rfl ?_); first | refine lO hp rfl (slot_tmp rfl) ceW61 aa14 ?_ | refine lA hp rfl (slot_tmp rfl) gaW60 aa14 ?_) | ((with_reducible refine pre_store _ _ _ rfl ?_); (first | refine sO hp rfl (slot_tmp rfl) ceW61 aa14 ?_ | refine sA hp rfl (slot_tmp rfl) (slot_tmp rfl) gaW60 aa14 ?_ | refine sG hp rfl (slot_tmp rfl) (slot_tmp rfl) gaW60 aa14 ?_); clear hp; intro w1 hp; simp only [spl, List.set_cons_zero, List.set_cons_succ] at hp)); simp only [put_some, put_none, List.set_cons_succ, List.set_cons_zero]))
      have HXI0 := HKX.out.at hp (fun p hm => by simp [hm])
      have HXI := Lib.hid HXI0
      have HOX : RowKit.Hid (RowIs w1 oaX (osX.flatMap obV)) := Lib.hid HXI0.1
      have HOOX : RowKit.Hid (∀ o ∈ osX, o.Is w1) := Lib.hid HXI0.2.1
      have HIN : RowKit.Hid (RowIs w1 oa (os.flatMap obV)) := Lib.hid (HOI.out.below hp.below)
      clear HXI0
      obtain ⟨bR, rfl⟩ := hp.id0
      obtain ⟨bX, rfl⟩ := hp.id1
      obtain ⟨bH, rfl⟩ := hp.id2
      have hrx := RowIs.fix0 (hp.rowIs at1)
      have hrh := RowIs.fix0 (hp.rowIs at2)
      have HTP := Lib.hid (RowIs.tops' hrx)
      have HRX := Lib.hid hrx
      have HRH := Lib.hid hrh
      have HBW := Lib.hid hp.below
      have HGX := Lib.hid (HGN.out.sm HYX.out)
      clear hrx hrh HGN
      have hsx := HS2.out.sm HYX.out.symm
      have hol : osX.length ≤ 600 := hsx.1.1
      have HOS : RowKit.Hid (∀ o ∈ osX, o.ws.length ≤ 5000 ∧ o.ls.length ≤ 5000) := Lib.hid hsx.1.2
      clear hsx
      replace hp := Hp.start w1
      go_wp2_with (first | go_skip | ((first | ((with_reducible refine pre_alloc _ rfl ?_); refine lZ hp rfl (by with_reducible first | exact zero63 | exact zero26) ?_; clear hp; intro b w1 hp) | ((with_reducible refine pre_box _ _ rfl ?_); refine lB hp rfl (slot_tmp rfl) rfl ?_; clear hp; intro b w1 hp) | ((with_reducible refine pre_load _ _ rfl ?_); first | refine lO hp rfl (slot_tmp rfl) ceW63 aa5 ?_ | refine lRO hp rfl (slot_tmp rfl) ceW63 (by first | exact HX.out 0 _ rfl | exact HX.out 1 _ rfl | exact HX.out 2 _ rfl | exact HX.out 3 _ rfl | exact HX.out 4 _ rfl | exact HX.out 5 _ rfl | exact HX.out 6 _ rfl | exact HX.out 7 _ rfl) ?_ | refine lRO hp rfl (slot_tmp rfl) ceW63 (by first | exact HRX.out 0 _ rfl | exact HRX.out 1 _ rfl | exact HRX.out 2 _ rfl | exact HRX.out 3 _ rfl | exact HRX.out 4 _ rfl | exact HRX.out 5 _ rfl | exact HRX.out 6 _ rfl | exact HRX.out 7 _ rfl) ?_ | refine lA hp rfl (slot_tmp rfl) gaW62 aa5 ?_ | refine lR hp rfl (slot_tmp rfl) gaW62 HX.out ?_ | refine lR hp rfl (slot_tmp rfl) gaW62 HRX.out ?_) | ((with_reducible refine pre_store _ _ _ rfl ?_); (first | refine sO hp rfl (slot_tmp rfl) ceW63 aa5 ?_ | refine sA hp rfl (slot_tmp rfl) (slot_tmp rfl) gaW62 aa5 ?_ | refine sG hp rfl (slot_tmp rfl) (slot_tmp rfl) gaW62 aa5 ?_); clear hp; intro w1 hp; simp only [spl, List.set_cons_zero, List.set_cons_succ] at hp)); simp only [put_some, put_none, List.set_cons_succ, List.set_cons_zero]))
      go_loopg [8] osX.length (fun k i wr => ∃ j : Nat, k + j = osX.length ∧ i = .int .i64 j ∧ Hp w1.heap.size w1 wr [])
      case atStart => exact ⟨0, by omega, rfl, hp⟩
      case round =>
        clear hp
        obtain ⟨j, hkj, rfl, hp⟩ := hrel
        by_cases hlj : j < osX.length
        · obtain ⟨bq, off, rfl, hx⟩ := HOX.out.elems 5 obV_len (by omega) (by omega)
          have hj := List.getElem?_eq_getElem hlj
          replace hx := hx j _ hj
          have hmem := List.getElem_mem hlj
          obtain ⟨_, hl2⟩ := HOOX.out _ hmem
          obtain ⟨hne, hnl⟩ := HGX.out.gone _ hmem
          have hll := (HOS.out _ hmem).2
          clear hj hmem
          generalize osX[j] = x at hx hl2 hne hnl hll
          obtain ⟨xh, xp, xo, wa, ws, wc, ya, ls, yc⟩ := x
          simp only [obV] at hx hl2 hne hnl hll
          have HX := Lib.hid hx
          have HLK := Lib.hid hl2
          have HNL := Lib.hid hnl
          have e3 : (xh == hh) = false := by simpa using hne
          have f1 : (0 : Int) ≤ (j : Int) := by omega
          have f2 : (j : Int) < (osX.length : Int) := by omega
          clear hx hl2 hnl hne
          go_wp2_with (first | go_skip | ((first | ((with_reducible refine pre_alloc _ rfl ?_); refine lZ hp rfl (by with_reducible first | exact zero63 | exact zero26) ?_; clear hp; intro b w1 hp) | ((with_reducible refine pre_box _ _ rfl ?_); refine lB hp rfl (slot_tmp rfl) rfl ?_; clear hp; intro b w1 hp) | ((with_reducible refine pre_load _ _ rfl ?_); first | refine lO hp rfl (slot_tmp rfl) ceW63 aa5 ?_ | refine lRO hp rfl (slot_tmp rfl) ceW63 (by first | exact HX.out 0 _ rfl | exact HX.out 1 _ rfl | exact HX.out 2 _ rfl | exact HX.out 3 _ rfl | exact HX.out 4 _ rfl | exact HX.out 5 _ rfl | exact HX.out 6 _ rfl | exact HX.out 7 _ rfl) ?_ | refine lRO hp rfl (slot_tmp rfl) ceW63 (by first | exact HRX.out 0 _ rfl | exact HRX.out 1 _ rfl | exact HRX.out 2 _ rfl | exact HRX.out 3 _ rfl | exact HRX.out 4 _ rfl | exact HRX.out 5 _ rfl | exact HRX.out 6 _ rfl | exact HRX.out 7 _ rfl) ?_ | refine lA hp rfl (slot_tmp rfl) gaW62 aa5 ?_ | refine lR hp rfl (slot_tmp rfl) gaW62 HX.out ?_ | refine lR hp rfl (slot_tmp rfl) gaW62 HRX.out ?_) | ((with_reducible refine pre_store _ _ _ rfl ?_); (first | refine sO hp rfl (slot_tmp rfl) ceW63 aa5 ?_ | refine sA hp rfl (slot_tmp rfl) (slot_tmp rfl) gaW62 aa5 ?_ | refine sG hp rfl (slot_tmp rfl) (slot_tmp rfl) gaW62 aa5 ?_); clear hp; intro w1 hp; simp only [spl, List.set_cons_zero, List.set_cons_succ] at hp)); simp only [put_some, put_none, List.set_cons_succ, List.set_cons_zero]))
          go_loopg [9] ls.length (fun k i wr => ∃ m : Nat, k + m = ls.length ∧ i = .int .i64 m ∧ Hp w1.heap.size w1 wr [])
          case atStart => exact ⟨0, by omega, rfl, hp⟩
          case round =>
            clear hp
            obtain ⟨m, hkm, rfl, hp⟩ := hrel
            by_cases hlm : m < ls.length
            · obtain ⟨bl, lof, rfl, hl⟩ := HLK.out.elems 1 iV_len (by omega) (by omega)
              have hm := List.getElem?_eq_getElem hlm
              replace hl := hl m _ hm
              have hnt := HNL.out _ (List.getElem_mem hlm)
              clear hm
              generalize ls[m] = t at hl hnt
              simp only [iV, Nat.mul_one] at hl
              have HT := Lib.hid hl
              have e5 : (t == hh) = false := by simpa using hnt
              clear hl hnt
              have f3 : (0 : Int) ≤ (m : Int) := by omega
              have f4 : (m : Int) < (ls.length : Int) := by omega
              go_wp2_with (first | go_skip | ((first | ((with_reducible refine pre_alloc _ rfl ?_); refine lZ hp rfl (by with_reducible first | exact zero63 | exact zero26) ?_; clear hp; intro b w1 hp) | ((with_reducible refine pre_box _ _ rfl ?_); refine lB hp rfl (slot_tmp rfl) rfl ?_; clear hp; intro b w1 hp) | ((with_reducible refine pre_load _ _ rfl ?_); first | refine lO hp rfl (slot_tmp rfl) ceW63 aa5 ?_ | first | refine lRO hp rfl (slot_tmp rfl) ceW63 (HT.out 0 _ rfl) ?_ | refine lA hp rfl (slot_tmp rfl) (by with_reducible first | exact agg26 | exact agg76) aa5 ?_ | refine lR hp rfl (slot_tmp rfl) (by with_reducible first | exact agg26 | exact agg76) HT.out ?_) | ((with_reducible refine pre_store _ _ _ rfl ?_); (first | refine sO hp rfl (slot_tmp rfl) ceW63 aa5 ?_ | refine sA hp rfl (slot_tmp rfl) (slot_tmp rfl) (by with_reducible first | exact agg26 | exact agg76) aa5 ?_ | refine sG hp rfl (slot_tmp rfl) (slot_tmp rfl) (by with_reducible first | exact agg26 | exact agg76) aa5 ?_); clear hp; intro w1 hp; simp only [spl, List.set_cons_zero, List.set_cons_succ] at hp)); simp only [put_some, put_none, List.set_cons_succ, List.set_cons_zero]) | go_skip | ((first | ((with_reducible refine pre_alloc _ rfl ?_); refine lZ hp rfl (by with_reducible first | exact zero63 | exact zero26) ?_; clear hp; intro b w1 hp) | ((with_reducible refine pre_box _ _ rfl ?_); refine lB hp rfl (slot_tmp rfl) rfl ?_; clear hp; intro b w1 hp) | ((with_reducible refine pre_load _ _ rfl ?_); first | refine lO hp rfl (slot_tmp rfl) ceW63 aa5 ?_ | refine lRO hp rfl (slot_tmp rfl) ceW63 (by first | exact HX.out 0 _ rfl | exact HX.out 1 _ rfl | exact HX.out 2 _ rfl | exact HX.out 3 _ rfl | exact HX.out 4 _ rfl | exact HX.out 5 _ rfl | exact HX.out 6 _ rfl | exact HX.out 7 _ rfl) ?_ | refine lRO hp rfl (slot_tmp rfl) ceW63 (by first | exact HRX.out 0 _ rfl | exact HRX.out 1 _ rfl | exact HRX.out 2 _ rfl | exact HRX.out 3 _ rfl | exact HRX.out 4 _ rfl | exact HRX.out 5 _ rfl | exact HRX.out 6 _ rfl | exact HRX.out 7 _ rfl) ?_ | refine lA hp rfl (slot_tmp rfl) gaW62 aa5 ?_ | refine lR hp rfl (slot_tmp rfl) gaW62 HX.out ?_ | refine lR hp rfl (slot_tmp rfl) gaW62 HRX.out ?_) | ((with_reducible refine pre_store _ _ _ rfl ?_); (first | refine sO hp rfl (slot_tmp rfl) ceW63 aa5 ?_ | refine sA hp rfl (slot_tmp rfl) (slot_tmp rfl) gaW62 aa5 ?_ | refine sG hp rfl (slot_tmp rfl) (slot_tmp rfl) gaW62 aa5 ?_); clear hp; intro w1 hp; simp only [spl, List.set_cons_zero, List.set_cons_succ] at hp)); simp only [put_some, put_none, List.set_cons_succ, List.set_cons_zero]))
              go_roundg (gk - 1)
              case measure => omega
              case rel => exact ⟨m + 1, by omega, by go_num, hp⟩
            · have f4 : decide ((m : Int) < (ls.length : Int)) = false := by simp; omega
              go_wp2_with (first | go_skip | ((first | ((with_reducible refine pre_alloc _ rfl ?_); refine lZ hp rfl (by with_reducible first | exact zero63 | exact zero26) ?_; clear hp; intro b w1 hp) | ((with_reducible refine pre_box _ _ rfl ?_); refine lB hp rfl (slot_tmp rfl) rfl ?_; clear hp; intro b w1 hp) | ((with_reducible refine pre_load _ _ rfl ?_); first | refine lO hp rfl (slot_tmp rfl) ceW63 aa5 ?_ | refine lRO hp rfl (slot_tmp rfl) ceW63 (by first | exact HX.out 0 _ rfl | exact HX.out 1 _ rfl | exact HX.out 2 _ rfl | exact HX.out 3 _ rfl | exact HX.out 4 _ rfl | exact HX.out 5 _ rfl | exact HX.out 6 _ rfl | exact HX.out 7 _ rfl) ?_ | refine lRO hp rfl (slot_tmp rfl) ceW63 (by first | exact HRX.out 0 _ rfl | exact HRX.out 1 _ rfl | exact HRX.out 2 _ rfl | exact HRX.out 3 _ rfl | exact HRX.out 4 _ rfl | exact HRX.out 5 _ rfl | exact HRX.out 6 _ rfl | exact HRX.out 7 _ rfl) ?_ | refine lA hp rfl (slot_tmp rfl) gaW62 aa5 ?_ | refine lR hp rfl (slot_tmp rfl) gaW62 HX.out ?_ | refine lR hp rfl (slot_tmp rfl) gaW62 HRX.out ?_) | ((with_reducible refine pre_store _ _ _ rfl ?_); (first | refine sO hp rfl (slot_tmp rfl) ceW63 aa5 ?_ | refine sA hp rfl (slot_tmp rfl) (slot_tmp rfl) gaW62 aa5 ?_ | refine sG hp rfl (slot_tmp rfl) (slot_tmp rfl) gaW62 aa5 ?_); clear hp; intro w1 hp; simp only [spl, List.set_cons_zero, List.set_cons_succ] at hp)); simp only [put_some, put_none, List.set_cons_succ, List.set_cons_zero]))
              go_roundg (osX.length - (j + 1))
              case measure => omega
              case rel => exact ⟨j + 1, by omega, by go_num, hp⟩
        · have f2 : decide ((j : Int) < (osX.length : Int)) = false := by simp; omega
          skip
          go_wp2_with (first | go_skip | ((first | ((with_reducible refine pre_alloc _ rfl ?_); refine lZ hp rfl (by with_reducible first | exact zero63 | exact zero26) ?_; clear hp; intro b w1 hp) | ((with_reducible refine pre_box _ _ rfl ?_); refine lB hp rfl (slot_tmp rfl) rfl ?_; clear hp; intro b w1 hp) | ((with_reducible refine pre_load _ _ rfl ?_); first | refine lO hp rfl (slot_tmp rfl) ceW63 aa5 ?_ | refine lRO hp rfl (slot_tmp rfl) ceW63 (by first | exact HRX.out 0 _ rfl | exact HRX.out 1 _ rfl | exact HRX.out 2 _ rfl | exact HRX.out 3 _ rfl | exact HRX.out 4 _ rfl | exact HRX.out 5 _ rfl | exact HRX.out 6 _ rfl | exact HRX.out 7 _ rfl) ?_ | refine lA hp rfl (slot_tmp rfl) (by with_reducible first | exact agg26 | exact agg76) aa5 ?_ | refine lR hp rfl (slot_tmp rfl) (by with_reducible first | exact agg26 | exact agg76) HRX.out ?_) | ((with_reducible refine pre_store _ _ _ rfl ?_); (first | refine sO hp rfl (slot_tmp rfl) ceW63 aa5 ?_ | refine sA hp rfl (slot_tmp rfl) (slot_tmp rfl) (by with_reducible first | exact agg26 | exact agg76) aa5 ?_ | refine sG hp rfl (slot_tmp rfl) (slot_tmp rfl) (by with_reducible first | exact agg26 | exact agg76) aa5 ?_); clear hp; intro w1 hp; simp only [spl, List.set_cons_zero, List.set_cons_succ] at hp)); simp only [put_some, put_none, List.set_cons_succ, List.set_cons_zero]))
          go_loopg [10] 4 (fun k i wr => ∃ m : Nat, k + m = 4 ∧ i = .int .i64 m ∧ Hp w1.heap.size w1 wr [])
          case atStart => exact ⟨0, by omega, rfl, hp⟩
          case round =>
            clear hp
            obtain ⟨m, hkm, rfl, hp⟩ := hrel
            by_cases hlm : m < 4
            · obtain ⟨t, ht⟩ : ∃ t, [t0X, t1X, t2X, t3X][m]? = some t := ⟨_, List.getElem?_eq_getElem (by simpa using hlm)⟩
              have hnt := tops_ne HGX.out.tops ht
              have HTT : RowKit.Hid (∀ j v, [Value.int .i64 t][j]? = some v → w1.cell? ⟨bX, 3 + m + j, none⟩ = some v) := Lib.hid (one_row (HTP.out m t ht))
              have e5 : (t == hh) = false := by simpa using hnt
              clear ht hnt
              have f3 : (0 : Int) ≤ (m : Int) := by omega
              have f4 : (m : Int) < 4 := by omega
              go_wp2_with (first | go_skip | ((first | ((with_reducible refine pre_box _ _ rfl ?_); refine lB hp rfl (slot_tmp rfl) rfl ?_; clear hp; intro b w1 hp) | ((with_reducible refine pre_load _ _ rfl ?_); first | refine lO hp rfl (slot_tmp rfl) (by with_reducible first | exact cell3 | exact cell4) aa5 ?_ | first | refine lRO hp rfl (slot_tmp rfl) (by with_reducible first | exact cell3 | exact cell4) (HTT.out 0 _ rfl) ?_ | refine lA hp rfl (slot_tmp rfl) (by with_reducible first | exact agg26 | exact agg76) aa5 ?_ | refine lR hp rfl (slot_tmp rfl) (by with_reducible first | exact agg26 | exact agg76) HTT.out ?_) | ((with_reducible refine pre_store _ _ _ rfl ?_); (first | refine sO hp rfl (slot_tmp rfl) (by with_reducible first | exact cell3 | exact cell4) aa5 ?_ | refine sA hp rfl (slot_tmp rfl) (slot_tmp rfl) (by with_reducible first | exact agg26 | exact agg76) aa5 ?_ | refine sG hp rfl (slot_tmp rfl) (slot_tmp rfl) (by with_reducible first | exact agg26 | exact agg76) aa5 ?_); clear hp; intro w1 hp; simp only [spl, List.set_cons_zero, List.set_cons_succ] at hp)); simp only [put_some, put_none, List.set_cons_succ, List.set_cons_zero]))
              go_roundg (gk - 1)
              case measure => omega
              case rel => exact ⟨m + 1, by omega, by go_num, hp⟩
            · have f4 : decide ((m : Int) < 4) = false := by simp; omega
              obtain ⟨bq, off, rfl, hx⟩ := HIN.out.elems 5 obV_len (by omega) (by omega)
              replace hx := hx i _ HG.out
              obtain ⟨gh, gp, go, gwa, gws, gwc, gla, gls, glc⟩ := g
              simp only [obV] at hx HD3
              have HX := Lib.hid hx
              have f5 : (0 : Int) ≤ (i : Int) := by omega
              have f6 : (i : Int) < (os.length : Int) := by omega
              clear hx
              go_wp2_with (first | go_skip | ((first | ((with_reducible refine pre_alloc _ rfl ?_); refine lZ hp rfl (by with_reducible first | exact zero63 | exact zero26) ?_; clear hp; intro b w1 hp) | ((with_reducible refine pre_box _ _ rfl ?_); refine lB hp rfl (slot_tmp rfl) rfl ?_; clear hp; intro b w1 hp) | ((with_reducible refine pre_load _ _ rfl ?_); first | refine lO hp rfl (slot_tmp rfl) ceW63 aa5 ?_ | refine lRO hp rfl (slot_tmp rfl) ceW63 (by first | exact HX.out 0 _ rfl | exact HX.out 1 _ rfl | exact HX.out 2 _ rfl | exact HX.out 3 _ rfl | exact HX.out 4 _ rfl | exact HX.out 5 _ rfl | exact HX.out 6 _ rfl | exact HX.out 7 _ rfl) ?_ | refine lRO hp rfl (slot_tmp rfl) ceW63 (by first | exact HRX.out 0 _ rfl | exact HRX.out 1 _ rfl | exact HRX.out 2 _ rfl | exact HRX.out 3 _ rfl | exact HRX.out 4 _ rfl | exact HRX.out 5 _ rfl | exact HRX.out 6 _ rfl | exact HRX.out 7 _ rfl) ?_ | refine lA hp rfl (slot_tmp rfl) gaW62 aa5 ?_ | refine lR hp rfl (slot_tmp rfl) gaW62 HX.out ?_ | refine lR hp rfl (slot_tmp rfl) gaW62 HRX.out ?_) | ((with_reducible refine pre_store _ _ _ rfl ?_); (first | refine sO hp rfl (slot_tmp rfl) ceW63 aa5 ?_ | refine sA hp rfl (slot_tmp rfl) (slot_tmp rfl) gaW62 aa5 ?_ | refine sG hp rfl (slot_tmp rfl) (slot_tmp rfl) gaW62 aa5 ?_); clear hp; intro w1 hp; simp only [spl, List.set_cons_zero, List.set_cons_succ] at hp)); simp only [put_some, put_none, List.set_cons_succ, List.set_cons_zero]))
              refine wp_region_keepsT [] (Keeps.zero hp.drew) [] (.take 0 (.take 1 (.take 2 (.take 3 (.take 4 (.take 5 (.take 6 (.take 7 (.take 8 (.take 9 (.take 10 (.take 11 (.take 12 (.take 13 (.take 14 (.three 15 (.three 16 (.take 17 (.take 18 (.take 19 (.two 20 (.one 21 (.one 22 (.one 23 .nil))) 21 (.one 20 (.one 22 (.one 23 .nil))))))) 20 (.two 16 (.take 17 (.take 18 (.take 19 (.one 21 (.one 22 (.one 23 .nil)))))) 21 (.one 16 (.take 17 (.take 18 (.take 19 (.one 22 (.one 23 .nil))))))) 21 (.two 16 (.take 17 (.take 18 (.take 19 (.one 20 (.one 22 (.one 23 .nil)))))) 20 (.one 16 (.take 17 (.take 18 (.take 19 (.one 22 (.one 23 .nil)))))))) 20 (.two 15 (.two 16 (.take 17 (.take 18 (.take 19 (.one 21 (.one 22 (.one 23 .nil)))))) 21 (.one 16 (.take 17 (.take 18 (.take 19 (.one 22 (.one 23 .nil))))))) 21 (.one 15 (.one 16 (.take 17 (.take 18 (.take 19 (.one 22 (.one 23 .nil)))))))) 21 (.two 15 (.two 16 (.take 17 (.take 18 (.take 19 (.one 20 (.one 22 (.one 23 .nil)))))) 20 (.one 16 (.take 17 (.take 18 (.take 19 (.one 22 (.one 23 .nil))))))) 20 (.one 15 (.one 16 (.take 17 (.take 18 (.take 19 (.one 22 (.one 23 .nil)))))))))))))))))))))))) (by kernel_rfl) (by kernel_rfl) (by kernel_rfl) (by kernel_rfl) (fun _ _ d _ _ h => by cases d <;> exact h) ?_
              replace hp := hp.drew
              repeat' (with_reducible refine tree_is ?_); first | (with_reducible refine tree_nil ?_) | ((with_reducible refine tree_take ?_); refine plan_tk rfl ?_; (first | ((with_reducible refine tk_mv _ rfl ?_); refine tM rfl ?_) | ((with_reducible refine tk_ld _ _ rfl ?_); first | refine tA rfl (slot_tmp rfl) agg26 aa5 ?_ | refine tO rfl (slot_tmp rfl) (by with_reducible first | exact cell22 | exact cell74) aa5 ?_ | refine tR rfl (slot_tmp rfl) agg26 HRX.out ?_ | refine tRO rfl (slot_tmp rfl) (by with_reducible first | exact cell22 | exact cell74) (HRX.out 0 _ rfl) ?_ | refine tRO rfl (slot_tmp rfl) (by with_reducible first | exact cell22 | exact cell74) (HRX.out 1 _ rfl) ?_ | refine tRO rfl (slot_tmp rfl) (by with_reducible first | exact cell22 | exact cell74) (HRX.out 2 _ rfl) ?_ | refine tRO rfl (slot_tmp rfl) (by with_reducible first | exact cell22 | exact cell74) (HRX.out 3 _ rfl) ?_ | refine tRO rfl (slot_tmp rfl) (by with_reducible first | exact cell22 | exact cell74) (HRX.out 4 _ rfl) ?_ | refine tRO rfl (slot_tmp rfl) (by with_reducible first | exact cell22 | exact cell74) (HRX.out 5 _ rfl) ?_ | refine tRO rfl (slot_tmp rfl) (by with_reducible first | exact cell22 | exact cell74) (HRX.out 6 _ rfl) ?_ | refine tRO rfl (slot_tmp rfl) (by with_reducible first | exact cell22 | exact cell74) (HRX.out 7 _ rfl) ?_ | refine tR rfl (slot_tmp rfl) agg26 HRH.out ?_ | refine tRO rfl (slot_tmp rfl) (by with_reducible first | exact cell22 | exact cell74) (HRH.out 0 _ rfl) ?_ | refine tRO rfl (slot_tmp rfl) (by with_reducible first | exact cell22 | exact cell74) (HRH.out 1 _ rfl) ?_ | refine tRO rfl (slot_tmp rfl) (by with_reducible first | exact cell22 | exact cell74) (HRH.out 2 _ rfl) ?_ | refine tRO rfl (slot_tmp rfl) (by with_reducible first | exact cell22 | exact cell74) (HRH.out 3 _ rfl) ?_ | refine tRO rfl (slot_tmp rfl) (by with_reducible first | exact cell22 | exact cell74) (HRH.out 4 _ rfl) ?_ | refine tRO rfl (slot_tmp rfl) (by with_reducible first | exact cell22 | exact cell74) (HRH.out 5 _ rfl) ?_ | refine tRO rfl (slot_tmp rfl) (by with_reducible first | exact cell22 | exact cell74) (HRH.out 6 _ rfl) ?_ | refine tRO rfl (slot_tmp rfl) (by with_reducible first | exact cell22 | exact cell74) (HRH.out 7 _ rfl) ?_ | refine tR rfl (slot_tmp rfl) agg26 HX.out ?_ | refine tRO rfl (slot_tmp rfl) (by with_reducible first | exact cell22 | exact cell74) (HX.out 0 _ rfl) ?_ | refine tRO rfl (slot_tmp rfl) (by with_reducible first | exact cell22 | exact cell74) (HX.out 1 _ rfl) ?_ | refine tRO rfl (slot_tmp rfl) (by with_reducible first | exact cell22 | exact cell74) (HX.out 2 _ rfl) ?_ | refine tRO rfl (slot_tmp rfl) (by with_reducible first | exact cell22 | exact cell74) (HX.out 3 _ rfl) ?_ | refine tRO rfl (slot_tmp rfl) (by with_reducible first | exact cell22 | exact cell74) (HX.out 4 _ rfl) ?_ | refine tRO rfl (slot_tmp rfl) (by with_reducible first | exact cell22 | exact cell74) (HX.out 5 _ rfl) ?_ | refine tRO rfl (slot_tmp rfl) (by with_reducible first | exact cell22 | exact cell74) (HX.out 6 _ rfl) ?_ | refine tRO rfl (slot_tmp rfl) (by with_reducible first | exact cell22 | exact cell74) (HX.out 7 _ rfl) ?_) | refine tG (fun w _ => (by go_simp; try rfl)) ?_); refine tree_on ?_; try simp only [put_some, put_none, eval_tmp, eval_const, List.set_cons_succ, List.set_cons_zero, List.getD_cons_succ, List.getD_cons_zero, wrap_eq]) | ((first | refine tree_one (doT_of rfl (fun K hK => ?_)) | refine tree_two (doT_of rfl (fun K hK => ?_)) (doT_of rfl (fun K hK => ?_)) | refine tree_three (doT_of rfl (fun K hK => ?_)) (doT_of rfl (fun K hK => ?_)) (doT_of rfl (fun K hK => ?_))) <;> (go_wp2_with (first | (go_at_call 37; (with_reducible refine (alloc37 _ _ _).mono ?_); rintro e w1 ⟨rfl, hb⟩; replace hp := hp.call hb; clear hb) | (go_at_call 33; (with_reducible refine (doh33V odX oaX osX ocX nxX t0X t1X t2X t3X faX fsX fcX _ _ _ _ _ _ _ _ _ (HD3.out _ HYX.out) (HS2.out.sm HYX.out.symm) _ (HXI.out.below hp.below)).mono ?_); rintro e w1 ⟨⟨odA, oaA, osA, ocA, nxA, t0A, t1A, t2A, t3A, faA, fsA, fcA⟩, RA, rfl, hpA⟩; replace hp := hp.join hpA; clear hpA; simp only [hvL, List.cons_append, List.nil_append, List.append_assoc] at hp ⊢) | ((with_reducible refine pre_alloc 26 rfl ?_); refine lZ hp rfl zero26 ?_; clear hp; intro bh w1 hp; simp only [put_some, put_none, List.set_cons_succ, List.set_cons_zero]) | ((with_reducible refine pre_alloc 63 rfl ?_); refine lZ hp rfl zero63 ?_; clear hp; intro br w1 hp; simp only [put_some, put_none, List.set_cons_succ, List.set_cons_zero]) | go_skip | ((first | ((with_reducible refine pre_alloc _ rfl ?_); refine lZ hp rfl (by with_reducible first | exact zero63 | exact zero26) ?_; clear hp; intro b w1 hp) | ((with_reducible refine pre_store _ _ _ rfl ?_); (first | refine sO hp rfl (slot_tmp rfl) ceW61 aa14 ?_ | refine sA hp rfl (slot_tmp rfl) (slot_tmp rfl) gaW60 aa14 ?_ | refine sG hp rfl (slot_tmp rfl) (slot_tmp rfl) gaW60 aa14 ?_); clear hp; intro w1 hp; simp only [spl, List.set_cons_zero, List.set_cons_succ] at hp)); simp only [put_some, put_none, List.set_cons_succ, List.set_cons_zero])); (refine hK.out _ _ (.inr (Keeps.zero hp)) ?_); clear hK K; try simp only [put_some, put_none, eval_tmp, eval_const, List.set_cons_succ, List.set_cons_zero, List.getD_cons_succ, List.getD_cons_zero, wrap_eq]))
              all_goals
                replace hp := hp.kp (L' := ⟨br, [.int .i64 c3, .int .i64 v3], 63, 2⟩ :: [])
                rcases HAL.out with rfl | rfl
                all_goals
                  go_wp2_with (first | (go_at_call 33; (with_reducible refine (doh33V odX oaX osX ocX nxX t0X t1X t2X t3X faX fsX fcX _ _ _ _ _ _ _ _ _ (HD4.out _ HYX.out) (HS2.out.sm HYX.out.symm) _ (HXI.out.below hp.below)).mono ?_); rintro e w1 ⟨⟨odA, oaA, osA, ocA, nxA, t0A, t1A, t2A, t3A, faA, fsA, fcA⟩, RA, rfl, hpA⟩; replace hp := hp.join hpA; clear hpA; simp only [hvL, List.cons_append, List.nil_append, List.append_assoc] at hp ⊢) | (go_at_call 35; (with_reducible refine (fresh35 _).mono ?_); rintro e w1 ⟨rfl, hb⟩; replace hp := hp.call hb; clear hb) | (go_at_call 36; (with_reducible refine (does36 _).mono ?_); rintro e w1 ⟨rfl, hb⟩; replace hp := hp.call hb; clear hb) | go_skip | ((first | ((with_reducible refine pre_alloc _ rfl ?_); refine lZ hp rfl (by with_reducible first | exact zero63 | exact zero26) ?_; clear hp; intro b w1 hp) | ((with_reducible refine pre_box _ _ rfl ?_); refine lB hp rfl (slot_tmp rfl) rfl ?_; clear hp; intro b w1 hp) | ((with_reducible refine pre_load _ _ rfl ?_); first | refine lO hp rfl (slot_tmp rfl) ceW63 aa5 ?_ | refine lRO hp rfl (slot_tmp rfl) ceW63 (by first | exact HX.out 0 _ rfl | exact HX.out 1 _ rfl | exact HX.out 2 _ rfl | exact HX.out 3 _ rfl | exact HX.out 4 _ rfl | exact HX.out 5 _ rfl | exact HX.out 6 _ rfl | exact HX.out 7 _ rfl) ?_ | refine lRO hp rfl (slot_tmp rfl) ceW63 (by first | exact HRX.out 0 _ rfl | exact HRX.out 1 _ rfl | exact HRX.out 2 _ rfl | exact HRX.out 3 _ rfl | exact HRX.out 4 _ rfl | exact HRX.out 5 _ rfl | exact HRX.out 6 _ rfl | exact HRX.out 7 _ rfl) ?_ | refine lA hp rfl (slot_tmp rfl) gaW62 aa5 ?_ | refine lR hp rfl (slot_tmp rfl) gaW62 HX.out ?_ | refine lR hp rfl (slot_tmp rfl) gaW62 HRX.out ?_) | ((with_reducible refine pre_store _ _ _ rfl ?_); (first | refine sO hp rfl (slot_tmp rfl) ceW63 aa5 ?_ | refine sA hp rfl (slot_tmp rfl) (slot_tmp rfl) gaW62 aa5 ?_ | refine sG hp rfl (slot_tmp rfl) (slot_tmp rfl) gaW62 aa5 ?_); clear hp; intro w1 hp; simp only [spl, List.set_cons_zero, List.set_cons_succ] at hp)); simp only [put_some, put_none, List.set_cons_succ, List.set_cons_zero]))
                  go_ret
                  exact ⟨rfl, HBW.out.trans (hp.below.mono HBW.out.size)⟩
    · have e1 : (c2 != 0) = true := by simp [hc]
      clear hc HFR
      go_wp2_with (first | (go_at_call 33; (with_reducible refine (doh33L od oa os oc nx t0 t1 t2 t3 fa fs fc _ _ _ _ _ _ _ _ HD2.out HSS.out _ (HIS.out.below hp.below)).mono ?_); rintro e w1 ⟨⟨odX, oaX, osX, ocX, nxX, t0X, t1X, t2X, t3X, faX, fsX, fcX⟩, RX, rfl, hyX, hkX, _, hpX⟩; replace hp := hp.join hpX; have HYX := Lib.hid hyX; have HKX := Lib.hid hkX; clear hpX hyX hkX; simp only [hvL, List.cons_append, List.nil_append, List.append_assoc] at hp ⊢) | (go_at_call 35; (with_reducible refine (fresh35 _).mono ?_); rintro e w1 ⟨rfl, hb⟩; replace hp := hp.call hb; clear hb) | (go_at_call 36; (with_reducible refine (does36 _).mono ?_); rintro e w1 ⟨rfl, hb⟩; replace hp := hp.call hb; clear hb) | go_skip | ((first | ((with_reducible refine pre_alloc _ rfl ?_); refine lZ hp rfl (by with_reducible first | exact zero63 | exact zero26) ?_; clear hp; intro b w1 hp) | ((with_reducible refine pre_box _ _ rfl ?_); refine lB hp rfl (slot_tmp rfl) rfl ?_; clear hp; intro b w1 hp) | ((with_reducible refine pre_load _ _ rfl ?_); first | refine lO hp rfl (slot_tmp rfl) ceW61 aa14 ?_ | refine lA hp rfl (slot_tmp rfl) gaW60 aa14 ?_) | ((with_reducible refine pre_store _ _ _ rfl ?_); (first | refine sO hp rfl (slot_tmp rfl) ceW61 aa14 ?_ | refine sA hp rfl (slot_tmp rfl) (slot_tmp rfl) gaW60 aa14 ?_ | refine sG hp rfl (slot_tmp rfl) (slot_tmp rfl) gaW60 aa14 ?_); clear hp; intro w1 hp; simp only [spl, List.set_cons_zero, List.set_cons_succ] at hp)); simp only [put_some, put_none, List.set_cons_succ, List.set_cons_zero]))
      go_ret
      exact ⟨rfl, hp.below⟩
  · go_ret
    exact ⟨rfl, hp.below⟩
end Go.Proofs.Ytbflmnoaiklnbaa
