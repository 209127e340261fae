import Derived.Test.YtpgljcapgakanaaGreatGaXH
import Derived.Test.YtpgljcapgakanaaGreatGaHDW
import Derived.Test.YtpgljcapgakanaaGreatGaDV
import Derived.Test.YtpgljcapgakanaaGreatGaQC
/- The walk of the law ImageGoes. -/
set_option linter.unusedSimpArgs false
set_option linter.unusedVariables false
namespace Go.Proofs.YtpgljcapgakanaaGreat
open Go.RowKit
theorem gaXG0 {ty : TypeId} {k : Nat} (h : aggB Tryz.prog ty k = true := by with_reducible first | exact agg26 | exact agg44 | exact agg57) : aggB Tryz.prog ty k = true := h
theorem ceXG1 {ty : TypeId} (h : cellB Tryz.prog ty = true := by with_reducible first | exact cell3 | exact cell4 | exact cell32) : cellB Tryz.prog ty = true := h
theorem region_mergeH {P : Program} {c : Code} {Q : Exit → Act → World → Prop} {a : Act} {w : World} {A : Nat → Nat → Hv → Act} (R : Nat → Nat → Hv → World → Prop)
    (h : c.wp P (fun e a' w' => match e with | .normal => ∃ x y z, a' = A x y z ∧ R x y z w' | _ => False) a w) (k : ∀ x y z w', R x y z w' → Q .normal (A x y z) w') : c.wp P Q a w :=
  Code.wp_mono (fun e a' w' hq => by cases e <;> first | exact hq.elim | (obtain ⟨x, y, z, ha, hr⟩ := hq; subst ha; exact k x y z w' hr)) h
def KeptG (w0 : World) (R : List Blk) (Q : World → Prop) : Prop := ∀ (w : World) (L : List Blk), Hp w0.heap.size w0 w L → (∀ p ∈ R, p ∈ L) → Q w
theorem KeptG.at {w0 : World} {R : List Blk} {Q : World → Prop} (h : KeptG w0 R Q) {w : World} {L : List Blk} (hp : Hp w0.heap.size w0 w L) (hm : ∀ p ∈ R, p ∈ L) : Q w := h w L hp hm
theorem KeptG.of {w0 : World} {R : List Blk} {Q : World → Prop} (h : Kept R Q) : KeptG w0 R Q := fun w L hp hm => h _ _ w L hp hm
theorem KeptG.wide {w0 : World} {R S : List Blk} {Q : World → Prop} (h : KeptG w0 R Q) (hs : ∀ p ∈ R, p ∈ S) : KeptG w0 S Q := fun w L hp hm => h w L hp (fun p hp2 => hm p (hs p hp2))
set_option maxRecDepth 100000 in
set_option maxHeartbeats 16000000 in
theorem law10 (x : Hv) (la : Option Addr) (l : List Opd) (lc : Nat) (w : World) (hs : x.Is w ∧ x.W64) (hl : RowIs w la (l.flatMap opdL)) :
    Calls Tryz.prog 10 #[.agg (hvL x).toArray, .slice la l.length lc] w fun e w' => e = .returned (.bool true) ∧ Below w.heap.size w w' := by
  have hp := Hp.start w
  have HIS := Lib.hid hs.1
  have HLA := Lib.hid hl
  have hw64 := hs.2
  clear hs hl
  by_cases h60 : 60 < l.length
  · obtain ⟨od, oa, os, oc, nx, t0, t1, t2, t3, fa, fs, fc⟩ := x
    have e1 : decide ((60 : Int) < (l.length : Int)) = true := by simp; omega
    clear h60
    simp only [hvL]
    go_enter Tryz.func10, Tryz.ntmps10
    go_wp2_with (first | (go_at_call 58; (with_reducible refine (big58L od oa os oc nx t0 t1 t2 t3 fa fs fc _ (HIS.out.below hp.below)).mono ?_); rintro e w1 ⟨bb, rfl, hbb, hb⟩; replace hp := hp.call hb; clear hb; cases bb) | go_skip | ((first | ((with_reducible refine pre_alloc _ rfl ?_); refine lZ hp rfl (by with_reducible first | exact zero26 | exact zero57) ?_; clear hp; intro b w1 hp) | ((with_reducible refine pre_box _ _ rfl ?_); refine lB hp rfl (slot_tmp rfl) rfl ?_; clear hp; intro b w1 hp) | ((with_reducible refine pre_load _ _ rfl ?_); first | refine lO hp rfl (slot_tmp rfl) ceXG1 aa14 ?_ | refine lA hp rfl (slot_tmp rfl) gaXG0 aa14 ?_ | refine lR hp rfl (slot_tmp rfl) gaXG0 HX.out ?_) | ((with_reducible refine pre_store _ _ _ rfl ?_); (first | refine sO hp rfl (slot_tmp rfl) ceXG1 aa14 ?_ | refine sA hp rfl (slot_tmp rfl) (slot_tmp rfl) gaXG0 aa14 ?_ | refine sG hp rfl (slot_tmp rfl) (slot_tmp rfl) gaXG0 aa14 ?_); clear hp; intro w1 hp; simp only [spl, List.set_cons_zero, List.set_cons_succ] at hp)); simp only [put_some, put_none, List.set_cons_succ, List.set_cons_zero]))
    all_goals
      go_wp2_with (first | go_skip | ((first | ((with_reducible refine pre_alloc _ rfl ?_); refine lZ hp rfl (by with_reducible first | exact zero26 | exact zero57) ?_; clear hp; intro b w1 hp) | ((with_reducible refine pre_box _ _ rfl ?_); refine lB hp rfl (slot_tmp rfl) rfl ?_; clear hp; intro b w1 hp) | ((with_reducible refine pre_load _ _ rfl ?_); first | refine lO hp rfl (slot_tmp rfl) ceXG1 aa14 ?_ | refine lA hp rfl (slot_tmp rfl) gaXG0 aa14 ?_ | refine lR hp rfl (slot_tmp rfl) gaXG0 HX.out ?_) | ((with_reducible refine pre_store _ _ _ rfl ?_); (first | refine sO hp rfl (slot_tmp rfl) ceXG1 aa14 ?_ | refine sA hp rfl (slot_tmp rfl) (slot_tmp rfl) gaXG0 aa14 ?_ | refine sG hp rfl (slot_tmp rfl) (slot_tmp rfl) gaXG0 aa14 ?_); clear hp; intro w1 hp; simp only [spl, List.set_cons_zero, List.set_cons_succ] at hp)); simp only [put_some, put_none, List.set_cons_succ, List.set_cons_zero]))
      go_ret
      exact ⟨rfl, hp.below⟩
  · have e1 : decide ((60 : Int) < (l.length : Int)) = false := by simp; omega
    cases hb : hrightB x with
    | false =>
      have HB := Lib.hid hb
      obtain ⟨od, oa, os, oc, nx, t0, t1, t2, t3, fa, fs, fc⟩ := x
      clear hb
      simp only [hvL]
      go_enter Tryz.func10, Tryz.ntmps10
      go_wp2_with (first | (go_at_call 58; (with_reducible refine (big58L od oa os oc nx t0 t1 t2 t3 fa fs fc _ (HIS.out.below hp.below)).mono ?_); rintro e w1 ⟨bb, rfl, hbb, hb⟩; replace hp := hp.call hb; clear hb; cases bb) | go_skip | ((first | ((with_reducible refine pre_alloc _ rfl ?_); refine lZ hp rfl (by with_reducible first | exact zero26 | exact zero57) ?_; clear hp; intro b w1 hp) | ((with_reducible refine pre_box _ _ rfl ?_); refine lB hp rfl (slot_tmp rfl) rfl ?_; clear hp; intro b w1 hp) | ((with_reducible refine pre_load _ _ rfl ?_); first | refine lO hp rfl (slot_tmp rfl) ceXG1 aa14 ?_ | refine lA hp rfl (slot_tmp rfl) gaXG0 aa14 ?_ | refine lR hp rfl (slot_tmp rfl) gaXG0 HX.out ?_) | ((with_reducible refine pre_store _ _ _ rfl ?_); (first | refine sO hp rfl (slot_tmp rfl) ceXG1 aa14 ?_ | refine sA hp rfl (slot_tmp rfl) (slot_tmp rfl) gaXG0 aa14 ?_ | refine sG hp rfl (slot_tmp rfl) (slot_tmp rfl) gaXG0 aa14 ?_); clear hp; intro w1 hp; simp only [spl, List.set_cons_zero, List.set_cons_succ] at hp)); simp only [put_some, put_none, List.set_cons_succ, List.set_cons_zero]))
      · have HSS := Lib.hid (hbb (by first | rfl | trivial))
        go_wp2_with (first | (go_at_call 30; (with_reducible refine (puth_no od oa os oc nx t0 t1 t2 t3 fa fs fc HB.out HSS.out _ (HIS.out.below hp.below)).mono ?_); rintro e w1 ⟨rfl, hb⟩; replace hp := hp.call hb; clear hb) | (go_at_call 28; (with_reducible refine (geth_nil _).mono ?_); rintro e w1 ⟨rfl, hb⟩; replace hp := hp.call hb; clear hb) | (go_at_call 34; (with_reducible refine (heaps34 _).mono ?_); rintro e w1 ⟨rfl, hb⟩; replace hp := hp.call hb; clear hb) | go_skip | ((first | ((with_reducible refine pre_alloc _ rfl ?_); refine lZ hp rfl (by with_reducible first | exact zero26 | exact zero57) ?_; clear hp; intro b w1 hp) | ((with_reducible refine pre_box _ _ rfl ?_); refine lB hp rfl (slot_tmp rfl) rfl ?_; clear hp; intro b w1 hp) | ((with_reducible refine pre_load _ _ rfl ?_); first | refine lO hp rfl (slot_tmp rfl) ceXG1 aa14 ?_ | refine lA hp rfl (slot_tmp rfl) gaXG0 aa14 ?_ | refine lR hp rfl (slot_tmp rfl) gaXG0 HX.out ?_) | ((with_reducible refine pre_store _ _ _ rfl ?_); (first | refine sO hp rfl (slot_tmp rfl) ceXG1 aa14 ?_ | refine sA hp rfl (slot_tmp rfl) (slot_tmp rfl) gaXG0 aa14 ?_ | refine sG hp rfl (slot_tmp rfl) (slot_tmp rfl) gaXG0 aa14 ?_); clear hp; intro w1 hp; simp only [spl, List.set_cons_zero, List.set_cons_succ] at hp)); simp only [put_some, put_none, List.set_cons_succ, List.set_cons_zero]))
        go_ret
        exact ⟨rfl, hp.below⟩
      · go_wp2_with (first | go_skip | ((first | ((with_reducible refine pre_alloc _ rfl ?_); refine lZ hp rfl (by with_reducible first | exact zero26 | exact zero57) ?_; clear hp; intro b w1 hp) | ((with_reducible refine pre_box _ _ rfl ?_); refine lB hp rfl (slot_tmp rfl) rfl ?_; clear hp; intro b w1 hp) | ((with_reducible refine pre_load _ _ rfl ?_); first | refine lO hp rfl (slot_tmp rfl) ceXG1 aa14 ?_ | refine lA hp rfl (slot_tmp rfl) gaXG0 aa14 ?_ | refine lR hp rfl (slot_tmp rfl) gaXG0 HX.out ?_) | ((with_reducible refine pre_store _ _ _ rfl ?_); (first | refine sO hp rfl (slot_tmp rfl) ceXG1 aa14 ?_ | refine sA hp rfl (slot_tmp rfl) (slot_tmp rfl) gaXG0 aa14 ?_ | refine sG hp rfl (slot_tmp rfl) (slot_tmp rfl) gaXG0 aa14 ?_); clear hp; intro w1 hp; simp only [spl, List.set_cons_zero, List.set_cons_succ] at hp)); simp only [put_some, put_none, List.set_cons_succ, List.set_cons_zero]))
        go_ret
        exact ⟨rfl, hp.below⟩
    | true =>
      have hxr := hright_of hb
      have HB := Lib.hid hb
      have HSM := Lib.hid hxr.small
      obtain ⟨bs, hbs⟩ : ∃ bs, heapB x = bs := ⟨_, rfl⟩
      have HBS := Lib.hid hbs
      have HGB : RowKit.Hid (heapR bs = some (clearH x)) := Lib.hid (by rw [← hbs]; exact heapR_put hxr hw64)
      have HCX := Lib.hid (clearH_sm x)
      obtain ⟨od, oa, os, oc, nx, t0, t1, t2, t3, fa, fs, fc⟩ := x
      clear hb hbs hxr hw64
      simp only [hvL]
      go_enter Tryz.func10, Tryz.ntmps10
      go_wp2_with (first | (go_at_call 58; (with_reducible refine (big58L od oa os oc nx t0 t1 t2 t3 fa fs fc _ (HIS.out.below hp.below)).mono ?_); rintro e w1 ⟨bb, rfl, hbb, hb⟩; replace hp := hp.call hb; clear hb; cases bb) | go_skip | ((first | ((with_reducible refine pre_alloc _ rfl ?_); refine lZ hp rfl (by with_reducible first | exact zero26 | exact zero57) ?_; clear hp; intro b w1 hp) | ((with_reducible refine pre_box _ _ rfl ?_); refine lB hp rfl (slot_tmp rfl) rfl ?_; clear hp; intro b w1 hp) | ((with_reducible refine pre_load _ _ rfl ?_); first | refine lO hp rfl (slot_tmp rfl) ceXG1 aa14 ?_ | refine lA hp rfl (slot_tmp rfl) gaXG0 aa14 ?_ | refine lR hp rfl (slot_tmp rfl) gaXG0 HX.out ?_) | ((with_reducible refine pre_store _ _ _ rfl ?_); (first | refine sO hp rfl (slot_tmp rfl) ceXG1 aa14 ?_ | refine sA hp rfl (slot_tmp rfl) (slot_tmp rfl) gaXG0 aa14 ?_ | refine sG hp rfl (slot_tmp rfl) (slot_tmp rfl) gaXG0 aa14 ?_); clear hp; intro w1 hp; simp only [spl, List.set_cons_zero, List.set_cons_succ] at hp)); simp only [put_some, put_none, List.set_cons_succ, List.set_cons_zero]))
      · clear hbb
        go_wp2_with (first | (go_at_call 30; (with_reducible refine (puth_yes od oa os oc nx t0 t1 t2 t3 fa fs fc bs HBS.out HB.out _ (HIS.out.below hp.below)).mono ?_); rintro e w1 ⟨ab, cb, mb, RB, rfl, hmb, hcb, _, hkb, hpn⟩; replace hp := hp.join hpn; have HMB := Lib.hid hmb; have HCB := Lib.hid hcb; have HKB := Lib.hid hkb; clear hpn hmb hcb hkb; simp only [List.cons_append, List.nil_append] at hp) | (go_at_call 28; (with_reducible refine (geth_yes bs _ HGB.out ab mb cb HMB.out HCB.out _ (HKB.out.at hp (fun p hm => by simp [hm]))).mono ?_); rintro e w1 ⟨odX, oaX, osX, ocX, nxX, t0X, t1X, t2X, t3X, faX, fsX, fcX, RX, rfl, hsm, hox, hpn⟩; replace hp := hp.join hpn; have HSX := Lib.hid hsm; have HKX := Lib.hid hox.kept; clear hpn hsm hox; simp only [List.cons_append, List.nil_append] at hp) | go_skip | ((first | ((with_reducible refine pre_alloc _ rfl ?_); refine lZ hp rfl (by with_reducible first | exact zero26 | exact zero57) ?_; clear hp; intro b w1 hp) | ((with_reducible refine pre_box _ _ rfl ?_); refine lB hp rfl (slot_tmp rfl) rfl ?_; clear hp; intro b w1 hp) | ((with_reducible refine pre_load _ _ rfl ?_); first | refine lO hp rfl (slot_tmp rfl) ceXG1 aa14 ?_ | refine lA hp rfl (slot_tmp rfl) gaXG0 aa14 ?_ | refine lR hp rfl (slot_tmp rfl) gaXG0 HX.out ?_) | ((with_reducible refine pre_store _ _ _ rfl ?_); (first | refine sO hp rfl (slot_tmp rfl) ceXG1 aa14 ?_ | refine sA hp rfl (slot_tmp rfl) (slot_tmp rfl) gaXG0 aa14 ?_ | refine sG hp rfl (slot_tmp rfl) (slot_tmp rfl) gaXG0 aa14 ?_); clear hp; intro w1 hp; simp only [spl, List.set_cons_zero, List.set_cons_succ] at hp)); simp only [put_some, put_none, List.set_cons_succ, List.set_cons_zero]))
        obtain ⟨bX, hbX⟩ := hp.id0
        obtain ⟨bH, hbH⟩ := hp.id1
        subst hbX hbH
        have HK0 : RowKit.Hid (KeptG w [] (fun w' => Hv.Is w' ⟨od, oa, os, oc, nx, t0, t1, t2, t3, fa, fs, fc⟩)) := Lib.hid (fun w' L hp _ => HIS.out.below hp.below)
        go_loopg [9] l.length (fun k i wr => ∃ (q : Nat) (y z : Hv) (R : List Blk), k + q = l.length ∧ i = .int .i64 q ∧ RowKit.Hid (y.Small ∧ z.Sm y) ∧ RowKit.Hid (KeptG w R fun w => y.Is w) ∧ RowKit.Hid (KeptG w R fun w => z.Is w) ∧ Hp w.heap.size w wr (⟨bX, hvL z, 26, 8⟩ :: ⟨bH, hvL y, 26, 8⟩ :: R))
        case atStart => exact ⟨0, ⟨od, oa, os, oc, nx, t0, t1, t2, t3, fa, fs, fc⟩, ⟨odX, oaX, osX, ocX, nxX, t0X, t1X, t2X, t3X, faX, fsX, fcX⟩, _, by omega, rfl, Lib.hid ⟨HSM.out, HSX.out.trans HCX.out⟩, Lib.hid (HK0.out.wide (fun p hp => by cases hp)), Lib.hid (KeptG.of (HKX.out.mono (fun p hp => List.mem_append_right _ hp) fun w h => h)), hp⟩
        case round =>
          clear hp HK0
          obtain ⟨q, y, z, R, hkq, rfl, HYZ, HKY, HKZ, hp⟩ := hrel
          by_cases hlt : q < l.length
          · obtain ⟨bq, off, rfl, hx⟩ := HLA.out.elems 7 (fun _ => rfl) (by omega) (by omega)
            have hj := List.getElem?_eq_getElem hlt
            replace hx := hx q _ hj
            clear hj
            generalize l[q] = en at hx
            obtain ⟨kk, hh, ii, nn, cc, vv, tt⟩ := en
            simp only [opdL] at hx
            have HX := Lib.hid hx
            clear hx
            have f1 : (0 : Int) ≤ (q : Int) := by omega
            have f2 : (q : Int) < (l.length : Int) := by omega
            obtain ⟨⟨s, rc2, rv2⟩, hdy⟩ : ∃ r, doP y ⟨kk, hh, ii, nn, cc, vv, tt⟩ = r := ⟨_, rfl⟩
            obtain ⟨⟨s2, rc, rv⟩, hdz⟩ : ∃ r, doP z ⟨kk, hh, ii, nn, cc, vv, tt⟩ = r := ⟨_, rfl⟩
            have hss := doP_small (x := y) ⟨kk, hh, ii, nn, cc, vv, tt⟩
            have hdd := doP_sm HYZ.out.2 ⟨kk, hh, ii, nn, cc, vv, tt⟩
            rw [hdy] at hss hdd
            rw [hdz] at hdd
            simp only at hss hdd
            obtain ⟨hd1, hd2⟩ := hdd
            injection hd1 with hd3 hd4
            subst hd3 hd4
            have HSB : RowKit.Hid (∀ a : Hv, a.Sm s → a.Small) := Lib.hid (fun a h => hss.sm h.symm)
            have HAC : RowKit.Hid (∀ a c : Hv, a.Sm s → c.Sm s2 → a.Sm c) := Lib.hid (fun a c h h' => h.trans (h'.trans hd2).symm)
            have HSY := Lib.hid HYZ.out.1
            have HSZ := Lib.hid (HYZ.out.1.sm HYZ.out.2.symm)
            clear HYZ
            obtain ⟨odY, oaY, osY, ocY, nxY, t0Y, t1Y, t2Y, t3Y, faY, fsY, fcY⟩ := y
            obtain ⟨odZ, oaZ, osZ, ocZ, nxZ, t0Z, t1Z, t2Z, t3Z, faZ, fsZ, fcZ⟩ := z
            have HDY := Lib.hid hdy
            have HDZ := Lib.hid hdz
            clear hdy hdz hss hd2
            simp only [hvL] at hp
            go_wp2_with (first | go_skip | ((first | ((with_reducible refine pre_alloc _ rfl ?_); refine lZ hp rfl (by with_reducible first | exact zero26 | exact zero57) ?_; clear hp; intro b w1 hp) | ((with_reducible refine pre_box _ _ rfl ?_); refine lB hp rfl (slot_tmp rfl) rfl ?_; clear hp; intro b w1 hp) | ((with_reducible refine pre_load _ _ rfl ?_); first | refine lO hp rfl (slot_tmp rfl) ceXG1 aa14 ?_ | refine lA hp rfl (slot_tmp rfl) gaXG0 aa14 ?_ | refine lR hp rfl (slot_tmp rfl) gaXG0 HX.out ?_) | ((with_reducible refine pre_store _ _ _ rfl ?_); (first | refine sO hp rfl (slot_tmp rfl) ceXG1 aa14 ?_ | refine sA hp rfl (slot_tmp rfl) (slot_tmp rfl) gaXG0 aa14 ?_ | refine sG hp rfl (slot_tmp rfl) (slot_tmp rfl) gaXG0 aa14 ?_); clear hp; intro w1 hp; simp only [spl, List.set_cons_zero, List.set_cons_succ] at hp)); simp only [put_some, put_none, List.set_cons_succ, List.set_cons_zero]))
            apply region_mergeH (R := fun bh br y w' => RowKit.Hid (y.Sm s) ∧ ∃ RA, RowKit.Hid (Kept RA fun w => y.Is w) ∧ Hp w.heap.size w w' (⟨br, [.int .i64 rc, .int .i64 rv], 57, 2⟩ :: ⟨bh, hvL y, 26, 8⟩ :: ⟨bX, [.int .i64 odZ, .slice oaZ osZ.length ocZ, .int .i64 nxZ, .int .i64 t0Z, .int .i64 t1Z, .int .i64 t2Z, .int .i64 t3Z, .slice faZ fsZ.length fcZ], 26, 8⟩ :: ⟨bH, [.int .i64 odY, .slice oaY osY.length ocY, .int .i64 nxY, .int .i64 t0Y, .int .i64 t1Y, .int .i64 t2Y, .int .i64 t3Y, .slice faY fsY.length fcY], 26, 8⟩ :: (RA ++ R)))
            case h =>
              refine wp_region_keepsT [_, _] (Keeps.two hp.drew at0 at1) [] (.take 0 (.take 1 (.take 2 (.take 3 (.take 4 (.three 5 (.take 6 (.take 7 (.take 8 (.two 9 (.one 10 (.one 11 (.one 12 .nil))) 10 (.one 9 (.one 11 (.one 12 .nil))))))) 9 (.two 5 (.take 6 (.take 7 (.take 8 (.one 10 (.one 11 (.one 12 .nil)))))) 10 (.one 5 (.take 6 (.take 7 (.take 8 (.one 11 (.one 12 .nil))))))) 10 (.two 5 (.take 6 (.take 7 (.take 8 (.one 9 (.one 11 (.one 12 .nil)))))) 9 (.one 5 (.take 6 (.take 7 (.take 8 (.one 11 (.one 12 .nil))))))))))))) (by kernel_rfl) (by kernel_rfl) (by kernel_rfl) (by kernel_rfl) (fun _ _ d _ _ h => by cases d <;> exact h) ?_
              replace hp := hp.drew
              repeat' (with_reducible refine tree_is ?_); first | (with_reducible refine tree_nil ?_) | ((with_reducible refine tree_take ?_); refine plan_tk rfl ?_; (first | ((with_reducible refine tk_mv _ rfl ?_); refine tM rfl ?_) | ((with_reducible refine tk_ld _ _ rfl ?_); first | refine tA rfl (slot_tmp rfl) (by with_reducible first | exact agg26 | exact agg44) aa5 ?_ | refine tR rfl (slot_tmp rfl) (by with_reducible first | exact agg26 | exact agg44) HX.out ?_) | refine tG (fun w _ => (by go_simp; try rfl)) ?_); refine tree_on ?_; try simp only [put_some, put_none, eval_tmp, eval_const, List.set_cons_succ, List.set_cons_zero, List.getD_cons_succ, List.getD_cons_zero, wrap_eq]) | ((first | refine tree_one (doT_of rfl (fun K hK => ?_)) | refine tree_two (doT_of rfl (fun K hK => ?_)) (doT_of rfl (fun K hK => ?_)) | refine tree_three (doT_of rfl (fun K hK => ?_)) (doT_of rfl (fun K hK => ?_)) (doT_of rfl (fun K hK => ?_))) <;> (go_wp2_with (first | (go_at_call 59; (with_reducible refine (doh59L odY oaY osY ocY nxY t0Y t1Y t2Y t3Y faY fsY fcY kk hh ii nn cc vv tt (s, rc, rv) HDY.out HSY.out _ (HKY.out.at hp (fun p hm => by simp [hm]))).mono ?_); rintro e w1 ⟨y, RA, rfl, hsA, hkA, _, hpA⟩; replace hp := hp.join hpA; have HSA := Lib.hid hsA; have HKA := Lib.hid hkA; clear hpA hsA hkA; simp only [List.cons_append, List.nil_append, List.append_assoc] at hp) | ((with_reducible refine pre_alloc 26 rfl ?_); refine lZ hp rfl zero26 ?_; clear hp; intro bh w1 hp; simp only [put_some, put_none, List.set_cons_succ, List.set_cons_zero]) | ((with_reducible refine pre_alloc 57 rfl ?_); refine lZ hp rfl zero57 ?_; clear hp; intro br w1 hp; simp only [put_some, put_none, List.set_cons_succ, List.set_cons_zero]) | go_skip | ((first | ((with_reducible refine pre_alloc _ rfl ?_); refine lZ hp rfl (by with_reducible first | exact zero26 | exact zero57) ?_; clear hp; intro b w1 hp) | ((with_reducible refine pre_store _ _ _ rfl ?_); (first | refine sO hp rfl (slot_tmp rfl) ceXG1 aa14 ?_ | refine sA hp rfl (slot_tmp rfl) (slot_tmp rfl) gaXG0 aa14 ?_ | refine sG hp rfl (slot_tmp rfl) (slot_tmp rfl) gaXG0 aa14 ?_); clear hp; intro w1 hp; simp only [spl, List.set_cons_zero, List.set_cons_succ] at hp)); simp only [put_some, put_none, List.set_cons_succ, List.set_cons_zero])); (refine hK.out _ _ (.inr (Keeps.two hp aa5 aa5)) ?_); clear hK K; try simp only [put_some, put_none, eval_tmp, eval_const, List.set_cons_succ, List.set_cons_zero, List.getD_cons_succ, List.getD_cons_zero, wrap_eq]))
              all_goals exact ⟨bh, br, y, rfl, HSA, RA, HKA, hp.kp⟩
            rintro bA bAr y w1 ⟨HSA, RA, HKA, hp⟩
            obtain ⟨odA, oaA, osA, ocA, nxA, t0A, t1A, t2A, t3A, faA, fsA, fcA⟩ := y
            simp only [hvL] at hp ⊢
            go_wp2_with (first | go_skip | ((first | ((with_reducible refine pre_alloc _ rfl ?_); refine lZ hp rfl (by with_reducible first | exact zero26 | exact zero57) ?_; clear hp; intro b w1 hp) | ((with_reducible refine pre_box _ _ rfl ?_); refine lB hp rfl (slot_tmp rfl) rfl ?_; clear hp; intro b w1 hp) | ((with_reducible refine pre_load _ _ rfl ?_); first | refine lO hp rfl (slot_tmp rfl) ceXG1 aa14 ?_ | refine lA hp rfl (slot_tmp rfl) gaXG0 aa14 ?_ | refine lR hp rfl (slot_tmp rfl) gaXG0 HX.out ?_) | ((with_reducible refine pre_store _ _ _ rfl ?_); (first | refine sO hp rfl (slot_tmp rfl) ceXG1 aa14 ?_ | refine sA hp rfl (slot_tmp rfl) (slot_tmp rfl) gaXG0 aa14 ?_ | refine sG hp rfl (slot_tmp rfl) (slot_tmp rfl) gaXG0 aa14 ?_); clear hp; intro w1 hp; simp only [spl, List.set_cons_zero, List.set_cons_succ] at hp)); simp only [put_some, put_none, List.set_cons_succ, List.set_cons_zero]))
            apply region_mergeH (R := fun bh br y w' => RowKit.Hid (y.Sm s2) ∧ ∃ RC, RowKit.Hid (Kept RC fun w => y.Is w) ∧ Hp w.heap.size w w' (⟨br, [.int .i64 rc, .int .i64 rv], 57, 2⟩ :: ⟨bh, hvL y, 26, 8⟩ :: ⟨bAr, [.int .i64 rc, .int .i64 rv], 57, 2⟩ :: ⟨bA, [.int .i64 odA, .slice oaA osA.length ocA, .int .i64 nxA, .int .i64 t0A, .int .i64 t1A, .int .i64 t2A, .int .i64 t3A, .slice faA fsA.length fcA], 26, 8⟩ :: ⟨bX, [.int .i64 odZ, .slice oaZ osZ.length ocZ, .int .i64 nxZ, .int .i64 t0Z, .int .i64 t1Z, .int .i64 t2Z, .int .i64 t3Z, .slice faZ fsZ.length fcZ], 26, 8⟩ :: ⟨bH, [.int .i64 odY, .slice oaY osY.length ocY, .int .i64 nxY, .int .i64 t0Y, .int .i64 t1Y, .int .i64 t2Y, .int .i64 t3Y, .slice faY fsY.length fcY], 26, 8⟩ :: (RC ++ (RA ++ R))))
            case h =>
              refine wp_region_keepsT [_] (Keeps.one hp.drew at2) [] (.take 0 (.take 1 (.take 2 (.take 3 (.take 4 (.three 5 (.take 6 (.take 7 (.take 8 (.two 9 (.one 10 (.one 11 (.one 12 .nil))) 10 (.one 9 (.one 11 (.one 12 .nil))))))) 9 (.two 5 (.take 6 (.take 7 (.take 8 (.one 10 (.one 11 (.one 12 .nil)))))) 10 (.one 5 (.take 6 (.take 7 (.take 8 (.one 11 (.one 12 .nil))))))) 10 (.two 5 (.take 6 (.take 7 (.take 8 (.one 9 (.one 11 (.one 12 .nil)))))) 9 (.one 5 (.take 6 (.take 7 (.take 8 (.one 11 (.one 12 .nil))))))))))))) (by kernel_rfl) (by kernel_rfl) (by kernel_rfl) (by kernel_rfl) (fun _ _ d _ _ h => by cases d <;> exact h) ?_
              replace hp := hp.drew
              repeat' (with_reducible refine tree_is ?_); first | (with_reducible refine tree_nil ?_) | ((with_reducible refine tree_take ?_); refine plan_tk rfl ?_; (first | ((with_reducible refine tk_mv _ rfl ?_); refine tM rfl ?_) | ((with_reducible refine tk_ld _ _ rfl ?_); first | refine tA rfl (slot_tmp rfl) (by with_reducible first | exact agg26 | exact agg44) aa5 ?_ | refine tR rfl (slot_tmp rfl) (by with_reducible first | exact agg26 | exact agg44) HX.out ?_) | refine tG (fun w _ => (by go_simp; try rfl)) ?_); refine tree_on ?_; try simp only [put_some, put_none, eval_tmp, eval_const, List.set_cons_succ, List.set_cons_zero, List.getD_cons_succ, List.getD_cons_zero, wrap_eq]) | ((first | refine tree_one (doT_of rfl (fun K hK => ?_)) | refine tree_two (doT_of rfl (fun K hK => ?_)) (doT_of rfl (fun K hK => ?_)) | refine tree_three (doT_of rfl (fun K hK => ?_)) (doT_of rfl (fun K hK => ?_)) (doT_of rfl (fun K hK => ?_))) <;> (go_wp2_with (first | (go_at_call 59; (with_reducible refine (doh59L odZ oaZ osZ ocZ nxZ t0Z t1Z t2Z t3Z faZ fsZ fcZ kk hh ii nn cc vv tt (s2, rc, rv) HDZ.out HSZ.out _ (HKZ.out.at hp (fun p hm => by simp [hm]))).mono ?_); rintro e w1 ⟨y, RC, rfl, hsC, hkC, _, hpC⟩; replace hp := hp.join hpC; have HSC := Lib.hid hsC; have HKC := Lib.hid hkC; clear hpC hsC hkC; simp only [List.cons_append, List.nil_append, List.append_assoc] at hp) | ((with_reducible refine pre_alloc 26 rfl ?_); refine lZ hp rfl zero26 ?_; clear hp; intro bh w1 hp; simp only [put_some, put_none, List.set_cons_succ, List.set_cons_zero]) | ((with_reducible refine pre_alloc 57 rfl ?_); refine lZ hp rfl zero57 ?_; clear hp; intro br w1 hp; simp only [put_some, put_none, List.set_cons_succ, List.set_cons_zero]) | go_skip | ((first | ((with_reducible refine pre_alloc _ rfl ?_); refine lZ hp rfl (by with_reducible first | exact zero26 | exact zero57) ?_; clear hp; intro b w1 hp) | ((with_reducible refine pre_store _ _ _ rfl ?_); (first | refine sO hp rfl (slot_tmp rfl) ceXG1 aa14 ?_ | refine sA hp rfl (slot_tmp rfl) (slot_tmp rfl) gaXG0 aa14 ?_ | refine sG hp rfl (slot_tmp rfl) (slot_tmp rfl) gaXG0 aa14 ?_); clear hp; intro w1 hp; simp only [spl, List.set_cons_zero, List.set_cons_succ] at hp)); simp only [put_some, put_none, List.set_cons_succ, List.set_cons_zero])); (refine hK.out _ _ (.inr (Keeps.one hp aa5)) ?_); clear hK K; try simp only [put_some, put_none, eval_tmp, eval_const, List.set_cons_succ, List.set_cons_zero, List.getD_cons_succ, List.getD_cons_zero, wrap_eq]))
              all_goals exact ⟨bh, br, y, rfl, HSC, RC, HKC, hp.kp⟩
            rintro bC bCr y w1 ⟨HSC, RC, HKC, hp⟩
            obtain ⟨odC, oaC, osC, ocC, nxC, t0C, t1C, t2C, t3C, faC, fsC, fcC⟩ := y
            simp only [hvL] at hp ⊢
            go_wp2_with (first | (go_at_call 31; (with_reducible refine (same31L odA oaA osA ocA nxA t0A t1A t2A t3A faA fsA fcA odC oaC osC ocC nxC t0C t1C t2C t3C faC fsC fcC (HSB.out _ HSA.out) (HAC.out _ _ HSA.out HSC.out) _ (HKA.out.at hp (fun p hm => by simp [hm])) (HKC.out.at hp (fun p hm => by simp [hm]))).mono ?_); rintro e w1 ⟨rfl, hb⟩; replace hp := hp.call hb; clear hb) | go_skip | ((first | ((with_reducible refine pre_alloc _ rfl ?_); refine lZ hp rfl (by with_reducible first | exact zero26 | exact zero57) ?_; clear hp; intro b w1 hp) | ((with_reducible refine pre_box _ _ rfl ?_); refine lB hp rfl (slot_tmp rfl) rfl ?_; clear hp; intro b w1 hp) | ((with_reducible refine pre_load _ _ rfl ?_); first | refine lO hp rfl (slot_tmp rfl) ceXG1 aa14 ?_ | refine lA hp rfl (slot_tmp rfl) gaXG0 aa14 ?_ | refine lR hp rfl (slot_tmp rfl) gaXG0 HX.out ?_) | ((with_reducible refine pre_store _ _ _ rfl ?_); (first | refine sO hp rfl (slot_tmp rfl) ceXG1 aa14 ?_ | refine sA hp rfl (slot_tmp rfl) (slot_tmp rfl) gaXG0 aa14 ?_ | refine sG hp rfl (slot_tmp rfl) (slot_tmp rfl) gaXG0 aa14 ?_); clear hp; intro w1 hp; simp only [spl, List.set_cons_zero, List.set_cons_succ] at hp)); simp only [put_some, put_none, List.set_cons_succ, List.set_cons_zero]))
            go_roundg (gk - 1)
            case measure => omega
            case rel => exact ⟨q + 1, ⟨odA, oaA, osA, ocA, nxA, t0A, t1A, t2A, t3A, faA, fsA, fcA⟩, ⟨odC, oaC, osC, ocC, nxC, t0C, t1C, t2C, t3C, faC, fsC, fcC⟩, RA ++ RC, by omega, by go_num, Lib.hid ⟨HSB.out _ HSA.out, (HAC.out _ _ HSA.out HSC.out).symm⟩, Lib.hid (KeptG.of (HKA.out.mono (fun p hp => List.mem_append_left _ hp) fun w h => h)), Lib.hid (KeptG.of (HKC.out.mono (fun p hp => List.mem_append_right _ hp) fun w h => h)), by simp only [hvL]; exact hp.kp⟩
          · obtain rfl : q = l.length := by omega
            have e2 : decide ((l.length : Int) < (l.length : Int)) = false := by simp
            obtain ⟨odY, oaY, osY, ocY, nxY, t0Y, t1Y, t2Y, t3Y, faY, fsY, fcY⟩ := y
            obtain ⟨odZ, oaZ, osZ, ocZ, nxZ, t0Z, t1Z, t2Z, t3Z, faZ, fsZ, fcZ⟩ := z
            simp only [hvL] at hp
            clear hkq hlt
            go_wp2_with (first | (go_at_call 34; (with_reducible refine (heaps34 _).mono ?_); rintro e w1 ⟨rfl, hb⟩; replace hp := hp.call hb; clear hb) | go_skip | ((first | ((with_reducible refine pre_alloc _ rfl ?_); refine lZ hp rfl (by with_reducible first | exact zero26 | exact zero57) ?_; clear hp; intro b w1 hp) | ((with_reducible refine pre_box _ _ rfl ?_); refine lB hp rfl (slot_tmp rfl) rfl ?_; clear hp; intro b w1 hp) | ((with_reducible refine pre_load _ _ rfl ?_); first | refine lO hp rfl (slot_tmp rfl) ceXG1 aa14 ?_ | refine lA hp rfl (slot_tmp rfl) gaXG0 aa14 ?_ | refine lR hp rfl (slot_tmp rfl) gaXG0 HX.out ?_) | ((with_reducible refine pre_store _ _ _ rfl ?_); (first | refine sO hp rfl (slot_tmp rfl) ceXG1 aa14 ?_ | refine sA hp rfl (slot_tmp rfl) (slot_tmp rfl) gaXG0 aa14 ?_ | refine sG hp rfl (slot_tmp rfl) (slot_tmp rfl) gaXG0 aa14 ?_); clear hp; intro w1 hp; simp only [spl, List.set_cons_zero, List.set_cons_succ] at hp)); simp only [put_some, put_none, List.set_cons_succ, List.set_cons_zero]))
            go_ret
            exact ⟨rfl, hp.below⟩
      · go_wp2_with (first | go_skip | ((first | ((with_reducible refine pre_alloc _ rfl ?_); refine lZ hp rfl (by with_reducible first | exact zero26 | exact zero57) ?_; clear hp; intro b w1 hp) | ((with_reducible refine pre_box _ _ rfl ?_); refine lB hp rfl (slot_tmp rfl) rfl ?_; clear hp; intro b w1 hp) | ((with_reducible refine pre_load _ _ rfl ?_); first | refine lO hp rfl (slot_tmp rfl) ceXG1 aa14 ?_ | refine lA hp rfl (slot_tmp rfl) gaXG0 aa14 ?_ | refine lR hp rfl (slot_tmp rfl) gaXG0 HX.out ?_) | ((with_reducible refine pre_store _ _ _ rfl ?_); (first | refine sO hp rfl (slot_tmp rfl) ceXG1 aa14 ?_ | refine sA hp rfl (slot_tmp rfl) (slot_tmp rfl) gaXG0 aa14 ?_ | refine sG hp rfl (slot_tmp rfl) (slot_tmp rfl) gaXG0 aa14 ?_); clear hp; intro w1 hp; simp only [spl, List.set_cons_zero, List.set_cons_succ] at hp)); simp only [put_some, put_none, List.set_cons_succ, List.set_cons_zero]))
        go_ret
        exact ⟨rfl, hp.below⟩
end Go.Proofs.YtpgljcapgakanaaGreat
