/- The walk of over: it writes over a heap of one's own; other blocks stand. -/
import Derived.Test.YtppdjlgjcdmiaaaGreatEB
set_option linter.unusedSimpArgs false
set_option linter.unusedVariables false
namespace Go.Proofs.YtppdjlgjcdmiaaaGreat
open Go.RowKit
theorem ceEW0 {ty : TypeId} (h : cellB Tryz.prog ty = true := by with_reducible first | exact cell3 | exact cell65 | exact cell22 | exact cell24) : cellB Tryz.prog ty = true := h
def HeadsAt (os : List Ob) (q : Nat) (cells : List Value) : Prop := ∀ (i : Nat) o, q ≤ i → os[i]? = some o → cells[i * 5 + 3]? = some (.slice o.wa o.ws.length o.wc) ∧ cells[i * 5 + 4]? = some (.slice o.la o.ls.length o.lc)
theorem own_put {e : TypeId} {c n k g q : Nat} {cells : List Value} {R : List Blk} (h : OwnRow e c (.slice (some ⟨g, 0, none⟩) n k) n cells R) (hn : 0 < n) (v : Value) : OwnRow e c (.slice (some ⟨g, 0, none⟩) n k) n (cells.set q v) [⟨g, cells.set q v, e, k * c⟩] := by
  obtain ⟨hl, ⟨h0, _⟩ | ⟨g', cap, hv, h1, h2, hr⟩⟩ := h
  · omega
  · injection hv with v1 v2 v3
    injection v1 with v1; injection v1 with v1
    subst v1 v3
    exact ⟨by rw [List.length_set]; exact hl, .inr ⟨g, _, rfl, h1, h2, rfl⟩⟩
set_option maxRecDepth 100000 in
set_option maxHeartbeats 8000000 in
theorem over13 (x : Hv) (hol : x.os.length ≤ 1000) (hfl : x.fs.length ≤ 2000) (hsm : ∀ o ∈ x.os, o.ws.length ≤ 5000 ∧ o.ls.length ≤ 5000) {B : Nat} {w0 w : World} {K : List Blk} (hW : RefAt B w0 w x K) :
    Calls Tryz.prog 13 #[.agg (hvL x).toArray] w fun e w' => e = .returned (.tuple #[]) ∧ ∃ D, Hp B w0 w' (D ++ K) := by
  obtain ⟨RO, RF, M, ⟨ho, hf, hm⟩, hp⟩ := hW
  obtain ⟨od, oa, os, oc, nx, t0, t1, t2, t3, fa, fs, fc⟩ := x
  simp only at ho hf hm hol hfl hsm
  simp only [hvL]
  have HO := Lib.hid ho
  have HF := Lib.hid hf
  have HM := Lib.hid hm
  have HSM := Lib.hid hsm
  have HHD : RowKit.Hid (HeadsAt os 0 (os.flatMap obV)) := Lib.hid (fun i o _ h => head_at h)
  clear ho hf hm hsm
  go_enter Tryz.func13, Tryz.ntmps13
  go_wp2_with (first | go_skip | ((first | ((with_reducible refine pre_box _ _ rfl ?_); refine lB hp rfl (slot_tmp rfl) rfl ?_; clear hp; intro b w1 hp) | ((with_reducible refine pre_load _ _ rfl ?_); first | refine lO hp rfl (slot_tmp rfl) ceEW0 aa5 ?_ | refine lA hp rfl (slot_tmp rfl) agg26 aa5 ?_) | ((with_reducible refine pre_store _ _ _ rfl ?_); (first | refine sO hp rfl (slot_tmp rfl) ceEW0 aa5 ?_ | refine sA hp rfl (slot_tmp rfl) (slot_tmp rfl) agg26 aa5 ?_ | refine sG hp rfl (slot_tmp rfl) (slot_tmp rfl) agg26 aa5 ?_); clear hp; intro w1 hp; simp only [spl, List.set_cons_zero, List.set_cons_succ] at hp)); simp only [put_some, put_none, List.set_cons_succ, List.set_cons_zero]))
  obtain ⟨bH, rfl⟩ := hp.id0
  go_loopg [2] os.length (fun k iv wr => ∃ (q : Nat) (cells : List Value) (RO Md Mr : List Blk), k + q = os.length ∧ iv = .int .i64 q ∧ RowKit.Hid (OwnRow 67 5 (.slice oa os.length oc) os.length cells RO) ∧ RowKit.Hid (HeadsAt os q cells) ∧ RowKit.Hid (ObsR (os.drop q) Mr) ∧
    Hp B w0 wr (⟨bH, [.int .i64 od, .slice oa os.length oc, .int .i64 nx, .int .i64 t0, .int .i64 t1, .int .i64 t2, .int .i64 t3, .slice fa fs.length fc], 26, 8⟩ :: (RO ++ (RF ++ (Md ++ (Mr ++ K))))))
  case atStart => exact ⟨0, os.flatMap obV, RO, [], M, by omega, rfl, HO, HHD, by rw [List.drop_zero]; exact HM, hp⟩
  case round =>
    clear hp HO HM HHD
    obtain ⟨q, cells, RO, Md, Mr, hkq, rfl, HO, HHD, HM, hp⟩ := hrel
    by_cases hlq : q < os.length
    · obtain ⟨x, hj⟩ : ∃ x, os[q]? = some x := ⟨_, List.getElem?_eq_getElem hlq⟩
      obtain ⟨go, rfl, _, _, rfl, hcl⟩ := HO.out.own (by omega)
      obtain ⟨hh1, hh2⟩ := HHD.out q x (Nat.le_refl _) hj
      obtain ⟨hs1, hs2⟩ := HSM.out x (List.mem_of_getElem? hj)
      have hmr := HM.out
      rw [List.drop_eq_getElem_cons hlq, show os[q] = x by rw [List.getElem?_eq_getElem hlq] at hj; injection hj] at hmr
      generalize hdd : os.drop (q + 1) = dd at hmr
      cases hmr with
      | @cons _ _ R M' hR hM' =>
      obtain ⟨Rw, Rl, rfl, h1, h2⟩ := hR
      obtain ⟨xh, xp, xo, wa, ws, wc, la, ls, lc⟩ := x
      simp only at h1 h2 hh1 hh2 hs1 hs2
      have HW := Lib.hid h1
      have HL := Lib.hid h2
      have HM2 : RowKit.Hid (ObsR (os.drop (q + 1)) M') := Lib.hid (by rw [hdd]; exact hM')
      have HX1 := Lib.hid hh1
      have HX2 := Lib.hid hh2
      have HQH : RowKit.Hid (q * 5 < cells.length) := Lib.hid (by omega)
      have f1 : (0 : Int) ≤ (q : Int) := by omega
      have f2 : (q : Int) < (os.length : Int) := by omega
      clear hdd h1 h2 hh1 hh2 hM' HM hj hcl
      go_wp2_with (first | go_skip | ((first | ((with_reducible refine pre_box _ _ rfl ?_); refine lB hp rfl (slot_tmp rfl) rfl ?_; clear hp; intro b w1 hp) | ((with_reducible refine pre_load _ _ rfl ?_); first | refine lO hp rfl (slot_tmp rfl) ceEW0 aa5 ?_ | refine lA hp rfl (slot_tmp rfl) agg26 aa5 ?_) | ((with_reducible refine pre_store _ _ _ rfl ?_); (first | refine sO hp rfl (slot_tmp rfl) ceEW0 aa5 ?_ | refine sA hp rfl (slot_tmp rfl) (slot_tmp rfl) agg26 aa5 ?_ | refine sG hp rfl (slot_tmp rfl) (slot_tmp rfl) agg26 aa5 ?_); clear hp; intro w1 hp; simp only [spl, List.set_cons_zero, List.set_cons_succ] at hp)); simp only [put_some, put_none, List.set_cons_succ, List.set_cons_zero]))
      go_loopg [3] ws.length (fun k jv wr => ∃ (j : Nat) (cs : List Value) (Rw : List Blk), k + j = ws.length ∧ jv = .int .i64 j ∧ RowKit.Hid (OwnRow 3 1 (.slice wa ws.length wc) ws.length cs Rw) ∧
        Hp B w0 wr (⟨bH, [.int .i64 od, .slice (some ⟨go, 0, none⟩) os.length oc, .int .i64 nx, .int .i64 t0, .int .i64 t1, .int .i64 t2, .int .i64 t3, .slice fa fs.length fc], 26, 8⟩ :: ⟨go, cells, 67, oc * 5⟩ :: (Rw ++ (Rl ++ (RF ++ (Md ++ (M' ++ K)))))))
      case atStart => exact ⟨0, _, Rw, by omega, rfl, HW, hp.kp⟩
      case round =>
        clear hp HW
        obtain ⟨j, cs, Rw, hkj, rfl, HW, hp⟩ := hrel
        have HXR := HX1
        by_cases hlj : j < ws.length
        · obtain ⟨gw, rfl, _, _, rfl, hcl⟩ := HW.out.own (by omega)
          have HQL : RowKit.Hid (j < cs.length) := Lib.hid (by omega)
          have HNW := Lib.hid (own_put HW.out (q := j) (by omega) (.int .i64 777))
          have g1 : (0 : Int) ≤ (j : Int) := by omega
          have g2 : (j : Int) < (ws.length : Int) := by omega
          clear hcl
          simp only [List.cons_append, List.nil_append] at hp
          go_wp2_with (first | ((with_reducible refine pre_load 65 _ rfl ?_); refine lO hp rfl (slot_tmp rfl) cell65 at1 ?_ (hv := HXR.out); simp only [put_some, put_none, List.set_cons_succ, List.set_cons_zero]) | ((with_reducible refine pre_store 3 _ _ rfl ?_); refine sO hp rfl (slot_tmp rfl) cell3 at2 ?_ (hlen := HQL.out); clear hp; intro w1 hp; simp only [List.set_cons_succ, List.set_cons_zero] at hp; simp only [put_some, put_none, List.set_cons_succ, List.set_cons_zero]) | go_skip | ((first | ((with_reducible refine pre_box _ _ rfl ?_); refine lB hp rfl (slot_tmp rfl) rfl ?_; clear hp; intro b w1 hp) | ((with_reducible refine pre_load _ _ rfl ?_); first | refine lO hp rfl (slot_tmp rfl) ceEW0 aa5 ?_ | refine lA hp rfl (slot_tmp rfl) agg26 aa5 ?_) | ((with_reducible refine pre_store _ _ _ rfl ?_); (first | refine sO hp rfl (slot_tmp rfl) ceEW0 aa5 ?_ | refine sA hp rfl (slot_tmp rfl) (slot_tmp rfl) agg26 aa5 ?_ | refine sG hp rfl (slot_tmp rfl) (slot_tmp rfl) agg26 aa5 ?_); clear hp; intro w1 hp; simp only [spl, List.set_cons_zero, List.set_cons_succ] at hp)); simp only [put_some, put_none, List.set_cons_succ, List.set_cons_zero]))
          go_roundg (gk - 1)
          case measure => omega
          case rel => exact ⟨j + 1, _, _, by omega, by go_num, HNW, hp⟩
        · obtain rfl : j = ws.length := by omega
          have g2 : decide ((ws.length : Int) < (ws.length : Int)) = false := by simp
          go_wp2_with (first | ((with_reducible refine pre_load 65 _ rfl ?_); refine lO hp rfl (slot_tmp rfl) cell65 at1 ?_ (hv := HXR.out); simp only [put_some, put_none, List.set_cons_succ, List.set_cons_zero]) | go_skip | ((first | ((with_reducible refine pre_box _ _ rfl ?_); refine lB hp rfl (slot_tmp rfl) rfl ?_; clear hp; intro b w1 hp) | ((with_reducible refine pre_load _ _ rfl ?_); first | refine lO hp rfl (slot_tmp rfl) ceEW0 aa5 ?_ | refine lA hp rfl (slot_tmp rfl) agg26 aa5 ?_) | ((with_reducible refine pre_store _ _ _ rfl ?_); (first | refine sO hp rfl (slot_tmp rfl) ceEW0 aa5 ?_ | refine sA hp rfl (slot_tmp rfl) (slot_tmp rfl) agg26 aa5 ?_ | refine sG hp rfl (slot_tmp rfl) (slot_tmp rfl) agg26 aa5 ?_); clear hp; intro w1 hp; simp only [spl, List.set_cons_zero, List.set_cons_succ] at hp)); simp only [put_some, put_none, List.set_cons_succ, List.set_cons_zero]))
          clear g2 HXR hlj hkj
          replace hp := hp.kp (L' := ⟨bH, [.int .i64 od, .slice (some ⟨go, 0, none⟩) os.length oc, .int .i64 nx, .int .i64 t0, .int .i64 t1, .int .i64 t2, .int .i64 t3, .slice fa fs.length fc], 26, 8⟩ :: ⟨go, cells, 67, oc * 5⟩ :: (Rl ++ (Rw ++ (RF ++ (Md ++ (M' ++ K))))))
          go_loopg [4] ls.length (fun k jv wr => ∃ (j : Nat) (cs : List Value) (Rl : List Blk), k + j = ls.length ∧ jv = .int .i64 j ∧ RowKit.Hid (OwnRow 3 1 (.slice la ls.length lc) ls.length cs Rl) ∧
            Hp B w0 wr (⟨bH, [.int .i64 od, .slice (some ⟨go, 0, none⟩) os.length oc, .int .i64 nx, .int .i64 t0, .int .i64 t1, .int .i64 t2, .int .i64 t3, .slice fa fs.length fc], 26, 8⟩ :: ⟨go, cells, 67, oc * 5⟩ :: (Rl ++ (Rw ++ (RF ++ (Md ++ (M' ++ K)))))))
          case atStart => exact ⟨0, _, Rl, by omega, rfl, HL, hp⟩
          case round =>
            clear hp HL HW
            obtain ⟨j, cs, Rl, hkj, rfl, HL, hp⟩ := hrel
            have HXR := HX2
            by_cases hlj : j < ls.length
            · obtain ⟨gw, rfl, _, _, rfl, hcl⟩ := HL.out.own (by omega)
              have HQL : RowKit.Hid (j < cs.length) := Lib.hid (by omega)
              have HNW := Lib.hid (own_put HL.out (q := j) (by omega) (.int .i64 777))
              have g1 : (0 : Int) ≤ (j : Int) := by omega
              have g2 : (j : Int) < (ls.length : Int) := by omega
              clear hcl
              simp only [List.cons_append, List.nil_append] at hp
              go_wp2_with (first | ((with_reducible refine pre_load 65 _ rfl ?_); refine lO hp rfl (slot_tmp rfl) cell65 at1 ?_ (hv := HXR.out); simp only [put_some, put_none, List.set_cons_succ, List.set_cons_zero]) | ((with_reducible refine pre_store 3 _ _ rfl ?_); refine sO hp rfl (slot_tmp rfl) cell3 at2 ?_ (hlen := HQL.out); clear hp; intro w1 hp; simp only [List.set_cons_succ, List.set_cons_zero] at hp; simp only [put_some, put_none, List.set_cons_succ, List.set_cons_zero]) | go_skip | ((first | ((with_reducible refine pre_box _ _ rfl ?_); refine lB hp rfl (slot_tmp rfl) rfl ?_; clear hp; intro b w1 hp) | ((with_reducible refine pre_load _ _ rfl ?_); first | refine lO hp rfl (slot_tmp rfl) ceEW0 aa5 ?_ | refine lA hp rfl (slot_tmp rfl) agg26 aa5 ?_) | ((with_reducible refine pre_store _ _ _ rfl ?_); (first | refine sO hp rfl (slot_tmp rfl) ceEW0 aa5 ?_ | refine sA hp rfl (slot_tmp rfl) (slot_tmp rfl) agg26 aa5 ?_ | refine sG hp rfl (slot_tmp rfl) (slot_tmp rfl) agg26 aa5 ?_); clear hp; intro w1 hp; simp only [spl, List.set_cons_zero, List.set_cons_succ] at hp)); simp only [put_some, put_none, List.set_cons_succ, List.set_cons_zero]))
              go_roundg (gk - 1)
              case measure => omega
              case rel => exact ⟨j + 1, _, _, by omega, by go_num, HNW, hp⟩
            · obtain rfl : j = ls.length := by omega
              have g2 : decide ((ls.length : Int) < (ls.length : Int)) = false := by simp
              have HNO := Lib.hid (own_put HO.out (q := q * 5) (by omega) (.int .i64 777))
              have HNH : RowKit.Hid (HeadsAt os (q + 1) (cells.set (q * 5) (.int .i64 777))) := Lib.hid (fun i o hi ho => by
                have := HHD.out i o (by omega) ho
                rw [List.getElem?_set_ne (by omega), List.getElem?_set_ne (by omega)]
                exact this)
              clear HHD HO
              go_wp2_with (first | ((with_reducible refine pre_load 65 _ rfl ?_); refine lO hp rfl (slot_tmp rfl) cell65 at1 ?_ (hv := HXR.out); simp only [put_some, put_none, List.set_cons_succ, List.set_cons_zero]) | ((with_reducible refine pre_store 3 _ _ rfl ?_); refine sO hp rfl (slot_tmp rfl) cell3 at1 ?_ (hlen := HQH.out); clear hp; intro w1 hp; simp only [List.set_cons_succ, List.set_cons_zero] at hp; simp only [put_some, put_none, List.set_cons_succ, List.set_cons_zero]) | go_skip | ((first | ((with_reducible refine pre_box _ _ rfl ?_); refine lB hp rfl (slot_tmp rfl) rfl ?_; clear hp; intro b w1 hp) | ((with_reducible refine pre_load _ _ rfl ?_); first | refine lO hp rfl (slot_tmp rfl) ceEW0 aa5 ?_ | refine lA hp rfl (slot_tmp rfl) agg26 aa5 ?_) | ((with_reducible refine pre_store _ _ _ rfl ?_); (first | refine sO hp rfl (slot_tmp rfl) ceEW0 aa5 ?_ | refine sA hp rfl (slot_tmp rfl) (slot_tmp rfl) agg26 aa5 ?_ | refine sG hp rfl (slot_tmp rfl) (slot_tmp rfl) agg26 aa5 ?_); clear hp; intro w1 hp; simp only [spl, List.set_cons_zero, List.set_cons_succ] at hp)); simp only [put_some, put_none, List.set_cons_succ, List.set_cons_zero]))
              go_roundg (os.length - (q + 1))
              case measure => omega
              case rel => exact ⟨q + 1, _, _, Md ++ (Rl ++ Rw), M', by omega, by go_num, HNO, HNH, HM2, hp.kp⟩
    · obtain rfl : q = os.length := by omega
      have f2 : decide ((os.length : Int) < (os.length : Int)) = false := by simp
      clear HHD HM
      go_wp2_with (first | go_skip | ((first | ((with_reducible refine pre_box _ _ rfl ?_); refine lB hp rfl (slot_tmp rfl) rfl ?_; clear hp; intro b w1 hp) | ((with_reducible refine pre_load _ _ rfl ?_); first | refine lO hp rfl (slot_tmp rfl) ceEW0 aa5 ?_ | refine lA hp rfl (slot_tmp rfl) agg26 aa5 ?_) | ((with_reducible refine pre_store _ _ _ rfl ?_); (first | refine sO hp rfl (slot_tmp rfl) ceEW0 aa5 ?_ | refine sA hp rfl (slot_tmp rfl) (slot_tmp rfl) agg26 aa5 ?_ | refine sG hp rfl (slot_tmp rfl) (slot_tmp rfl) agg26 aa5 ?_); clear hp; intro w1 hp; simp only [spl, List.set_cons_zero, List.set_cons_succ] at hp)); simp only [put_some, put_none, List.set_cons_succ, List.set_cons_zero]))
      clear f2 hlq hkq
      replace hp := hp.kp (L' := ⟨bH, [.int .i64 od, .slice oa os.length oc, .int .i64 nx, .int .i64 t0, .int .i64 t1, .int .i64 t2, .int .i64 t3, .slice fa fs.length fc], 26, 8⟩ :: (RF ++ (RO ++ (Md ++ (Mr ++ K)))))
      go_loopg [5] fs.length (fun k jv wr => ∃ (j : Nat) (cs : List Value) (RF : List Blk), k + j = fs.length ∧ jv = .int .i64 j ∧ RowKit.Hid (OwnRow 64 2 (.slice fa fs.length fc) fs.length cs RF) ∧ Hp B w0 wr (⟨bH, [.int .i64 od, .slice oa os.length oc, .int .i64 nx, .int .i64 t0, .int .i64 t1, .int .i64 t2, .int .i64 t3, .slice fa fs.length fc], 26, 8⟩ :: (RF ++ (RO ++ (Md ++ (Mr ++ K))))))
      case atStart => exact ⟨0, _, RF, by omega, rfl, HF, hp⟩
      case round =>
        clear hp HF
        obtain ⟨j, cs, RF, hkj, rfl, HF, hp⟩ := hrel
        by_cases hlj : j < fs.length
        · obtain ⟨gf, rfl, _, _, rfl, hcl⟩ := HF.out.own (by omega)
          have HQH : RowKit.Hid (j * 2 < cs.length) := Lib.hid (by omega)
          have HNW := Lib.hid (own_put HF.out (q := j * 2) (by omega) (.int .i64 777))
          have g1 : (0 : Int) ≤ (j : Int) := by omega
          have g2 : (j : Int) < (fs.length : Int) := by omega
          clear hcl
          simp only [List.cons_append, List.nil_append] at hp
          go_wp2_with (first | ((with_reducible refine pre_store 3 _ _ rfl ?_); refine sO hp rfl (slot_tmp rfl) cell3 at1 ?_ (hlen := HQH.out); clear hp; intro w1 hp; simp only [List.set_cons_succ, List.set_cons_zero] at hp; simp only [put_some, put_none, List.set_cons_succ, List.set_cons_zero]) | go_skip | ((first | ((with_reducible refine pre_box _ _ rfl ?_); refine lB hp rfl (slot_tmp rfl) rfl ?_; clear hp; intro b w1 hp) | ((with_reducible refine pre_load _ _ rfl ?_); first | refine lO hp rfl (slot_tmp rfl) ceEW0 aa5 ?_ | refine lA hp rfl (slot_tmp rfl) agg26 aa5 ?_) | ((with_reducible refine pre_store _ _ _ rfl ?_); (first | refine sO hp rfl (slot_tmp rfl) ceEW0 aa5 ?_ | refine sA hp rfl (slot_tmp rfl) (slot_tmp rfl) agg26 aa5 ?_ | refine sG hp rfl (slot_tmp rfl) (slot_tmp rfl) agg26 aa5 ?_); clear hp; intro w1 hp; simp only [spl, List.set_cons_zero, List.set_cons_succ] at hp)); simp only [put_some, put_none, List.set_cons_succ, List.set_cons_zero]))
          go_roundg (gk - 1)
          case measure => omega
          case rel => exact ⟨j + 1, _, _, by omega, by go_num, HNW, hp⟩
        · obtain rfl : j = fs.length := by omega
          have g2 : decide ((fs.length : Int) < (fs.length : Int)) = false := by simp
          go_wp2_with (first | go_skip | ((first | ((with_reducible refine pre_box _ _ rfl ?_); refine lB hp rfl (slot_tmp rfl) rfl ?_; clear hp; intro b w1 hp) | ((with_reducible refine pre_load _ _ rfl ?_); first | refine lO hp rfl (slot_tmp rfl) ceEW0 aa5 ?_ | refine lA hp rfl (slot_tmp rfl) agg26 aa5 ?_) | ((with_reducible refine pre_store _ _ _ rfl ?_); (first | refine sO hp rfl (slot_tmp rfl) ceEW0 aa5 ?_ | refine sA hp rfl (slot_tmp rfl) (slot_tmp rfl) agg26 aa5 ?_ | refine sG hp rfl (slot_tmp rfl) (slot_tmp rfl) agg26 aa5 ?_); clear hp; intro w1 hp; simp only [spl, List.set_cons_zero, List.set_cons_succ] at hp)); simp only [put_some, put_none, List.set_cons_succ, List.set_cons_zero]))
          exact bodyPost_end (results_none Tryz.results13 _ _ _) rfl ⟨rfl, RF ++ (RO ++ (Md ++ Mr)), hp.kp⟩
end Go.Proofs.YtppdjlgjcdmiaaaGreat
