/- Parts of the proof. -/
import Derived.Test.YtaafajaadfgaoaaGreatIt11
open List renaming set_cons_zero → zSet, set_cons_succ → sSet
/- The walk of image.Check. -/
set_option linter.unusedSimpArgs false
set_option linter.unusedVariables false
namespace Go.Proofs.YtaafajaadfgaoaaGreat
open Go.RowKit
theorem gaYK0 {ty : TypeId} {k : Nat} (h : aggB Tryz.prog ty k = true := by with_reducible first | exact agg50 | exact agg47 | exact agg120) : aggB Tryz.prog ty k = true := h
theorem ceYK1 {ty : TypeId} (h : cellB Tryz.prog ty = true := by with_reducible first | exact cell3 | exact cell4 | exact cell48 | exact cell37) : cellB Tryz.prog ty = true := h
theorem row_ways (last : Int) (x : Rw) : (decide (last < x.c) = false ∧ rowOk last x = false) ∨ (decide (last < x.c) = true ∧ decide (x.c ≤ 4) = false ∧ rowOk last x = false) ∨
    (decide (last < x.c) = true ∧ decide (x.c ≤ 4) = true ∧ decide (1 ≤ x.s) = false ∧ rowOk last x = false) ∨ (decide (last < x.c) = true ∧ decide (x.c ≤ 4) = true ∧ decide (1 ≤ x.s) = true ∧ decide (x.s ≤ 1000000) = false ∧ rowOk last x = false) ∨
    (decide (last < x.c) = true ∧ decide (x.c ≤ 4) = true ∧ decide (1 ≤ x.s) = true ∧ decide (x.s ≤ 1000000) = true ∧ decide (0 ≤ x.e) = false ∧ rowOk last x = false) ∨
    (decide (last < x.c) = true ∧ decide (x.c ≤ 4) = true ∧ decide (1 ≤ x.s) = true ∧ decide (x.s ≤ 1000000) = true ∧ decide (0 ≤ x.e) = true ∧ decide (x.e ≤ 65535) = false ∧ rowOk last x = false) ∨
    (decide (last < x.c) = true ∧ decide (x.c ≤ 4) = true ∧ decide (1 ≤ x.s) = true ∧ decide (x.s ≤ 1000000) = true ∧ decide (0 ≤ x.e) = true ∧ decide (x.e ≤ 65535) = true ∧ rowOk last x = true) := by
  unfold rowOk
  simp only [decide_eq_true_eq, decide_eq_false_iff_not]
  omega
def errS (b : Bool) : Int := if b then 0 else 60
set_option maxRecDepth 100000 in
set_option maxHeartbeats 8000000 in
theorem check35 (x : Sv) (r : Bool) (hr : stB x = r) (hs : x.Small) (w : World) (hx0 : x.Is w) :
    Calls Tryz.prog 35 #[.agg (svL x).toArray] w fun e w' => e = .returned (.int .i64 (errS r)) ∧ Below w.heap.size w w' := by
  obtain ⟨⟨od, oa, os, oc, nx, t0, t1, t2, t3, fa, fs, fc⟩, ra, rs, rc⟩ := x
  obtain ⟨hb, hhb⟩ : ∃ b, hrightB ⟨od, oa, os, oc, nx, t0, t1, t2, t3, fa, fs, fc⟩ = b := ⟨_, rfl⟩
  have hq : (hb && rowsOk 0 rs) = r := by rw [← hr]; unfold stB; simp only; rw [hhb]
  obtain ⟨hi, hri⟩ := hx0
  simp only at hi hri
  simp only [svL, hvL, List.cons_append, List.nil_append]
  have hl : rs.length ≤ 1000 := hs.2
  have HB := Lib.hid hhb
  have HQ := Lib.hid hq
  have HSS : RowKit.Hid (Hv.Small ⟨od, oa, os, oc, nx, t0, t1, t2, t3, fa, fs, fc⟩) := Lib.hid hs.1
  have HIS := Lib.hid hi
  have HR : RowKit.Hid (RowIs w ra (rs.flatMap rwV)) := Lib.hid hri
  have he : ((errI hb == 0) : Bool) = hb := by cases hb <;> rfl
  have hp := Hp.start w
  clear hr hhb hq hi hri hs
  go_enter Tryz.func35, Tryz.ntmps35
  go_wp2_with (first | (go_at_call 74; (with_reducible refine (check74L od oa os oc nx t0 t1 t2 t3 fa fs fc _ HB.out HSS.out _ (HIS.out.below hp.below)).mono ?_); rintro e w1 ⟨rfl, hb⟩; replace hp := hp.call hb; clear hb) | go_skip | ((first | ((with_reducible refine pre_alloc _ rfl ?_); refine lZ hp rfl zero120 ?_; clear hp; intro b w1 hp) | ((with_reducible refine pre_box _ _ rfl ?_); refine lB hp rfl (sTm rfl) rfl ?_; clear hp; intro b w1 hp) | ((with_reducible refine pre_load _ _ rfl ?_); first | refine lO hp rfl (sTm rfl) ceYK1 aa14 ?_ | refine lA hp rfl (sTm rfl) gaYK0 aa14 ?_ | refine lR hp rfl (sTm rfl) gaYK0 HX.out ?_) | ((with_reducible refine pre_store _ _ _ rfl ?_); (first | refine sO hp rfl (sTm rfl) ceYK1 aa14 ?_ | refine sA hp rfl (sTm rfl) (sTm rfl) gaYK0 aa14 ?_ | refine sG hp rfl (sTm rfl) (sTm rfl) gaYK0 aa14 ?_); clear hp; intro w1 hp; simp only [spl, zSet, sSet] at hp)); simp only [put_some, put_none, sSet, zSet]))
  obtain ⟨b1, rfl⟩ := hp.id0
  go_loopg [3, 4, 14] rs.length (fun k o l i wr => ∃ (q : Nat) (ok : Bool) (last : Int) (L : List Blk), k + q = rs.length ∧ o = .bool ok ∧ l = .int .i64 last ∧ i = .int .i64 q ∧ RowKit.Hid ((ok && rowsOk last (rs.drop q)) = r) ∧ Hp w.heap.size w wr L)
  case atStart => exact ⟨0, hb, 0, _, by omega, by first | rfl | (rw [he]), rfl, rfl, Lib.hid (by simpa using HQ.out), hp⟩
  case round =>
    clear hp
    obtain ⟨q, ok, last, L, hkq, rfl, rfl, rfl, HI, hp⟩ := hrel
    by_cases hlt : q < rs.length
    · obtain ⟨bq, off, rfl, hx⟩ := HR.out.elems 4 rwV_len (by omega) (by omega)
      have hj := List.getElem?_eq_getElem hlt
      replace hx := hx q _ hj
      have hdrop := List.drop_eq_getElem_cons hlt
      have hin := HI.out
      rw [hdrop] at hin
      clear hj hdrop HI
      generalize rs[q] = x at hx hin
      have hw := row_ways last x
      obtain ⟨yc, ys, ye, yv⟩ := x
      simp only [rwV] at hx
      simp only [rowsOk] at hin
      simp only at hw
      have HX := Lib.hid hx
      have HIN := Lib.hid hin
      have e1 : (0 : Int) ≤ (q : Int) := by omega
      have e2 : (q : Int) < (rs.length : Int) := by omega
      clear hx hin
      cases ok with
      | false =>
        clear hw
        go_wp2_with (first | go_skip | ((first | ((with_reducible refine pre_alloc _ rfl ?_); refine lZ hp rfl zero120 ?_; clear hp; intro b w1 hp) | ((with_reducible refine pre_box _ _ rfl ?_); refine lB hp rfl (sTm rfl) rfl ?_; clear hp; intro b w1 hp) | ((with_reducible refine pre_load _ _ rfl ?_); first | refine lO hp rfl (sTm rfl) ceYK1 aa14 ?_ | refine lA hp rfl (sTm rfl) gaYK0 aa14 ?_ | refine lR hp rfl (sTm rfl) gaYK0 HX.out ?_) | ((with_reducible refine pre_store _ _ _ rfl ?_); (first | refine sO hp rfl (sTm rfl) ceYK1 aa14 ?_ | refine sA hp rfl (sTm rfl) (sTm rfl) gaYK0 aa14 ?_ | refine sG hp rfl (sTm rfl) (sTm rfl) gaYK0 aa14 ?_); clear hp; intro w1 hp; simp only [spl, zSet, sSet] at hp)); simp only [put_some, put_none, sSet, zSet]))
        go_roundg (gk - 1)
        case measure => omega
        case rel => exact ⟨q + 1, false, yc, _, by omega, rfl, rfl, by go_num, Lib.hid (by simpa using HIN.out), hp⟩
      | true =>
        rcases hw with ⟨d1, g⟩ | ⟨d1, d2, g⟩ | ⟨d1, d2, d3, g⟩ | ⟨d1, d2, d3, d4, g⟩ | ⟨d1, d2, d3, d4, d5, g⟩ | ⟨d1, d2, d3, d4, d5, d6, g⟩ | ⟨d1, d2, d3, d4, d5, d6, g⟩
        all_goals
          have HG := Lib.hid g
          clear g
          go_wp2_with (first | go_skip | ((first | ((with_reducible refine pre_alloc _ rfl ?_); refine lZ hp rfl zero120 ?_; clear hp; intro b w1 hp) | ((with_reducible refine pre_box _ _ rfl ?_); refine lB hp rfl (sTm rfl) rfl ?_; clear hp; intro b w1 hp) | ((with_reducible refine pre_load _ _ rfl ?_); first | refine lO hp rfl (sTm rfl) ceYK1 aa14 ?_ | refine lA hp rfl (sTm rfl) gaYK0 aa14 ?_ | refine lR hp rfl (sTm rfl) gaYK0 HX.out ?_) | ((with_reducible refine pre_store _ _ _ rfl ?_); (first | refine sO hp rfl (sTm rfl) ceYK1 aa14 ?_ | refine sA hp rfl (sTm rfl) (sTm rfl) gaYK0 aa14 ?_ | refine sG hp rfl (sTm rfl) (sTm rfl) gaYK0 aa14 ?_); clear hp; intro w1 hp; simp only [spl, zSet, sSet] at hp)); simp only [put_some, put_none, sSet, zSet]))
          go_roundg (gk - 1)
          case measure => omega
          case rel => exact ⟨q + 1, _, yc, _, by omega, rfl, rfl, by go_num, Lib.hid (by have h := HIN.out; rw [HG.out] at h; simpa using h), hp⟩
    · have e2 : decide ((q : Int) < (rs.length : Int)) = false := by simp; omega
      have hr : ok = r := by have h := HI.out; rw [List.drop_eq_nil_of_le (by omega)] at h; simpa [rowsOk] using h
      subst hr
      clear HI HQ
      cases ok with
      | true =>
        go_wp2_with (first | go_skip | ((first | ((with_reducible refine pre_alloc _ rfl ?_); refine lZ hp rfl zero120 ?_; clear hp; intro b w1 hp) | ((with_reducible refine pre_box _ _ rfl ?_); refine lB hp rfl (sTm rfl) rfl ?_; clear hp; intro b w1 hp) | ((with_reducible refine pre_load _ _ rfl ?_); first | refine lO hp rfl (sTm rfl) ceYK1 aa14 ?_ | refine lA hp rfl (sTm rfl) gaYK0 aa14 ?_ | refine lR hp rfl (sTm rfl) gaYK0 HX.out ?_) | ((with_reducible refine pre_store _ _ _ rfl ?_); (first | refine sO hp rfl (sTm rfl) ceYK1 aa14 ?_ | refine sA hp rfl (sTm rfl) (sTm rfl) gaYK0 aa14 ?_ | refine sG hp rfl (sTm rfl) (sTm rfl) gaYK0 aa14 ?_); clear hp; intro w1 hp; simp only [spl, zSet, sSet] at hp)); simp only [put_some, put_none, sSet, zSet]))
        go_ret
        exact ⟨rfl, hp.below⟩
      | false =>
        go_wp2_with (first | go_skip | ((first | ((with_reducible refine pre_alloc _ rfl ?_); refine lZ hp rfl zero120 ?_; clear hp; intro b w1 hp) | ((with_reducible refine pre_box _ _ rfl ?_); refine lB hp rfl (sTm rfl) rfl ?_; clear hp; intro b w1 hp) | ((with_reducible refine pre_load _ _ rfl ?_); first | refine lO hp rfl (sTm rfl) ceYK1 aa14 ?_ | refine lA hp rfl (sTm rfl) gaYK0 aa14 ?_ | refine lR hp rfl (sTm rfl) gaYK0 HX.out ?_) | ((with_reducible refine pre_store _ _ _ rfl ?_); (first | refine sO hp rfl (sTm rfl) ceYK1 aa14 ?_ | refine sA hp rfl (sTm rfl) (sTm rfl) gaYK0 aa14 ?_ | refine sG hp rfl (sTm rfl) (sTm rfl) gaYK0 aa14 ?_); clear hp; intro w1 hp; simp only [spl, zSet, sSet] at hp)); simp only [put_some, put_none, sSet, zSet]))
        go_ret
        exact ⟨rfl, hp.below⟩
theorem check35L (od : Int) (oa : Option Addr) (os : List Ob) (oc : Nat) (nx t0 t1 t2 t3 : Int) (fa : Option Addr) (fs : List Bl) (fc : Nat) (ra : Option Addr) (rs : List Rw) (rc : Nat) (r : Bool) (hr : stB ⟨⟨od, oa, os, oc, nx, t0, t1, t2, t3, fa, fs, fc⟩, ra, rs, rc⟩ = r)
    (hs : Sv.Small ⟨⟨od, oa, os, oc, nx, t0, t1, t2, t3, fa, fs, fc⟩, ra, rs, rc⟩) (w : World) (h : Sv.Is w ⟨⟨od, oa, os, oc, nx, t0, t1, t2, t3, fa, fs, fc⟩, ra, rs, rc⟩) :
    Calls Tryz.prog 35 #[.agg #[.int .i64 od, .slice oa os.length oc, .int .i64 nx, .int .i64 t0, .int .i64 t1, .int .i64 t2, .int .i64 t3, .slice fa fs.length fc, .slice ra rs.length rc]] w fun e w' => e = .returned (.int .i64 (errS r)) ∧ Below w.heap.size w w' := check35 _ r hr hs w h
end Go.Proofs.YtaafajaadfgaoaaGreat
