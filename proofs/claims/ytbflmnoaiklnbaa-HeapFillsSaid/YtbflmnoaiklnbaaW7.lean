/- The walk of the law HeapFills. -/
import Derived.Test.YtbflmnoaiklnbaaW6P
import Derived.Test.YtbflmnoaiklnbaaW2
set_option linter.unusedSimpArgs false
set_option linter.unusedVariables false
namespace Go.Proofs.Ytbflmnoaiklnbaa
open Go.RowKit
theorem gaW70 {ty : TypeId} {k : Nat} (h : aggB Try.prog ty k = true := by with_reducible first | exact agg26 | exact agg63 | exact agg61) : aggB Try.prog ty k = true := h
theorem ceW71 {ty : TypeId} (h : cellB Try.prog ty = true := by with_reducible first | exact cell3 | exact cell4 | exact cell30 | exact cell59 | exact cell24) : cellB Try.prog ty = true := h
theorem ceW72 {ty : TypeId} (h : cellB Try.prog ty = true := by with_reducible first | exact cell3 | exact cell24 | exact cell30) : cellB Try.prog ty = true := h
def KeptF (w0 : World) (R : List Blk) (Q : World → Prop) : Prop := ∀ (w : World) (L : List Blk), Hp w0.heap.size w0 w L → (∀ p ∈ R, p ∈ L) → Q w
theorem KeptF.at {w0 : World} {R : List Blk} {Q : World → Prop} (h : KeptF w0 R Q) {w : World} {L : List Blk} (hp : Hp w0.heap.size w0 w L) (hm : ∀ p ∈ R, p ∈ L) : Q w := h w L hp hm
theorem KeptF.of {w0 : World} {R : List Blk} {Q : World → Prop} (h : Kept R Q) : KeptF w0 R Q := fun w L hp hm => h _ _ w L hp hm
theorem fill_sum {l : List Bl} {j : Nat} {b : Bl} (h : l[j]? = some b) (hl : l.length ≤ 600) (ho : ∀ b ∈ l, b.o ≤ 8) : wrap64 (sumB (l.take j) + pw b.o) = sumB (l.take (j + 1)) := by
  have h1 : sumB (l.take j) + pw b.o = sumB (l.take (j + 1)) := by
    rw [List.take_add_one, h, sumB_append]; simp [sumB]
  rw [h1]
  have key : ∀ k : List Bl, (∀ b ∈ k, b.o ≤ 8) → sumB k ≤ k.length * 256 := fun k => by
    induction k with
    | nil => intro _; simp [sumB]
    | cons b k ih =>
      intro hk
      rw [sumB_cons]
      have := ih (fun c hc => hk c (by simp [hc]))
      have := pw_le (hk b (by simp))
      simp only [List.length_cons]; omega
  have h2 := key (l.take (j + 1)) (fun b hb => ho b (List.mem_of_mem_take hb))
  have h3 := sumB_nonneg (l.take (j + 1))
  have h4 : (l.take (j + 1)).length ≤ l.length := by rw [List.length_take]; omega
  exact IntWalk.wrap64_in _ ⟨by omega, by omega⟩
structure FillsP (x : Hv) (n : Nat) : Prop where
  lo : 1 ≤ x.nx
  hi : x.nx ≤ 999700
  n8 : n ≤ 256
  sum : (n : Int) = sumB x.fs
  one : ∀ (j : Nat) (y : Hv), j < n → y.Sm (fillA x j) → (doP y ⟨1, 0, 0, 0, 0, 0, 0⟩).2 = (0, x.nx + j) ∧ (doP y ⟨1, 0, 0, 0, 0, 0, 0⟩).1.Sm (fillA x (j + 1))
  full : ∀ y : Hv, y.Sm (fillA x n) → (doP y ⟨1, 0, 0, 0, 0, 0, 0⟩).2 = (50, 0) ∧ y.fs = []
  back : ∀ (j : Nat) (y : Hv), j < n → y.Sm (fillB x n j) → (doP y ⟨2, x.nx + j, 0, 0, 0, 0, 0⟩).2 = (0, 0) ∧ (doP y ⟨2, x.nx + j, 0, 0, 0, 0, 0⟩).1.Sm (fillB x n (j + 1))
  fin : ∀ y : Hv, y.Sm (fillB x n n) → ({ y with nx := x.nx } : Hv).Sm x
  sa : ∀ j, (fillA x j).Small
  sb : ∀ j, (fillB x n j).Small
theorem fills_P {x : Hv} (hx : HRight x) (hn : x.nx ≤ 999700) : FillsP x (sumB x.fs).toNat := by
  have hs := sum_max hx
  have e : ((sumB x.fs).toNat : Int) = sumB x.fs := by omega
  refine ⟨hx.lo, hn, by omega, e, fun j y hj hy => ?_, fun y hy => ?_, fun j y hj hy => ?_, fun y hy => ?_, fun j => (fillA_right hx j).small, fun j => (fillB_right hx _ j).small⟩
  · obtain ⟨ps, _, h2⟩ := fillA_at hx hn j (by omega)
    have h3 := doP_sm hy (opA 0 0)
    rw [doP_yes (fillA_right hx j)] at h3
    exact ⟨h3.1.trans (h2 (by omega)), h3.2⟩
  · obtain ⟨h1, h2⟩ := fill_full hx hn e
    have h3 := doP_sm hy (opA 0 0)
    rw [doP_yes (fillA_right hx _)] at h3
    exact ⟨h3.1.trans h1, hy.fs.trans h2⟩
  · have h3 := doP_sm hy (opX (x.nx + j))
    rw [doP_yes (fillB_right hx _ j)] at h3
    exact ⟨h3.1.trans (fillB_one hx hn e hj), h3.2⟩
  · have h1 := fill_back hx hn e
    obtain ⟨a1, a2, a3, a4, a5, a6, a7, a8⟩ := hy
    generalize fillB x (sumB x.fs).toNat (sumB x.fs).toNat = z at *
    rw [← h1]
    exact ⟨a1, rfl, a3, a4, a5, a6, a7, a8⟩
set_option maxRecDepth 100000 in
set_option maxHeartbeats 16000000 in
theorem law10_no (od : Int) (oa : Option Addr) (os : List Ob) (oc : Nat) (nx t0 t1 t2 t3 : Int) (fa : Option Addr) (fs : List Bl) (fc : Nat) (w : World) (HIS : RowKit.Hid (Hv.Is w ⟨od, oa, os, oc, nx, t0, t1, t2, t3, fa, fs, fc⟩)) (h : hrightB ⟨od, oa, os, oc, nx, t0, t1, t2, t3, fa, fs, fc⟩ = false ∨ (hrightB ⟨od, oa, os, oc, nx, t0, t1, t2, t3, fa, fs, fc⟩ = true ∧ 999700 < nx)) :
    Calls Try.prog 10 #[.agg #[.int .i64 od, .slice oa os.length oc, .int .i64 nx, .int .i64 t0, .int .i64 t1, .int .i64 t2, .int .i64 t3, .slice fa fs.length fc]] w fun e w' => e = .returned (.bool true) ∧ Below w.heap.size w w' := by
  have hp := Hp.start w
  rcases h with hq | ⟨hq, hn⟩
  · have HQ := Lib.hid hq
    clear hq
    go_enter Try.func10, Try.ntmps10
    go_wp2_with (first | (go_at_call 12; (with_reducible refine (big12L od oa os oc nx t0 t1 t2 t3 fa fs fc _ (HIS.out.below hp.below)).mono ?_); rintro e w1 ⟨bb, rfl, hbb, hb⟩; replace hp := hp.call hb; clear hb; cases bb) | go_skip | ((first | ((with_reducible refine pre_alloc _ rfl ?_); refine lZ hp rfl (by with_reducible first | exact zero63 | exact zero26) ?_; clear hp; intro b w1 hp) | ((with_reducible refine pre_box _ _ rfl ?_); refine lB hp rfl (slot_tmp rfl) rfl ?_; clear hp; intro b w1 hp) | ((with_reducible refine pre_load _ _ rfl ?_); first | refine lO hp rfl (slot_tmp rfl) ceW71 aa5 ?_ | refine lA hp rfl (slot_tmp rfl) gaW70 aa5 ?_) | ((with_reducible refine pre_store _ _ _ rfl ?_); (first | refine sO hp rfl (slot_tmp rfl) ceW71 aa5 ?_ | refine sA hp rfl (slot_tmp rfl) (slot_tmp rfl) gaW70 aa5 ?_ | refine sG hp rfl (slot_tmp rfl) (slot_tmp rfl) gaW70 aa5 ?_); clear hp; intro w1 hp; simp only [spl, List.set_cons_zero, List.set_cons_succ] at hp)); simp only [put_some, put_none, List.set_cons_succ, List.set_cons_zero]))
    · have HSS := Lib.hid (hbb (by first | rfl | trivial))
      clear hbb
      go_wp2_with (first | (go_at_call 34; (with_reducible refine (check34L od oa os oc nx t0 t1 t2 t3 fa fs fc _ HQ.out HSS.out _ (HIS.out.below hp.below)).mono ?_); rintro e w1 ⟨rfl, hb⟩; replace hp := hp.call hb; clear hb; first | rw [errI_true] | rw [errI_false]) | (go_at_call 35; (with_reducible refine (fresh35 _).mono ?_); rintro e w1 ⟨rfl, hb⟩; replace hp := hp.call hb; clear hb) | go_skip | ((first | ((with_reducible refine pre_alloc _ rfl ?_); refine lZ hp rfl (by with_reducible first | exact zero63 | exact zero26) ?_; clear hp; intro b w1 hp) | ((with_reducible refine pre_box _ _ rfl ?_); refine lB hp rfl (slot_tmp rfl) rfl ?_; clear hp; intro b w1 hp) | ((with_reducible refine pre_load _ _ rfl ?_); first | refine lO hp rfl (slot_tmp rfl) ceW71 aa5 ?_ | refine lA hp rfl (slot_tmp rfl) gaW70 aa5 ?_) | ((with_reducible refine pre_store _ _ _ rfl ?_); (first | refine sO hp rfl (slot_tmp rfl) ceW71 aa5 ?_ | refine sA hp rfl (slot_tmp rfl) (slot_tmp rfl) gaW70 aa5 ?_ | refine sG hp rfl (slot_tmp rfl) (slot_tmp rfl) gaW70 aa5 ?_); clear hp; intro w1 hp; simp only [spl, List.set_cons_zero, List.set_cons_succ] at hp)); simp only [put_some, put_none, List.set_cons_succ, List.set_cons_zero]))
      go_ret
      exact ⟨rfl, hp.below⟩
    · go_wp2_with (first | (go_at_call 34; (with_reducible refine (check34L od oa os oc nx t0 t1 t2 t3 fa fs fc _ HQ.out HSS.out _ (HIS.out.below hp.below)).mono ?_); rintro e w1 ⟨rfl, hb⟩; replace hp := hp.call hb; clear hb; first | rw [errI_true] | rw [errI_false]) | (go_at_call 35; (with_reducible refine (fresh35 _).mono ?_); rintro e w1 ⟨rfl, hb⟩; replace hp := hp.call hb; clear hb) | go_skip | ((first | ((with_reducible refine pre_alloc _ rfl ?_); refine lZ hp rfl (by with_reducible first | exact zero63 | exact zero26) ?_; clear hp; intro b w1 hp) | ((with_reducible refine pre_box _ _ rfl ?_); refine lB hp rfl (slot_tmp rfl) rfl ?_; clear hp; intro b w1 hp) | ((with_reducible refine pre_load _ _ rfl ?_); first | refine lO hp rfl (slot_tmp rfl) ceW71 aa5 ?_ | refine lA hp rfl (slot_tmp rfl) gaW70 aa5 ?_) | ((with_reducible refine pre_store _ _ _ rfl ?_); (first | refine sO hp rfl (slot_tmp rfl) ceW71 aa5 ?_ | refine sA hp rfl (slot_tmp rfl) (slot_tmp rfl) gaW70 aa5 ?_ | refine sG hp rfl (slot_tmp rfl) (slot_tmp rfl) gaW70 aa5 ?_); clear hp; intro w1 hp; simp only [spl, List.set_cons_zero, List.set_cons_succ] at hp)); simp only [put_some, put_none, List.set_cons_succ, List.set_cons_zero]))
      go_ret
      exact ⟨rfl, hp.below⟩
  · have HQ := Lib.hid hq
    have e1 : decide (999700 < nx) = true := decide_eq_true hn
    clear hq
    go_enter Try.func10, Try.ntmps10
    go_wp2_with (first | (go_at_call 12; (with_reducible refine (big12L od oa os oc nx t0 t1 t2 t3 fa fs fc _ (HIS.out.below hp.below)).mono ?_); rintro e w1 ⟨bb, rfl, hbb, hb⟩; replace hp := hp.call hb; clear hb; cases bb) | go_skip | ((first | ((with_reducible refine pre_alloc _ rfl ?_); refine lZ hp rfl (by with_reducible first | exact zero63 | exact zero26) ?_; clear hp; intro b w1 hp) | ((with_reducible refine pre_box _ _ rfl ?_); refine lB hp rfl (slot_tmp rfl) rfl ?_; clear hp; intro b w1 hp) | ((with_reducible refine pre_load _ _ rfl ?_); first | refine lO hp rfl (slot_tmp rfl) ceW71 aa5 ?_ | refine lA hp rfl (slot_tmp rfl) gaW70 aa5 ?_) | ((with_reducible refine pre_store _ _ _ rfl ?_); (first | refine sO hp rfl (slot_tmp rfl) ceW71 aa5 ?_ | refine sA hp rfl (slot_tmp rfl) (slot_tmp rfl) gaW70 aa5 ?_ | refine sG hp rfl (slot_tmp rfl) (slot_tmp rfl) gaW70 aa5 ?_); clear hp; intro w1 hp; simp only [spl, List.set_cons_zero, List.set_cons_succ] at hp)); simp only [put_some, put_none, List.set_cons_succ, List.set_cons_zero]))
    · have HSS := Lib.hid (hbb (by first | rfl | trivial))
      clear hbb
      go_wp2_with (first | (go_at_call 34; (with_reducible refine (check34L od oa os oc nx t0 t1 t2 t3 fa fs fc _ HQ.out HSS.out _ (HIS.out.below hp.below)).mono ?_); rintro e w1 ⟨rfl, hb⟩; replace hp := hp.call hb; clear hb; first | rw [errI_true] | rw [errI_false]) | (go_at_call 35; (with_reducible refine (fresh35 _).mono ?_); rintro e w1 ⟨rfl, hb⟩; replace hp := hp.call hb; clear hb) | go_skip | ((first | ((with_reducible refine pre_alloc _ rfl ?_); refine lZ hp rfl (by with_reducible first | exact zero63 | exact zero26) ?_; clear hp; intro b w1 hp) | ((with_reducible refine pre_box _ _ rfl ?_); refine lB hp rfl (slot_tmp rfl) rfl ?_; clear hp; intro b w1 hp) | ((with_reducible refine pre_load _ _ rfl ?_); first | refine lO hp rfl (slot_tmp rfl) ceW71 aa5 ?_ | refine lA hp rfl (slot_tmp rfl) gaW70 aa5 ?_) | ((with_reducible refine pre_store _ _ _ rfl ?_); (first | refine sO hp rfl (slot_tmp rfl) ceW71 aa5 ?_ | refine sA hp rfl (slot_tmp rfl) (slot_tmp rfl) gaW70 aa5 ?_ | refine sG hp rfl (slot_tmp rfl) (slot_tmp rfl) gaW70 aa5 ?_); clear hp; intro w1 hp; simp only [spl, List.set_cons_zero, List.set_cons_succ] at hp)); simp only [put_some, put_none, List.set_cons_succ, List.set_cons_zero]))
      go_ret
      exact ⟨rfl, hp.below⟩
    · go_wp2_with (first | (go_at_call 34; (with_reducible refine (check34L od oa os oc nx t0 t1 t2 t3 fa fs fc _ HQ.out HSS.out _ (HIS.out.below hp.below)).mono ?_); rintro e w1 ⟨rfl, hb⟩; replace hp := hp.call hb; clear hb; first | rw [errI_true] | rw [errI_false]) | (go_at_call 35; (with_reducible refine (fresh35 _).mono ?_); rintro e w1 ⟨rfl, hb⟩; replace hp := hp.call hb; clear hb) | go_skip | ((first | ((with_reducible refine pre_alloc _ rfl ?_); refine lZ hp rfl (by with_reducible first | exact zero63 | exact zero26) ?_; clear hp; intro b w1 hp) | ((with_reducible refine pre_box _ _ rfl ?_); refine lB hp rfl (slot_tmp rfl) rfl ?_; clear hp; intro b w1 hp) | ((with_reducible refine pre_load _ _ rfl ?_); first | refine lO hp rfl (slot_tmp rfl) ceW71 aa5 ?_ | refine lA hp rfl (slot_tmp rfl) gaW70 aa5 ?_) | ((with_reducible refine pre_store _ _ _ rfl ?_); (first | refine sO hp rfl (slot_tmp rfl) ceW71 aa5 ?_ | refine sA hp rfl (slot_tmp rfl) (slot_tmp rfl) gaW70 aa5 ?_ | refine sG hp rfl (slot_tmp rfl) (slot_tmp rfl) gaW70 aa5 ?_); clear hp; intro w1 hp; simp only [spl, List.set_cons_zero, List.set_cons_succ] at hp)); simp only [put_some, put_none, List.set_cons_succ, List.set_cons_zero]))
      go_ret
      exact ⟨rfl, hp.below⟩
set_option maxRecDepth 100000 in
set_option maxHeartbeats 32000000 in
theorem law10_yes (od : Int) (oa : Option Addr) (os : List Ob) (oc : Nat) (nx t0 t1 t2 t3 : Int) (fa : Option Addr) (fs : List Bl) (fc : Nat) (w : World) (HIS : RowKit.Hid (Hv.Is w ⟨od, oa, os, oc, nx, t0, t1, t2, t3, fa, fs, fc⟩)) (HQ : RowKit.Hid (hrightB ⟨od, oa, os, oc, nx, t0, t1, t2, t3, fa, fs, fc⟩ = true)) (HHR : RowKit.Hid (HRight ⟨od, oa, os, oc, nx, t0, t1, t2, t3, fa, fs, fc⟩)) (n : Nat) (HF : RowKit.Hid (FillsP ⟨od, oa, os, oc, nx, t0, t1, t2, t3, fa, fs, fc⟩ n)) :
    Calls Try.prog 10 #[.agg #[.int .i64 od, .slice oa os.length oc, .int .i64 nx, .int .i64 t0, .int .i64 t1, .int .i64 t2, .int .i64 t3, .slice fa fs.length fc]] w fun e w' => e = .returned (.bool true) ∧ Below w.heap.size w w' := by
  have hp := Hp.start w
  have hlo : 1 ≤ nx := HF.out.lo
  have hhi : nx ≤ 999700 := HF.out.hi
  have hn8 : n ≤ 256 := HF.out.n8
  have e1 : decide (999700 < nx) = false := decide_eq_false (by omega)
  go_enter Try.func10, Try.ntmps10
  go_wp2_with (first | (go_at_call 12; (with_reducible refine (big12L od oa os oc nx t0 t1 t2 t3 fa fs fc _ (HIS.out.below hp.below)).mono ?_); rintro e w1 ⟨bb, rfl, hbb, hb⟩; replace hp := hp.call hb; clear hb; cases bb) | go_skip | ((first | ((with_reducible refine pre_alloc _ rfl ?_); refine lZ hp rfl (by with_reducible first | exact zero63 | exact zero26) ?_; clear hp; intro b w1 hp) | ((with_reducible refine pre_box _ _ rfl ?_); refine lB hp rfl (slot_tmp rfl) rfl ?_; clear hp; intro b w1 hp) | ((with_reducible refine pre_load _ _ rfl ?_); first | refine lO hp rfl (slot_tmp rfl) ceW71 aa5 ?_ | refine lA hp rfl (slot_tmp rfl) gaW70 aa5 ?_) | ((with_reducible refine pre_store _ _ _ rfl ?_); (first | refine sO hp rfl (slot_tmp rfl) ceW71 aa5 ?_ | refine sA hp rfl (slot_tmp rfl) (slot_tmp rfl) gaW70 aa5 ?_ | refine sG hp rfl (slot_tmp rfl) (slot_tmp rfl) gaW70 aa5 ?_); clear hp; intro w1 hp; simp only [spl, List.set_cons_zero, List.set_cons_succ] at hp)); simp only [put_some, put_none, List.set_cons_succ, List.set_cons_zero]))
  · have HSS := Lib.hid (hbb (by first | rfl | trivial))
    clear hbb
    have hfl : fs.length ≤ 600 := HSS.out.2
    have HO8 : RowKit.Hid (∀ b ∈ fs, 0 ≤ b.o ∧ b.o ≤ 8) := Lib.hid (fun b hb => by
      obtain ⟨h3, h8, hcan⟩ := right_can HHR.out.free
      have := (hcan.may b hb).1
      have := (hcan.may b hb).2.1
      try simp only at h8 this ⊢
      omega)
    have HFS : RowKit.Hid (RowIs w fa (fs.flatMap blV)) := Lib.hid HIS.out.2.2
    go_wp2_with (first | (go_at_call 34; (with_reducible refine (check34L od oa os oc nx t0 t1 t2 t3 fa fs fc _ HQ.out HSS.out _ (HIS.out.below hp.below)).mono ?_); rintro e w1 ⟨rfl, hb⟩; replace hp := hp.call hb; clear hb; first | rw [errI_true] | rw [errI_false]) | go_skip | ((first | ((with_reducible refine pre_alloc _ rfl ?_); refine lZ hp rfl (by with_reducible first | exact zero63 | exact zero26) ?_; clear hp; intro b w1 hp) | ((with_reducible refine pre_box _ _ rfl ?_); refine lB hp rfl (slot_tmp rfl) rfl ?_; clear hp; intro b w1 hp) | ((with_reducible refine pre_load _ _ rfl ?_); first | refine lO hp rfl (slot_tmp rfl) ceW71 aa5 ?_ | refine lA hp rfl (slot_tmp rfl) gaW70 aa5 ?_) | ((with_reducible refine pre_store _ _ _ rfl ?_); (first | refine sO hp rfl (slot_tmp rfl) ceW71 aa5 ?_ | refine sA hp rfl (slot_tmp rfl) (slot_tmp rfl) gaW70 aa5 ?_ | refine sG hp rfl (slot_tmp rfl) (slot_tmp rfl) gaW70 aa5 ?_); clear hp; intro w1 hp; simp only [spl, List.set_cons_zero, List.set_cons_succ] at hp)); simp only [put_some, put_none, List.set_cons_succ, List.set_cons_zero]))
    obtain ⟨bH, rfl⟩ := hp.id0
    go_loopg [3, 4] fs.length (fun k s i wr => ∃ (j : Nat) (sv : Int), k + j = fs.length ∧ s = .int .i64 sv ∧ i = .int .i64 j ∧ RowKit.Hid (sv = sumB (fs.take j)) ∧ Hp w.heap.size w wr [⟨bH, [.int .i64 od, .slice oa os.length oc, .int .i64 nx, .int .i64 t0, .int .i64 t1, .int .i64 t2, .int .i64 t3, .slice fa fs.length fc], 26, 8⟩])
    case atStart => exact ⟨0, 0, by omega, rfl, rfl, Lib.hid (by simp [sumB]), hp⟩
    case round =>
      clear hp
      obtain ⟨j, sv, hkj, rfl, rfl, HS, hp⟩ := hrel
      by_cases hlt : j < fs.length
      · obtain ⟨bq, off, rfl, hx⟩ := HFS.out.elems 2 blV_len (by omega) (by omega)
        have hj := List.getElem?_eq_getElem hlt
        replace hx := hx j _ hj
        obtain ⟨g0, g8⟩ := HO8.out _ (List.getElem_mem hlt)
        have HST := Lib.hid (fill_sum hj hfl (fun b hb => (HO8.out b hb).2))
        clear hj HO8
        generalize fs[j] = y at hx HST g0 g8
        obtain ⟨yp, yo⟩ := y
        simp only [blV] at hx
        simp only at HST g0 g8
        have HX := Lib.hid hx
        have HO0 := Lib.hid g0
        have HO8 := Lib.hid g8
        clear hx g0 g8
        have f1 : (0 : Int) ≤ (j : Int) := by omega
        have f2 : (j : Int) < (fs.length : Int) := by omega
        go_wp2_with (first | (go_at_call 22; (with_reducible refine (words22 _ HO0.out HO8.out _).mono ?_); rintro e w' ⟨rfl, rfl⟩) | go_skip | ((first | ((with_reducible refine pre_alloc _ rfl ?_); refine lZ hp rfl (by with_reducible first | exact zero63 | exact zero26) ?_; clear hp; intro b w1 hp) | ((with_reducible refine pre_box _ _ rfl ?_); refine lB hp rfl (slot_tmp rfl) rfl ?_; clear hp; intro b w1 hp) | ((with_reducible refine pre_load _ _ rfl ?_); first | refine lO hp rfl (slot_tmp rfl) ceW72 aa5 ?_ | refine lRO hp rfl (slot_tmp rfl) ceW72 (by first | exact HX.out 0 _ rfl | exact HX.out 1 _ rfl) ?_ | refine lA hp rfl (slot_tmp rfl) (by with_reducible first | exact agg26 | exact agg63) aa5 ?_ | refine lR hp rfl (slot_tmp rfl) (by with_reducible first | exact agg26 | exact agg63) HX.out ?_) | ((with_reducible refine pre_store _ _ _ rfl ?_); (first | refine sO hp rfl (slot_tmp rfl) ceW72 aa5 ?_ | refine sA hp rfl (slot_tmp rfl) (slot_tmp rfl) (by with_reducible first | exact agg26 | exact agg63) aa5 ?_ | refine sG hp rfl (slot_tmp rfl) (slot_tmp rfl) (by with_reducible first | exact agg26 | exact agg63) aa5 ?_); clear hp; intro w1 hp; simp only [spl, List.set_cons_zero, List.set_cons_succ] at hp)); simp only [put_some, put_none, List.set_cons_succ, List.set_cons_zero]))
        go_roundg (gk - 1)
        case measure => omega
        case rel => exact ⟨j + 1, _, by omega, rfl, by go_num, Lib.hid (by rw [HS.out]; exact HST.out), hp⟩
      · have f2 : decide ((j : Int) < (fs.length : Int)) = false := by simp; omega
        obtain rfl : sv = n := by rw [HS.out, List.take_of_length_le (by omega)]; exact HF.out.sum.symm
        clear HS hkj
        go_wp2_with (first | go_skip | ((first | ((with_reducible refine pre_alloc _ rfl ?_); refine lZ hp rfl (by with_reducible first | exact zero63 | exact zero26) ?_; clear hp; intro b w1 hp) | ((with_reducible refine pre_box _ _ rfl ?_); refine lB hp rfl (slot_tmp rfl) rfl ?_; clear hp; intro b w1 hp) | ((with_reducible refine pre_load _ _ rfl ?_); first | refine lO hp rfl (slot_tmp rfl) ceW71 aa5 ?_ | refine lA hp rfl (slot_tmp rfl) gaW70 aa5 ?_) | ((with_reducible refine pre_store _ _ _ rfl ?_); (first | refine sO hp rfl (slot_tmp rfl) ceW71 aa5 ?_ | refine sA hp rfl (slot_tmp rfl) (slot_tmp rfl) gaW70 aa5 ?_ | refine sG hp rfl (slot_tmp rfl) (slot_tmp rfl) gaW70 aa5 ?_); clear hp; intro w1 hp; simp only [spl, List.set_cons_zero, List.set_cons_succ] at hp)); simp only [put_some, put_none, List.set_cons_succ, List.set_cons_zero]))
        obtain ⟨bX, rfl⟩ := hp.id0
        have HK0 : RowKit.Hid (KeptF w [] (fun w' => Hv.Is w' ⟨od, oa, os, oc, nx, t0, t1, t2, t3, fa, fs, fc⟩)) := Lib.hid (fun w' L hp _ => HIS.out.below hp.below)
        go_loopg [6] n (fun k i wr => ∃ (j : Nat) (y : Hv) (R : List Blk), k + j = n ∧ i = .int .i64 j ∧ RowKit.Hid (y.Sm (fillA ⟨od, oa, os, oc, nx, t0, t1, t2, t3, fa, fs, fc⟩ j)) ∧ RowKit.Hid (KeptF w R fun w => y.Is w) ∧ Hp w.heap.size w wr (⟨bX, hvL y, 26, 8⟩ :: ⟨bH, [.int .i64 od, .slice oa os.length oc, .int .i64 nx, .int .i64 t0, .int .i64 t1, .int .i64 t2, .int .i64 t3, .slice fa fs.length fc], 26, 8⟩ :: R))
        case atStart => exact ⟨0, _, [], by omega, rfl, Lib.hid (Hv.Sm.refl _), HK0, hp⟩
        case round =>
          clear hp
          obtain ⟨j, y, R, hkj, rfl, HSM, HKY, hp⟩ := hrel
          have HYS := Lib.hid ((HF.out.sa j).sm HSM.out.symm)
          by_cases hlj : j < n
          · obtain ⟨h1, h2⟩ := HF.out.one j y hlj HSM.out
            obtain ⟨⟨s, c, v⟩, hd⟩ : ∃ r, doP y ⟨1, 0, 0, 0, 0, 0, 0⟩ = r := ⟨_, rfl⟩
            rw [hd] at h1 h2
            injection h1 with h1 h3
            subst h1; subst h3
            have HST := Lib.hid h2
            have HD := Lib.hid hd
            clear h2 hd
            obtain ⟨odY, oaY, osY, ocY, nxY, t0Y, t1Y, t2Y, t3Y, faY, fsY, fcY⟩ := y
            simp only [hvL] at hp
            have f2 : (j : Int) < (n : Int) := by omega
            go_wp2_with (first | go_skip | ((first | ((with_reducible refine pre_alloc _ rfl ?_); refine lZ hp rfl (by with_reducible first | exact zero63 | exact zero26) ?_; clear hp; intro b w1 hp) | ((with_reducible refine pre_box _ _ rfl ?_); refine lB hp rfl (slot_tmp rfl) rfl ?_; clear hp; intro b w1 hp) | ((with_reducible refine pre_load _ _ rfl ?_); first | refine lO hp rfl (slot_tmp rfl) ceW71 aa5 ?_ | refine lA hp rfl (slot_tmp rfl) gaW70 aa5 ?_) | ((with_reducible refine pre_store _ _ _ rfl ?_); (first | refine sO hp rfl (slot_tmp rfl) ceW71 aa5 ?_ | refine sA hp rfl (slot_tmp rfl) (slot_tmp rfl) gaW70 aa5 ?_ | refine sG hp rfl (slot_tmp rfl) (slot_tmp rfl) gaW70 aa5 ?_); clear hp; intro w1 hp; simp only [spl, List.set_cons_zero, List.set_cons_succ] at hp)); simp only [put_some, put_none, List.set_cons_succ, List.set_cons_zero]))
            refine wp_region_keepsT [_, _] (Keeps.two hp.drew at0 at1) [] (.take 0 (.three 1 (.three 2 (.take 3 (.take 4 (.take 5 (.two 6 (.one 7 (.one 8 (.one 9 .nil))) 7 (.one 6 (.one 8 (.one 9 .nil))))))) 6 (.two 2 (.take 3 (.take 4 (.take 5 (.one 7 (.one 8 (.one 9 .nil)))))) 7 (.one 2 (.take 3 (.take 4 (.take 5 (.one 8 (.one 9 .nil))))))) 7 (.two 2 (.take 3 (.take 4 (.take 5 (.one 6 (.one 8 (.one 9 .nil)))))) 6 (.one 2 (.take 3 (.take 4 (.take 5 (.one 8 (.one 9 .nil)))))))) 6 (.two 1 (.two 2 (.take 3 (.take 4 (.take 5 (.one 7 (.one 8 (.one 9 .nil)))))) 7 (.one 2 (.take 3 (.take 4 (.take 5 (.one 8 (.one 9 .nil))))))) 7 (.one 1 (.one 2 (.take 3 (.take 4 (.take 5 (.one 8 (.one 9 .nil)))))))) 7 (.two 1 (.two 2 (.take 3 (.take 4 (.take 5 (.one 6 (.one 8 (.one 9 .nil)))))) 6 (.one 2 (.take 3 (.take 4 (.take 5 (.one 8 (.one 9 .nil))))))) 6 (.one 1 (.one 2 (.take 3 (.take 4 (.take 5 (.one 8 (.one 9 .nil)))))))))) (by kernel_rfl) (by kernel_rfl) (by kernel_rfl) (by kernel_rfl) (fun _ _ d _ _ h => by cases d <;> exact h) ?_
            replace hp := hp.drew
            repeat' (with_reducible refine tree_is ?_); first | (with_reducible refine tree_nil ?_) | ((with_reducible refine tree_take ?_); refine plan_tk rfl ?_; (first | ((with_reducible refine tk_mv _ rfl ?_); refine tM rfl ?_) | ((with_reducible refine tk_ld _ _ rfl ?_); refine tA rfl (slot_tmp rfl) agg26 aa5 ?_) | refine tG (fun w _ => (by go_simp; try rfl)) ?_); refine tree_on ?_; try simp only [put_some, put_none, eval_tmp, eval_const, List.set_cons_succ, List.set_cons_zero, List.getD_cons_succ, List.getD_cons_zero, wrap_eq]) | ((first | refine tree_one (doT_of rfl (fun K hK => ?_)) | refine tree_two (doT_of rfl (fun K hK => ?_)) (doT_of rfl (fun K hK => ?_)) | refine tree_three (doT_of rfl (fun K hK => ?_)) (doT_of rfl (fun K hK => ?_)) (doT_of rfl (fun K hK => ?_))) <;> (go_wp2_with (first | (go_at_call 37; (with_reducible refine (alloc37 _ _ _).mono ?_); rintro e w1 ⟨rfl, hb⟩; replace hp := hp.call hb; clear hb) | (go_at_call 33; (with_reducible refine (doh33L odY oaY osY ocY nxY t0Y t1Y t2Y t3Y faY fsY fcY _ _ _ _ _ _ _ _ HD.out HYS.out _ (HKY.out.at hp (fun p hm => by simp [hm]))).mono ?_); rintro e w1 ⟨⟨odX, oaX, osX, ocX, nxX, t0X, t1X, t2X, t3X, faX, fsX, fcX⟩, RX, rfl, hyX, hkX, _, hpX⟩; replace hp := hp.join hpX; have HYX := Lib.hid hyX; have HKX := Lib.hid (KeptF.of (w0 := w) hkX); clear hpX hyX hkX; simp only [hvL, List.cons_append, List.nil_append, List.append_assoc] at hp ⊢) | ((with_reducible refine pre_alloc 26 rfl ?_); refine lZ hp rfl zero26 ?_; clear hp; intro bh w1 hp; simp only [put_some, put_none, List.set_cons_succ, List.set_cons_zero]) | ((with_reducible refine pre_alloc 63 rfl ?_); refine lZ hp rfl zero63 ?_; clear hp; intro br w1 hp; simp only [put_some, put_none, List.set_cons_succ, List.set_cons_zero]) | go_skip | ((first | ((with_reducible refine pre_alloc _ rfl ?_); refine lZ hp rfl (by with_reducible first | exact zero63 | exact zero26) ?_; clear hp; intro b w1 hp) | ((with_reducible refine pre_store _ _ _ rfl ?_); (first | refine sO hp rfl (slot_tmp rfl) ceW71 aa5 ?_ | refine sA hp rfl (slot_tmp rfl) (slot_tmp rfl) gaW70 aa5 ?_ | refine sG hp rfl (slot_tmp rfl) (slot_tmp rfl) gaW70 aa5 ?_); clear hp; intro w1 hp; simp only [spl, List.set_cons_zero, List.set_cons_succ] at hp)); simp only [put_some, put_none, List.set_cons_succ, List.set_cons_zero])); (refine hK.out _ _ (.inr (Keeps.two hp aa5 aa5)) ?_); clear hK K; try simp only [put_some, put_none, eval_tmp, eval_const, List.set_cons_succ, List.set_cons_zero, List.getD_cons_succ, List.getD_cons_zero, wrap_eq]))
            all_goals
              replace hp := hp.kp (L' := ⟨br, [.int .i64 0, .int .i64 (nx + j)], 63, 2⟩ :: ⟨bh, [.int .i64 odX, .slice oaX osX.length ocX, .int .i64 nxX, .int .i64 t0X, .int .i64 t1X, .int .i64 t2X, .int .i64 t3X, .slice faX fsX.length fcX], 26, 8⟩ :: ⟨bX, [.int .i64 odY, .slice oaY osY.length ocY, .int .i64 nxY, .int .i64 t0Y, .int .i64 t1Y, .int .i64 t2Y, .int .i64 t3Y, .slice faY fsY.length fcY], 26, 8⟩ :: ⟨bH, [.int .i64 od, .slice oa os.length oc, .int .i64 nx, .int .i64 t0, .int .i64 t1, .int .i64 t2, .int .i64 t3, .slice fa fs.length fc], 26, 8⟩ :: RX)
              go_wp2_with (first | go_skip | ((first | ((with_reducible refine pre_alloc _ rfl ?_); refine lZ hp rfl (by with_reducible first | exact zero63 | exact zero26) ?_; clear hp; intro b w1 hp) | ((with_reducible refine pre_box _ _ rfl ?_); refine lB hp rfl (slot_tmp rfl) rfl ?_; clear hp; intro b w1 hp) | ((with_reducible refine pre_load _ _ rfl ?_); first | refine lO hp rfl (slot_tmp rfl) ceW71 aa5 ?_ | refine lA hp rfl (slot_tmp rfl) gaW70 aa5 ?_) | ((with_reducible refine pre_store _ _ _ rfl ?_); (first | refine sO hp rfl (slot_tmp rfl) ceW71 aa5 ?_ | refine sA hp rfl (slot_tmp rfl) (slot_tmp rfl) gaW70 aa5 ?_ | refine sG hp rfl (slot_tmp rfl) (slot_tmp rfl) gaW70 aa5 ?_); clear hp; intro w1 hp; simp only [spl, List.set_cons_zero, List.set_cons_succ] at hp)); simp only [put_some, put_none, List.set_cons_succ, List.set_cons_zero]))
              go_roundg (gk - 1)
              case measure => omega
              case rel => exact ⟨j + 1, ⟨odX, oaX, osX, ocX, nxX, t0X, t1X, t2X, t3X, faX, fsX, fcX⟩, RX, by omega, by go_num, Lib.hid (HYX.out.trans HST.out), HKX, by simp only [hvL]; exact hp.kp⟩
          · obtain rfl : j = n := by omega
            obtain ⟨h1, h3⟩ := HF.out.full y HSM.out
            obtain ⟨⟨s, c, v⟩, hd⟩ : ∃ r, doP y ⟨1, 0, 0, 0, 0, 0, 0⟩ = r := ⟨_, rfl⟩
            rw [hd] at h1
            injection h1 with h1 h2
            subst h1; subst h2
            have HD := Lib.hid hd
            clear hd
            obtain ⟨odY, oaY, osY, ocY, nxY, t0Y, t1Y, t2Y, t3Y, faY, fsY, fcY⟩ := y
            simp only at h3
            have e9 : ((fsY.length : Int) != 0) = false := by rw [h3]; rfl
            have e10 : (fsY.length != 0) = false := by rw [h3]; rfl
            clear h3
            simp only [hvL] at hp
            clear hkj
            go_wp2_with (first | go_skip | ((first | ((with_reducible refine pre_alloc _ rfl ?_); refine lZ hp rfl (by with_reducible first | exact zero63 | exact zero26) ?_; clear hp; intro b w1 hp) | ((with_reducible refine pre_box _ _ rfl ?_); refine lB hp rfl (slot_tmp rfl) rfl ?_; clear hp; intro b w1 hp) | ((with_reducible refine pre_load _ _ rfl ?_); first | refine lO hp rfl (slot_tmp rfl) ceW71 aa5 ?_ | refine lA hp rfl (slot_tmp rfl) gaW70 aa5 ?_) | ((with_reducible refine pre_store _ _ _ rfl ?_); (first | refine sO hp rfl (slot_tmp rfl) ceW71 aa5 ?_ | refine sA hp rfl (slot_tmp rfl) (slot_tmp rfl) gaW70 aa5 ?_ | refine sG hp rfl (slot_tmp rfl) (slot_tmp rfl) gaW70 aa5 ?_); clear hp; intro w1 hp; simp only [spl, List.set_cons_zero, List.set_cons_succ] at hp)); simp only [put_some, put_none, List.set_cons_succ, List.set_cons_zero]))
            refine wp_region_keepsT [_, _] (Keeps.two hp.drew at0 at1) [] (.take 0 (.three 1 (.three 2 (.take 3 (.take 4 (.take 5 (.two 6 (.one 7 (.one 8 (.one 9 .nil))) 7 (.one 6 (.one 8 (.one 9 .nil))))))) 6 (.two 2 (.take 3 (.take 4 (.take 5 (.one 7 (.one 8 (.one 9 .nil)))))) 7 (.one 2 (.take 3 (.take 4 (.take 5 (.one 8 (.one 9 .nil))))))) 7 (.two 2 (.take 3 (.take 4 (.take 5 (.one 6 (.one 8 (.one 9 .nil)))))) 6 (.one 2 (.take 3 (.take 4 (.take 5 (.one 8 (.one 9 .nil)))))))) 6 (.two 1 (.two 2 (.take 3 (.take 4 (.take 5 (.one 7 (.one 8 (.one 9 .nil)))))) 7 (.one 2 (.take 3 (.take 4 (.take 5 (.one 8 (.one 9 .nil))))))) 7 (.one 1 (.one 2 (.take 3 (.take 4 (.take 5 (.one 8 (.one 9 .nil)))))))) 7 (.two 1 (.two 2 (.take 3 (.take 4 (.take 5 (.one 6 (.one 8 (.one 9 .nil)))))) 6 (.one 2 (.take 3 (.take 4 (.take 5 (.one 8 (.one 9 .nil))))))) 6 (.one 1 (.one 2 (.take 3 (.take 4 (.take 5 (.one 8 (.one 9 .nil)))))))))) (by kernel_rfl) (by kernel_rfl) (by kernel_rfl) (by kernel_rfl) (fun _ _ d _ _ h => by cases d <;> exact h) ?_
            replace hp := hp.drew
            repeat' (with_reducible refine tree_is ?_); first | (with_reducible refine tree_nil ?_) | ((with_reducible refine tree_take ?_); refine plan_tk rfl ?_; (first | ((with_reducible refine tk_mv _ rfl ?_); refine tM rfl ?_) | ((with_reducible refine tk_ld _ _ rfl ?_); refine tA rfl (slot_tmp rfl) agg26 aa5 ?_) | refine tG (fun w _ => (by go_simp; try rfl)) ?_); refine tree_on ?_; try simp only [put_some, put_none, eval_tmp, eval_const, List.set_cons_succ, List.set_cons_zero, List.getD_cons_succ, List.getD_cons_zero, wrap_eq]) | ((first | refine tree_one (doT_of rfl (fun K hK => ?_)) | refine tree_two (doT_of rfl (fun K hK => ?_)) (doT_of rfl (fun K hK => ?_)) | refine tree_three (doT_of rfl (fun K hK => ?_)) (doT_of rfl (fun K hK => ?_)) (doT_of rfl (fun K hK => ?_))) <;> (go_wp2_with (first | (go_at_call 37; (with_reducible refine (alloc37 _ _ _).mono ?_); rintro e w1 ⟨rfl, hb⟩; replace hp := hp.call hb; clear hb) | (go_at_call 33; (with_reducible refine (doh33L odY oaY osY ocY nxY t0Y t1Y t2Y t3Y faY fsY fcY _ _ _ _ _ _ _ _ HD.out HYS.out _ (HKY.out.at hp (fun p hm => by simp [hm]))).mono ?_); rintro e w1 ⟨⟨odX, oaX, osX, ocX, nxX, t0X, t1X, t2X, t3X, faX, fsX, fcX⟩, RX, rfl, hyX, hkX, _, hpX⟩; replace hp := hp.join hpX; have HYX := Lib.hid hyX; have HKX := Lib.hid (KeptF.of (w0 := w) hkX); clear hpX hyX hkX; simp only [hvL, List.cons_append, List.nil_append, List.append_assoc] at hp ⊢) | ((with_reducible refine pre_alloc 26 rfl ?_); refine lZ hp rfl zero26 ?_; clear hp; intro bh w1 hp; simp only [put_some, put_none, List.set_cons_succ, List.set_cons_zero]) | ((with_reducible refine pre_alloc 63 rfl ?_); refine lZ hp rfl zero63 ?_; clear hp; intro br w1 hp; simp only [put_some, put_none, List.set_cons_succ, List.set_cons_zero]) | go_skip | ((first | ((with_reducible refine pre_alloc _ rfl ?_); refine lZ hp rfl (by with_reducible first | exact zero63 | exact zero26) ?_; clear hp; intro b w1 hp) | ((with_reducible refine pre_store _ _ _ rfl ?_); (first | refine sO hp rfl (slot_tmp rfl) ceW71 aa5 ?_ | refine sA hp rfl (slot_tmp rfl) (slot_tmp rfl) gaW70 aa5 ?_ | refine sG hp rfl (slot_tmp rfl) (slot_tmp rfl) gaW70 aa5 ?_); clear hp; intro w1 hp; simp only [spl, List.set_cons_zero, List.set_cons_succ] at hp)); simp only [put_some, put_none, List.set_cons_succ, List.set_cons_zero])); (refine hK.out _ _ (.inr (Keeps.two hp aa5 aa5)) ?_); clear hK K; try simp only [put_some, put_none, eval_tmp, eval_const, List.set_cons_succ, List.set_cons_zero, List.getD_cons_succ, List.getD_cons_zero, wrap_eq]))
            all_goals
              replace hp := hp.kp (L' := ⟨br, [.int .i64 50, .int .i64 0], 63, 2⟩ :: ⟨bX, [.int .i64 odY, .slice oaY osY.length ocY, .int .i64 nxY, .int .i64 t0Y, .int .i64 t1Y, .int .i64 t2Y, .int .i64 t3Y, .slice faY fsY.length fcY], 26, 8⟩ :: ⟨bH, [.int .i64 od, .slice oa os.length oc, .int .i64 nx, .int .i64 t0, .int .i64 t1, .int .i64 t2, .int .i64 t3, .slice fa fs.length fc], 26, 8⟩ :: R)
              clear HD HYX HKX
              go_wp2_with (first | go_skip | ((first | ((with_reducible refine pre_alloc _ rfl ?_); refine lZ hp rfl (by with_reducible first | exact zero63 | exact zero26) ?_; clear hp; intro b w1 hp) | ((with_reducible refine pre_box _ _ rfl ?_); refine lB hp rfl (slot_tmp rfl) rfl ?_; clear hp; intro b w1 hp) | ((with_reducible refine pre_load _ _ rfl ?_); first | refine lO hp rfl (slot_tmp rfl) ceW71 aa5 ?_ | refine lA hp rfl (slot_tmp rfl) gaW70 aa5 ?_) | ((with_reducible refine pre_store _ _ _ rfl ?_); (first | refine sO hp rfl (slot_tmp rfl) ceW71 aa5 ?_ | refine sA hp rfl (slot_tmp rfl) (slot_tmp rfl) gaW70 aa5 ?_ | refine sG hp rfl (slot_tmp rfl) (slot_tmp rfl) gaW70 aa5 ?_); clear hp; intro w1 hp; simp only [spl, List.set_cons_zero, List.set_cons_succ] at hp)); simp only [put_some, put_none, List.set_cons_succ, List.set_cons_zero]))
              go_loopg [11] j (fun k i wr => ∃ (q : Nat) (y : Hv) (R : List Blk), k + q = j ∧ i = .int .i64 q ∧ RowKit.Hid (y.Sm (fillB ⟨od, oa, os, oc, nx, t0, t1, t2, t3, fa, fs, fc⟩ j q)) ∧ RowKit.Hid (KeptF w R fun w => y.Is w) ∧ Hp w.heap.size w wr (⟨bX, hvL y, 26, 8⟩ :: ⟨bH, [.int .i64 od, .slice oa os.length oc, .int .i64 nx, .int .i64 t0, .int .i64 t1, .int .i64 t2, .int .i64 t3, .slice fa fs.length fc], 26, 8⟩ :: R))
              case atStart => exact ⟨0, ⟨odY, oaY, osY, ocY, nxY, t0Y, t1Y, t2Y, t3Y, faY, fsY, fcY⟩, R, by omega, rfl, HSM, HKY, by simp only [hvL]; exact hp.tail⟩
              case round =>
                clear hp HYS HKY HSM
                obtain ⟨q, y, R, hkq, rfl, HSM, HKY, hp⟩ := hrel
                have HYS := Lib.hid ((HF.out.sb q).sm HSM.out.symm)
                by_cases hlq : q < j
                · obtain ⟨h1, h2⟩ := HF.out.back q y hlq HSM.out
                  obtain ⟨⟨s, c, v⟩, hd⟩ : ∃ r, doP y ⟨2, nx + q, 0, 0, 0, 0, 0⟩ = r := ⟨_, rfl⟩
                  simp only at h1 h2
                  rw [hd] at h1 h2
                  injection h1 with h1 h3
                  subst h1; subst h3
                  have HST := Lib.hid h2
                  have HD := Lib.hid hd
                  clear h2 hd
                  obtain ⟨odY, oaY, osY, ocY, nxY, t0Y, t1Y, t2Y, t3Y, faY, fsY, fcY⟩ := y
                  simp only [hvL] at hp
                  have f2 : (q : Int) < (j : Int) := by omega
                  go_wp2_with (first | (go_at_call 33; (with_reducible refine (doh33L odY oaY osY ocY nxY t0Y t1Y t2Y t3Y faY fsY fcY _ _ _ _ _ _ _ _ HD.out HYS.out _ (HKY.out.at hp (fun p hm => by simp [hm]))).mono ?_); rintro e w1 ⟨⟨odX, oaX, osX, ocX, nxX, t0X, t1X, t2X, t3X, faX, fsX, fcX⟩, RX, rfl, hyX, hkX, _, hpX⟩; replace hp := hp.join hpX; have HYX := Lib.hid hyX; have HKX := Lib.hid (KeptF.of (w0 := w) hkX); clear hpX hyX hkX; simp only [hvL, List.cons_append, List.nil_append, List.append_assoc] at hp ⊢) | go_skip | ((first | ((with_reducible refine pre_alloc _ rfl ?_); refine lZ hp rfl (by with_reducible first | exact zero63 | exact zero26) ?_; clear hp; intro b w1 hp) | ((with_reducible refine pre_box _ _ rfl ?_); refine lB hp rfl (slot_tmp rfl) rfl ?_; clear hp; intro b w1 hp) | ((with_reducible refine pre_load _ _ rfl ?_); first | refine lO hp rfl (slot_tmp rfl) ceW71 aa5 ?_ | refine lA hp rfl (slot_tmp rfl) gaW70 aa5 ?_) | ((with_reducible refine pre_store _ _ _ rfl ?_); (first | refine sO hp rfl (slot_tmp rfl) ceW71 aa5 ?_ | refine sA hp rfl (slot_tmp rfl) (slot_tmp rfl) gaW70 aa5 ?_ | refine sG hp rfl (slot_tmp rfl) (slot_tmp rfl) gaW70 aa5 ?_); clear hp; intro w1 hp; simp only [spl, List.set_cons_zero, List.set_cons_succ] at hp)); simp only [put_some, put_none, List.set_cons_succ, List.set_cons_zero]))
                  go_roundg (gk - 1)
                  case measure => omega
                  case rel => exact ⟨q + 1, ⟨odX, oaX, osX, ocX, nxX, t0X, t1X, t2X, t3X, faX, fsX, fcX⟩, RX, by omega, by go_num, Lib.hid (HYX.out.trans HST.out), HKX, by simp only [hvL]; exact hp.kp⟩
                · obtain rfl : q = j := by omega
                  have hfin := HF.out.fin y HSM.out
                  obtain ⟨odY, oaY, osY, ocY, nxY, t0Y, t1Y, t2Y, t3Y, faY, fsY, fcY⟩ := y
                  simp only at hfin
                  have HYE := Lib.hid hfin
                  have HKN : RowKit.Hid (KeptF w R (fun w => Hv.Is w ⟨odY, oaY, osY, ocY, nx, t0Y, t1Y, t2Y, t3Y, faY, fsY, fcY⟩)) := Lib.hid HKY.out
                  have HYS2 := HYS
                  clear HYS hfin
                  have HYS : RowKit.Hid (Hv.Small ⟨odY, oaY, osY, ocY, nx, t0Y, t1Y, t2Y, t3Y, faY, fsY, fcY⟩) := Lib.hid HYS2.out
                  simp only [hvL] at hp
                  clear hkq
                  go_wp2_with (first | (go_at_call 35; (with_reducible refine (fresh35 _).mono ?_); rintro e w1 ⟨rfl, hb⟩; replace hp := hp.call hb; clear hb) | (go_at_call 36; (with_reducible refine (does36 _).mono ?_); rintro e w1 ⟨rfl, hb⟩; replace hp := hp.call hb; clear hb) | (go_at_call 16; (with_reducible refine (same16L odY oaY osY ocY nx t0Y t1Y t2Y t3Y faY fsY fcY od oa os oc nx t0 t1 t2 t3 fa fs fc HYS.out HYE.out _ (HKN.out.at hp (fun p hm => by simp [hm])) (HIS.out.below hp.below)).mono ?_); rintro e w1 ⟨rfl, hb⟩; replace hp := hp.call hb; clear hb) | go_skip | ((first | ((with_reducible refine pre_alloc _ rfl ?_); refine lZ hp rfl (by with_reducible first | exact zero63 | exact zero26) ?_; clear hp; intro b w1 hp) | ((with_reducible refine pre_box _ _ rfl ?_); refine lB hp rfl (slot_tmp rfl) rfl ?_; clear hp; intro b w1 hp) | ((with_reducible refine pre_load _ _ rfl ?_); first | refine lO hp rfl (slot_tmp rfl) ceW71 aa5 ?_ | refine lA hp rfl (slot_tmp rfl) gaW70 aa5 ?_) | ((with_reducible refine pre_store _ _ _ rfl ?_); (first | refine sO hp rfl (slot_tmp rfl) ceW71 aa5 ?_ | refine sA hp rfl (slot_tmp rfl) (slot_tmp rfl) gaW70 aa5 ?_ | refine sG hp rfl (slot_tmp rfl) (slot_tmp rfl) gaW70 aa5 ?_); clear hp; intro w1 hp; simp only [spl, List.set_cons_zero, List.set_cons_succ] at hp)); simp only [put_some, put_none, List.set_cons_succ, List.set_cons_zero]))
                  go_ret
                  exact ⟨rfl, hp.below⟩
  · go_wp2_with (first | (go_at_call 35; (with_reducible refine (fresh35 _).mono ?_); rintro e w1 ⟨rfl, hb⟩; replace hp := hp.call hb; clear hb) | go_skip | ((first | ((with_reducible refine pre_alloc _ rfl ?_); refine lZ hp rfl (by with_reducible first | exact zero63 | exact zero26) ?_; clear hp; intro b w1 hp) | ((with_reducible refine pre_box _ _ rfl ?_); refine lB hp rfl (slot_tmp rfl) rfl ?_; clear hp; intro b w1 hp) | ((with_reducible refine pre_load _ _ rfl ?_); first | refine lO hp rfl (slot_tmp rfl) ceW71 aa5 ?_ | refine lA hp rfl (slot_tmp rfl) gaW70 aa5 ?_) | ((with_reducible refine pre_store _ _ _ rfl ?_); (first | refine sO hp rfl (slot_tmp rfl) ceW71 aa5 ?_ | refine sA hp rfl (slot_tmp rfl) (slot_tmp rfl) gaW70 aa5 ?_ | refine sG hp rfl (slot_tmp rfl) (slot_tmp rfl) gaW70 aa5 ?_); clear hp; intro w1 hp; simp only [spl, List.set_cons_zero, List.set_cons_succ] at hp)); simp only [put_some, put_none, List.set_cons_succ, List.set_cons_zero]))
    go_ret
    exact ⟨rfl, hp.below⟩
theorem law10 (x : Hv) (w : World) (hs : x.Is w ∧ x.nx ≤ 9223372036854775807) : Calls Try.prog 10 #[.agg (hvL x).toArray] w fun e w' => e = .returned (.bool true) ∧ Below w.heap.size w w' := by
  obtain ⟨od, oa, os, oc, nx, t0, t1, t2, t3, fa, fs, fc⟩ := x
  cases hq : hrightB ⟨od, oa, os, oc, nx, t0, t1, t2, t3, fa, fs, fc⟩ with
  | false => exact law10_no od oa os oc nx t0 t1 t2 t3 fa fs fc w (Lib.hid hs.1) (.inl hq)
  | true =>
    have hx := hright_of hq
    by_cases hn : nx ≤ 999700
    · exact law10_yes od oa os oc nx t0 t1 t2 t3 fa fs fc w (Lib.hid hs.1) (Lib.hid hq) (Lib.hid hx) _ (Lib.hid (fills_P hx hn))
    · exact law10_no od oa os oc nx t0 t1 t2 t3 fa fs fc w (Lib.hid hs.1) (.inr ⟨hq, by omega⟩)
end Go.Proofs.Ytbflmnoaiklnbaa
