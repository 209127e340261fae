/- Parts of the proof. -/
import Derived.Test.YtaafajaadfgaoaaGreatAz39
open List renaming set_cons_zero → zSet, set_cons_succ → sSet
/- The walks of Same of heaps and states that are not the same. -/
set_option linter.unusedSimpArgs false
set_option linter.unusedVariables false
namespace Go.Proofs.YtaafajaadfgaoaaGreat
open Go.RowKit
theorem gaHSameM0 {ty : TypeId} {k : Nat} (h : aggB Tryz.prog ty k = true := by with_reducible first | exact agg47 | exact agg126 | exact agg44 | exact agg124) : aggB Tryz.prog ty k = true := h
theorem ceHSameM1 {ty : TypeId} (h : cellB Tryz.prog ty = true := by with_reducible first | exact cell3 | exact cell4 | exact cell122 | exact cell43 | exact cell45) : cellB Tryz.prog ty = true := h
theorem zeHSameM2 {ty : TypeId} {l : List Value} {n : Nat} (h : zeroL Tryz.prog ty = some (l, n) := by with_reducible first | exact zero50 | exact zero47 | exact zero120) : zeroL Tryz.prog ty = some (l, n) := h
theorem gaHSameM3 {ty : TypeId} {k : Nat} (h : aggB Tryz.prog ty k = true := by with_reducible first | exact agg50 | exact agg47 | exact agg120) : aggB Tryz.prog ty k = true := h
theorem ceHSameM4 {ty : TypeId} (h : cellB Tryz.prog ty = true := by with_reducible first | exact cell3 | exact cell4 | exact cell43 | exact cell45 | exact cell48) : cellB Tryz.prog ty = true := h
theorem obs_take {l k : List Ob} {j : Nat} {x y : Ob} (h : ∀ (i : Nat) a b, i < j → l[i]? = some a → k[i]? = some b → a.Sm b) (hl : l[j]? = some x) (hk : k[j]? = some y) (hxy : x.Sm y) : ∀ (i : Nat) a b, i < j + 1 → l[i]? = some a → k[i]? = some b → a.Sm b := by
  intro i a b hi ha hb
  rcases Nat.lt_or_ge i j with h1 | h1
  · exact h i a b h1 ha hb
  · obtain rfl : i = j := by omega
    rw [hl] at ha; rw [hk] at hb
    injection ha with ha; injection hb with hb
    subst ha hb; exact hxy
set_option maxRecDepth 100000 in
set_option maxHeartbeats 16000000 in
theorem same27_no (x y : Hv) (hs : x.Small) (hxy : ¬ x.Sm y) (w : World) (hx0 : x.Is w) (hy0 : y.Is w) : Calls Tryz.prog 27 #[.agg (hvL x).toArray, .agg (hvL y).toArray] w fun e w' => e = .returned (.bool false) ∧ Below w.heap.size w w' := by
  obtain ⟨od, oa, os, oc, nx, t0, t1, t2, t3, fa, fs, fc⟩ := x
  obtain ⟨od', oa', os', oc', nx', t0', t1', t2', t3', fa', fs', fc'⟩ := y
  obtain ⟨⟨hol, hosm⟩, hfl⟩ := hs
  obtain ⟨ho, hoo, hf⟩ := hx0
  obtain ⟨ho', hoo', hf'⟩ := hy0
  simp only at hol hosm hfl ho hoo hf ho' hoo' hf'
  simp only [hvL]
  have hp := Hp.start w
  have HO := Lib.hid ho
  have HOO := Lib.hid hoo
  have HOS := Lib.hid hosm
  have HF := Lib.hid hf
  have HO' := Lib.hid ho'
  have HOO' := Lib.hid hoo'
  have HG := Lib.hid hf'
  have HFL := Lib.hid hfl
  have HNS := Lib.hid hxy
  clear ho hoo hosm hf ho' hoo' hf' hfl hxy
  by_cases h1 : od = od'
  case neg => exact same27_od _ _ _ _ _ _ _ _ _ _ _ _ _ _ _ _ _ _ _ _ _ _ _ _ h1 w
  subst h1
  by_cases h2 : nx = nx'
  case neg =>
    have e1 : (nx == nx') = false := by simpa using h2
    go_enter Tryz.func27, Tryz.ntmps27
    go_wp2_with (first | go_skip | ((first | ((with_reducible refine pre_alloc _ rfl ?_); refine lZ hp rfl (by with_reducible first | exact zero47 | exact zero126) ?_; clear hp; intro b w1 hp) | ((with_reducible refine pre_box _ _ rfl ?_); refine lB hp rfl (sTm rfl) rfl ?_; clear hp; intro b w1 hp) | ((with_reducible refine pre_load _ _ rfl ?_); first | refine lO hp rfl (sTm rfl) ceHSameM1 aa14 ?_ | refine lA hp rfl (sTm rfl) gaHSameM0 aa14 ?_ | refine lR hp rfl (sTm rfl) gaHSameM0 HX.out ?_ | refine lR hp rfl (sTm rfl) gaHSameM0 HY.out ?_) | ((with_reducible refine pre_store _ _ _ rfl ?_); (first | refine sO hp rfl (sTm rfl) ceHSameM1 aa14 ?_ | refine sA hp rfl (sTm rfl) (sTm rfl) gaHSameM0 aa14 ?_ | refine sG hp rfl (sTm rfl) (sTm rfl) gaHSameM0 aa14 ?_); clear hp; intro w1 hp; simp only [spl, zSet, sSet] at hp)); simp only [put_some, put_none, sSet, zSet]))
    go_ret; exact ⟨rfl, hp.below⟩
  subst h2
  cases h4 : (t0 == t0') && ((t1 == t1') && ((t2 == t2') && (t3 == t3')))
  case false =>
    have E4 : ((t0 == t0') && (t1 == t1') && (t2 == t2') && (t3 == t3')) = false := by simpa [Bool.and_assoc] using h4
    clear h4
    go_enter Tryz.func27, Tryz.ntmps27
    go_wp2_with (first | ((with_reducible refine pre_neq 44 _ _ _ rfl ?_); refine wpList_neqFour _ _ _ _ rfl wy Tryz.underlying44 cell3 Tryz.underlying3 (by kernel_rfl) _ _ _ _ _ _ _ _ (sTm rfl) (sTm rfl) ?_; simp only [E4, put_some, put_none, sSet, zSet]) | go_skip | ((first | ((with_reducible refine pre_alloc _ rfl ?_); refine lZ hp rfl (by with_reducible first | exact zero47 | exact zero126) ?_; clear hp; intro b w1 hp) | ((with_reducible refine pre_box _ _ rfl ?_); refine lB hp rfl (sTm rfl) rfl ?_; clear hp; intro b w1 hp) | ((with_reducible refine pre_load _ _ rfl ?_); first | refine lO hp rfl (sTm rfl) ceHSameM1 aa14 ?_ | refine lA hp rfl (sTm rfl) gaHSameM0 aa14 ?_ | refine lR hp rfl (sTm rfl) gaHSameM0 HX.out ?_ | refine lR hp rfl (sTm rfl) gaHSameM0 HY.out ?_) | ((with_reducible refine pre_store _ _ _ rfl ?_); (first | refine sO hp rfl (sTm rfl) ceHSameM1 aa14 ?_ | refine sA hp rfl (sTm rfl) (sTm rfl) gaHSameM0 aa14 ?_ | refine sG hp rfl (sTm rfl) (sTm rfl) gaHSameM0 aa14 ?_); clear hp; intro w1 hp; simp only [spl, zSet, sSet] at hp)); simp only [put_some, put_none, sSet, zSet]))
    go_ret; exact ⟨rfl, hp.below⟩
  simp only [Bool.and_eq_true, beq_iff_eq] at h4
  obtain ⟨h4, h5, h6, h7⟩ := h4
  subst h4 h5 h6 h7
  have E4 : ((t0 == t0) && (t1 == t1) && (t2 == t2) && (t3 == t3)) = true := by simp
  by_cases h8 : os.length = os'.length
  case neg =>
    have e1 : ((os.length : Int) == (os'.length : Int)) = false := by simp; omega
    go_enter Tryz.func27, Tryz.ntmps27
    go_wp2_with (first | ((with_reducible refine pre_neq 44 _ _ _ rfl ?_); refine wpList_neqFour _ _ _ _ rfl wy Tryz.underlying44 cell3 Tryz.underlying3 (by kernel_rfl) _ _ _ _ _ _ _ _ (sTm rfl) (sTm rfl) ?_; simp only [E4, put_some, put_none, sSet, zSet]) | go_skip | ((first | ((with_reducible refine pre_alloc _ rfl ?_); refine lZ hp rfl (by with_reducible first | exact zero47 | exact zero126) ?_; clear hp; intro b w1 hp) | ((with_reducible refine pre_box _ _ rfl ?_); refine lB hp rfl (sTm rfl) rfl ?_; clear hp; intro b w1 hp) | ((with_reducible refine pre_load _ _ rfl ?_); first | refine lO hp rfl (sTm rfl) ceHSameM1 aa14 ?_ | refine lA hp rfl (sTm rfl) gaHSameM0 aa14 ?_ | refine lR hp rfl (sTm rfl) gaHSameM0 HX.out ?_ | refine lR hp rfl (sTm rfl) gaHSameM0 HY.out ?_) | ((with_reducible refine pre_store _ _ _ rfl ?_); (first | refine sO hp rfl (sTm rfl) ceHSameM1 aa14 ?_ | refine sA hp rfl (sTm rfl) (sTm rfl) gaHSameM0 aa14 ?_ | refine sG hp rfl (sTm rfl) (sTm rfl) gaHSameM0 aa14 ?_); clear hp; intro w1 hp; simp only [spl, zSet, sSet] at hp)); simp only [put_some, put_none, sSet, zSet]))
    go_ret; exact ⟨rfl, hp.below⟩
  rw [← h8]
  have H8 := Lib.hid h8
  clear h8
  by_cases h9 : fs = fs'
  case neg =>
    have HFN := Lib.hid h9
    clear h9
    go_enter Tryz.func27, Tryz.ntmps27
    go_wp2_with (first | ((with_reducible refine pre_neq 44 _ _ _ rfl ?_); refine wpList_neqFour _ _ _ _ rfl wy Tryz.underlying44 cell3 Tryz.underlying3 (by kernel_rfl) _ _ _ _ _ _ _ _ (sTm rfl) (sTm rfl) ?_; simp only [E4, put_some, put_none, sSet, zSet]) | (go_at_call 82; (with_reducible refine (same82_no _ _ _ _ _ _ HFL.out HFN.out _ (HF.out.below hp.below) (HG.out.below hp.below)).mono ?_); rintro e w1 ⟨rfl, hb⟩; replace hp := hp.call hb; clear hb) | go_skip | ((first | ((with_reducible refine pre_alloc _ rfl ?_); refine lZ hp rfl (by with_reducible first | exact zero47 | exact zero126) ?_; clear hp; intro b w1 hp) | ((with_reducible refine pre_box _ _ rfl ?_); refine lB hp rfl (sTm rfl) rfl ?_; clear hp; intro b w1 hp) | ((with_reducible refine pre_load _ _ rfl ?_); first | refine lO hp rfl (sTm rfl) ceHSameM1 aa14 ?_ | refine lA hp rfl (sTm rfl) gaHSameM0 aa14 ?_ | refine lR hp rfl (sTm rfl) gaHSameM0 HX.out ?_ | refine lR hp rfl (sTm rfl) gaHSameM0 HY.out ?_) | ((with_reducible refine pre_store _ _ _ rfl ?_); (first | refine sO hp rfl (sTm rfl) ceHSameM1 aa14 ?_ | refine sA hp rfl (sTm rfl) (sTm rfl) gaHSameM0 aa14 ?_ | refine sG hp rfl (sTm rfl) (sTm rfl) gaHSameM0 aa14 ?_); clear hp; intro w1 hp; simp only [spl, zSet, sSet] at hp)); simp only [put_some, put_none, sSet, zSet]))
    go_ret; exact ⟨rfl, hp.below⟩
  subst h9
  go_enter Tryz.func27, Tryz.ntmps27
  go_wp2_with (first | ((with_reducible refine pre_neq 44 _ _ _ rfl ?_); refine wpList_neqFour _ _ _ _ rfl wy Tryz.underlying44 cell3 Tryz.underlying3 (by kernel_rfl) _ _ _ _ _ _ _ _ (sTm rfl) (sTm rfl) ?_; simp only [E4, put_some, put_none, sSet, zSet]) | (go_at_call 82; (with_reducible refine (same82 _ _ _ _ _ HFL.out _ (HF.out.below hp.below) (HG.out.below hp.below)).mono ?_); rintro e w1 ⟨rfl, hb⟩; replace hp := hp.call hb; clear hb) | go_skip | ((first | ((with_reducible refine pre_alloc _ rfl ?_); refine lZ hp rfl (by with_reducible first | exact zero47 | exact zero126) ?_; clear hp; intro b w1 hp) | ((with_reducible refine pre_box _ _ rfl ?_); refine lB hp rfl (sTm rfl) rfl ?_; clear hp; intro b w1 hp) | ((with_reducible refine pre_load _ _ rfl ?_); first | refine lO hp rfl (sTm rfl) ceHSameM1 aa14 ?_ | refine lA hp rfl (sTm rfl) gaHSameM0 aa14 ?_ | refine lR hp rfl (sTm rfl) gaHSameM0 HX.out ?_ | refine lR hp rfl (sTm rfl) gaHSameM0 HY.out ?_) | ((with_reducible refine pre_store _ _ _ rfl ?_); (first | refine sO hp rfl (sTm rfl) ceHSameM1 aa14 ?_ | refine sA hp rfl (sTm rfl) (sTm rfl) gaHSameM0 aa14 ?_ | refine sG hp rfl (sTm rfl) (sTm rfl) gaHSameM0 aa14 ?_); clear hp; intro w1 hp; simp only [spl, zSet, sSet] at hp)); simp only [put_some, put_none, sSet, zSet]))
  obtain ⟨b1, rfl⟩ := hp.id1
  clear E4
  go_loopg [5] os.length (fun k i wr => ∃ j : Nat, k + j = os.length ∧ i = .int .i64 j ∧ RowKit.Hid (∀ (i : Nat) a b, i < j → os[i]? = some a → os'[i]? = some b → a.Sm b) ∧ Hp w.heap.size w wr [⟨b, [.int .i64 od, .slice oa' os.length oc', .int .i64 nx, .int .i64 t0, .int .i64 t1, .int .i64 t2, .int .i64 t3, .slice fa' fs.length fc'], 47, 8⟩, ⟨b1, [.int .i64 od, .slice oa os.length oc, .int .i64 nx, .int .i64 t0, .int .i64 t1, .int .i64 t2, .int .i64 t3, .slice fa fs.length fc], 47, 8⟩])
  case atStart => exact ⟨0, by omega, rfl, Lib.hid (fun i a b h => by omega), hp⟩
  case round =>
    clear hp
    obtain ⟨j, hkj, rfl, HT, hp⟩ := hrel
    by_cases hlt : j < os.length
    · have hlt' : j < os'.length := by rw [← H8.out]; exact hlt
      obtain ⟨bq, off, rfl, hx⟩ := HO.out.elems 5 obV_len (by omega) (by omega)
      obtain ⟨bq', off', rfl, hy⟩ := HO'.out.elems 5 obV_len (by omega) (by omega)
      have hj := List.getElem?_eq_getElem hlt
      have hj' := List.getElem?_eq_getElem hlt'
      replace hx := hx j _ hj
      replace hy := hy j _ hj'
      have hT2 := obs_take (x := os[j]) (y := os'[j]) HT.out hj hj'
      obtain ⟨hw1, hw2⟩ := HOO.out _ (List.getElem_mem hlt)
      obtain ⟨hv1, hv2⟩ := HOO'.out _ (List.getElem_mem hlt')
      obtain ⟨hw3, hw4⟩ := HOS.out _ (List.getElem_mem hlt)
      clear hj hj' HT
      generalize os[j] = x at hx hw1 hw2 hw3 hw4 hT2
      generalize os'[j] = y at hy hv1 hv2 hT2
      have HT2 := Lib.hid hT2
      obtain ⟨xh, xp, xo, wa, ws, wc, la, ls, lc⟩ := x
      obtain ⟨yh, yp, yo, wa', ws', wc', la', ls', lc'⟩ := y
      simp only [obV] at hx hy hw1 hw2 hw3 hw4 hv1 hv2
      have HX := Lib.hid hx
      have HY := Lib.hid hy
      have HW := Lib.hid hw1
      have HLK := Lib.hid hw2
      have HW2 := Lib.hid hv1
      have HLK2 := Lib.hid hv2
      clear hx hy hw1 hw2 hv1 hv2 hlt' hT2
      have e1 : (0 : Int) ≤ (j : Int) := by omega
      have e2 : (j : Int) < (os.length : Int) := by omega
      by_cases s1 : xh = yh
      case neg =>
        have e3 : (xh == yh) = false := by simpa using s1
        go_wp2_with (first | go_skip | ((first | ((with_reducible refine pre_alloc _ rfl ?_); refine lZ hp rfl (by with_reducible first | exact zero47 | exact zero126) ?_; clear hp; intro b w1 hp) | ((with_reducible refine pre_box _ _ rfl ?_); refine lB hp rfl (sTm rfl) rfl ?_; clear hp; intro b w1 hp) | ((with_reducible refine pre_load _ _ rfl ?_); first | refine lO hp rfl (sTm rfl) ceHSameM1 aa14 ?_ | refine lA hp rfl (sTm rfl) gaHSameM0 aa14 ?_ | refine lR hp rfl (sTm rfl) gaHSameM0 HX.out ?_ | refine lR hp rfl (sTm rfl) gaHSameM0 HY.out ?_) | ((with_reducible refine pre_store _ _ _ rfl ?_); (first | refine sO hp rfl (sTm rfl) ceHSameM1 aa14 ?_ | refine sA hp rfl (sTm rfl) (sTm rfl) gaHSameM0 aa14 ?_ | refine sG hp rfl (sTm rfl) (sTm rfl) gaHSameM0 aa14 ?_); clear hp; intro w1 hp; simp only [spl, zSet, sSet] at hp)); simp only [put_some, put_none, sSet, zSet]))
        go_ret; exact ⟨rfl, hp.below⟩
      subst s1
      by_cases s2 : xp = yp
      case neg =>
        have e3 : (xp == yp) = false := by simpa using s2
        go_wp2_with (first | go_skip | ((first | ((with_reducible refine pre_alloc _ rfl ?_); refine lZ hp rfl (by with_reducible first | exact zero47 | exact zero126) ?_; clear hp; intro b w1 hp) | ((with_reducible refine pre_box _ _ rfl ?_); refine lB hp rfl (sTm rfl) rfl ?_; clear hp; intro b w1 hp) | ((with_reducible refine pre_load _ _ rfl ?_); first | refine lO hp rfl (sTm rfl) ceHSameM1 aa14 ?_ | refine lA hp rfl (sTm rfl) gaHSameM0 aa14 ?_ | refine lR hp rfl (sTm rfl) gaHSameM0 HX.out ?_ | refine lR hp rfl (sTm rfl) gaHSameM0 HY.out ?_) | ((with_reducible refine pre_store _ _ _ rfl ?_); (first | refine sO hp rfl (sTm rfl) ceHSameM1 aa14 ?_ | refine sA hp rfl (sTm rfl) (sTm rfl) gaHSameM0 aa14 ?_ | refine sG hp rfl (sTm rfl) (sTm rfl) gaHSameM0 aa14 ?_); clear hp; intro w1 hp; simp only [spl, zSet, sSet] at hp)); simp only [put_some, put_none, sSet, zSet]))
        go_ret; exact ⟨rfl, hp.below⟩
      subst s2
      by_cases s3 : xo = yo
      case neg =>
        have e3 : (xo == yo) = false := by simpa using s3
        go_wp2_with (first | go_skip | ((first | ((with_reducible refine pre_alloc _ rfl ?_); refine lZ hp rfl (by with_reducible first | exact zero47 | exact zero126) ?_; clear hp; intro b w1 hp) | ((with_reducible refine pre_box _ _ rfl ?_); refine lB hp rfl (sTm rfl) rfl ?_; clear hp; intro b w1 hp) | ((with_reducible refine pre_load _ _ rfl ?_); first | refine lO hp rfl (sTm rfl) ceHSameM1 aa14 ?_ | refine lA hp rfl (sTm rfl) gaHSameM0 aa14 ?_ | refine lR hp rfl (sTm rfl) gaHSameM0 HX.out ?_ | refine lR hp rfl (sTm rfl) gaHSameM0 HY.out ?_) | ((with_reducible refine pre_store _ _ _ rfl ?_); (first | refine sO hp rfl (sTm rfl) ceHSameM1 aa14 ?_ | refine sA hp rfl (sTm rfl) (sTm rfl) gaHSameM0 aa14 ?_ | refine sG hp rfl (sTm rfl) (sTm rfl) gaHSameM0 aa14 ?_); clear hp; intro w1 hp; simp only [spl, zSet, sSet] at hp)); simp only [put_some, put_none, sSet, zSet]))
        go_ret; exact ⟨rfl, hp.below⟩
      subst s3
      by_cases s4 : ws = ws'
      case neg =>
        have HWN := Lib.hid s4
        clear s4
        go_wp2_with (first | (go_at_call 83; (with_reducible refine (ints83_no ws ws' wa wa' wc wc' hw3 HWN.out _ (HW.out.below hp.below) (HW2.out.below hp.below)).mono ?_); rintro e w1 ⟨rfl, hb⟩; replace hp := hp.call hb; clear hb) | go_skip | ((first | ((with_reducible refine pre_alloc _ rfl ?_); refine lZ hp rfl (by with_reducible first | exact zero47 | exact zero126) ?_; clear hp; intro b w1 hp) | ((with_reducible refine pre_box _ _ rfl ?_); refine lB hp rfl (sTm rfl) rfl ?_; clear hp; intro b w1 hp) | ((with_reducible refine pre_load _ _ rfl ?_); first | refine lO hp rfl (sTm rfl) ceHSameM1 aa14 ?_ | refine lA hp rfl (sTm rfl) gaHSameM0 aa14 ?_ | refine lR hp rfl (sTm rfl) gaHSameM0 HX.out ?_ | refine lR hp rfl (sTm rfl) gaHSameM0 HY.out ?_) | ((with_reducible refine pre_store _ _ _ rfl ?_); (first | refine sO hp rfl (sTm rfl) ceHSameM1 aa14 ?_ | refine sA hp rfl (sTm rfl) (sTm rfl) gaHSameM0 aa14 ?_ | refine sG hp rfl (sTm rfl) (sTm rfl) gaHSameM0 aa14 ?_); clear hp; intro w1 hp; simp only [spl, zSet, sSet] at hp)); simp only [put_some, put_none, sSet, zSet]))
        go_ret; exact ⟨rfl, hp.below⟩
      subst s4
      by_cases s5 : ls = ls'
      case neg =>
        have HLN := Lib.hid s5
        clear s5
        go_wp2_with (first | (go_at_call 83; (with_reducible refine (ints83 ws wa wa' wc wc' hw3 _ (HW.out.below hp.below) (HW2.out.below hp.below)).mono ?_); rintro e w1 ⟨rfl, hb⟩; replace hp := hp.call hb; clear hb) | (go_at_call 83; (with_reducible refine (ints83_no ls ls' la la' lc lc' hw4 HLN.out _ (HLK.out.below hp.below) (HLK2.out.below hp.below)).mono ?_); rintro e w1 ⟨rfl, hb⟩; replace hp := hp.call hb; clear hb) | go_skip | ((first | ((with_reducible refine pre_alloc _ rfl ?_); refine lZ hp rfl (by with_reducible first | exact zero47 | exact zero126) ?_; clear hp; intro b w1 hp) | ((with_reducible refine pre_box _ _ rfl ?_); refine lB hp rfl (sTm rfl) rfl ?_; clear hp; intro b w1 hp) | ((with_reducible refine pre_load _ _ rfl ?_); first | refine lO hp rfl (sTm rfl) ceHSameM1 aa14 ?_ | refine lA hp rfl (sTm rfl) gaHSameM0 aa14 ?_ | refine lR hp rfl (sTm rfl) gaHSameM0 HX.out ?_ | refine lR hp rfl (sTm rfl) gaHSameM0 HY.out ?_) | ((with_reducible refine pre_store _ _ _ rfl ?_); (first | refine sO hp rfl (sTm rfl) ceHSameM1 aa14 ?_ | refine sA hp rfl (sTm rfl) (sTm rfl) gaHSameM0 aa14 ?_ | refine sG hp rfl (sTm rfl) (sTm rfl) gaHSameM0 aa14 ?_); clear hp; intro w1 hp; simp only [spl, zSet, sSet] at hp)); simp only [put_some, put_none, sSet, zSet]))
        go_ret; exact ⟨rfl, hp.below⟩
      subst s5
      go_wp2_with (first | (go_at_call 83; (with_reducible refine (ints83 ws wa wa' wc wc' hw3 _ (HW.out.below hp.below) (HW2.out.below hp.below)).mono ?_); rintro e w1 ⟨rfl, hb⟩; replace hp := hp.call hb; clear hb) | (go_at_call 83; (with_reducible refine (ints83 ls la la' lc lc' hw4 _ (HLK.out.below hp.below) (HLK2.out.below hp.below)).mono ?_); rintro e w1 ⟨rfl, hb⟩; replace hp := hp.call hb; clear hb) | go_skip | ((first | ((with_reducible refine pre_alloc _ rfl ?_); refine lZ hp rfl (by with_reducible first | exact zero47 | exact zero126) ?_; clear hp; intro b w1 hp) | ((with_reducible refine pre_box _ _ rfl ?_); refine lB hp rfl (sTm rfl) rfl ?_; clear hp; intro b w1 hp) | ((with_reducible refine pre_load _ _ rfl ?_); first | refine lO hp rfl (sTm rfl) ceHSameM1 aa14 ?_ | refine lA hp rfl (sTm rfl) gaHSameM0 aa14 ?_ | refine lR hp rfl (sTm rfl) gaHSameM0 HX.out ?_ | refine lR hp rfl (sTm rfl) gaHSameM0 HY.out ?_) | ((with_reducible refine pre_store _ _ _ rfl ?_); (first | refine sO hp rfl (sTm rfl) ceHSameM1 aa14 ?_ | refine sA hp rfl (sTm rfl) (sTm rfl) gaHSameM0 aa14 ?_ | refine sG hp rfl (sTm rfl) (sTm rfl) gaHSameM0 aa14 ?_); clear hp; intro w1 hp; simp only [spl, zSet, sSet] at hp)); simp only [put_some, put_none, sSet, zSet]))
      go_roundg (gk - 1)
      case measure => omega
      case rel => exact ⟨j + 1, by omega, by go_num, Lib.hid (HT2.out ⟨rfl, rfl, rfl, rfl, rfl⟩), hp.tail.tail⟩
    · exfalso
      refine HNS.out ⟨rfl, rfl, rfl, rfl, rfl, rfl, ⟨H8.out, fun i a b ha hb => HT.out i a b ?_ ha hb⟩, rfl⟩
      have := (List.getElem?_eq_some_iff.1 ha).1
      simp only at this
      omega
noncomputable def smH (x y : Hv) : Bool := @decide (x.Sm y) (Classical.propDecidable _)
noncomputable def smS (x y : Sv) : Bool := @decide (x.Sm y) (Classical.propDecidable _)
theorem smH_iff {x y : Hv} : smH x y = true ↔ x.Sm y := by unfold smH; simp
theorem smS_iff {x y : Sv} : smS x y = true ↔ x.Sm y := by unfold smS; simp
theorem same27B (x y : Hv) (hs : x.Small) (w : World) (hx0 : x.Is w) (hy0 : y.Is w) : Calls Tryz.prog 27 #[.agg (hvL x).toArray, .agg (hvL y).toArray] w fun e w' => e = .returned (.bool (smH x y)) ∧ Below w.heap.size w w' := by
  cases h : smH x y with
  | true => exact same27 x y hs (smH_iff.1 h) w hx0 hy0
  | false => exact same27_no x y hs (fun hn => by rw [smH_iff.2 hn] at h; cases h) w hx0 hy0
theorem same27N (od : Int) (oa : Option Addr) (os : List Ob) (oc : Nat) (nx t0 t1 t2 t3 : Int) (fa : Option Addr) (fs : List Bl) (fc : Nat) (od' : Int) (oa' : Option Addr) (os' : List Ob) (oc' : Nat) (nx' t0' t1' t2' t3' : Int) (fa' : Option Addr) (fs' : List Bl) (fc' : Nat) (hs : Hv.Small ⟨od, oa, os, oc, nx, t0, t1, t2, t3, fa, fs, fc⟩) (b : Bool) (hb : smH ⟨od, oa, os, oc, nx, t0, t1, t2, t3, fa, fs, fc⟩ ⟨od', oa', os', oc', nx', t0', t1', t2', t3', fa', fs', fc'⟩ = b) (w : World) (h : Hv.Is w ⟨od, oa, os, oc, nx, t0, t1, t2, t3, fa, fs, fc⟩) (h' : Hv.Is w ⟨od', oa', os', oc', nx', t0', t1', t2', t3', fa', fs', fc'⟩) : Calls Tryz.prog 27 #[(.agg #[.int .i64 od, .slice oa os.length oc, .int .i64 nx, .int .i64 t0, .int .i64 t1, .int .i64 t2, .int .i64 t3, .slice fa fs.length fc]), (.agg #[.int .i64 od', .slice oa' os'.length oc', .int .i64 nx', .int .i64 t0', .int .i64 t1', .int .i64 t2', .int .i64 t3', .slice fa' fs'.length fc'])] w fun e w' => e = .returned (.bool b) ∧ Below w.heap.size w w' := hb ▸ same27B _ _ hs w h h'
set_option maxRecDepth 100000 in
set_option maxHeartbeats 16000000 in
theorem same26_no (x y : Sv) (hs : x.Small) (hxy : ¬ x.Sm y) (w : World) (hx0 : x.Is w) (hy0 : y.Is w) : Calls Tryz.prog 26 #[.agg (svL x).toArray, .agg (svL y).toArray] w fun e w' => e = .returned (.bool false) ∧ Below w.heap.size w w' := by
  obtain ⟨hv, ra, rs, rc⟩ := x
  obtain ⟨hv', ra', rs', rc'⟩ := y
  obtain ⟨hs1, hs2⟩ := hs
  obtain ⟨hh, hr⟩ := hx0
  obtain ⟨hh', hr'⟩ := hy0
  simp only at hs1 hs2 hh hr hh' hr'
  have hns : smH hv hv' = true → ¬ rs = rs' := fun h1 h2 => hxy ⟨smH_iff.1 h1, h2⟩
  clear hxy
  obtain ⟨hv1, hhv⟩ : ∃ v, v = hv := ⟨_, rfl⟩
  obtain ⟨hv2, hhv2⟩ : ∃ v, v = hv' := ⟨_, rfl⟩
  rw [← hhv, ← hhv2]
  obtain ⟨od, oa, os, oc, nx, t0, t1, t2, t3, fa, fs, fc⟩ := hv1
  obtain ⟨od', oa', os', oc', nx', t0', t1', t2', t3', fa', fs', fc'⟩ := hv2
  subst hhv hhv2
  simp only [svL, hvL, List.cons_append, List.nil_append]
  have HH := Lib.hid hh
  have HH' := Lib.hid hh'
  have HR := Lib.hid hr
  have HR' := Lib.hid hr'
  have hp := Hp.start w
  clear hh hr hh' hr'
  by_cases h8 : rs.length = rs'.length
  case neg =>
    have e1 : ((rs.length : Int) == (rs'.length : Int)) = false := by simp; omega
    clear hns
    go_enter Tryz.func26, Tryz.ntmps26
    go_wp2_with (first | go_skip | ((first | ((with_reducible refine pre_alloc _ rfl ?_); refine lZ hp rfl zeHSameM2 ?_; clear hp; intro b w1 hp) | ((with_reducible refine pre_box _ _ rfl ?_); refine lB hp rfl (sTm rfl) rfl ?_; clear hp; intro b w1 hp) | ((with_reducible refine pre_load _ _ rfl ?_); first | refine lO hp rfl (sTm rfl) ceHSameM4 aa14 ?_ | refine lA hp rfl (sTm rfl) gaHSameM3 aa14 ?_ | refine lR hp rfl (sTm rfl) gaHSameM3 HX.out ?_ | refine lR hp rfl (sTm rfl) gaHSameM3 HY.out ?_) | ((with_reducible refine pre_store _ _ _ rfl ?_); (first | refine sO hp rfl (sTm rfl) ceHSameM4 aa14 ?_ | refine sA hp rfl (sTm rfl) (sTm rfl) gaHSameM3 aa14 ?_ | refine sG hp rfl (sTm rfl) (sTm rfl) gaHSameM3 aa14 ?_); clear hp; intro w1 hp; simp only [spl, zSet, sSet] at hp)); simp only [put_some, put_none, sSet, zSet]))
    go_ret; exact ⟨rfl, hp.below⟩
  rw [← h8]
  have H8 := Lib.hid h8
  clear h8
  cases hsm : smH ⟨od, oa, os, oc, nx, t0, t1, t2, t3, fa, fs, fc⟩ ⟨od', oa', os', oc', nx', t0', t1', t2', t3', fa', fs', fc'⟩
  case false =>
    have HSM := Lib.hid hsm
    clear hsm hns
    go_enter Tryz.func26, Tryz.ntmps26
    go_wp2_with (first | (go_at_call 27; (with_reducible refine (same27N od oa os oc nx t0 t1 t2 t3 fa fs fc od' oa' os' oc' nx' t0' t1' t2' t3' fa' fs' fc' hs1 _ HSM.out _ (HH.out.below hp.below) (HH'.out.below hp.below)).mono ?_); rintro e w1 ⟨rfl, hb⟩; replace hp := hp.call hb; clear hb) | go_skip | ((first | ((with_reducible refine pre_alloc _ rfl ?_); refine lZ hp rfl zeHSameM2 ?_; clear hp; intro b w1 hp) | ((with_reducible refine pre_box _ _ rfl ?_); refine lB hp rfl (sTm rfl) rfl ?_; clear hp; intro b w1 hp) | ((with_reducible refine pre_load _ _ rfl ?_); first | refine lO hp rfl (sTm rfl) ceHSameM4 aa14 ?_ | refine lA hp rfl (sTm rfl) gaHSameM3 aa14 ?_ | refine lR hp rfl (sTm rfl) gaHSameM3 HX.out ?_ | refine lR hp rfl (sTm rfl) gaHSameM3 HY.out ?_) | ((with_reducible refine pre_store _ _ _ rfl ?_); (first | refine sO hp rfl (sTm rfl) ceHSameM4 aa14 ?_ | refine sA hp rfl (sTm rfl) (sTm rfl) gaHSameM3 aa14 ?_ | refine sG hp rfl (sTm rfl) (sTm rfl) gaHSameM3 aa14 ?_); clear hp; intro w1 hp; simp only [spl, zSet, sSet] at hp)); simp only [put_some, put_none, sSet, zSet]))
    go_ret; exact ⟨rfl, hp.below⟩
  have HNS := Lib.hid (hns hsm)
  have HSM := Lib.hid hsm
  clear hsm hns
  go_enter Tryz.func26, Tryz.ntmps26
  go_wp2_with (first | (go_at_call 27; (with_reducible refine (same27N od oa os oc nx t0 t1 t2 t3 fa fs fc od' oa' os' oc' nx' t0' t1' t2' t3' fa' fs' fc' hs1 _ HSM.out _ (HH.out.below hp.below) (HH'.out.below hp.below)).mono ?_); rintro e w1 ⟨rfl, hb⟩; replace hp := hp.call hb; clear hb) | go_skip | ((first | ((with_reducible refine pre_alloc _ rfl ?_); refine lZ hp rfl zeHSameM2 ?_; clear hp; intro b w1 hp) | ((with_reducible refine pre_box _ _ rfl ?_); refine lB hp rfl (sTm rfl) rfl ?_; clear hp; intro b w1 hp) | ((with_reducible refine pre_load _ _ rfl ?_); first | refine lO hp rfl (sTm rfl) ceHSameM4 aa14 ?_ | refine lA hp rfl (sTm rfl) gaHSameM3 aa14 ?_ | refine lR hp rfl (sTm rfl) gaHSameM3 HX.out ?_ | refine lR hp rfl (sTm rfl) gaHSameM3 HY.out ?_) | ((with_reducible refine pre_store _ _ _ rfl ?_); (first | refine sO hp rfl (sTm rfl) ceHSameM4 aa14 ?_ | refine sA hp rfl (sTm rfl) (sTm rfl) gaHSameM3 aa14 ?_ | refine sG hp rfl (sTm rfl) (sTm rfl) gaHSameM3 aa14 ?_); clear hp; intro w1 hp; simp only [spl, zSet, sSet] at hp)); simp only [put_some, put_none, sSet, zSet]))
  obtain ⟨b1, rfl⟩ := hp.id1
  go_loopg [5] rs.length (fun k i wr => ∃ j : Nat, k + j = rs.length ∧ i = .int .i64 j ∧ RowKit.Hid (rs.take j = rs'.take j) ∧ Hp w.heap.size w wr [⟨b, [.int .i64 od', .slice oa' os'.length oc', .int .i64 nx', .int .i64 t0', .int .i64 t1', .int .i64 t2', .int .i64 t3', .slice fa' fs'.length fc', .slice ra' rs.length rc'], 50, 9⟩, ⟨b1, [.int .i64 od, .slice oa os.length oc, .int .i64 nx, .int .i64 t0, .int .i64 t1, .int .i64 t2, .int .i64 t3, .slice fa fs.length fc, .slice ra rs.length rc], 50, 9⟩])
  case atStart => exact ⟨0, by omega, rfl, Lib.hid (by simp), hp⟩
  case round =>
    clear hp
    obtain ⟨j, hkj, rfl, HT, hp⟩ := hrel
    by_cases hlt : j < rs.length
    · have hlt' : j < rs'.length := by rw [← H8.out]; exact hlt
      obtain ⟨bq, off, rfl, hx⟩ := HR.out.elems 4 rwV_len (by omega) (by omega)
      obtain ⟨bq', off', rfl, hy⟩ := HR'.out.elems 4 rwV_len (by omega) (by omega)
      have hj := List.getElem?_eq_getElem hlt
      have hj' := List.getElem?_eq_getElem hlt'
      replace hx := hx j _ hj
      replace hy := hy j _ hj'
      generalize rs[j] = x at hx hj
      generalize rs'[j] = y at hy hj'
      have e1 : (0 : Int) ≤ (j : Int) := by omega
      have e2 : (j : Int) < (rs.length : Int) := by omega
      by_cases hxy : x = y
      · subst hxy
        have HT2 := Lib.hid (take_succ_eq HT.out hj hj')
        obtain ⟨xc, xs, xe, xv⟩ := x
        simp only [rwV] at hx hy
        have HX := Lib.hid hx
        have HY := Lib.hid hy
        clear hx hy hj hj' HT hlt'
        go_wp2_with (first | go_skip | ((first | ((with_reducible refine pre_alloc _ rfl ?_); refine lZ hp rfl zeHSameM2 ?_; clear hp; intro b w1 hp) | ((with_reducible refine pre_box _ _ rfl ?_); refine lB hp rfl (sTm rfl) rfl ?_; clear hp; intro b w1 hp) | ((with_reducible refine pre_load _ _ rfl ?_); first | refine lO hp rfl (sTm rfl) ceHSameM4 aa14 ?_ | refine lA hp rfl (sTm rfl) gaHSameM3 aa14 ?_ | refine lR hp rfl (sTm rfl) gaHSameM3 HX.out ?_ | refine lR hp rfl (sTm rfl) gaHSameM3 HY.out ?_) | ((with_reducible refine pre_store _ _ _ rfl ?_); (first | refine sO hp rfl (sTm rfl) ceHSameM4 aa14 ?_ | refine sA hp rfl (sTm rfl) (sTm rfl) gaHSameM3 aa14 ?_ | refine sG hp rfl (sTm rfl) (sTm rfl) gaHSameM3 aa14 ?_); clear hp; intro w1 hp; simp only [spl, zSet, sSet] at hp)); simp only [put_some, put_none, sSet, zSet]))
        refine wp_region_keeps _ (Keeps.all hp.drew) [] [(0, true), (1, true), (2, true), (3, true), (4, true), (5, true), (6, true), (7, true), (8, true), (9, true), (10, true)] (by kernel_rfl) (by kernel_rfl) rfl (by kernel_rfl) (fun _ _ d _ _ h => by cases d <;> exact h) ?_
        replace hp := hp.drew
        repeat' (with_reducible refine plan_is ?_); first | (with_reducible refine plan_nil ?_) | ((with_reducible refine plan_t ?_); refine plan_tk rfl ?_; (first | ((with_reducible refine tk_mv _ rfl ?_); refine tM rfl ?_) | ((with_reducible refine tk_ld _ _ rfl ?_); first | refine tA rfl (sTm rfl) agg120 aa14 ?_ | refine tO rfl (sTm rfl) cell48 aa14 ?_ | refine tR rfl (sTm rfl) agg120 HX.out ?_ | refine tR rfl (sTm rfl) agg120 HY.out ?_) | refine tG (fun w _ => (by go_simp; try rfl)) ?_); try simp only [put_some, put_none, eval_tmp, eval_const, sSet, zSet, List.getD_cons_succ, List.getD_cons_zero, wrap_eq])
        go_wp2_with fail
        go_roundg (gk - 1)
        case measure => omega
        case rel => exact ⟨j + 1, by omega, by go_num, HT2, hp⟩
      · obtain ⟨xc, xs, xe, xv⟩ := x
        obtain ⟨yc, ys, ye, yv⟩ := y
        have key : (xc == yc) = false ∨ (xc = yc ∧ (xs == ys) = false) ∨ (xc = yc ∧ xs = ys ∧ (xe == ye) = false) ∨ (xc = yc ∧ xs = ys ∧ xe = ye ∧ (xv == yv) = false) := by
          by_cases h1 : xc = yc
          · by_cases h2 : xs = ys
            · by_cases h3 : xe = ye
              · exact .inr (.inr (.inr ⟨h1, h2, h3, by simpa using fun h4 => hxy (by rw [h1, h2, h3, h4])⟩))
              · exact .inr (.inr (.inl ⟨h1, h2, by simpa using h3⟩))
            · exact .inr (.inl ⟨h1, by simpa using h2⟩)
          · exact .inl (by simpa using h1)
        simp only [rwV] at hx hy
        have HX := Lib.hid hx
        have HY := Lib.hid hy
        clear hx hy hj hj' HT hlt' hxy
        rcases key with e3 | ⟨rfl, e3⟩ | ⟨rfl, rfl, e3⟩ | ⟨rfl, rfl, rfl, e3⟩
        all_goals
          go_wp2_with (first | go_skip | ((first | ((with_reducible refine pre_alloc _ rfl ?_); refine lZ hp rfl zeHSameM2 ?_; clear hp; intro b w1 hp) | ((with_reducible refine pre_box _ _ rfl ?_); refine lB hp rfl (sTm rfl) rfl ?_; clear hp; intro b w1 hp) | ((with_reducible refine pre_load _ _ rfl ?_); first | refine lO hp rfl (sTm rfl) ceHSameM4 aa14 ?_ | refine lA hp rfl (sTm rfl) gaHSameM3 aa14 ?_ | refine lR hp rfl (sTm rfl) gaHSameM3 HX.out ?_ | refine lR hp rfl (sTm rfl) gaHSameM3 HY.out ?_) | ((with_reducible refine pre_store _ _ _ rfl ?_); (first | refine sO hp rfl (sTm rfl) ceHSameM4 aa14 ?_ | refine sA hp rfl (sTm rfl) (sTm rfl) gaHSameM3 aa14 ?_ | refine sG hp rfl (sTm rfl) (sTm rfl) gaHSameM3 aa14 ?_); clear hp; intro w1 hp; simp only [spl, zSet, sSet] at hp)); simp only [put_some, put_none, sSet, zSet]))
          refine wp_region_keeps _ (Keeps.all hp.drew) [] [(0, true), (1, true), (2, true), (3, true), (4, true), (5, true), (6, true), (7, true), (8, true), (9, true), (10, true)] (by kernel_rfl) (by kernel_rfl) rfl (by kernel_rfl) (fun _ _ d _ _ h => by cases d <;> exact h) ?_
          replace hp := hp.drew
          repeat' (with_reducible refine plan_is ?_); first | (with_reducible refine plan_nil ?_) | ((with_reducible refine plan_t ?_); refine plan_tk rfl ?_; (first | ((with_reducible refine tk_mv _ rfl ?_); refine tM rfl ?_) | ((with_reducible refine tk_ld _ _ rfl ?_); first | refine tA rfl (sTm rfl) agg120 aa14 ?_ | refine tO rfl (sTm rfl) cell48 aa14 ?_ | refine tR rfl (sTm rfl) agg120 HX.out ?_ | refine tR rfl (sTm rfl) agg120 HY.out ?_) | refine tG (fun w _ => (by go_simp; try rfl)) ?_); try simp only [put_some, put_none, eval_tmp, eval_const, sSet, zSet, List.getD_cons_succ, List.getD_cons_zero, wrap_eq])
          go_wp2_with fail
          go_ret
          exact ⟨rfl, hp.below⟩
    · exfalso
      refine HNS.out ?_
      have := HT.out
      rw [List.take_of_length_le (by omega), List.take_of_length_le (by have := H8.out; omega)] at this
      exact this
theorem same26B (x y : Sv) (hs : x.Small) (w : World) (hx0 : x.Is w) (hy0 : y.Is w) : Calls Tryz.prog 26 #[.agg (svL x).toArray, .agg (svL y).toArray] w fun e w' => e = .returned (.bool (smS x y)) ∧ Below w.heap.size w w' := by
  cases h : smS x y with
  | true => exact same26 x y hs (smS_iff.1 h) w hx0 hy0
  | false => exact same26_no x y hs (fun hn => by rw [smS_iff.2 hn] at h; cases h) w hx0 hy0
end Go.Proofs.YtaafajaadfgaoaaGreat
