/- The walk of the document's Give. -/
import Derived.Test.YtppdjlgjcdmiaaaGreatRT
import Derived.Test.YtppdjlgjcdmiaaaGreatGW
set_option linter.unusedSimpArgs false
set_option linter.unusedVariables false
namespace Go.Proofs.YtppdjlgjcdmiaaaGreat
open Go.RowKit
theorem ceRV0 {ty : TypeId} (h : cellB Tryz.prog ty = true := by with_reducible first | exact cell3 | exact cell4 | exact cell24 | exact cell32) : cellB Tryz.prog ty = true := h
set_option maxRecDepth 100000 in
set_option maxHeartbeats 4000000 in
theorem give122_arg (order : Int) (fs : List Bl) (a : Option Addr) (c : Nat) (hl : fs.length ≤ 600) (p o : Int) (w : World) (ha : RowIs w a (fs.flatMap blV)) (h : rightB order fs = false) : Calls Tryz.prog 122 #[.int .i64 order, .slice a fs.length c, .agg #[.int .i64 p, .int .i64 o]] w (GiveNo w 1) := by
  have hp := Hp.start w
  have HA := Lib.hid ha
  have HE := Lib.hid h
  clear ha h
  go_enter Tryz.func122, Tryz.ntmps122
  go_wp2_with (first | (go_at_call 64; (with_reducible refine (right64 order fs _ c hl _ (HA.out.below hp.below)).mono ?_); rintro e w1 ⟨rfl, hb⟩; rw [HE.out]; replace hp := hp.call hb; clear hb) | go_skip | ((first | ((with_reducible refine pre_alloc _ rfl ?_); refine lZ hp rfl zero64 ?_; clear hp; intro b w1 hp) | ((with_reducible refine pre_box _ _ rfl ?_); refine lB hp rfl (slot_tmp rfl) rfl ?_; clear hp; intro b w1 hp) | ((with_reducible refine pre_load _ _ rfl ?_); first | refine lO hp rfl (slot_tmp rfl) ceRV0 aa5 ?_ | refine lA hp rfl (slot_tmp rfl) agg64 aa5 ?_) | ((with_reducible refine pre_store _ _ _ rfl ?_); (first | refine sO hp rfl (slot_tmp rfl) ceRV0 aa5 ?_ | refine sA hp rfl (slot_tmp rfl) (slot_tmp rfl) agg64 aa5 ?_ | refine sG hp rfl (slot_tmp rfl) (slot_tmp rfl) agg64 aa5 ?_); clear hp; intro w1 hp; simp only [spl, List.set_cons_zero, List.set_cons_succ] at hp) | ((with_reducible refine pre_build _ _ _ rfl ?_); refine lS hp rfl (by intro w; go_simp; rfl) ?_; clear hp; intro b w1 hp; simp only [List.length_cons, List.length_nil, Nat.reduceAdd] at hp)); simp only [put_some, put_none, List.set_cons_succ, List.set_cons_zero]))
  go_ret2
  exact ⟨rfl, hp.below⟩
set_option maxRecDepth 100000 in
set_option maxHeartbeats 4000000 in
theorem give122_may (order : Int) (fs : List Bl) (a : Option Addr) (c : Nat) (hl : fs.length ≤ 600) (p o : Int) (w : World) (ha : RowIs w a (fs.flatMap blV)) (hr : rightB order fs = true) (hm : mayB order p o = false) : Calls Tryz.prog 122 #[.int .i64 order, .slice a fs.length c, .agg #[.int .i64 p, .int .i64 o]] w (GiveNo w 41) := by
  have hp := Hp.start w
  have HA := Lib.hid ha
  have HE := Lib.hid hr
  have HM := Lib.hid hm
  have hr2 := hr
  unfold rightB regionB at hr2
  simp only [Bool.and_eq_true, decide_eq_true_eq] at hr2
  obtain ⟨⟨g3, g8⟩, hgood⟩ := hr2
  clear ha hr hm hgood
  go_enter Tryz.func122, Tryz.ntmps122
  go_wp2_with (first | (go_at_call 64; (with_reducible refine (right64 order fs _ c hl _ (HA.out.below hp.below)).mono ?_); rintro e w1 ⟨rfl, hb⟩; rw [HE.out]; replace hp := hp.call hb; clear hb) | (go_at_call 66; (with_reducible refine (may66 _ g8 _ _ _).mono ?_); rintro e w1 ⟨rfl, hb⟩; rw [HM.out]; replace hp := hp.call hb; clear hb) | go_skip | ((first | ((with_reducible refine pre_alloc _ rfl ?_); refine lZ hp rfl zero64 ?_; clear hp; intro b w1 hp) | ((with_reducible refine pre_box _ _ rfl ?_); refine lB hp rfl (slot_tmp rfl) rfl ?_; clear hp; intro b w1 hp) | ((with_reducible refine pre_load _ _ rfl ?_); first | refine lO hp rfl (slot_tmp rfl) ceRV0 aa5 ?_ | refine lA hp rfl (slot_tmp rfl) agg64 aa5 ?_) | ((with_reducible refine pre_store _ _ _ rfl ?_); (first | refine sO hp rfl (slot_tmp rfl) ceRV0 aa5 ?_ | refine sA hp rfl (slot_tmp rfl) (slot_tmp rfl) agg64 aa5 ?_ | refine sG hp rfl (slot_tmp rfl) (slot_tmp rfl) agg64 aa5 ?_); clear hp; intro w1 hp; simp only [spl, List.set_cons_zero, List.set_cons_succ] at hp) | ((with_reducible refine pre_build _ _ _ rfl ?_); refine lS hp rfl (by intro w; go_simp; rfl) ?_; clear hp; intro b w1 hp; simp only [List.length_cons, List.length_nil, Nat.reduceAdd] at hp)); simp only [put_some, put_none, List.set_cons_succ, List.set_cons_zero]))
  go_ret2
  exact ⟨rfl, hp.below⟩
theorem GiveRel.doneR {od : Int} {fs : List Bl} {b0 b : Bl} {k : Nat} {l : List Bl} (h : GiveRel od fs b0 k l b) (hn : ¬ (b.o < od ∧ twinP b ∈ l)) : givenL od fs b0 = withL l b := by
  unfold givenL
  rw [h.2.1, giveF_no hn]
theorem GiveRel.goR {od : Int} {fs : List Bl} {b0 b : Bl} {k : Nat} {l : List Bl} (h : GiveRel od fs b0 k l b) (h8 : od ≤ 8) (h1 : b.o < od) (h2 : twinP b ∈ l) : 0 < k ∧ GiveRel od fs b0 (k - 1) (without l (twinP b)) (mergeB b) := by
  obtain ⟨j, hj, he⟩ := List.getElem_of_mem h2
  have hjj : l[j]? = some (twinP b) := by rw [List.getElem?_eq_getElem hj, he]
  have := h.go h8 h1 h2 hjj
  rw [erase_without h.1.disj.sorted.nodup hjj] at this
  exact this
set_option maxRecDepth 100000 in
set_option maxHeartbeats 8000000 in
theorem give122_yes (order : Int) (fs : List Bl) (a : Option Addr) (c : Nat) (hl : fs.length ≤ 600) (p o : Int) (w : World) (ha : RowIs w a (fs.flatMap blV)) (hr : rightB order fs = true) (hm : mayB order p o = true) : Calls Tryz.prog 122 #[.int .i64 order, .slice a fs.length c, .agg #[.int .i64 p, .int .i64 o]] w (fun e w' => (meetsB fs p o = true → GiveNo w 41 e w') ∧ (meetsB fs p o = false → GiveOk w (givenL order fs ⟨p, o⟩) e w')) := by
  have hp := Hp.start w
  have HA := Lib.hid ha
  have HE := Lib.hid hr
  have h2 := hr
  unfold rightB regionB at h2
  simp only [Bool.and_eq_true, decide_eq_true_eq] at h2
  obtain ⟨⟨g3, g8⟩, hg⟩ := h2
  have HINB := Lib.hid (good_in g8 hg)
  have HM := Lib.hid hm
  obtain ⟨y1, y2, y3, y4, _⟩ := may_facts g8 (mayB_may hm)
  have HG0 : RowKit.Hid (meetsB fs p o = false → GiveRel order fs ⟨p, o⟩ (order - o).toNat fs ⟨p, o⟩) := Lib.hid (fun hc => ⟨⟨hg.disj, mayB_may hm, fun x hx hmm => by
    have : meetsB fs p o = true := List.any_eq_true.2 ⟨x, hx, by obtain ⟨xp, xo⟩ := x; simpa [meetB, MeetP] using hmm⟩
    rw [hc] at this; cases this⟩, rfl, hl, rfl⟩)
  clear ha hr hg hm
  go_enter Tryz.func122, Tryz.ntmps122
  go_wp2_with (first | (go_at_call 64; (with_reducible refine (right64 order fs _ c hl _ (HA.out.below hp.below)).mono ?_); rintro e w1 ⟨rfl, hb⟩; rw [HE.out]; replace hp := hp.call hb; clear hb) | (go_at_call 66; (with_reducible refine (may66 _ g8 _ _ _).mono ?_); rintro e w1 ⟨rfl, hb⟩; rw [HM.out]; replace hp := hp.call hb; clear hb) | go_skip | ((first | ((with_reducible refine pre_alloc _ rfl ?_); refine lZ hp rfl zero64 ?_; clear hp; intro b w1 hp) | ((with_reducible refine pre_box _ _ rfl ?_); refine lB hp rfl (slot_tmp rfl) rfl ?_; clear hp; intro b w1 hp) | ((with_reducible refine pre_load _ _ rfl ?_); first | refine lO hp rfl (slot_tmp rfl) ceRV0 aa5 ?_ | refine lA hp rfl (slot_tmp rfl) agg64 aa5 ?_) | ((with_reducible refine pre_store _ _ _ rfl ?_); (first | refine sO hp rfl (slot_tmp rfl) ceRV0 aa5 ?_ | refine sA hp rfl (slot_tmp rfl) (slot_tmp rfl) agg64 aa5 ?_ | refine sG hp rfl (slot_tmp rfl) (slot_tmp rfl) agg64 aa5 ?_); clear hp; intro w1 hp; simp only [spl, List.set_cons_zero, List.set_cons_succ] at hp) | ((with_reducible refine pre_build _ _ _ rfl ?_); refine lS hp rfl (by intro w; go_simp; rfl) ?_; clear hp; intro b w1 hp; simp only [List.length_cons, List.length_nil, Nat.reduceAdd] at hp)); simp only [put_some, put_none, List.set_cons_succ, List.set_cons_zero]))
  obtain ⟨b5, rfl⟩ := hp.id0
  go_loopg [8] fs.length (fun k i wr => ∃ j : Nat, k + j = fs.length ∧ i = .int .i64 j ∧ RowKit.Hid (meetsB (fs.take j) p o = false) ∧ Hp w.heap.size w wr [⟨b5, [.int .i64 p, .int .i64 o], 64, 2⟩])
  case atStart => exact ⟨0, by omega, rfl, Lib.hid (by simp [meetsB]), hp⟩
  case round =>
    clear hp
    obtain ⟨j, hkj, rfl, HMS, hp⟩ := hrel
    by_cases hlt : j < fs.length
    · obtain ⟨bq, off, rfl, hx⟩ := HA.out.elems 2 blV_len (by omega) (by omega)
      have hj := List.getElem?_eq_getElem hlt
      replace hx := hx j _ hj
      have hin := HINB.out _ (List.getElem_mem hlt)
      generalize fs[j] = x at hx hj hin
      obtain ⟨xp, xo⟩ := x
      simp only [blV] at hx
      simp only at hin
      obtain ⟨x1, x2, x3, x4⟩ := hin
      have HX := Lib.hid hx
      have HJ := Lib.hid hj
      clear hx hj
      have e1 : (0 : Int) ≤ (j : Int) := by omega
      have e2 : (j : Int) < (fs.length : Int) := by omega
      cases hmt : meetB xp xo p o
      · have HMT := Lib.hid hmt
        clear hmt
        go_wp2_with (first | go_skip | ((first | ((with_reducible refine pre_alloc _ rfl ?_); refine lZ hp rfl zero64 ?_; clear hp; intro b w1 hp) | ((with_reducible refine pre_box _ _ rfl ?_); refine lB hp rfl (slot_tmp rfl) rfl ?_; clear hp; intro b w1 hp) | ((with_reducible refine pre_load _ _ rfl ?_); first | refine lO hp rfl (slot_tmp rfl) ceRV0 aa5 ?_ | refine lA hp rfl (slot_tmp rfl) agg64 aa5 ?_ | refine lR hp rfl (slot_tmp rfl) agg64 HX.out ?_) | ((with_reducible refine pre_store _ _ _ rfl ?_); (first | refine sO hp rfl (slot_tmp rfl) ceRV0 aa5 ?_ | refine sA hp rfl (slot_tmp rfl) (slot_tmp rfl) agg64 aa5 ?_ | refine sG hp rfl (slot_tmp rfl) (slot_tmp rfl) agg64 aa5 ?_); clear hp; intro w1 hp; simp only [spl, List.set_cons_zero, List.set_cons_succ] at hp) | ((with_reducible refine pre_build _ _ _ rfl ?_); refine lS hp rfl (by intro w; go_simp; rfl) ?_; clear hp; intro b w1 hp; simp only [List.length_cons, List.length_nil, Nat.reduceAdd] at hp)); simp only [put_some, put_none, List.set_cons_succ, List.set_cons_zero]))
        refine wp_region_keeps _ (Keeps.all hp.drew) [] [(0, true), (1, true), (2, true), (3, true), (4, true), (5, false)] (by kernel_rfl) (by kernel_rfl) rfl (by kernel_rfl) (fun _ _ d _ _ h => by cases d <;> exact h) ?_
        replace hp := hp.drew
        repeat' (with_reducible refine plan_is ?_); first | (with_reducible refine plan_nil ?_) | ((with_reducible refine plan_t ?_); refine plan_tk rfl ?_; (first | ((with_reducible refine tk_mv _ rfl ?_); refine tM rfl ?_) | ((with_reducible refine tk_ld _ _ rfl ?_); first | refine tA rfl (slot_tmp rfl) agg64 aa5 ?_ | refine tR rfl (slot_tmp rfl) agg64 HX.out ?_) | refine tG (fun w _ => (by go_simp; try rfl)) ?_); try simp only [put_some, put_none, eval_tmp, eval_const, List.set_cons_succ, List.set_cons_zero, List.getD_cons_succ, List.getD_cons_zero, wrap_eq]) | (refine plan_do rfl (fun K hK => ?_); go_wp2_with (first | (go_at_call 69; (with_reducible refine (meet69 _ _ _ _ x1 x2 y1 y2 x4 y4 _).mono ?_); rintro e w1 ⟨rfl, hb⟩; rw [HMT.out]; replace hp := hp.call hb; clear hb) | go_skip); (refine hK.out _ _ (.inr (kall hp)) ?_); clear hK K; try simp only [put_some, put_none, eval_tmp, eval_const, List.set_cons_succ, List.set_cons_zero, List.getD_cons_succ, List.getD_cons_zero, wrap_eq])
        go_wp2_with fail
        go_roundg (gk - 1)
        case measure => omega
        case rel => exact ⟨j + 1, by omega, by go_num, Lib.hid (by rw [meets_take HJ.out, HMS.out, HMT.out]; rfl), hp⟩
      · have HMT := Lib.hid hmt
        clear hmt
        have HYS := Lib.hid (meets_yes HJ.out HMT.out)
        go_wp2_with (first | go_skip | ((first | ((with_reducible refine pre_alloc _ rfl ?_); refine lZ hp rfl zero64 ?_; clear hp; intro b w1 hp) | ((with_reducible refine pre_box _ _ rfl ?_); refine lB hp rfl (slot_tmp rfl) rfl ?_; clear hp; intro b w1 hp) | ((with_reducible refine pre_load _ _ rfl ?_); first | refine lO hp rfl (slot_tmp rfl) ceRV0 aa5 ?_ | refine lA hp rfl (slot_tmp rfl) agg64 aa5 ?_ | refine lR hp rfl (slot_tmp rfl) agg64 HX.out ?_) | ((with_reducible refine pre_store _ _ _ rfl ?_); (first | refine sO hp rfl (slot_tmp rfl) ceRV0 aa5 ?_ | refine sA hp rfl (slot_tmp rfl) (slot_tmp rfl) agg64 aa5 ?_ | refine sG hp rfl (slot_tmp rfl) (slot_tmp rfl) agg64 aa5 ?_); clear hp; intro w1 hp; simp only [spl, List.set_cons_zero, List.set_cons_succ] at hp) | ((with_reducible refine pre_build _ _ _ rfl ?_); refine lS hp rfl (by intro w; go_simp; rfl) ?_; clear hp; intro b w1 hp; simp only [List.length_cons, List.length_nil, Nat.reduceAdd] at hp)); simp only [put_some, put_none, List.set_cons_succ, List.set_cons_zero]))
        refine wp_region_keeps _ (Keeps.all hp.drew) [] [(0, true), (1, true), (2, true), (3, true), (4, true), (5, false)] (by kernel_rfl) (by kernel_rfl) rfl (by kernel_rfl) (fun _ _ d _ _ h => by cases d <;> exact h) ?_
        replace hp := hp.drew
        repeat' (with_reducible refine plan_is ?_); first | (with_reducible refine plan_nil ?_) | ((with_reducible refine plan_t ?_); refine plan_tk rfl ?_; (first | ((with_reducible refine tk_mv _ rfl ?_); refine tM rfl ?_) | ((with_reducible refine tk_ld _ _ rfl ?_); first | refine tA rfl (slot_tmp rfl) agg64 aa5 ?_ | refine tR rfl (slot_tmp rfl) agg64 HX.out ?_) | refine tG (fun w _ => (by go_simp; try rfl)) ?_); try simp only [put_some, put_none, eval_tmp, eval_const, List.set_cons_succ, List.set_cons_zero, List.getD_cons_succ, List.getD_cons_zero, wrap_eq]) | (refine plan_do rfl (fun K hK => ?_); go_wp2_with (first | (go_at_call 69; (with_reducible refine (meet69 _ _ _ _ x1 x2 y1 y2 x4 y4 _).mono ?_); rintro e w1 ⟨rfl, hb⟩; rw [HMT.out]; replace hp := hp.call hb; clear hb) | go_skip); (refine hK.out _ _ (.inr (kall hp)) ?_); clear hK K; try simp only [put_some, put_none, eval_tmp, eval_const, List.set_cons_succ, List.set_cons_zero, List.getD_cons_succ, List.getD_cons_zero, wrap_eq])
        go_wp2_with fail
        go_ret2
        exact ⟨fun _ => ⟨rfl, hp.below⟩, fun h => by rw [HYS.out] at h; cases h⟩
    · have e2 : decide ((j : Int) < (fs.length : Int)) = false := by simp; omega
      have HNO : RowKit.Hid (meetsB fs p o = false) := Lib.hid (by have := HMS.out; rw [List.take_of_length_le (by omega)] at this; exact this)
      have HGR := Lib.hid (HG0.out HNO.out)
      clear hkj HMS HG0
      go_wp2_with (first | go_skip | ((first | ((with_reducible refine pre_alloc _ rfl ?_); refine lZ hp rfl zero64 ?_; clear hp; intro b w1 hp) | ((with_reducible refine pre_box _ _ rfl ?_); refine lB hp rfl (slot_tmp rfl) rfl ?_; clear hp; intro b w1 hp) | ((with_reducible refine pre_load _ _ rfl ?_); first | refine lO hp rfl (slot_tmp rfl) ceRV0 aa5 ?_ | refine lA hp rfl (slot_tmp rfl) agg64 aa5 ?_) | ((with_reducible refine pre_store _ _ _ rfl ?_); (first | refine sO hp rfl (slot_tmp rfl) ceRV0 aa5 ?_ | refine sA hp rfl (slot_tmp rfl) (slot_tmp rfl) agg64 aa5 ?_ | refine sG hp rfl (slot_tmp rfl) (slot_tmp rfl) agg64 aa5 ?_); clear hp; intro w1 hp; simp only [spl, List.set_cons_zero, List.set_cons_succ] at hp) | ((with_reducible refine pre_build _ _ _ rfl ?_); refine lS hp rfl (by intro w; go_simp; rfl) ?_; clear hp; intro b w1 hp; simp only [List.length_cons, List.length_nil, Nat.reduceAdd] at hp)); simp only [put_some, put_none, List.set_cons_succ, List.set_cons_zero]))
      clear e2
      go_loopg [9] (order - o).toNat (fun k v wr => ∃ (q s : Int) (l : List Bl) (a5 : Option Addr) (k5 : Nat) (M : List Blk), v = .slice a5 l.length k5 ∧ RowKit.Hid (GiveRel order fs ⟨p, o⟩ k l ⟨q, s⟩) ∧ RowKit.Hid (RowAt w M a5 (l.flatMap blV)) ∧ Hp w.heap.size w wr (⟨b5, [.int .i64 q, .int .i64 s], 64, 2⟩ :: M))
      case atStart => exact ⟨p, o, fs, a, c, [], rfl, HGR, Lib.hid (fun w1 L h _ => HA.out.below h.below), hp⟩
      case round =>
        clear hp HGR
        obtain ⟨q, s, l, a5, k5, M, rfl, HG, HRW, hp⟩ := hrel
        have hl1 : l.length ≤ 1000 := by have := HG.out.2.2.1; omega
        obtain ⟨m1, m2, m3, m4, m5, m6⟩ := may_facts g8 HG.out.1.may
        by_cases ho : s < order
        · have e1 : decide (s < order) = true := decide_eq_true ho
          by_cases ht : twinP ⟨q, s⟩ ∈ l
          · have HIN : RowKit.Hid (decide ((⟨twP q s, s⟩ : Bl) ∈ l) = true) := Lib.hid (by rw [← twinP_eq]; exact decide_eq_true ht)
            have HGO := Lib.hid (HG.out.goR g8 ho ht)
            have ew : wrap64 (s + 1) = s + 1 := IntWalk.wrap64_in _ ⟨by omega, by omega⟩
            obtain ⟨X, HMG, hX⟩ : ∃ X, RowKit.Hid (mergeB ⟨q, s⟩ = ⟨X, s + 1⟩) ∧ ((twP q s < q ∧ X = twP q s) ∨ (q ≤ twP q s ∧ X = q)) := by
              by_cases hlt : twP q s < q
              · exact ⟨_, Lib.hid (by unfold mergeB; rw [twinP_eq]; simp only; rw [show min q (twP q s) = twP q s by omega]), .inl ⟨hlt, rfl⟩⟩
              · exact ⟨_, Lib.hid (by unfold mergeB; rw [twinP_eq]; simp only; rw [show min q (twP q s) = q by omega]), .inr ⟨by omega, rfl⟩⟩
            clear ht ho
            rcases hX with ⟨hlt, rfl⟩ | ⟨hlt, rfl⟩
            all_goals
              go_wp2_with (first | (go_at_call 94; (with_reducible refine (twin94 _ _ m1 m2 m4 _).mono ?_); rintro e w1 ⟨rfl, hb⟩; replace hp := hp.call hb; clear hb) | (go_at_call 142; (with_reducible refine (in142 l a5 k5 hl1 _ _ _ (HRW.out.at hp (by intro p hp2; simp [hp2]))).mono ?_); rintro e w1 ⟨rfl, hb⟩; rw [HIN.out]; replace hp := hp.call hb; clear hb) | (go_at_call 120; (with_reducible refine (without120 l a5 k5 hl1 _ _ _ (HRW.out.at hp (by intro p hp2; simp [hp2]))).mono ?_); rintro e w1 ⟨v, RO, rfl, hro, hpo⟩; replace hp := hp.join hpo; obtain ⟨a6, k6, rfl, hk6⟩ := hro.kept; have HK6 := Lib.hid hk6; clear hro hpo hk6; simp only [List.cons_append, List.nil_append] at hp) | go_skip | ((first | ((with_reducible refine pre_alloc _ rfl ?_); refine lZ hp rfl zero64 ?_; clear hp; intro b w1 hp) | ((with_reducible refine pre_box _ _ rfl ?_); refine lB hp rfl (slot_tmp rfl) rfl ?_; clear hp; intro b w1 hp) | ((with_reducible refine pre_load _ _ rfl ?_); first | refine lO hp rfl (slot_tmp rfl) ceRV0 aa5 ?_ | refine lA hp rfl (slot_tmp rfl) agg64 aa5 ?_) | ((with_reducible refine pre_store _ _ _ rfl ?_); (first | refine sO hp rfl (slot_tmp rfl) ceRV0 aa5 ?_ | refine sA hp rfl (slot_tmp rfl) (slot_tmp rfl) agg64 aa5 ?_ | refine sG hp rfl (slot_tmp rfl) (slot_tmp rfl) agg64 aa5 ?_); clear hp; intro w1 hp; simp only [spl, List.set_cons_zero, List.set_cons_succ] at hp) | ((with_reducible refine pre_build _ _ _ rfl ?_); refine lS hp rfl (by intro w; go_simp; rfl) ?_; clear hp; intro b w1 hp; simp only [List.length_cons, List.length_nil, Nat.reduceAdd] at hp)); simp only [put_some, put_none, List.set_cons_succ, List.set_cons_zero]))
              go_roundg (gk - 1)
              case measure => have := HGO.out.1; omega
              case rel =>
                have hgo := HGO.out.2
                rw [HMG.out, twinP_eq] at hgo
                refine ⟨_, _, _, a6, k6, M ++ RO, rfl, Lib.hid hgo, Lib.hid (fun w1 L h hm => HK6.out.at h (fun p hp2 => hm p (List.mem_append_right _ hp2))), ?_⟩
                first | exact hp.tail | (have h := hp.tail; rw [if_neg (by omega)] at h; exact h) | (have h := hp.tail; rw [if_pos (by omega)] at h; exact h) | (have h := hp.tail; rw [Int.min_eq_right (by omega)] at h; exact h) | (have h := hp.tail; rw [Int.min_eq_left (by omega)] at h; exact h)
          · have HIN : RowKit.Hid (decide ((⟨twP q s, s⟩ : Bl) ∈ l) = false) := Lib.hid (by rw [← twinP_eq]; exact decide_eq_false ht)
            have HDN := Lib.hid (HG.out.doneR (fun h => ht h.2))
            clear ht ho
            go_wp2_with (first | (go_at_call 94; (with_reducible refine (twin94 _ _ m1 m2 m4 _).mono ?_); rintro e w1 ⟨rfl, hb⟩; replace hp := hp.call hb; clear hb) | (go_at_call 142; (with_reducible refine (in142 l a5 k5 hl1 _ _ _ (HRW.out.at hp (by intro p hp2; simp [hp2]))).mono ?_); rintro e w1 ⟨rfl, hb⟩; rw [HIN.out]; replace hp := hp.call hb; clear hb) | (go_at_call 121; (with_reducible refine (with121 l a5 k5 hl1 _ _ _ (HRW.out.at hp (by intro p hp2; simp [hp2]))).mono ?_); rintro e w1 ⟨v2, RO2, rfl, hro, hpo⟩; obtain ⟨a7, k7, rfl, _⟩ := hro.kept; replace hp := hp.join hpo; have HRO2 := Lib.hid hro; have HPO := Lib.hid hpo; clear hro hpo; simp only [List.cons_append, List.nil_append] at hp) | go_skip | ((first | ((with_reducible refine pre_alloc _ rfl ?_); refine lZ hp rfl zero64 ?_; clear hp; intro b w1 hp) | ((with_reducible refine pre_box _ _ rfl ?_); refine lB hp rfl (slot_tmp rfl) rfl ?_; clear hp; intro b w1 hp) | ((with_reducible refine pre_load _ _ rfl ?_); first | refine lO hp rfl (slot_tmp rfl) ceRV0 aa5 ?_ | refine lA hp rfl (slot_tmp rfl) agg64 aa5 ?_) | ((with_reducible refine pre_store _ _ _ rfl ?_); (first | refine sO hp rfl (slot_tmp rfl) ceRV0 aa5 ?_ | refine sA hp rfl (slot_tmp rfl) (slot_tmp rfl) agg64 aa5 ?_ | refine sG hp rfl (slot_tmp rfl) (slot_tmp rfl) agg64 aa5 ?_); clear hp; intro w1 hp; simp only [spl, List.set_cons_zero, List.set_cons_succ] at hp) | ((with_reducible refine pre_build _ _ _ rfl ?_); refine lS hp rfl (by intro w; go_simp; rfl) ?_; clear hp; intro b w1 hp; simp only [List.length_cons, List.length_nil, Nat.reduceAdd] at hp)); simp only [put_some, put_none, List.set_cons_succ, List.set_cons_zero]))
            go_ret2
            refine ⟨fun h => (by rw [HNO.out] at h; cases h), fun _ => ⟨a7, k7, RO2, by rw [HDN.out]; rfl, by rw [HDN.out]; exact HRO2.out, ?_⟩⟩
            exact hp.subR (by first | exact List.sublist_append_right _ _ | exact (List.sublist_append_right M RO2).cons _)
        · have e1 : decide (s < order) = false := decide_eq_false ho
          have HDN := Lib.hid (HG.out.doneR (fun h => ho h.1))
          clear ho
          go_wp2_with (first | (go_at_call 121; (with_reducible refine (with121 l a5 k5 hl1 _ _ _ (HRW.out.at hp (by intro p hp2; simp [hp2]))).mono ?_); rintro e w1 ⟨v2, RO2, rfl, hro, hpo⟩; obtain ⟨a7, k7, rfl, _⟩ := hro.kept; replace hp := hp.join hpo; have HRO2 := Lib.hid hro; have HPO := Lib.hid hpo; clear hro hpo; simp only [List.cons_append, List.nil_append] at hp) | go_skip | ((first | ((with_reducible refine pre_alloc _ rfl ?_); refine lZ hp rfl zero64 ?_; clear hp; intro b w1 hp) | ((with_reducible refine pre_box _ _ rfl ?_); refine lB hp rfl (slot_tmp rfl) rfl ?_; clear hp; intro b w1 hp) | ((with_reducible refine pre_load _ _ rfl ?_); first | refine lO hp rfl (slot_tmp rfl) ceRV0 aa5 ?_ | refine lA hp rfl (slot_tmp rfl) agg64 aa5 ?_) | ((with_reducible refine pre_store _ _ _ rfl ?_); (first | refine sO hp rfl (slot_tmp rfl) ceRV0 aa5 ?_ | refine sA hp rfl (slot_tmp rfl) (slot_tmp rfl) agg64 aa5 ?_ | refine sG hp rfl (slot_tmp rfl) (slot_tmp rfl) agg64 aa5 ?_); clear hp; intro w1 hp; simp only [spl, List.set_cons_zero, List.set_cons_succ] at hp) | ((with_reducible refine pre_build _ _ _ rfl ?_); refine lS hp rfl (by intro w; go_simp; rfl) ?_; clear hp; intro b w1 hp; simp only [List.length_cons, List.length_nil, Nat.reduceAdd] at hp)); simp only [put_some, put_none, List.set_cons_succ, List.set_cons_zero]))
          go_ret2
          refine ⟨fun h => (by rw [HNO.out] at h; cases h), fun _ => ⟨a7, k7, RO2, by rw [HDN.out]; rfl, by rw [HDN.out]; exact HRO2.out, ?_⟩⟩
          exact hp.subR (by first | exact List.sublist_append_right _ _ | exact (List.sublist_append_right M RO2).cons _)
end Go.Proofs.YtppdjlgjcdmiaaaGreat
