/- Parts of the proof. -/
import Derived.Test.YtcjbepaclbhjaaaGreatCj36
import Derived.Test.YtcjbepaclbhjaaaGreatCj33
open List renaming set_cons_zero → zSet, set_cons_succ → sSet
/- The walk of the law ChangeOrder. -/
set_option linter.unusedSimpArgs false
set_option linter.unusedVariables false
namespace Go.Proofs.YtcjbepaclbhjaaaGreat
open Go.RowKit Go.Lib
theorem ceCVp0 {ty : TypeId} (h : cellB Tryz.prog ty = true := by with_reducible first | exact cell3 | exact cell4 | exact cell22) : cellB Tryz.prog ty = true := h
def AddP2 (w : World) (l : List Vt) (v : Vt) (e : Ending) (w' : World) : Prop :=
  ∃ (a : Option Addr) (n k : Nat) (ys : List Vt) (R : List Blk), e = .returned (.slice a n k) ∧ ys.length = n ∧ n ≤ l.length + 1 ∧ (∀ y ∈ ys, y.es.length ≤ 100000) ∧ ys.map vstrip = addV (l.map vstrip) (vstrip v) ∧ Kept R (fun w => RowIs w a (ys.flatMap vtV) ∧ ∀ y ∈ ys, y.Is w) ∧ Hp w.heap.size w w' R
theorem add_2 (l : List Vt) (a : Option Addr) (q k : Nat) (hq : l.length = q) (hl : q ≤ 1000) (hes : ∀ v ∈ l, v.es.length ≤ 100000) (nd nm bs nu cm : Int) (va : Option Addr) (es : List Env) (m vc : Nat) (hm : es.length = m) (hel : m ≤ 100000) (w : World) (ha : RowIs w a (l.flatMap vtV)) (hlv : ∀ v ∈ l, v.Is w) (hva : RowIs w va (es.flatMap envL)) :
    Calls Tryz.prog 15 #[.slice a q k, .agg #[.int .i64 nd, .int .i64 nm, .int .i64 bs, .int .i64 nu, .int .i64 cm, .slice va m vc]] w (AddP2 w l ⟨nd, nm, bs, nu, cm, va, es, vc⟩) := by
  refine (add_lit l a q k hq hl hes nd nm bs nu cm va es m vc hm hel w ha hlv hva).mono fun e w' h => ?_
  obtain ⟨x, ys, R, M, rfl, hy, hr, hk, hp⟩ := h
  obtain ⟨a2, c2, rfl, hk2⟩ := hr.kept
  refine ⟨a2, ys.length, c2, ys, R ++ M, rfl, rfl, ?_, ?_, hy, hk2.and hk.kept, hp⟩
  · have h1 := congrArg List.length hy
    have h2 := addV_len (l.map vstrip) (vstrip ⟨nd, nm, bs, nu, cm, va, es, vc⟩)
    rw [List.length_map] at h1 h2
    omega
  · intro y hy2
    have h1 : vstrip y ∈ ys.map vstrip := List.mem_map.2 ⟨y, hy2, rfl⟩
    rw [hy] at h1
    rcases mem_addV h1 with h | h
    · obtain ⟨x, hx, he⟩ := List.mem_map.1 h
      have h3 : (vstrip x).es = (vstrip y).es := congrArg Vt.es he
      replace h3 : x.es = y.es := h3
      rw [← h3]; exact hes x hx
    · have h3 : (vstrip y).es = (vstrip ⟨nd, nm, bs, nu, cm, va, es, vc⟩).es := congrArg Vt.es h
      replace h3 : y.es = es := h3
      rw [h3, hm]; exact hel
theorem rise_strip {l : List Vt} : RiseP Vt.nd (l.map vstrip) ↔ RiseP Vt.nd l := by
  unfold RiseP
  rw [List.pairwise_map]; rfl
structure OrdF (y2 z2 cs : List Vt) : Prop where
  rise : RiseP Vt.nd y2
  one : VtsSm y2 z2
  two : VtsSm y2 cs
theorem order_plain {l y1 y2 z1 z2 cs : List Vt} {v w : Vt} (hr : RiseP Vt.nd l) (hvw : v.nd ≠ w.nd) (h1 : y1.map vstrip = addV (l.map vstrip) (vstrip v)) (h2 : y2.map vstrip = addV (y1.map vstrip) (vstrip w))
    (h3 : z1.map vstrip = addV (l.map vstrip) (vstrip w)) (h4 : z2.map vstrip = addV (z1.map vstrip) (vstrip v)) (h5 : cs.map vstrip = addV (y2.map vstrip) (vstrip v)) : OrdF y2 z2 cs := by
  have hr' : RiseP Vt.nd (l.map vstrip) := rise_strip.2 hr
  have hvw' : (vstrip v).nd ≠ (vstrip w).nd := hvw
  rw [h1] at h2
  rw [h3] at h4
  rw [h2] at h5
  refine ⟨rise_strip.1 ?_, vts_strip.2 ?_, vts_strip.2 ?_⟩
  · rw [h2]; exact addV_rise (addV_rise hr')
  · rw [h2, h4]; exact addV_swap hr' hvw'
  · rw [h2, h5, addV_third hr' hvw']
theorem big17_z (l : List Vt) (a : Option Addr) (k : Nat) (w : World) (ha : RowIs w a (l.flatMap vtV)) : Calls Tryz.prog 7 #[.slice a l.length k, .agg #[.int .i64 0, .int .i64 0, .int .i64 0, .string ⟨#[]⟩, .slice none 0 0]] w (BigVP w l 0 0) := big7 l a k 0 0 0 ⟨#[]⟩ none [] 0 w ha
set_option maxRecDepth 100000 in
set_option maxHeartbeats 16000000 in
theorem law4 (la : Option Addr) (l : List Vt) (lk : Nat) (x y : Vt) (w : World) (hl : RowIs w la (l.flatMap vtV)) (hlv : ∀ v ∈ l, v.Is w) (hx : x.Is w) (hy : y.Is w) :
    Calls Tryz.prog 4 #[.slice la l.length lk, .agg (vtV x).toArray, .agg (vtV y).toArray] w fun e w' => e = .returned (.bool true) ∧ Below w.heap.size w w' := by
  obtain ⟨nd, nm, bs, nu, cm, va, es, vc⟩ := x
  obtain ⟨nd2, nm2, bs2, nu2, cm2, vb, es2, vd⟩ := y
  have hp := Hp.start w
  have HL := Lib.hid hl
  have HLV := Lib.hid hlv
  have HVA : RowKit.Hid (RowIs w va (es.flatMap envL)) := Lib.hid hx
  have HVB : RowKit.Hid (RowIs w vb (es2.flatMap envL)) := Lib.hid hy
  simp only [vtV]
  clear hl hlv hx hy
  go_enter Tryz.func4, Tryz.ntmps4
  by_cases h1 : es.length ≤ 200
  · have e1 : decide ((200 : Int) < (es.length : Int)) = false := by simp; omega
    by_cases h2 : es2.length ≤ 200
    · have e2 : decide ((200 : Int) < (es2.length : Int)) = false := by simp; omega
      by_cases h3 : nd = nd2
      · have e3 : (nd == nd2) = true := by simpa using h3
        clear h3
        go_wp2_with (first | (go_at_call 7; (with_reducible refine (big17_z l la lk _ (HL.out.below hp.below)).mono ?_); rintro e w1 ⟨bb, rfl, hbb, hb⟩; replace hp := hp.call hb; clear hb; cases bb) | (go_at_call 19; (with_reducible refine (votes19 _).mono ?_); rintro e w1 ⟨rfl, hb⟩; replace hp := hp.call hb; clear hb) | go_skip | ((first | ((with_reducible refine pre_box _ _ rfl ?_); refine lB hp rfl (sTm rfl) rfl ?_; clear hp; intro b w1 hp) | ((with_reducible refine pre_load _ _ rfl ?_); first | refine lO hp rfl (sTm rfl) ceCVp0 aa5 ?_ | refine lA hp rfl (sTm rfl) agg27 aa5 ?_) | ((with_reducible refine pre_store _ _ _ rfl ?_); (first | refine sO hp rfl (sTm rfl) ceCVp0 aa5 ?_ | refine sA hp rfl (sTm rfl) (sTm rfl) agg27 aa5 ?_ | refine sG hp rfl (sTm rfl) (sTm rfl) agg27 aa5 ?_); clear hp; intro w1 hp; simp only [spl, zSet, sSet] at hp)); simp only [put_some, put_none, sSet, zSet]))
        all_goals (go_ret; exact ⟨rfl, hp.below⟩)
      · have e3 : (nd == nd2) = false := by simpa using h3
        have HND := Lib.hid h3
        have HE1 : RowKit.Hid (es.length ≤ 100000) := Lib.hid (by omega)
        have HE2 : RowKit.Hid (es2.length ≤ 100000) := Lib.hid (by omega)
        clear h1 h2
        go_wp2_with (first | (go_at_call 7; (with_reducible refine (big17_z l la lk _ (HL.out.below hp.below)).mono ?_); rintro e w1 ⟨bb, rfl, hbb, hb⟩; replace hp := hp.call hb; clear hb; cases bb) | (go_at_call 19; (with_reducible refine (votes19 _).mono ?_); rintro e w1 ⟨rfl, hb⟩; replace hp := hp.call hb; clear hb) | go_skip | ((first | ((with_reducible refine pre_box _ _ rfl ?_); refine lB hp rfl (sTm rfl) rfl ?_; clear hp; intro b w1 hp) | ((with_reducible refine pre_load _ _ rfl ?_); first | refine lO hp rfl (sTm rfl) ceCVp0 aa5 ?_ | refine lA hp rfl (sTm rfl) agg27 aa5 ?_) | ((with_reducible refine pre_store _ _ _ rfl ?_); (first | refine sO hp rfl (sTm rfl) ceCVp0 aa5 ?_ | refine sA hp rfl (sTm rfl) (sTm rfl) agg27 aa5 ?_ | refine sG hp rfl (sTm rfl) (sTm rfl) agg27 aa5 ?_); clear hp; intro w1 hp; simp only [spl, zSet, sSet] at hp)); simp only [put_some, put_none, sSet, zSet]))
        rotate_left
        (go_ret; exact ⟨rfl, hp.below⟩)
        obtain ⟨hl50, _, _, hes⟩ := hbb (by first | rfl | trivial)
        have HL50 := Lib.hid hl50
        have HLN : RowKit.Hid (l.length ≤ 1000) := Lib.hid (by omega)
        have HES : RowKit.Hid (∀ v ∈ l, v.es.length ≤ 100000) := Lib.hid (fun v hv => Nat.le_trans (hes v hv) (by decide))
        clear hbb hes h3 e1 e2 e3
        obtain ⟨b1, hb1⟩ := hp.id1
        obtain ⟨b2, hb2⟩ := hp.id0
        subst hb1 hb2
        go_loopg [7] (l.length + 1) (fun k i wr => ∃ j : Nat, k + j = l.length + 1 ∧ i = .int .i64 ((j : Int) + 1) ∧ RowKit.Hid (∀ (i : Nat) x y, i < j → l[i]? = some x → l[i + 1]? = some y → x.nd < y.nd) ∧ Hp w.heap.size w wr [⟨b2, [.int .i64 nd2, .int .i64 nm2, .int .i64 bs2, .int .i64 nu2, .int .i64 cm2, .slice vb es2.length vd], 27, 6⟩, ⟨b1, [.int .i64 nd, .int .i64 nm, .int .i64 bs, .int .i64 nu, .int .i64 cm, .slice va es.length vc], 27, 6⟩])
        case atStart => exact ⟨0, by omega, rfl, Lib.hid (fun i x y h => by omega), hp⟩
        case round =>
          clear hp
          obtain ⟨j, hkj, rfl, HUP, hp⟩ := hrel
          by_cases hlt : j + 1 < l.length
          · obtain ⟨bq, off, rfl, hx⟩ := HL.out.elems 6 vtV_len (by omega) (by omega)
            have hjx := List.getElem?_eq_getElem (show j < l.length by omega)
            have hjy := List.getElem?_eq_getElem hlt
            have hy := hx (j + 1) _ hjy
            replace hx := hx j _ hjx
            have HJX := Lib.hid hjx
            have HJY := Lib.hid hjy
            clear hjx hjy
            generalize l[j] = x at hx HJX
            generalize l[j + 1] = y at hy HJY
            obtain ⟨xd, xm, xb, xu, xc, xa, xs, xk⟩ := x
            obtain ⟨yd, ym, yb, yu, yc, ya, ys, yk⟩ := y
            simp only [vtV] at hx hy
            have HX := Lib.hid hx
            have HY := Lib.hid hy
            clear hx hy
            have f1 : (0 : Int) ≤ (j : Int) := by omega
            have f2 : (j : Int) + 1 < (l.length : Int) := by omega
            have f3 : (j : Int) < (l.length : Int) := by omega
            have e5 : wrap64 (j : Int) = (j : Int) := by have := HLN.out; unfold wrap64; omega
            have e6 : wrap64 ((j : Int) + 1 + 1) = (j : Int) + 1 + 1 := by have := HLN.out; unfold wrap64; omega
            by_cases hge : xd < yd
            · have e7 : decide (yd ≤ xd) = false := by simp; omega
              have HGE := Lib.hid hge
              clear hge
              go_wp2_with (first | go_skip | ((first | ((with_reducible refine pre_box _ _ rfl ?_); refine lB hp rfl (sTm rfl) rfl ?_; clear hp; intro b w1 hp) | ((with_reducible refine pre_load _ _ rfl ?_); first | refine lO hp rfl (sTm rfl) ceCVp0 aa5 ?_ | first | refine lRO hp rfl (sTm rfl) ceCVp0 (HX.out 0 _ rfl) ?_ | first | refine lRO hp rfl (sTm rfl) ceCVp0 (HY.out 0 _ rfl) ?_ | refine lA hp rfl (sTm rfl) agg27 aa5 ?_ | refine lR hp rfl (sTm rfl) agg27 HX.out ?_ | refine lR hp rfl (sTm rfl) agg27 HY.out ?_) | ((with_reducible refine pre_store _ _ _ rfl ?_); (first | refine sO hp rfl (sTm rfl) ceCVp0 aa5 ?_ | refine sA hp rfl (sTm rfl) (sTm rfl) agg27 aa5 ?_ | refine sG hp rfl (sTm rfl) (sTm rfl) agg27 aa5 ?_); clear hp; intro w1 hp; simp only [spl, zSet, sSet] at hp)); simp only [put_some, put_none, sSet, zSet]))
              refine wp_region_keeps _ (Keeps.all hp.drew) [] [(0, true), (1, true), (2, true), (3, true), (4, true), (5, true), (6, true), (7, true), (8, true), (9, true), (10, true), (11, true)] (by kernel_rfl) (by kernel_rfl) rfl (by kernel_rfl) (fun _ _ d _ _ h => by cases d <;> exact h) ?_
              replace hp := hp.drew
              repeat' (with_reducible refine plan_is ?_); first | (with_reducible refine plan_nil ?_) | ((with_reducible refine plan_t ?_); refine plan_tk rfl ?_; (first | ((with_reducible refine tk_mv _ rfl ?_); refine tM rfl ?_) | ((with_reducible refine tk_ld _ _ rfl ?_); first | refine tO rfl (sTm rfl) cell3 aa5 ?_ | refine tRO rfl (sTm rfl) cell3 (HX.out 0 _ rfl) ?_ | refine tRO rfl (sTm rfl) cell3 (HY.out 0 _ rfl) ?_) | refine tG (fun w _ => (by go_simp; try rfl)) ?_); try simp only [put_some, put_none, eval_tmp, eval_const, sSet, zSet, List.getD_cons_succ, List.getD_cons_zero, wrap_eq, e5])
              go_wp2_with (first | go_skip | ((first | ((with_reducible refine pre_box _ _ rfl ?_); refine lB hp rfl (sTm rfl) rfl ?_; clear hp; intro b w1 hp) | ((with_reducible refine pre_load _ _ rfl ?_); first | refine lO hp rfl (sTm rfl) ceCVp0 aa5 ?_ | first | refine lRO hp rfl (sTm rfl) ceCVp0 (HX.out 0 _ rfl) ?_ | first | refine lRO hp rfl (sTm rfl) ceCVp0 (HY.out 0 _ rfl) ?_ | refine lA hp rfl (sTm rfl) agg27 aa5 ?_ | refine lR hp rfl (sTm rfl) agg27 HX.out ?_ | refine lR hp rfl (sTm rfl) agg27 HY.out ?_) | ((with_reducible refine pre_store _ _ _ rfl ?_); (first | refine sO hp rfl (sTm rfl) ceCVp0 aa5 ?_ | refine sA hp rfl (sTm rfl) (sTm rfl) agg27 aa5 ?_ | refine sG hp rfl (sTm rfl) (sTm rfl) agg27 aa5 ?_); clear hp; intro w1 hp; simp only [spl, zSet, sSet] at hp)); simp only [put_some, put_none, sSet, zSet]))
              go_roundg (gk - 1)
              case measure => omega
              case rel => exact ⟨j + 1, by omega, by go_num, Lib.hid (fun i a b hi ha hb => by
                rcases Nat.lt_or_ge i j with h | h
                · exact HUP.out i a b h ha hb
                · obtain rfl : i = j := by omega
                  rw [HJX.out] at ha; injection ha with ha
                  rw [HJY.out] at hb; injection hb with hb
                  rw [← ha, ← hb]; exact HGE.out), hp⟩
            · have e7 : decide (yd ≤ xd) = true := by simp; omega
              clear hge
              go_wp2_with (first | go_skip | ((first | ((with_reducible refine pre_box _ _ rfl ?_); refine lB hp rfl (sTm rfl) rfl ?_; clear hp; intro b w1 hp) | ((with_reducible refine pre_load _ _ rfl ?_); first | refine lO hp rfl (sTm rfl) ceCVp0 aa5 ?_ | first | refine lRO hp rfl (sTm rfl) ceCVp0 (HX.out 0 _ rfl) ?_ | first | refine lRO hp rfl (sTm rfl) ceCVp0 (HY.out 0 _ rfl) ?_ | refine lA hp rfl (sTm rfl) agg27 aa5 ?_ | refine lR hp rfl (sTm rfl) agg27 HX.out ?_ | refine lR hp rfl (sTm rfl) agg27 HY.out ?_) | ((with_reducible refine pre_store _ _ _ rfl ?_); (first | refine sO hp rfl (sTm rfl) ceCVp0 aa5 ?_ | refine sA hp rfl (sTm rfl) (sTm rfl) agg27 aa5 ?_ | refine sG hp rfl (sTm rfl) (sTm rfl) agg27 aa5 ?_); clear hp; intro w1 hp; simp only [spl, zSet, sSet] at hp)); simp only [put_some, put_none, sSet, zSet]))
              refine wp_region_keeps _ (Keeps.all hp.drew) [] [(0, true), (1, true), (2, true), (3, true), (4, true), (5, true), (6, true), (7, true), (8, true), (9, true), (10, true), (11, true)] (by kernel_rfl) (by kernel_rfl) rfl (by kernel_rfl) (fun _ _ d _ _ h => by cases d <;> exact h) ?_
              replace hp := hp.drew
              repeat' (with_reducible refine plan_is ?_); first | (with_reducible refine plan_nil ?_) | ((with_reducible refine plan_t ?_); refine plan_tk rfl ?_; (first | ((with_reducible refine tk_mv _ rfl ?_); refine tM rfl ?_) | ((with_reducible refine tk_ld _ _ rfl ?_); first | refine tO rfl (sTm rfl) cell3 aa5 ?_ | refine tRO rfl (sTm rfl) cell3 (HX.out 0 _ rfl) ?_ | refine tRO rfl (sTm rfl) cell3 (HY.out 0 _ rfl) ?_) | refine tG (fun w _ => (by go_simp; try rfl)) ?_); try simp only [put_some, put_none, eval_tmp, eval_const, sSet, zSet, List.getD_cons_succ, List.getD_cons_zero, wrap_eq, e5])
              go_wp2_with (first | (go_at_call 19; (with_reducible refine (votes19 _).mono ?_); rintro e w1 ⟨rfl, hb⟩; replace hp := hp.call hb; clear hb) | go_skip | ((first | ((with_reducible refine pre_box _ _ rfl ?_); refine lB hp rfl (sTm rfl) rfl ?_; clear hp; intro b w1 hp) | ((with_reducible refine pre_load _ _ rfl ?_); first | refine lO hp rfl (sTm rfl) ceCVp0 aa5 ?_ | first | refine lRO hp rfl (sTm rfl) ceCVp0 (HX.out 0 _ rfl) ?_ | first | refine lRO hp rfl (sTm rfl) ceCVp0 (HY.out 0 _ rfl) ?_ | refine lA hp rfl (sTm rfl) agg27 aa5 ?_ | refine lR hp rfl (sTm rfl) agg27 HX.out ?_ | refine lR hp rfl (sTm rfl) agg27 HY.out ?_) | ((with_reducible refine pre_store _ _ _ rfl ?_); (first | refine sO hp rfl (sTm rfl) ceCVp0 aa5 ?_ | refine sA hp rfl (sTm rfl) (sTm rfl) agg27 aa5 ?_ | refine sG hp rfl (sTm rfl) (sTm rfl) agg27 aa5 ?_); clear hp; intro w1 hp; simp only [spl, zSet, sSet] at hp)); simp only [put_some, put_none, sSet, zSet]))
              (go_ret; exact ⟨rfl, hp.below⟩)
          · have f2 : decide ((j : Int) + 1 < (l.length : Int)) = false := by simp; omega
            have HRI : RowKit.Hid (RiseP Vt.nd l) := Lib.hid (rise_of fun i x y hx hy => HUP.out i x y (by have := (List.getElem?_eq_some_iff.1 hy).1; omega) hx hy)
            clear hkj hlt HUP
            go_wp2_with (first | go_skip | ((first | ((with_reducible refine pre_box _ _ rfl ?_); refine lB hp rfl (sTm rfl) rfl ?_; clear hp; intro b w1 hp) | ((with_reducible refine pre_load _ _ rfl ?_); first | refine lO hp rfl (sTm rfl) ceCVp0 aa5 ?_ | refine lA hp rfl (sTm rfl) agg27 aa5 ?_) | ((with_reducible refine pre_store _ _ _ rfl ?_); (first | refine sO hp rfl (sTm rfl) ceCVp0 aa5 ?_ | refine sA hp rfl (sTm rfl) (sTm rfl) agg27 aa5 ?_ | refine sG hp rfl (sTm rfl) (sTm rfl) agg27 aa5 ?_); clear hp; intro w1 hp; simp only [spl, zSet, sSet] at hp)); simp only [put_some, put_none, sSet, zSet]))
            clear f2
            refine wp_region_keeps [_, _] (Keeps.two hp.drew at0 at1) [] [(0, true), (1, true), (3, true), (2, false), (4, false), (5, false)] (by kernel_rfl) (by kernel_rfl) rfl (by kernel_rfl) (fun _ _ d _ _ h => by cases d <;> exact h) ?_
            replace hp := hp.drew
            repeat' (with_reducible refine plan_is ?_); first | (with_reducible refine plan_nil ?_) | ((with_reducible refine plan_t ?_); refine plan_tk rfl ?_; (first | ((with_reducible refine tk_mv _ rfl ?_); refine tM rfl ?_) | ((with_reducible refine tk_ld _ _ rfl ?_); refine tA rfl (sTm rfl) agg27 aa5 ?_) | refine tG (fun w _ => (by go_simp; try rfl)) ?_); try simp only [put_some, put_none, eval_tmp, eval_const, sSet, zSet, List.getD_cons_succ, List.getD_cons_zero, wrap_eq]) | (refine plan_do rfl (fun K hK => ?_); go_wp2_with (first | (go_at_call 15; (with_reducible refine (add_2 l la _ lk rfl HLN.out HES.out nd nm bs nu cm va es _ vc rfl HE1.out _ (HL.out.below hp.below) (fun y hy => (HLV.out y hy).below hp.below) (HVA.out.below hp.below)).mono ?_); rintro e w1 ⟨a1, n1, k1, y1, R1, rfl, hn1, hm1, he1, hs1, hk1, hp2⟩; replace hp := hp.join hp2; have HN1 := Lib.hid hn1; have HM1 := Lib.hid hm1; have HEA := Lib.hid he1; have HS1 := Lib.hid hs1; have HK1 := Lib.hid hk1; clear hp2 hn1 hm1 he1 hs1 hk1; simp only [List.cons_append, List.nil_append, List.append_assoc] at hp) | (go_at_call 15; (with_reducible refine (add_2 y1 a1 n1 k1 HN1.out (by have := HM1.out; have := HL50.out; omega) HEA.out nd2 nm2 bs2 nu2 cm2 vb es2 _ vd rfl HE2.out _ (HK1.out.at hp (fun p hm => by simp [hm])).1 (HK1.out.at hp (fun p hm => by simp [hm])).2 (HVB.out.below hp.below)).mono ?_); rintro e w1 ⟨a2, n2, k2, y2, R2, rfl, hn1, hm1, he1, hs1, hk1, hp2⟩; replace hp := hp.join hp2; have HN2 := Lib.hid hn1; have HM2 := Lib.hid hm1; have HEB := Lib.hid he1; have HS2 := Lib.hid hs1; have HK2 := Lib.hid hk1; clear hp2 hn1 hm1 he1 hs1 hk1; simp only [List.cons_append, List.nil_append, List.append_assoc] at hp) | go_skip); (refine hK.out _ _ (.inr (Keeps.two hp aa5 aa5)) ?_); clear hK K; try simp only [put_some, put_none, eval_tmp, eval_const, sSet, zSet, List.getD_cons_succ, List.getD_cons_zero, wrap_eq])
            go_wp2_with (first | go_skip | ((first | ((with_reducible refine pre_box _ _ rfl ?_); refine lB hp rfl (sTm rfl) rfl ?_; clear hp; intro b w1 hp) | ((with_reducible refine pre_load _ _ rfl ?_); first | refine lO hp rfl (sTm rfl) ceCVp0 aa5 ?_ | refine lA hp rfl (sTm rfl) agg27 aa5 ?_) | ((with_reducible refine pre_store _ _ _ rfl ?_); (first | refine sO hp rfl (sTm rfl) ceCVp0 aa5 ?_ | refine sA hp rfl (sTm rfl) (sTm rfl) agg27 aa5 ?_ | refine sG hp rfl (sTm rfl) (sTm rfl) agg27 aa5 ?_); clear hp; intro w1 hp; simp only [spl, zSet, sSet] at hp)); simp only [put_some, put_none, sSet, zSet]))
            refine wp_region_keeps [_, _] (Keeps.two hp.drew at0 at1) [] [(0, true), (1, true), (3, true), (2, false), (4, false), (5, false)] (by kernel_rfl) (by kernel_rfl) rfl (by kernel_rfl) (fun _ _ d _ _ h => by cases d <;> exact h) ?_
            replace hp := hp.drew
            repeat' (with_reducible refine plan_is ?_); first | (with_reducible refine plan_nil ?_) | ((with_reducible refine plan_t ?_); refine plan_tk rfl ?_; (first | ((with_reducible refine tk_mv _ rfl ?_); refine tM rfl ?_) | ((with_reducible refine tk_ld _ _ rfl ?_); refine tA rfl (sTm rfl) agg27 aa5 ?_) | refine tG (fun w _ => (by go_simp; try rfl)) ?_); try simp only [put_some, put_none, eval_tmp, eval_const, sSet, zSet, List.getD_cons_succ, List.getD_cons_zero, wrap_eq]) | (refine plan_do rfl (fun K hK => ?_); go_wp2_with (first | (go_at_call 15; (with_reducible refine (add_2 l la _ lk rfl HLN.out HES.out nd2 nm2 bs2 nu2 cm2 vb es2 _ vd rfl HE2.out _ (HL.out.below hp.below) (fun y hy => (HLV.out y hy).below hp.below) (HVB.out.below hp.below)).mono ?_); rintro e w1 ⟨a3, n3, k3, y3, R3, rfl, hn1, hm1, he1, hs1, hk1, hp2⟩; replace hp := hp.join hp2; have HN3 := Lib.hid hn1; have HM3 := Lib.hid hm1; have HEC := Lib.hid he1; have HS3 := Lib.hid hs1; have HK3 := Lib.hid hk1; clear hp2 hn1 hm1 he1 hs1 hk1; simp only [List.cons_append, List.nil_append, List.append_assoc] at hp) | (go_at_call 15; (with_reducible refine (add_2 y3 a3 n3 k3 HN3.out (by have := HM3.out; have := HL50.out; omega) HEC.out nd nm bs nu cm va es _ vc rfl HE1.out _ (HK3.out.at hp (fun p hm => by simp [hm])).1 (HK3.out.at hp (fun p hm => by simp [hm])).2 (HVA.out.below hp.below)).mono ?_); rintro e w1 ⟨a4, n4, k4, y4, R4, rfl, hn1, hm1, he1, hs1, hk1, hp2⟩; replace hp := hp.join hp2; have HN4 := Lib.hid hn1; have HM4 := Lib.hid hm1; have HED := Lib.hid he1; have HS4 := Lib.hid hs1; have HK4 := Lib.hid hk1; clear hp2 hn1 hm1 he1 hs1 hk1; simp only [List.cons_append, List.nil_append, List.append_assoc] at hp) | go_skip); (refine hK.out _ _ (.inr (Keeps.two hp aa5 aa5)) ?_); clear hK K; try simp only [put_some, put_none, eval_tmp, eval_const, sSet, zSet, List.getD_cons_succ, List.getD_cons_zero, wrap_eq])
            go_wp2_with (first | (go_at_call 15; (with_reducible refine (add_2 y2 a2 n2 k2 HN2.out (by have := HM2.out; have := HN1.out; have := HM1.out; have := HL50.out; omega) HEB.out nd nm bs nu cm va es _ vc rfl HE1.out _ (HK2.out.at hp (fun p hm => by simp [hm])).1 (HK2.out.at hp (fun p hm => by simp [hm])).2 (HVA.out.below hp.below)).mono ?_); rintro e w1 ⟨a5, n5, k5, y5, R5, rfl, hn1, hm1, he1, hs1, hk1, hp2⟩; replace hp := hp.join hp2; have HN5 := Lib.hid hn1; have HM5 := Lib.hid hm1; have HEE := Lib.hid he1; have HS5 := Lib.hid hs1; have HK5 := Lib.hid hk1; clear hp2 hn1 hm1 he1 hs1 hk1; simp only [List.cons_append, List.nil_append, List.append_assoc] at hp) | go_skip | ((first | ((with_reducible refine pre_box _ _ rfl ?_); refine lB hp rfl (sTm rfl) rfl ?_; clear hp; intro b w1 hp) | ((with_reducible refine pre_load _ _ rfl ?_); first | refine lO hp rfl (sTm rfl) ceCVp0 aa5 ?_ | refine lA hp rfl (sTm rfl) agg27 aa5 ?_) | ((with_reducible refine pre_store _ _ _ rfl ?_); (first | refine sO hp rfl (sTm rfl) ceCVp0 aa5 ?_ | refine sA hp rfl (sTm rfl) (sTm rfl) agg27 aa5 ?_ | refine sG hp rfl (sTm rfl) (sTm rfl) agg27 aa5 ?_); clear hp; intro w1 hp; simp only [spl, zSet, sSet] at hp)); simp only [put_some, put_none, sSet, zSet]))
            have HF := Lib.hid (order_plain HRI.out HND.out HS1.out HS2.out HS3.out HS4.out HS5.out)
            have g4 : n2 = n4 := by rw [← HN2.out, ← HN4.out]; exact HF.out.one.1
            have g5 : n2 = n5 := by rw [← HN2.out, ← HN5.out]; exact HF.out.two.1
            subst g4 g5
            have HN99 : RowKit.Hid (n2 ≤ 1000) := Lib.hid (by have := HM2.out; have := HN1.out; have := HM1.out; have := HL50.out; omega)
            have HA2 : RowKit.Hid (RowIs w1 a2 (y2.flatMap vtV)) := Lib.hid (HK2.out.at hp (fun p hm => by simp [hm])).1
            have HI2 : RowKit.Hid (∀ y ∈ y2, y.Is w1) := Lib.hid (HK2.out.at hp (fun p hm => by simp [hm])).2
            have HA4 : RowKit.Hid (RowIs w1 a4 (y4.flatMap vtV)) := Lib.hid (HK4.out.at hp (fun p hm => by simp [hm])).1
            have HI4 : RowKit.Hid (∀ y ∈ y4, y.Is w1) := Lib.hid (HK4.out.at hp (fun p hm => by simp [hm])).2
            have HA5 : RowKit.Hid (RowIs w1 a5 (y5.flatMap vtV)) := Lib.hid (HK5.out.at hp (fun p hm => by simp [hm])).1
            have HI5 : RowKit.Hid (∀ y ∈ y5, y.Is w1) := Lib.hid (HK5.out.at hp (fun p hm => by simp [hm])).2
            have HBV := Lib.hid hp.below
            clear HK1 HK2 HK3 HK4 HK5 HM1 HM2 HM3 HM4 HM5 HS1 HS2 HS3 HS4 HS5 HRI HL HLV HVA HVB HES HEA HEC HED HEE
            replace hp := Hp.start w1
            go_loopg [11] (n2 + 1) (fun k i wr => ∃ j : Nat, k + j = n2 + 1 ∧ i = .int .i64 ((j : Int) + 1) ∧ Hp w1.heap.size w1 wr [])
            case atStart => exact ⟨0, by omega, rfl, hp⟩
            case round =>
              clear hp
              obtain ⟨j, hkj, rfl, hp⟩ := hrel
              by_cases hlt : j + 1 < n2
              · have hlen := HN2.out
                obtain ⟨bq, off, rfl, hx⟩ := HA2.out.elems 6 vtV_len (by omega) (by omega)
                have hjx := List.getElem?_eq_getElem (show j < y2.length by omega)
                have hjy := List.getElem?_eq_getElem (show j + 1 < y2.length by omega)
                have hy := hx (j + 1) _ hjy
                replace hx := hx j _ hjx
                have hge := rise_at HF.out.rise hjx hjy
                clear hjx hjy
                generalize y2[j] = x at hx hge
                generalize y2[j + 1] = y at hy hge
                obtain ⟨xd, xm, xb, xu, xc, xa, xs, xk⟩ := x
                obtain ⟨yd, ym, yb, yu, yc, ya, ys, yk⟩ := y
                simp only [vtV] at hx hy hge
                have HX := Lib.hid hx
                have HY := Lib.hid hy
                clear hx hy hlen
                have f1 : (0 : Int) ≤ (j : Int) := by omega
                have f2 : (j : Int) + 1 < (n2 : Int) := by omega
                have f3 : (j : Int) < (n2 : Int) := by omega
                have e5 : wrap64 (j : Int) = (j : Int) := by have := HN99.out; unfold wrap64; omega
                have e6 : wrap64 ((j : Int) + 1 + 1) = (j : Int) + 1 + 1 := by have := HN99.out; unfold wrap64; omega
                have e7 : decide (yd ≤ xd) = false := by simp; omega
                clear hge
                go_wp2_with (first | go_skip | ((first | ((with_reducible refine pre_box _ _ rfl ?_); refine lB hp rfl (sTm rfl) rfl ?_; clear hp; intro b w1 hp) | ((with_reducible refine pre_load _ _ rfl ?_); first | refine lO hp rfl (sTm rfl) ceCVp0 aa5 ?_ | first | refine lRO hp rfl (sTm rfl) ceCVp0 (HX.out 0 _ rfl) ?_ | first | refine lRO hp rfl (sTm rfl) ceCVp0 (HY.out 0 _ rfl) ?_ | refine lA hp rfl (sTm rfl) agg27 aa5 ?_ | refine lR hp rfl (sTm rfl) agg27 HX.out ?_ | refine lR hp rfl (sTm rfl) agg27 HY.out ?_) | ((with_reducible refine pre_store _ _ _ rfl ?_); (first | refine sO hp rfl (sTm rfl) ceCVp0 aa5 ?_ | refine sA hp rfl (sTm rfl) (sTm rfl) agg27 aa5 ?_ | refine sG hp rfl (sTm rfl) (sTm rfl) agg27 aa5 ?_); clear hp; intro w1 hp; simp only [spl, zSet, sSet] at hp)); simp only [put_some, put_none, sSet, zSet]))
                refine wp_region_keeps _ (Keeps.all hp.drew) [] [(0, true), (1, true), (2, true), (3, true), (4, true), (5, true), (6, true), (7, true), (8, true), (9, true), (10, true), (11, true)] (by kernel_rfl) (by kernel_rfl) rfl (by kernel_rfl) (fun _ _ d _ _ h => by cases d <;> exact h) ?_
                replace hp := hp.drew
                repeat' (with_reducible refine plan_is ?_); first | (with_reducible refine plan_nil ?_) | ((with_reducible refine plan_t ?_); refine plan_tk rfl ?_; (first | ((with_reducible refine tk_mv _ rfl ?_); refine tM rfl ?_) | ((with_reducible refine tk_ld _ _ rfl ?_); first | refine tO rfl (sTm rfl) cell3 aa5 ?_ | refine tRO rfl (sTm rfl) cell3 (HX.out 0 _ rfl) ?_ | refine tRO rfl (sTm rfl) cell3 (HY.out 0 _ rfl) ?_) | refine tG (fun w _ => (by go_simp; try rfl)) ?_); try simp only [put_some, put_none, eval_tmp, eval_const, sSet, zSet, List.getD_cons_succ, List.getD_cons_zero, wrap_eq, e5])
                go_wp2_with (first | go_skip | ((first | ((with_reducible refine pre_box _ _ rfl ?_); refine lB hp rfl (sTm rfl) rfl ?_; clear hp; intro b w1 hp) | ((with_reducible refine pre_load _ _ rfl ?_); first | refine lO hp rfl (sTm rfl) ceCVp0 aa5 ?_ | first | refine lRO hp rfl (sTm rfl) ceCVp0 (HX.out 0 _ rfl) ?_ | first | refine lRO hp rfl (sTm rfl) ceCVp0 (HY.out 0 _ rfl) ?_ | refine lA hp rfl (sTm rfl) agg27 aa5 ?_ | refine lR hp rfl (sTm rfl) agg27 HX.out ?_ | refine lR hp rfl (sTm rfl) agg27 HY.out ?_) | ((with_reducible refine pre_store _ _ _ rfl ?_); (first | refine sO hp rfl (sTm rfl) ceCVp0 aa5 ?_ | refine sA hp rfl (sTm rfl) (sTm rfl) agg27 aa5 ?_ | refine sG hp rfl (sTm rfl) (sTm rfl) agg27 aa5 ?_); clear hp; intro w1 hp; simp only [spl, zSet, sSet] at hp)); simp only [put_some, put_none, sSet, zSet]))
                go_roundg (gk - 1)
                case measure => omega
                case rel => exact ⟨j + 1, by omega, by go_num, hp⟩
              · have f2 : decide ((j : Int) + 1 < (n2 : Int)) = false := by simp; omega
                clear hkj hlt
                go_wp2_with (first | (go_at_call 19; (with_reducible refine (votes19 _).mono ?_); rintro e w1 ⟨rfl, hb⟩; replace hp := hp.call hb; clear hb) | (go_at_call 16; (with_reducible refine (all16_yes y2 y4 a2 a4 n2 k2 k4 HN2.out HN4.out HN99.out HF.out.one HEB.out _ (HA2.out.below hp.below) (HA4.out.below hp.below) (fun y hy => (HI2.out y hy).below hp.below) (fun y hy => (HI4.out y hy).below hp.below)).mono ?_); rintro e w1 ⟨rfl, hb⟩; replace hp := hp.call hb; clear hb) | (go_at_call 16; (with_reducible refine (all16_yes y2 y5 a2 a5 n2 k2 k5 HN2.out HN5.out HN99.out HF.out.two HEB.out _ (HA2.out.below hp.below) (HA5.out.below hp.below) (fun y hy => (HI2.out y hy).below hp.below) (fun y hy => (HI5.out y hy).below hp.below)).mono ?_); rintro e w1 ⟨rfl, hb⟩; replace hp := hp.call hb; clear hb) | go_skip | ((first | ((with_reducible refine pre_box _ _ rfl ?_); refine lB hp rfl (sTm rfl) rfl ?_; clear hp; intro b w1 hp) | ((with_reducible refine pre_load _ _ rfl ?_); first | refine lO hp rfl (sTm rfl) ceCVp0 aa5 ?_ | refine lA hp rfl (sTm rfl) agg27 aa5 ?_) | ((with_reducible refine pre_store _ _ _ rfl ?_); (first | refine sO hp rfl (sTm rfl) ceCVp0 aa5 ?_ | refine sA hp rfl (sTm rfl) (sTm rfl) agg27 aa5 ?_ | refine sG hp rfl (sTm rfl) (sTm rfl) agg27 aa5 ?_); clear hp; intro w1 hp; simp only [spl, zSet, sSet] at hp)); simp only [put_some, put_none, sSet, zSet]))
                go_ret
                exact ⟨rfl, HBV.out.trans (hp.below.mono HBV.out.size)⟩
    · have e2 : decide ((200 : Int) < (es2.length : Int)) = true := by simp; omega
      go_wp2_with (first | (go_at_call 7; (with_reducible refine (big17_z l la lk _ (HL.out.below hp.below)).mono ?_); rintro e w1 ⟨bb, rfl, hbb, hb⟩; replace hp := hp.call hb; clear hb; cases bb) | (go_at_call 19; (with_reducible refine (votes19 _).mono ?_); rintro e w1 ⟨rfl, hb⟩; replace hp := hp.call hb; clear hb) | go_skip | ((first | ((with_reducible refine pre_box _ _ rfl ?_); refine lB hp rfl (sTm rfl) rfl ?_; clear hp; intro b w1 hp) | ((with_reducible refine pre_load _ _ rfl ?_); first | refine lO hp rfl (sTm rfl) ceCVp0 aa5 ?_ | refine lA hp rfl (sTm rfl) agg27 aa5 ?_) | ((with_reducible refine pre_store _ _ _ rfl ?_); (first | refine sO hp rfl (sTm rfl) ceCVp0 aa5 ?_ | refine sA hp rfl (sTm rfl) (sTm rfl) agg27 aa5 ?_ | refine sG hp rfl (sTm rfl) (sTm rfl) agg27 aa5 ?_); clear hp; intro w1 hp; simp only [spl, zSet, sSet] at hp)); simp only [put_some, put_none, sSet, zSet]))
      all_goals (go_ret; exact ⟨rfl, hp.below⟩)
  · have e1 : decide ((200 : Int) < (es.length : Int)) = true := by simp; omega
    go_wp2_with (first | (go_at_call 7; (with_reducible refine (big17_z l la lk _ (HL.out.below hp.below)).mono ?_); rintro e w1 ⟨bb, rfl, hbb, hb⟩; replace hp := hp.call hb; clear hb; cases bb) | (go_at_call 19; (with_reducible refine (votes19 _).mono ?_); rintro e w1 ⟨rfl, hb⟩; replace hp := hp.call hb; clear hb) | go_skip | ((first | ((with_reducible refine pre_box _ _ rfl ?_); refine lB hp rfl (sTm rfl) rfl ?_; clear hp; intro b w1 hp) | ((with_reducible refine pre_load _ _ rfl ?_); first | refine lO hp rfl (sTm rfl) ceCVp0 aa5 ?_ | refine lA hp rfl (sTm rfl) agg27 aa5 ?_) | ((with_reducible refine pre_store _ _ _ rfl ?_); (first | refine sO hp rfl (sTm rfl) ceCVp0 aa5 ?_ | refine sA hp rfl (sTm rfl) (sTm rfl) agg27 aa5 ?_ | refine sG hp rfl (sTm rfl) (sTm rfl) agg27 aa5 ?_); clear hp; intro w1 hp; simp only [spl, zSet, sSet] at hp)); simp only [put_some, put_none, sSet, zSet]))
    all_goals (go_ret; exact ⟨rfl, hp.below⟩)
end Go.Proofs.YtcjbepaclbhjaaaGreat
