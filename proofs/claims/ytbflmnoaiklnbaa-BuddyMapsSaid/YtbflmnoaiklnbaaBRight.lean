/- The walk of the reference's Right: each block is held against each one ahead of it. -/
import Derived.Test.YtbflmnoaiklnbaaBCheck
import Derived.Test.YtbflmnoaiklnbaaBMay2
set_option linter.unusedSimpArgs false
set_option linter.unusedVariables false
namespace Go.Proofs.Ytbflmnoaiklnbaa
open Go.RowKit

/-- The ways of Right's inner round: block y = ⟨p, o⟩ at i, held against x = ⟨q, r⟩ at k. -/
theorem rgt_ways {order : Int} {l : List Bl} {i k : Nat} {p o q r : Int} (h8 : order ≤ 8) (hy : l[i]? = some ⟨p, o⟩) (hx : l[k]? = some ⟨q, r⟩) (hki : k < i) (hm : MayP order ⟨p, o⟩) (hn : MayP order ⟨q, r⟩) (hg : ∀ (k' : Nat) x, k' < k → l[k']? = some x → Pair order x ⟨p, o⟩) :
    (0 ≤ p ∧ p ≤ 256 ∧ o ≤ 8 ∧ 0 ≤ q ∧ q ≤ 256 ∧ r ≤ 8) ∧
    ((decide (p ≤ q) = true ∧ rightB order l = false) ∨
     (decide (p ≤ q) = false ∧ meetB p o q r = true ∧ rightB order l = false) ∨
     (decide (p ≤ q) = false ∧ meetB p o q r = false ∧ decide (o < order) = false ∧ ∀ (k' : Nat) x, k' < k + 1 → l[k']? = some x → Pair order x ⟨p, o⟩) ∨
     (decide (p ≤ q) = false ∧ meetB p o q r = false ∧ decide (o < order) = true ∧ (twP p o == q) = false ∧ ∀ (k' : Nat) x, k' < k + 1 → l[k']? = some x → Pair order x ⟨p, o⟩) ∨
     (decide (p ≤ q) = false ∧ meetB p o q r = false ∧ decide (o < order) = true ∧ (twP p o == q) = true ∧ (o == r) = false ∧ ∀ (k' : Nat) x, k' < k + 1 → l[k']? = some x → Pair order x ⟨p, o⟩) ∨
     (decide (p ≤ q) = false ∧ meetB p o q r = false ∧ decide (o < order) = true ∧ (twP p o == q) = true ∧ (o == r) = true ∧ rightB order l = false)) := by
  obtain ⟨f1, f2, f3, f4, f5, f6⟩ := may_facts h8 hm
  obtain ⟨g1, g2, g3, g4, g5, g6⟩ := may_facts h8 hn
  have e1 := pw_pos o
  have e2 := pw_pos r
  refine ⟨⟨f1, f2, f4, g1, g2, g4⟩, ?_⟩
  have hno : ¬ Pair order ⟨q, r⟩ ⟨p, o⟩ → rightB order l = false := fun h => rightB_no fun hG => h ((hG i _ hy).2 k _ hki hx)
  by_cases h1 : p ≤ q
  · left
    refine ⟨by simp [h1], hno fun h => ?_⟩
    have := h.1
    simp only at this
    omega
  right
  cases h2 : meetB p o q r
  case true =>
    left
    refine ⟨by simp; omega, rfl, hno fun h => ?_⟩
    have := h.1
    simp only at this
    simp [meetB] at h2
    omega
  right
  have h3 : q + pw r ≤ p := by simp [meetB] at h2; omega
  have hyes : ¬ (o < order ∧ twP p o = q ∧ o = r) → ∀ (k' : Nat) x, k' < k + 1 → l[k']? = some x → Pair order x ⟨p, o⟩ := by
    intro hnot k' x hk hx'
    by_cases hkk : k' = k
    · subst hkk
      rw [hx] at hx'
      cases hx'
      refine ⟨h3, ?_⟩
      rintro ⟨h4, h5⟩
      rw [twinP_eq] at h5
      injection h5 with h5 h6
      exact hnot ⟨h4, h5, h6⟩
    · exact hg k' x (by omega) hx'
  by_cases h4 : o < order
  · by_cases h5 : twP p o = q
    · by_cases h6 : o = r
      · right; right; right
        refine ⟨by simp; omega, rfl, by simp [h4], by simp [h5], by simp [h6], hno fun h => h.2 ⟨h4, ?_⟩⟩
        rw [twinP_eq, h5, h6]
      · right; right; left
        exact ⟨by simp; omega, rfl, by simp [h4], by simp [h5], by simp [h6], hyes fun h => h6 h.2.2⟩
    · right; left
      exact ⟨by simp; omega, rfl, by simp [h4], by simp [h5], hyes fun h => h5 h.2.1⟩
  · left
    exact ⟨by simp; omega, rfl, by simp; omega, hyes fun h => h4 h.1⟩

theorem mayB_no {order : Int} {l : List Bl} {i : Nat} {p o : Int} (hy : l[i]? = some ⟨p, o⟩) (h : mayB order p o = false) : rightB order l = false := rightB_no fun hG => by
  have := (hG i _ hy).1
  simp [mayB, this] at h

set_option maxRecDepth 100000 in
set_option maxHeartbeats 8000000 in
theorem right90_reg (order : Int) (h3 : 3 ≤ order) (h8 : order ≤ 8) (l : List Bl) (a : Option Addr) (c : Nat) (hl : l.length ≤ 600) (hlen : (l.length : Int) ≤ pw order) (w : World) (ha : RowIs w a (l.flatMap blV)) :
    Calls Try.prog 90 #[.int .i64 order, .slice a l.length c] w fun e w' => e = .returned (.bool (rightB order l)) ∧ Below w.heap.size w w' := by
  have hr : regionB order = true := by simp [regionB]; omega
  have K11 := Lib.hid (region132 order)
  rw [hr] at K11
  have HR := Lib.hid hr
  clear hr
  have hp := Hp.start w
  have HA := Lib.hid ha
  clear ha
  have hd : decide (pw order < (l.length : Int)) = false := by simp; omega
  go_enter Try.func90, Try.ntmps90
  go_wp2_with (first | (go_at_call 132; refine (K11.out _).mono ?_; rintro e w' ⟨rfl, rfl⟩) | (go_at_call 62; refine (size62 _ (by omega) _).mono ?_; rintro e w' ⟨rfl, rfl⟩) | go_skip | ((first | ((with_reducible refine pre_alloc _ rfl ?_); refine lZ hp rfl zero44 ?_; clear hp; intro b w1 hp) | ((with_reducible refine pre_box _ _ rfl ?_); refine lB hp rfl (slot_tmp rfl) rfl ?_; clear hp; intro b w1 hp) | ((with_reducible refine pre_load _ _ rfl ?_); first | refine lO hp rfl (slot_tmp rfl) (by with_reducible first | exact cell3 | exact cell4 | exact cell30) aa5 ?_ | refine lA hp rfl (slot_tmp rfl) agg44 aa5 ?_) | ((with_reducible refine pre_store _ _ _ rfl ?_); (first | refine sO hp rfl (slot_tmp rfl) (by with_reducible first | exact cell3 | exact cell4 | exact cell30) aa5 ?_ | refine sA hp rfl (slot_tmp rfl) (slot_tmp rfl) agg44 aa5 ?_ | refine sG hp rfl (slot_tmp rfl) (slot_tmp rfl) agg44 aa5 ?_); clear hp; intro w1 hp; simp only [spl, List.set_cons_zero, List.set_cons_succ] at hp)); simp only [put_some, put_none, List.set_cons_succ, List.set_cons_zero]))
  clear hd hlen
  go_loopg [5] l.length (fun k i wr => ∃ j : Nat, k + j = l.length ∧ i = .int .i64 j ∧ Good order (l.take j) ∧ Hp w.heap.size w wr [])
  case atStart => exact ⟨0, by omega, rfl, by simpa using Good.nil order, hp⟩
  case round =>
    clear hp
    obtain ⟨j, hkj, rfl, hg, hp⟩ := hrel
    have HG := Lib.hid hg
    clear hg
    by_cases hlt : j < l.length
    · obtain ⟨bq, off, rfl, hx⟩ := HA.out.elems 2 blV_len (by omega) (by omega)
      have HE := Lib.hid hx
      have hj := List.getElem?_eq_getElem hlt
      replace hx := hx j _ hj
      generalize l[j] = x at hx hj
      obtain ⟨p, o⟩ := x
      simp only [blV] at hx
      have HX := Lib.hid hx
      have HJ := Lib.hid hj
      clear hx hj
      have e1 : (0 : Int) ≤ (j : Int) := by omega
      have e2 : (j : Int) < (l.length : Int) := by omega
      cases dm : mayB order p o
      · go_wp2_with (first | (go_at_call 92; refine (may92 _ h8 _ _ _).mono ?_; rintro e w1 ⟨rfl, hb⟩; rw [dm]; replace hp := hp.call hb; clear hb) | go_skip | ((first | ((with_reducible refine pre_alloc _ rfl ?_); refine lZ hp rfl zero44 ?_; clear hp; intro b w1 hp) | ((with_reducible refine pre_box _ _ rfl ?_); refine lB hp rfl (slot_tmp rfl) rfl ?_; clear hp; intro b w1 hp) | ((with_reducible refine pre_load _ _ rfl ?_); first | refine lO hp rfl (slot_tmp rfl) (by with_reducible first | exact cell3 | exact cell4 | exact cell30) aa5 ?_ | refine lRO hp rfl (slot_tmp rfl) (by with_reducible first | exact cell3 | exact cell4 | exact cell30) (by first | exact HX.out 0 _ rfl | exact HX.out 1 _ rfl) ?_ | refine lA hp rfl (slot_tmp rfl) agg44 aa5 ?_ | refine lR hp rfl (slot_tmp rfl) agg44 HX.out ?_) | ((with_reducible refine pre_store _ _ _ rfl ?_); (first | refine sO hp rfl (slot_tmp rfl) (by with_reducible first | exact cell3 | exact cell4 | exact cell30) aa5 ?_ | refine sA hp rfl (slot_tmp rfl) (slot_tmp rfl) agg44 aa5 ?_ | refine sG hp rfl (slot_tmp rfl) (slot_tmp rfl) agg44 aa5 ?_); clear hp; intro w1 hp; simp only [spl, List.set_cons_zero, List.set_cons_succ] at hp)); simp only [put_some, put_none, List.set_cons_succ, List.set_cons_zero]))
        go_ret
        exact ⟨ret_bool (mayB_no HJ.out dm).symm, hp.below⟩
      · go_wp2_with (first | (go_at_call 92; refine (may92 _ h8 _ _ _).mono ?_; rintro e w1 ⟨rfl, hb⟩; rw [dm]; replace hp := hp.call hb; clear hb) | go_skip | ((first | ((with_reducible refine pre_alloc _ rfl ?_); refine lZ hp rfl zero44 ?_; clear hp; intro b w1 hp) | ((with_reducible refine pre_box _ _ rfl ?_); refine lB hp rfl (slot_tmp rfl) rfl ?_; clear hp; intro b w1 hp) | ((with_reducible refine pre_load _ _ rfl ?_); first | refine lO hp rfl (slot_tmp rfl) (by with_reducible first | exact cell3 | exact cell4 | exact cell30) aa5 ?_ | refine lRO hp rfl (slot_tmp rfl) (by with_reducible first | exact cell3 | exact cell4 | exact cell30) (by first | exact HX.out 0 _ rfl | exact HX.out 1 _ rfl) ?_ | refine lA hp rfl (slot_tmp rfl) agg44 aa5 ?_ | refine lR hp rfl (slot_tmp rfl) agg44 HX.out ?_) | ((with_reducible refine pre_store _ _ _ rfl ?_); (first | refine sO hp rfl (slot_tmp rfl) (by with_reducible first | exact cell3 | exact cell4 | exact cell30) aa5 ?_ | refine sA hp rfl (slot_tmp rfl) (slot_tmp rfl) agg44 aa5 ?_ | refine sG hp rfl (slot_tmp rfl) (slot_tmp rfl) agg44 aa5 ?_); clear hp; intro w1 hp; simp only [spl, List.set_cons_zero, List.set_cons_succ] at hp)); simp only [put_some, put_none, List.set_cons_succ, List.set_cons_zero]))
        have DM := Lib.hid dm
        clear dm
        go_loopg [6] j (fun k i wr => ∃ m : Nat, k + m = j ∧ i = .int .i64 m ∧ (∀ (k' : Nat) x, k' < m → l[k']? = some x → Pair order x ⟨p, o⟩) ∧ Hp w.heap.size w wr [])
        case atStart => exact ⟨0, by omega, rfl, fun k' x h => by omega, hp⟩
        case round =>
          clear hp
          obtain ⟨m, hkm, rfl, hpr, hp⟩ := hrel
          have HPR := Lib.hid hpr
          clear hpr
          by_cases hlm : m < j
          · have hm := List.getElem?_eq_getElem (show m < l.length by omega)
            have hy := HE.out m _ hm
            generalize l[m] = y at hy hm
            obtain ⟨q, r⟩ := y
            simp only [blV] at hy
            have HY := Lib.hid hy
            have hmay := mayB_may DM.out
            have hmay2 := (HG.out m _ (by rw [List.getElem?_take, if_pos hlm]; exact hm)).1
            have W9 := Lib.hid (rgt_ways h8 HJ.out hm hlm hmay hmay2 HPR.out)
            clear hm hy hmay hmay2
            have e3 : (0 : Int) ≤ (m : Int) := by omega
            have e4 : (m : Int) < (l.length : Int) := by omega
            have e5 : (m : Int) < (j : Int) := by omega
            go_wp2_with (first | go_skip | ((first | ((with_reducible refine pre_alloc _ rfl ?_); refine lZ hp rfl zero44 ?_; clear hp; intro b w1 hp) | ((with_reducible refine pre_box _ _ rfl ?_); refine lB hp rfl (slot_tmp rfl) rfl ?_; clear hp; intro b w1 hp) | ((with_reducible refine pre_load _ _ rfl ?_); first | refine lO hp rfl (slot_tmp rfl) (by with_reducible first | exact cell3 | exact cell4 | exact cell30) aa5 ?_ | refine lA hp rfl (slot_tmp rfl) agg44 aa5 ?_) | ((with_reducible refine pre_store _ _ _ rfl ?_); (first | refine sO hp rfl (slot_tmp rfl) (by with_reducible first | exact cell3 | exact cell4 | exact cell30) aa5 ?_ | refine sA hp rfl (slot_tmp rfl) (slot_tmp rfl) agg44 aa5 ?_ | refine sG hp rfl (slot_tmp rfl) (slot_tmp rfl) agg44 aa5 ?_); clear hp; intro w1 hp; simp only [spl, List.set_cons_zero, List.set_cons_succ] at hp)); simp only [put_some, put_none, List.set_cons_succ, List.set_cons_zero]))
            refine wp_region_keeps _ (Keeps.all hp.drew) [] [(0, true), (1, true), (2, true), (3, true), (4, true), (5, true), (6, true), (7, true), (8, true), (9, true), (10, true), (11, true), (12, true), (13, true), (14, true), (15, true), (16, true), (17, true), (18, true), (19, true), (20, false), (21, true), (22, true), (23, true), (24, true), (25, true), (26, true), (27, true), (28, true), (29, true), (30, true), (31, true), (32, true), (33, true), (34, true), (36, true), (37, true), (38, true), (39, true), (35, false), (40, true), (41, true), (42, true)] (by kernel_rfl) (by kernel_rfl) rfl (by kernel_rfl) (fun _ _ d _ _ h => by cases d <;> exact h) ?_
            replace hp := hp.drew
            obtain ⟨f, W⟩ := W9.out
            rcases W with ⟨d1, r⟩ | ⟨d1, d2, r⟩ | ⟨d1, d2, d3, r⟩ | ⟨d1, d2, d3, d4, r⟩ | ⟨d1, d2, d3, d4, d5, r⟩ | ⟨d1, d2, d3, d4, d5, r⟩
            all_goals have R := Lib.hid r
            all_goals clear r W9
            all_goals
              (refine plan_move rfl _ rfl wy ?_)
              try simp only [put_some, put_none, eval_tmp, eval_const, List.set_cons_succ, List.set_cons_zero, List.getD_cons_succ, List.getD_cons_zero, wrap_eq]
              (refine plan_move rfl _ rfl wy ?_)
              try simp only [put_some, put_none, eval_tmp, eval_const, List.set_cons_succ, List.set_cons_zero, List.getD_cons_succ, List.getD_cons_zero, wrap_eq]
              (refine plan_take rfl wy (fun w _ => (by go_simp; try rfl)) ?_)
              try simp only [put_some, put_none, eval_tmp, eval_const, List.set_cons_succ, List.set_cons_zero, List.getD_cons_succ, List.getD_cons_zero, wrap_eq]
              (refine plan_take rfl wy (fun w _ => (by go_simp; try rfl)) ?_)
              try simp only [put_some, put_none, eval_tmp, eval_const, List.set_cons_succ, List.set_cons_zero, List.getD_cons_succ, List.getD_cons_zero, wrap_eq]
              (first | (refine pO rfl rfl (slot_tmp rfl) cell3 aa5 ?_) | (refine pRO rfl rfl (slot_tmp rfl) cell3 (HX.out 0 _ rfl) ?_) | (refine pRO rfl rfl (slot_tmp rfl) cell3 (HX.out 1 _ rfl) ?_) | (refine pRO rfl rfl (slot_tmp rfl) cell3 (HY.out 0 _ rfl) ?_) | (refine pRO rfl rfl (slot_tmp rfl) cell3 (HY.out 1 _ rfl) ?_))
              try simp only [put_some, put_none, eval_tmp, eval_const, List.set_cons_succ, List.set_cons_zero, List.getD_cons_succ, List.getD_cons_zero, wrap_eq]
              (refine plan_move rfl _ rfl wy ?_)
              try simp only [put_some, put_none, eval_tmp, eval_const, List.set_cons_succ, List.set_cons_zero, List.getD_cons_succ, List.getD_cons_zero, wrap_eq]
              (refine plan_move rfl _ rfl wy ?_)
              try simp only [put_some, put_none, eval_tmp, eval_const, List.set_cons_succ, List.set_cons_zero, List.getD_cons_succ, List.getD_cons_zero, wrap_eq]
              (refine plan_take rfl wy (fun w _ => (by go_simp; try rfl)) ?_)
              try simp only [put_some, put_none, eval_tmp, eval_const, List.set_cons_succ, List.set_cons_zero, List.getD_cons_succ, List.getD_cons_zero, wrap_eq]
              (refine plan_take rfl wy (fun w _ => (by go_simp; try rfl)) ?_)
              try simp only [put_some, put_none, eval_tmp, eval_const, List.set_cons_succ, List.set_cons_zero, List.getD_cons_succ, List.getD_cons_zero, wrap_eq]
              (first | (refine pO rfl rfl (slot_tmp rfl) cell3 aa5 ?_) | (refine pRO rfl rfl (slot_tmp rfl) cell3 (HX.out 0 _ rfl) ?_) | (refine pRO rfl rfl (slot_tmp rfl) cell3 (HX.out 1 _ rfl) ?_) | (refine pRO rfl rfl (slot_tmp rfl) cell3 (HY.out 0 _ rfl) ?_) | (refine pRO rfl rfl (slot_tmp rfl) cell3 (HY.out 1 _ rfl) ?_))
              try simp only [put_some, put_none, eval_tmp, eval_const, List.set_cons_succ, List.set_cons_zero, List.getD_cons_succ, List.getD_cons_zero, wrap_eq]
              (refine plan_take rfl wy (fun w _ => (by go_simp; try rfl)) ?_)
              try simp only [put_some, put_none, eval_tmp, eval_const, List.set_cons_succ, List.set_cons_zero, List.getD_cons_succ, List.getD_cons_zero, wrap_eq]
              (refine plan_move rfl _ rfl wy ?_)
              try simp only [put_some, put_none, eval_tmp, eval_const, List.set_cons_succ, List.set_cons_zero, List.getD_cons_succ, List.getD_cons_zero, wrap_eq]
              first | (refine plan_skip rfl (wanted_no rfl rfl rfl rfl) ?_) | (refine plan_skip rfl (wanted_nu rfl rfl rfl rfl) ?_) | (refine plan_move rfl _ rfl wy ?_)
              try simp only [put_some, put_none, eval_tmp, eval_const, List.set_cons_succ, List.set_cons_zero, List.getD_cons_succ, List.getD_cons_zero, wrap_eq]
              first | (refine plan_skip rfl (wanted_no rfl rfl rfl rfl) ?_) | (refine plan_skip rfl (wanted_nu rfl rfl rfl rfl) ?_) | (refine plan_move rfl _ rfl wy ?_)
              try simp only [put_some, put_none, eval_tmp, eval_const, List.set_cons_succ, List.set_cons_zero, List.getD_cons_succ, List.getD_cons_zero, wrap_eq]
              first | (refine plan_skip rfl (wanted_no rfl rfl rfl rfl) ?_) | (refine plan_skip rfl (wanted_nu rfl rfl rfl rfl) ?_) | (refine plan_take rfl wy (fun w _ => (by go_simp; try rfl)) ?_)
              try simp only [put_some, put_none, eval_tmp, eval_const, List.set_cons_succ, List.set_cons_zero, List.getD_cons_succ, List.getD_cons_zero, wrap_eq]
              first | (refine plan_skip rfl (wanted_no rfl rfl rfl rfl) ?_) | (refine plan_skip rfl (wanted_nu rfl rfl rfl rfl) ?_) | (first | (refine pA rfl rfl (slot_tmp rfl) agg44 aa5 ?_) | (refine pR rfl rfl (slot_tmp rfl) agg44 HX.out ?_) | (refine pR rfl rfl (slot_tmp rfl) agg44 HY.out ?_))
              try simp only [put_some, put_none, eval_tmp, eval_const, List.set_cons_succ, List.set_cons_zero, List.getD_cons_succ, List.getD_cons_zero, wrap_eq]
              first | (refine plan_skip rfl (wanted_no rfl rfl rfl rfl) ?_) | (refine plan_skip rfl (wanted_nu rfl rfl rfl rfl) ?_) | (refine plan_move rfl _ rfl wy ?_)
              try simp only [put_some, put_none, eval_tmp, eval_const, List.set_cons_succ, List.set_cons_zero, List.getD_cons_succ, List.getD_cons_zero, wrap_eq]
              first | (refine plan_skip rfl (wanted_no rfl rfl rfl rfl) ?_) | (refine plan_skip rfl (wanted_nu rfl rfl rfl rfl) ?_) | (refine plan_move rfl _ rfl wy ?_)
              try simp only [put_some, put_none, eval_tmp, eval_const, List.set_cons_succ, List.set_cons_zero, List.getD_cons_succ, List.getD_cons_zero, wrap_eq]
              first | (refine plan_skip rfl (wanted_no rfl rfl rfl rfl) ?_) | (refine plan_skip rfl (wanted_nu rfl rfl rfl rfl) ?_) | (refine plan_take rfl wy (fun w _ => (by go_simp; try rfl)) ?_)
              try simp only [put_some, put_none, eval_tmp, eval_const, List.set_cons_succ, List.set_cons_zero, List.getD_cons_succ, List.getD_cons_zero, wrap_eq]
              first | (refine plan_skip rfl (wanted_no rfl rfl rfl rfl) ?_) | (refine plan_skip rfl (wanted_nu rfl rfl rfl rfl) ?_) | (first | (refine pA rfl rfl (slot_tmp rfl) agg44 aa5 ?_) | (refine pR rfl rfl (slot_tmp rfl) agg44 HX.out ?_) | (refine pR rfl rfl (slot_tmp rfl) agg44 HY.out ?_))
              try simp only [put_some, put_none, eval_tmp, eval_const, List.set_cons_succ, List.set_cons_zero, List.getD_cons_succ, List.getD_cons_zero, wrap_eq]
              refine plan_do rfl (fun K hK => ?_)
              go_wp2_with (first | go_skip | (go_at_call 95; refine (meet95 _ _ _ _ f.1 f.2.1 f.2.2.2.1 f.2.2.2.2.1 f.2.2.1 f.2.2.2.2.2 _).mono ?_; rintro e w1 ⟨rfl, hb⟩; rw [d2]; replace hp := hp.call hb; clear hb) | (go_at_call 133; refine (twin133 _ _ f.1 f.2.1 f.2.2.1 _).mono ?_; rintro e w1 ⟨rfl, hb⟩; replace hp := hp.call hb; clear hb))
              refine hK.out _ _ (.inr (kall hp)) ?_
              clear hK K
              try simp only [put_some, put_none, eval_tmp, eval_const, List.set_cons_succ, List.set_cons_zero, List.getD_cons_succ, List.getD_cons_zero, wrap_eq]
              (refine plan_take rfl wy (fun w _ => (by go_simp; try rfl)) ?_)
              try simp only [put_some, put_none, eval_tmp, eval_const, List.set_cons_succ, List.set_cons_zero, List.getD_cons_succ, List.getD_cons_zero, wrap_eq]
              (refine plan_move rfl _ rfl wy ?_)
              try simp only [put_some, put_none, eval_tmp, eval_const, List.set_cons_succ, List.set_cons_zero, List.getD_cons_succ, List.getD_cons_zero, wrap_eq]
              first | (refine plan_skip rfl (wanted_no rfl rfl rfl rfl) ?_) | (refine plan_skip rfl (wanted_nu rfl rfl rfl rfl) ?_) | (refine plan_move rfl _ rfl wy ?_)
              try simp only [put_some, put_none, eval_tmp, eval_const, List.set_cons_succ, List.set_cons_zero, List.getD_cons_succ, List.getD_cons_zero, wrap_eq]
              first | (refine plan_skip rfl (wanted_no rfl rfl rfl rfl) ?_) | (refine plan_skip rfl (wanted_nu rfl rfl rfl rfl) ?_) | (refine plan_move rfl _ rfl wy ?_)
              try simp only [put_some, put_none, eval_tmp, eval_const, List.set_cons_succ, List.set_cons_zero, List.getD_cons_succ, List.getD_cons_zero, wrap_eq]
              first | (refine plan_skip rfl (wanted_no rfl rfl rfl rfl) ?_) | (refine plan_skip rfl (wanted_nu rfl rfl rfl rfl) ?_) | (refine plan_take rfl wy (fun w _ => (by go_simp; try rfl)) ?_)
              try simp only [put_some, put_none, eval_tmp, eval_const, List.set_cons_succ, List.set_cons_zero, List.getD_cons_succ, List.getD_cons_zero, wrap_eq]
              first | (refine plan_skip rfl (wanted_no rfl rfl rfl rfl) ?_) | (refine plan_skip rfl (wanted_nu rfl rfl rfl rfl) ?_) | (refine plan_take rfl wy (fun w _ => (by go_simp; try rfl)) ?_)
              try simp only [put_some, put_none, eval_tmp, eval_const, List.set_cons_succ, List.set_cons_zero, List.getD_cons_succ, List.getD_cons_zero, wrap_eq]
              first | (refine plan_skip rfl (wanted_no rfl rfl rfl rfl) ?_) | (refine plan_skip rfl (wanted_nu rfl rfl rfl rfl) ?_) | (first | (refine pO rfl rfl (slot_tmp rfl) cell3 aa5 ?_) | (refine pRO rfl rfl (slot_tmp rfl) cell3 (HX.out 0 _ rfl) ?_) | (refine pRO rfl rfl (slot_tmp rfl) cell3 (HX.out 1 _ rfl) ?_) | (refine pRO rfl rfl (slot_tmp rfl) cell3 (HY.out 0 _ rfl) ?_) | (refine pRO rfl rfl (slot_tmp rfl) cell3 (HY.out 1 _ rfl) ?_))
              try simp only [put_some, put_none, eval_tmp, eval_const, List.set_cons_succ, List.set_cons_zero, List.getD_cons_succ, List.getD_cons_zero, wrap_eq]
              first | (refine plan_skip rfl (wanted_no rfl rfl rfl rfl) ?_) | (refine plan_skip rfl (wanted_nu rfl rfl rfl rfl) ?_) | (refine plan_move rfl _ rfl wy ?_)
              try simp only [put_some, put_none, eval_tmp, eval_const, List.set_cons_succ, List.set_cons_zero, List.getD_cons_succ, List.getD_cons_zero, wrap_eq]
              first | (refine plan_skip rfl (wanted_no rfl rfl rfl rfl) ?_) | (refine plan_skip rfl (wanted_nu rfl rfl rfl rfl) ?_) | (refine plan_take rfl wy (fun w _ => (by go_simp; try rfl)) ?_)
              try simp only [put_some, put_none, eval_tmp, eval_const, List.set_cons_succ, List.set_cons_zero, List.getD_cons_succ, List.getD_cons_zero, wrap_eq]
              first | (refine plan_skip rfl (wanted_no rfl rfl rfl rfl) ?_) | (refine plan_skip rfl (wanted_nu rfl rfl rfl rfl) ?_) | (refine plan_move rfl _ rfl wy ?_)
              try simp only [put_some, put_none, eval_tmp, eval_const, List.set_cons_succ, List.set_cons_zero, List.getD_cons_succ, List.getD_cons_zero, wrap_eq]
              first | (refine plan_skip rfl (wanted_no rfl rfl rfl rfl) ?_) | (refine plan_skip rfl (wanted_nu rfl rfl rfl rfl) ?_) | (refine plan_move rfl _ rfl wy ?_)
              try simp only [put_some, put_none, eval_tmp, eval_const, List.set_cons_succ, List.set_cons_zero, List.getD_cons_succ, List.getD_cons_zero, wrap_eq]
              first | (refine plan_skip rfl (wanted_no rfl rfl rfl rfl) ?_) | (refine plan_skip rfl (wanted_nu rfl rfl rfl rfl) ?_) | (refine plan_move rfl _ rfl wy ?_)
              try simp only [put_some, put_none, eval_tmp, eval_const, List.set_cons_succ, List.set_cons_zero, List.getD_cons_succ, List.getD_cons_zero, wrap_eq]
              first | (refine plan_skip rfl (wanted_no rfl rfl rfl rfl) ?_) | (refine plan_skip rfl (wanted_nu rfl rfl rfl rfl) ?_) | (refine plan_take rfl wy (fun w _ => (by go_simp; try rfl)) ?_)
              try simp only [put_some, put_none, eval_tmp, eval_const, List.set_cons_succ, List.set_cons_zero, List.getD_cons_succ, List.getD_cons_zero, wrap_eq]
              first | (refine plan_skip rfl (wanted_no rfl rfl rfl rfl) ?_) | (refine plan_skip rfl (wanted_nu rfl rfl rfl rfl) ?_) | (first | (refine pA rfl rfl (slot_tmp rfl) agg44 aa5 ?_) | (refine pR rfl rfl (slot_tmp rfl) agg44 HX.out ?_) | (refine pR rfl rfl (slot_tmp rfl) agg44 HY.out ?_))
              try simp only [put_some, put_none, eval_tmp, eval_const, List.set_cons_succ, List.set_cons_zero, List.getD_cons_succ, List.getD_cons_zero, wrap_eq]
              first | (refine plan_skip rfl (wanted_no rfl rfl rfl rfl) ?_) | (refine plan_skip rfl (wanted_nu rfl rfl rfl rfl) ?_) | (refine plan_move rfl _ rfl wy ?_)
              try simp only [put_some, put_none, eval_tmp, eval_const, List.set_cons_succ, List.set_cons_zero, List.getD_cons_succ, List.getD_cons_zero, wrap_eq]
              first | (refine plan_skip rfl (wanted_no rfl rfl rfl rfl) ?_) | (refine plan_skip rfl (wanted_nu rfl rfl rfl rfl) ?_) | (refine plan_move rfl _ rfl wy ?_)
              try simp only [put_some, put_none, eval_tmp, eval_const, List.set_cons_succ, List.set_cons_zero, List.getD_cons_succ, List.getD_cons_zero, wrap_eq]
              first | (refine plan_skip rfl (wanted_no rfl rfl rfl rfl) ?_) | (refine plan_skip rfl (wanted_nu rfl rfl rfl rfl) ?_) | (refine plan_take rfl wy (fun w _ => (by go_simp; try rfl)) ?_)
              try simp only [put_some, put_none, eval_tmp, eval_const, List.set_cons_succ, List.set_cons_zero, List.getD_cons_succ, List.getD_cons_zero, wrap_eq]
              first | (refine plan_skip rfl (wanted_no rfl rfl rfl rfl) ?_) | (refine plan_skip rfl (wanted_nu rfl rfl rfl rfl) ?_) | (first | (refine pA rfl rfl (slot_tmp rfl) agg44 aa5 ?_) | (refine pR rfl rfl (slot_tmp rfl) agg44 HX.out ?_) | (refine pR rfl rfl (slot_tmp rfl) agg44 HY.out ?_))
              try simp only [put_some, put_none, eval_tmp, eval_const, List.set_cons_succ, List.set_cons_zero, List.getD_cons_succ, List.getD_cons_zero, wrap_eq]
              refine plan_do rfl (fun K hK => ?_)
              go_wp2_with (first | go_skip | (go_at_call 95; refine (meet95 _ _ _ _ f.1 f.2.1 f.2.2.2.1 f.2.2.2.2.1 f.2.2.1 f.2.2.2.2.2 _).mono ?_; rintro e w1 ⟨rfl, hb⟩; rw [d2]; replace hp := hp.call hb; clear hb) | (go_at_call 133; refine (twin133 _ _ f.1 f.2.1 f.2.2.1 _).mono ?_; rintro e w1 ⟨rfl, hb⟩; replace hp := hp.call hb; clear hb))
              refine hK.out _ _ (.inr (kall hp)) ?_
              clear hK K
              try simp only [put_some, put_none, eval_tmp, eval_const, List.set_cons_succ, List.set_cons_zero, List.getD_cons_succ, List.getD_cons_zero, wrap_eq]
              first | (refine plan_skip rfl (wanted_no rfl rfl rfl rfl) ?_) | (refine plan_skip rfl (wanted_nu rfl rfl rfl rfl) ?_) | (refine plan_take rfl wy (fun w _ => (by go_simp; try rfl)) ?_)
              try simp only [put_some, put_none, eval_tmp, eval_const, List.set_cons_succ, List.set_cons_zero, List.getD_cons_succ, List.getD_cons_zero, wrap_eq]
              first | (refine plan_skip rfl (wanted_no rfl rfl rfl rfl) ?_) | (refine plan_skip rfl (wanted_nu rfl rfl rfl rfl) ?_) | (refine plan_take rfl wy (fun w _ => (by go_simp; try rfl)) ?_)
              try simp only [put_some, put_none, eval_tmp, eval_const, List.set_cons_succ, List.set_cons_zero, List.getD_cons_succ, List.getD_cons_zero, wrap_eq]
              (refine plan_take rfl wy (fun w _ => (by go_simp; try rfl)) ?_)
              try simp only [put_some, put_none, eval_tmp, eval_const, List.set_cons_succ, List.set_cons_zero, List.getD_cons_succ, List.getD_cons_zero, wrap_eq]
              refine plan_nil ?_
            all_goals first
              | (go_wp2_with fail
                 go_ret
                 exact ⟨ret_bool R.out.symm, hp.below⟩)
              | (go_wp2_with fail
                 go_roundg (gk - 1)
                 case measure => omega
                 case rel => exact ⟨m + 1, by omega, by go_num, R.out, hp⟩)
          · have e5 : decide ((m : Int) < (j : Int)) = false := by simp; omega
            have HG2 : RowKit.Hid (Good order (l.take (j + 1))) := Lib.hid ((Good.snoc HJ.out).2 ⟨HG.out, mayB_may DM.out, fun k' x hk hx => HPR.out k' x (by omega) hx⟩)
            go_wp2_with fail
            go_roundg (l.length - (j + 1))
            case measure => omega
            case rel => exact ⟨j + 1, by omega, by go_num, HG2.out, hp⟩
    · have e2 : decide ((j : Int) < (l.length : Int)) = false := by simp; omega
      have HG2 : RowKit.Hid (rightB order l = true) := Lib.hid (rightB_yes HR.out (by have := HG.out; rwa [List.take_of_length_le (by omega)] at this))
      go_wp2_with fail
      go_ret
      exact ⟨ret_bool HG2.out.symm, hp.below⟩

set_option maxRecDepth 100000 in
set_option maxHeartbeats 8000000 in
theorem right90 (order : Int) (l : List Bl) (a : Option Addr) (c : Nat) (hl : l.length ≤ 600) (w : World) (ha : RowIs w a (l.flatMap blV)) :
    Calls Try.prog 90 #[.int .i64 order, .slice a l.length c] w fun e w' => e = .returned (.bool (rightB order l)) ∧ Below w.heap.size w w' := by
  have K11 := Lib.hid (region132 order)
  cases hr : regionB order
  · rw [rightB_reg hr]
    rw [hr] at K11
    clear hr ha
    go_enter Try.func90, Try.ntmps90
    go_wp2_with (go_at_call 132; refine (K11.out _).mono ?_; rintro e w' ⟨rfl, rfl⟩)
    go_ret
    exact ⟨rfl, Below.refl _ _⟩
  · have := hr
    simp only [regionB, decide_eq_true_eq] at this
    obtain ⟨h3, h8⟩ := this
    by_cases hlen : (l.length : Int) ≤ pw order
    · exact right90_reg order h3 h8 l a c hl hlen w ha
    · rw [rightB_no fun hG => hlen (hG.len h3)]
      rw [hr] at K11
      clear hr ha
      have hd : decide (pw order < (l.length : Int)) = true := by simp; omega
      go_enter Try.func90, Try.ntmps90
      go_wp2_with (first | (go_at_call 132; refine (K11.out _).mono ?_; rintro e w' ⟨rfl, rfl⟩) | (go_at_call 62; refine (size62 _ (by omega) _).mono ?_; rintro e w' ⟨rfl, rfl⟩))
      go_ret
      exact ⟨rfl, Below.refl _ _⟩
end Go.Proofs.Ytbflmnoaiklnbaa
