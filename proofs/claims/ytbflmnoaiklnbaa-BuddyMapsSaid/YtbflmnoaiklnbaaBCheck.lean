/- The walk of Check: only the block just ahead is asked. -/
import Derived.Test.YtbflmnoaiklnbaaBTwin
import Derived.Test.YtbflmnoaiklnbaaBSame
set_option linter.unusedSimpArgs false
set_option linter.unusedVariables false
namespace Go.Proofs.Ytbflmnoaiklnbaa
open Go.RowKit

/-- Where Check stands: what it has seen is right; the end of the last block, and that block. -/
def ChkAt (order : Int) (l : List Bl) (j : Nat) (e p o : Int) : Prop := Good order (l.take j) ∧ ((j = 0 ∧ e = 0 ∧ p = -1 ∧ o = 0) ∨ ∃ i z, j = i + 1 ∧ l[i]? = some z ∧ z.p = p ∧ z.o = o ∧ e = p + pw o)
def errI (b : Bool) : Int := if b then 0 else 1

theorem rightB_yes {order : Int} {l : List Bl} (hr : regionB order = true) (h : Good order l) : rightB order l = true := by simp [rightB, hr, h]
theorem rightB_no {order : Int} {l : List Bl} (h : ¬ Good order l) : rightB order l = false := by simp [rightB, h]
theorem rightB_reg {order : Int} {l : List Bl} (h : regionB order = false) : rightB order l = false := by simp [rightB, h]
theorem mayB_may {order p o : Int} (h : mayB order p o = true) : MayP order ⟨p, o⟩ := by simpa [mayB] using h
theorem may_facts {order p o : Int} (h8 : order ≤ 8) (h : MayP order ⟨p, o⟩) : 0 ≤ p ∧ p ≤ 256 ∧ 0 ≤ o ∧ o ≤ 8 ∧ p % pw o = 0 ∧ p + pw o ≤ 256 := by
  obtain ⟨a, b, c, d, e⟩ := h
  simp only at a b c d e
  have := pw_le h8
  have := pw_pos o
  exact ⟨c, by omega, a, by omega, e, by omega⟩
theorem take_all {l : List Bl} {order : Int} (h : Good order l) (j : Nat) : Good order (l.take j) := h.take j
theorem twP_nonneg {p o : Int} (h0 : 0 ≤ p) (h : p % pw o = 0) : 0 ≤ twP p o := by
  have := pw_pos o
  rw [twP_eq]
  split
  · omega
  · rename_i hn
    by_cases hlt : p < pw o
    · rw [Int.emod_eq_of_lt h0 hlt] at h
      subst h
      exact absurd (by simp) hn
    · omega

/-- The ways of a round. -/
theorem chk_ways {order : Int} {l : List Bl} {j : Nat} {e lp lo p o : Int} (hr : regionB order = true) (h8 : order ≤ 8) (h : ChkAt order l j e lp lo) (hx : l[j]? = some ⟨p, o⟩) :
    (mayB order p o = false ∧ rightB order l = false) ∨
    (mayB order p o = true ∧ decide (p < e) = true ∧ rightB order l = false) ∨
    (mayB order p o = true ∧ decide (p < e) = false ∧ decide (o < order) = false ∧ 0 ≤ o ∧ o ≤ 8 ∧ wrap64 (p + pw o) = p + pw o ∧ ChkAt order l (j + 1) (p + pw o) p o) ∨
    (mayB order p o = true ∧ decide (p < e) = false ∧ decide (o < order) = true ∧ (0 ≤ p ∧ p ≤ 256 ∧ 0 ≤ o ∧ o ≤ 8 ∧ RowKit.Hid (p % pw o = 0)) ∧ (lp == twP p o) = false ∧ wrap64 (p + pw o) = p + pw o ∧ ChkAt order l (j + 1) (p + pw o) p o) ∨
    (mayB order p o = true ∧ decide (p < e) = false ∧ decide (o < order) = true ∧ (0 ≤ p ∧ p ≤ 256 ∧ 0 ≤ o ∧ o ≤ 8 ∧ RowKit.Hid (p % pw o = 0)) ∧ (lp == twP p o) = true ∧ (lo == o) = false ∧ wrap64 (p + pw o) = p + pw o ∧ ChkAt order l (j + 1) (p + pw o) p o) ∨
    (mayB order p o = true ∧ decide (p < e) = false ∧ decide (o < order) = true ∧ (0 ≤ p ∧ p ≤ 256 ∧ 0 ≤ o ∧ o ≤ 8 ∧ RowKit.Hid (p % pw o = 0)) ∧ (lp == twP p o) = true ∧ (lo == o) = true ∧ decide (0 ≤ lp) = true ∧ rightB order l = false) := by
  obtain ⟨hg, hs⟩ := h
  cases hm : mayB order p o
  · left
    refine ⟨rfl, rightB_no fun hG => ?_⟩
    have := (hG j _ hx).1
    simp [mayB, this] at hm
  right
  have hmay := mayB_may hm
  obtain ⟨f1, f2, f3, f4, f5, f6⟩ := may_facts h8 hmay
  have f7 := pw_pos o
  have hw : wrap64 (p + pw o) = p + pw o := by unfold wrap64; omega
  by_cases he : p < e
  · left
    refine ⟨rfl, by simp [he], rightB_no fun hG => ?_⟩
    rcases hs with ⟨rfl, rfl, _⟩ | ⟨i, z, rfl, hz, rfl, rfl, rfl⟩
    · omega
    · have := ((hG (i + 1) _ hx).2 i z (by omega) hz).1
      simp only at this
      omega
  right
  have hnext : ¬ (o < order ∧ lp = twP p o ∧ lo = o) → ChkAt order l (j + 1) (p + pw o) p o := by
    intro hno
    refine ⟨(Good.snoc hx).2 ⟨hg, hmay, ?_⟩, .inr ⟨j, _, rfl, hx, rfl, rfl, rfl⟩⟩
    rcases hs with ⟨rfl, _⟩ | ⟨i, z, rfl, hz, rfl, rfl, rfl⟩
    · intro k x hk; omega
    · refine Good.step hg hz hmay (by simp only; omega) ?_
      rintro ⟨h1, h2⟩
      rw [twinP_eq] at h2
      refine hno ⟨h1, ?_, ?_⟩ <;> rw [← h2]
  by_cases ho : o < order
  · by_cases h1 : lp = twP p o
    · by_cases h2 : lo = o
      · right; right; right
        refine ⟨rfl, by simp; omega, by simp [ho], ⟨f1, f2, f3, f4, Lib.hid f5⟩, by simp [h1], by simp [h2], ?_, rightB_no fun hG => ?_⟩
        · have := twP_nonneg f1 f5
          simp [h1, this]
        · rcases hs with ⟨rfl, _, h3, _⟩ | ⟨i, z, rfl, hz, rfl, rfl, rfl⟩
          · have := twP_nonneg f1 f5
            omega
          · refine ((hG (i + 1) _ hx).2 i z (by omega) hz).2 ⟨ho, ?_⟩
            rw [twinP_eq, ← h1]
            obtain ⟨zp, zo⟩ := z
            simp only at h2
            rw [h2]
      · right; right; left
        exact ⟨rfl, by simp; omega, by simp [ho], ⟨f1, f2, f3, f4, Lib.hid f5⟩, by simp [h1], by simp [h2], hw, hnext fun h => h2 h.2.2⟩
    · right; left
      exact ⟨rfl, by simp; omega, by simp [ho], ⟨f1, f2, f3, f4, Lib.hid f5⟩, by simp [h1], hw, hnext fun h => h1 h.2.1⟩
  · left
    exact ⟨rfl, by simp; omega, by simp; omega, f3, f4, hw, hnext fun h => ho h.1⟩

def ChkRel (order : Int) (l : List Bl) (w : World) (b6 k : Nat) (e i : Value) (wr : World) : Prop :=
  ∃ (j : Nat) (en lp lo : Int), k + j = l.length ∧ i = .int .i64 j ∧ e = .int .i64 en ∧ ChkAt order l j en lp lo ∧ Hp w.heap.size w wr [⟨b6, [.int .i64 lp, .int .i64 lo], 44, 2⟩]

set_option maxRecDepth 100000 in
set_option maxHeartbeats 8000000 in
theorem check19_reg (order : Int) (h3 : 3 ≤ order) (h8 : order ≤ 8) (l : List Bl) (a : Option Addr) (c : Nat) (hl : l.length ≤ 600) (w : World) (ha : RowIs w a (l.flatMap blV)) :
    Calls Try.prog 19 #[.int .i64 order, .slice a l.length c] w fun e w' => e = .returned (.int .i64 (errI (rightB order l))) ∧ Below w.heap.size w w' := by
  have hr : regionB order = true := by simp [regionB]; omega
  have K36 := Lib.hid (region52 order)
  rw [hr] at K36
  have HR := Lib.hid hr
  clear hr
  have hp := Hp.start w
  have HA := Lib.hid ha
  clear ha
  go_enter Try.func19, Try.ntmps19
  go_wp2_with (first | (go_at_call 52; refine (K36.out _).mono ?_; rintro e w' ⟨rfl, rfl⟩) | go_skip | ((first | ((with_reducible refine pre_alloc _ rfl ?_); refine lZ hp rfl zero44 ?_; clear hp; intro b w1 hp) | ((with_reducible refine pre_box _ _ rfl ?_); refine lB hp rfl (slot_tmp rfl) rfl ?_; clear hp; intro b w1 hp) | ((with_reducible refine pre_load _ _ rfl ?_); first | refine lO hp rfl (slot_tmp rfl) (by with_reducible first | exact cell3 | exact cell4 | exact cell30) aa5 ?_ | refine lA hp rfl (slot_tmp rfl) agg44 aa5 ?_) | ((with_reducible refine pre_store _ _ _ rfl ?_); (first | refine sO hp rfl (slot_tmp rfl) (by with_reducible first | exact cell3 | exact cell4 | exact cell30) aa5 ?_ | refine sA hp rfl (slot_tmp rfl) (slot_tmp rfl) agg44 aa5 ?_ | refine sG hp rfl (slot_tmp rfl) (slot_tmp rfl) agg44 aa5 ?_); clear hp; intro w1 hp; simp only [spl, List.set_cons_zero, List.set_cons_succ] at hp)); simp only [put_some, put_none, List.set_cons_succ, List.set_cons_zero]))
  go_loopg [5, 15] l.length (fun k e i wr => ChkRel order l w b k e i wr)
  case atStart => exact ⟨0, 0, -1, 0, by omega, rfl, rfl, ⟨by simpa using Good.nil order, .inl ⟨rfl, rfl, rfl, rfl⟩⟩, hp⟩
  case round =>
    clear hp
    obtain ⟨j, en, lp, lo, hkj, rfl, rfl, hat, hp⟩ := hrel
    by_cases hlt : j < l.length
    · obtain ⟨bq, off, rfl, hx⟩ := HA.out.elems 2 blV_len (by omega) (by omega)
      have hj := List.getElem?_eq_getElem hlt
      replace hx := hx j _ hj
      generalize l[j] = x at hx hj
      obtain ⟨p, o⟩ := x
      simp only [blV] at hx
      have HX := Lib.hid hx
      have W9 := Lib.hid (chk_ways HR.out h8 hat hj)
      clear hx hj hat
      have e1 : (0 : Int) ≤ (j : Int) := by omega
      have e2 : (j : Int) < (l.length : Int) := by omega
      go_wp2_with (first | go_skip | ((first | ((with_reducible refine pre_alloc _ rfl ?_); refine lZ hp rfl zero44 ?_; clear hp; intro b w1 hp) | ((with_reducible refine pre_box _ _ rfl ?_); refine lB hp rfl (slot_tmp rfl) rfl ?_; clear hp; intro b w1 hp) | ((with_reducible refine pre_load _ _ rfl ?_); first | refine lO hp rfl (slot_tmp rfl) (by with_reducible first | exact cell3 | exact cell4 | exact cell30) aa5 ?_ | refine lRO hp rfl (slot_tmp rfl) (by with_reducible first | exact cell3 | exact cell4 | exact cell30) (by first | exact HX.out 0 _ rfl | exact HX.out 1 _ rfl) ?_ | refine lA hp rfl (slot_tmp rfl) agg44 aa5 ?_ | refine lR hp rfl (slot_tmp rfl) agg44 HX.out ?_) | ((with_reducible refine pre_store _ _ _ rfl ?_); (first | refine sO hp rfl (slot_tmp rfl) (by with_reducible first | exact cell3 | exact cell4 | exact cell30) aa5 ?_ | refine sA hp rfl (slot_tmp rfl) (slot_tmp rfl) agg44 aa5 ?_ | refine sG hp rfl (slot_tmp rfl) (slot_tmp rfl) agg44 aa5 ?_); clear hp; intro w1 hp; simp only [spl, List.set_cons_zero, List.set_cons_succ] at hp)); simp only [put_some, put_none, List.set_cons_succ, List.set_cons_zero]))
      refine wp_region_keeps _ (Keeps.all hp.drew) [] [(0, true), (1, true), (2, false), (3, true), (4, true), (5, true), (6, true), (7, true), (8, true), (9, true), (10, true), (11, true), (12, true), (13, true), (14, true), (15, true), (16, true), (17, true), (18, false), (19, true), (20, true), (21, true), (22, true), (23, true), (24, true), (25, true), (26, true)] (by kernel_rfl) (by kernel_rfl) rfl (by kernel_rfl) (fun _ _ d _ _ h => by cases d <;> exact h) ?_
      replace hp := hp.drew
      rcases W9.out with ⟨d1, r⟩ | ⟨d1, d2, r⟩ | ⟨d1, d2, d3, f0, f1, fw, r⟩ | ⟨d1, d2, d3, f, d4, fw, r⟩ | ⟨d1, d2, d3, f, d4, d5, fw, r⟩ | ⟨d1, d2, d3, f, d4, d5, d6, r⟩
      all_goals have R := Lib.hid r
      all_goals clear r W9
      all_goals
        (refine plan_move rfl _ rfl wy ?_)
        try simp only [put_some, put_none, eval_tmp, eval_const, List.set_cons_succ, List.set_cons_zero, List.getD_cons_succ, List.getD_cons_zero, wrap_eq]
        (first | (refine pA rfl rfl (slot_tmp rfl) agg44 aa5 ?_))
        try simp only [put_some, put_none, eval_tmp, eval_const, List.set_cons_succ, List.set_cons_zero, List.getD_cons_succ, List.getD_cons_zero, wrap_eq]
        refine plan_do rfl (fun K hK => ?_)
        go_wp2_with (first | go_skip | (go_at_call 53; refine (may53 _ h3 h8 _ _ _).mono ?_; rintro e w1 ⟨rfl, hb⟩; rw [d1]; replace hp := hp.call hb; clear hb) | (go_at_call 54; refine (twin54 _ _ f.1 f.2.1 f.2.2.1 f.2.2.2.1 f.2.2.2.2.out _).mono ?_; rintro e w1 ⟨rfl, hb⟩; replace hp := hp.call hb; clear hb))
        refine hK.out _ _ (.inr (kall hp)) ?_
        clear hK K
        try simp only [put_some, put_none, eval_tmp, eval_const, List.set_cons_succ, List.set_cons_zero, List.getD_cons_succ, List.getD_cons_zero, wrap_eq]
        (refine plan_take rfl wy (fun w _ => (by go_simp; try rfl)) ?_)
        try simp only [put_some, put_none, eval_tmp, eval_const, List.set_cons_succ, List.set_cons_zero, List.getD_cons_succ, List.getD_cons_zero, wrap_eq]
        (refine plan_move rfl _ rfl wy ?_)
        try simp only [put_some, put_none, eval_tmp, eval_const, List.set_cons_succ, List.set_cons_zero, List.getD_cons_succ, List.getD_cons_zero, wrap_eq]
        first | (refine plan_skip rfl (wanted_no rfl rfl rfl rfl) ?_) | (refine plan_skip rfl (wanted_nu rfl rfl rfl rfl) ?_) | (refine plan_take rfl wy (fun w _ => (by go_simp; try rfl)) ?_)
        try simp only [put_some, put_none, eval_tmp, eval_const, List.set_cons_succ, List.set_cons_zero, List.getD_cons_succ, List.getD_cons_zero, wrap_eq]
        first | (refine plan_skip rfl (wanted_no rfl rfl rfl rfl) ?_) | (refine plan_skip rfl (wanted_nu rfl rfl rfl rfl) ?_) | (first | (refine pO rfl rfl (slot_tmp rfl) cell3 aa5 ?_))
        try simp only [put_some, put_none, eval_tmp, eval_const, List.set_cons_succ, List.set_cons_zero, List.getD_cons_succ, List.getD_cons_zero, wrap_eq]
        first | (refine plan_skip rfl (wanted_no rfl rfl rfl rfl) ?_) | (refine plan_skip rfl (wanted_nu rfl rfl rfl rfl) ?_) | (refine plan_move rfl _ rfl wy ?_)
        try simp only [put_some, put_none, eval_tmp, eval_const, List.set_cons_succ, List.set_cons_zero, List.getD_cons_succ, List.getD_cons_zero, wrap_eq]
        first | (refine plan_skip rfl (wanted_no rfl rfl rfl rfl) ?_) | (refine plan_skip rfl (wanted_nu rfl rfl rfl rfl) ?_) | (refine plan_take rfl wy (fun w _ => (by go_simp; try rfl)) ?_)
        try simp only [put_some, put_none, eval_tmp, eval_const, List.set_cons_succ, List.set_cons_zero, List.getD_cons_succ, List.getD_cons_zero, wrap_eq]
        (refine plan_take rfl wy (fun w _ => (by go_simp; try rfl)) ?_)
        try simp only [put_some, put_none, eval_tmp, eval_const, List.set_cons_succ, List.set_cons_zero, List.getD_cons_succ, List.getD_cons_zero, wrap_eq]
        (refine plan_move rfl _ rfl wy ?_)
        try simp only [put_some, put_none, eval_tmp, eval_const, List.set_cons_succ, List.set_cons_zero, List.getD_cons_succ, List.getD_cons_zero, wrap_eq]
        first | (refine plan_skip rfl (wanted_no rfl rfl rfl rfl) ?_) | (refine plan_skip rfl (wanted_nu rfl rfl rfl rfl) ?_) | (refine plan_take rfl wy (fun w _ => (by go_simp; try rfl)) ?_)
        try simp only [put_some, put_none, eval_tmp, eval_const, List.set_cons_succ, List.set_cons_zero, List.getD_cons_succ, List.getD_cons_zero, wrap_eq]
        first | (refine plan_skip rfl (wanted_no rfl rfl rfl rfl) ?_) | (refine plan_skip rfl (wanted_nu rfl rfl rfl rfl) ?_) | (first | (refine pO rfl rfl (slot_tmp rfl) cell3 aa5 ?_))
        try simp only [put_some, put_none, eval_tmp, eval_const, List.set_cons_succ, List.set_cons_zero, List.getD_cons_succ, List.getD_cons_zero, wrap_eq]
        first | (refine plan_skip rfl (wanted_no rfl rfl rfl rfl) ?_) | (refine plan_skip rfl (wanted_nu rfl rfl rfl rfl) ?_) | (refine plan_move rfl _ rfl wy ?_)
        try simp only [put_some, put_none, eval_tmp, eval_const, List.set_cons_succ, List.set_cons_zero, List.getD_cons_succ, List.getD_cons_zero, wrap_eq]
        first | (refine plan_skip rfl (wanted_no rfl rfl rfl rfl) ?_) | (refine plan_skip rfl (wanted_nu rfl rfl rfl rfl) ?_) | (refine plan_take rfl wy (fun w _ => (by go_simp; try rfl)) ?_)
        try simp only [put_some, put_none, eval_tmp, eval_const, List.set_cons_succ, List.set_cons_zero, List.getD_cons_succ, List.getD_cons_zero, wrap_eq]
        first | (refine plan_skip rfl (wanted_no rfl rfl rfl rfl) ?_) | (refine plan_skip rfl (wanted_nu rfl rfl rfl rfl) ?_) | (refine plan_move rfl _ rfl wy ?_)
        try simp only [put_some, put_none, eval_tmp, eval_const, List.set_cons_succ, List.set_cons_zero, List.getD_cons_succ, List.getD_cons_zero, wrap_eq]
        first | (refine plan_skip rfl (wanted_no rfl rfl rfl rfl) ?_) | (refine plan_skip rfl (wanted_nu rfl rfl rfl rfl) ?_) | (first | (refine pA rfl rfl (slot_tmp rfl) agg44 aa5 ?_))
        try simp only [put_some, put_none, eval_tmp, eval_const, List.set_cons_succ, List.set_cons_zero, List.getD_cons_succ, List.getD_cons_zero, wrap_eq]
        first | (refine plan_skip rfl (wanted_no rfl rfl rfl rfl) ?_) | (refine plan_skip rfl (wanted_nu rfl rfl rfl rfl) ?_) | (first | (refine pA rfl rfl (slot_tmp rfl) agg44 aa5 ?_))
        try simp only [put_some, put_none, eval_tmp, eval_const, List.set_cons_succ, List.set_cons_zero, List.getD_cons_succ, List.getD_cons_zero, wrap_eq]
        refine plan_do rfl (fun K hK => ?_)
        go_wp2_with (first | go_skip | (go_at_call 53; refine (may53 _ h3 h8 _ _ _).mono ?_; rintro e w1 ⟨rfl, hb⟩; rw [d1]; replace hp := hp.call hb; clear hb) | (go_at_call 54; refine (twin54 _ _ f.1 f.2.1 f.2.2.1 f.2.2.2.1 f.2.2.2.2.out _).mono ?_; rintro e w1 ⟨rfl, hb⟩; replace hp := hp.call hb; clear hb))
        refine hK.out _ _ (.inr (kall hp)) ?_
        clear hK K
        try simp only [put_some, put_none, eval_tmp, eval_const, List.set_cons_succ, List.set_cons_zero, List.getD_cons_succ, List.getD_cons_zero, wrap_eq]
        first | (refine plan_skip rfl (wanted_no rfl rfl rfl rfl) ?_) | (refine plan_skip rfl (wanted_nu rfl rfl rfl rfl) ?_) | (refine plan_take rfl wy (fun w _ => (by go_simp; try rfl)) ?_)
        try simp only [put_some, put_none, eval_tmp, eval_const, List.set_cons_succ, List.set_cons_zero, List.getD_cons_succ, List.getD_cons_zero, wrap_eq]
        first | (refine plan_skip rfl (wanted_no rfl rfl rfl rfl) ?_) | (refine plan_skip rfl (wanted_nu rfl rfl rfl rfl) ?_) | (refine plan_take rfl wy (fun w _ => (by go_simp; try rfl)) ?_)
        try simp only [put_some, put_none, eval_tmp, eval_const, List.set_cons_succ, List.set_cons_zero, List.getD_cons_succ, List.getD_cons_zero, wrap_eq]
        first | (refine plan_skip rfl (wanted_no rfl rfl rfl rfl) ?_) | (refine plan_skip rfl (wanted_nu rfl rfl rfl rfl) ?_) | (refine plan_move rfl _ rfl wy ?_)
        try simp only [put_some, put_none, eval_tmp, eval_const, List.set_cons_succ, List.set_cons_zero, List.getD_cons_succ, List.getD_cons_zero, wrap_eq]
        first | (refine plan_skip rfl (wanted_no rfl rfl rfl rfl) ?_) | (refine plan_skip rfl (wanted_nu rfl rfl rfl rfl) ?_) | (refine plan_take rfl wy (fun w _ => (by go_simp; try rfl)) ?_)
        try simp only [put_some, put_none, eval_tmp, eval_const, List.set_cons_succ, List.set_cons_zero, List.getD_cons_succ, List.getD_cons_zero, wrap_eq]
        first | (refine plan_skip rfl (wanted_no rfl rfl rfl rfl) ?_) | (refine plan_skip rfl (wanted_nu rfl rfl rfl rfl) ?_) | (first | (refine pO rfl rfl (slot_tmp rfl) cell3 aa5 ?_))
        try simp only [put_some, put_none, eval_tmp, eval_const, List.set_cons_succ, List.set_cons_zero, List.getD_cons_succ, List.getD_cons_zero, wrap_eq]
        first | (refine plan_skip rfl (wanted_no rfl rfl rfl rfl) ?_) | (refine plan_skip rfl (wanted_nu rfl rfl rfl rfl) ?_) | (refine plan_take rfl wy (fun w _ => (by go_simp; try rfl)) ?_)
        try simp only [put_some, put_none, eval_tmp, eval_const, List.set_cons_succ, List.set_cons_zero, List.getD_cons_succ, List.getD_cons_zero, wrap_eq]
        first | (refine plan_skip rfl (wanted_no rfl rfl rfl rfl) ?_) | (refine plan_skip rfl (wanted_nu rfl rfl rfl rfl) ?_) | (refine plan_take rfl wy (fun w _ => (by go_simp; try rfl)) ?_)
        try simp only [put_some, put_none, eval_tmp, eval_const, List.set_cons_succ, List.set_cons_zero, List.getD_cons_succ, List.getD_cons_zero, wrap_eq]
        (refine plan_take rfl wy (fun w _ => (by go_simp; try rfl)) ?_)
        try simp only [put_some, put_none, eval_tmp, eval_const, List.set_cons_succ, List.set_cons_zero, List.getD_cons_succ, List.getD_cons_zero, wrap_eq]
        refine plan_nil ?_
      all_goals first
        | (go_wp2_with fail
           go_ret
           exact ⟨ret_int (by rw [R.out]; rfl), hp.below⟩)
        | (try obtain ⟨_, _, f0, f1, _⟩ := f
           go_wp2_with (first | go_skip | ((first | ((with_reducible refine pre_alloc _ rfl ?_); refine lZ hp rfl zero44 ?_; clear hp; intro b w1 hp) | ((with_reducible refine pre_box _ _ rfl ?_); refine lB hp rfl (slot_tmp rfl) rfl ?_; clear hp; intro b w1 hp) | ((with_reducible refine pre_load _ _ rfl ?_); first | refine lO hp rfl (slot_tmp rfl) (by with_reducible first | exact cell3 | exact cell4 | exact cell30) aa5 ?_ | refine lA hp rfl (slot_tmp rfl) agg44 aa5 ?_) | ((with_reducible refine pre_store _ _ _ rfl ?_); (first | refine sO hp rfl (slot_tmp rfl) (by with_reducible first | exact cell3 | exact cell4 | exact cell30) aa5 ?_ | refine sA hp rfl (slot_tmp rfl) (slot_tmp rfl) agg44 aa5 ?_ | refine sG hp rfl (slot_tmp rfl) (slot_tmp rfl) agg44 aa5 ?_); clear hp; intro w1 hp; simp only [spl, List.set_cons_zero, List.set_cons_succ] at hp)); simp only [put_some, put_none, List.set_cons_succ, List.set_cons_zero]))
           refine wp_region_keeps [_, _] (Keeps.two hp.drew at0 at1) [8] [(0, true), (1, true), (2, true), (3, true), (6, true), (4, false), (5, true), (7, false), (8, false)] (by kernel_rfl) (by kernel_rfl) rfl (by kernel_rfl) (fun _ _ d _ _ h => by cases d <;> exact h) ?_
           replace hp := hp.drew
           (refine plan_take rfl wy (fun w _ => (by go_simp; try rfl)) ?_)
           try simp only [put_some, put_none, eval_tmp, eval_const, List.set_cons_succ, List.set_cons_zero, List.getD_cons_succ, List.getD_cons_zero, wrap_eq]
           (first | (refine pO rfl rfl (slot_tmp rfl) cell3 aa5 ?_))
           try simp only [put_some, put_none, eval_tmp, eval_const, List.set_cons_succ, List.set_cons_zero, List.getD_cons_succ, List.getD_cons_zero, wrap_eq]
           (refine plan_take rfl wy (fun w _ => (by go_simp; try rfl)) ?_)
           try simp only [put_some, put_none, eval_tmp, eval_const, List.set_cons_succ, List.set_cons_zero, List.getD_cons_succ, List.getD_cons_zero, wrap_eq]
           (first | (refine pO rfl rfl (slot_tmp rfl) cell3 aa5 ?_))
           try simp only [put_some, put_none, eval_tmp, eval_const, List.set_cons_succ, List.set_cons_zero, List.getD_cons_succ, List.getD_cons_zero, wrap_eq]
           (first | (refine pA rfl rfl (slot_tmp rfl) agg44 aa5 ?_))
           try simp only [put_some, put_none, eval_tmp, eval_const, List.set_cons_succ, List.set_cons_zero, List.getD_cons_succ, List.getD_cons_zero, wrap_eq]
           refine plan_do rfl (fun K hK => ?_)
           go_wp2_with (first | go_skip | (go_at_call 22; refine (words22 _ (by omega) (by omega) _).mono ?_; rintro e w' ⟨rfl, rfl⟩))
           refine hK.out _ _ (.inr (Keeps.two hp aa5 aa5)) ?_
           clear hK K
           try simp only [put_some, put_none, eval_tmp, eval_const, List.set_cons_succ, List.set_cons_zero, List.getD_cons_succ, List.getD_cons_zero, wrap_eq]
           (refine plan_take rfl wy (fun w _ => (by go_simp; try rfl)) ?_)
           try simp only [put_some, put_none, eval_tmp, eval_const, List.set_cons_succ, List.set_cons_zero, List.getD_cons_succ, List.getD_cons_zero, wrap_eq]
           refine plan_do rfl (fun K hK => ?_)
           go_wp2_with (first | go_skip | ((first | ((with_reducible refine pre_alloc _ rfl ?_); refine lZ hp rfl zero44 ?_; clear hp; intro b w1 hp) | ((with_reducible refine pre_box _ _ rfl ?_); refine lB hp rfl (slot_tmp rfl) rfl ?_; clear hp; intro b w1 hp) | ((with_reducible refine pre_load _ _ rfl ?_); first | refine lO hp rfl (slot_tmp rfl) (by with_reducible first | exact cell3 | exact cell4 | exact cell30) aa5 ?_ | refine lA hp rfl (slot_tmp rfl) agg44 aa5 ?_) | ((with_reducible refine pre_store _ _ _ rfl ?_); (first | refine sO hp rfl (slot_tmp rfl) (by with_reducible first | exact cell3 | exact cell4 | exact cell30) aa5 ?_ | refine sA hp rfl (slot_tmp rfl) (slot_tmp rfl) agg44 aa5 ?_ | refine sG hp rfl (slot_tmp rfl) (slot_tmp rfl) agg44 aa5 ?_); clear hp; intro w1 hp; simp only [spl, List.set_cons_zero, List.set_cons_succ] at hp)); simp only [put_some, put_none, List.set_cons_succ, List.set_cons_zero]))
           refine hK.out _ _ (.inr (Keeps.two hp aa5 aa5)) ?_
           clear hK K
           try simp only [put_some, put_none, eval_tmp, eval_const, List.set_cons_succ, List.set_cons_zero, List.getD_cons_succ, List.getD_cons_zero, wrap_eq]
           refine plan_do rfl (fun K hK => ?_)
           go_wp2_with (first | go_skip | ((first | ((with_reducible refine pre_alloc _ rfl ?_); refine lZ hp rfl zero44 ?_; clear hp; intro b w1 hp) | ((with_reducible refine pre_box _ _ rfl ?_); refine lB hp rfl (slot_tmp rfl) rfl ?_; clear hp; intro b w1 hp) | ((with_reducible refine pre_load _ _ rfl ?_); first | refine lO hp rfl (slot_tmp rfl) (by with_reducible first | exact cell3 | exact cell4 | exact cell30) aa5 ?_ | refine lA hp rfl (slot_tmp rfl) agg44 aa5 ?_) | ((with_reducible refine pre_store _ _ _ rfl ?_); (first | refine sO hp rfl (slot_tmp rfl) (by with_reducible first | exact cell3 | exact cell4 | exact cell30) aa5 ?_ | refine sA hp rfl (slot_tmp rfl) (slot_tmp rfl) agg44 aa5 ?_ | refine sG hp rfl (slot_tmp rfl) (slot_tmp rfl) agg44 aa5 ?_); clear hp; intro w1 hp; simp only [spl, List.set_cons_zero, List.set_cons_succ] at hp)); simp only [put_some, put_none, List.set_cons_succ, List.set_cons_zero]))
           refine hK.out _ _ (.inl rfl) ?_
           clear hK K
           try simp only [put_some, put_none, eval_tmp, eval_const, List.set_cons_succ, List.set_cons_zero, List.getD_cons_succ, List.getD_cons_zero, wrap_eq]
           refine plan_nil ?_
           go_wp2_with fail
           go_roundg (gk - 1)
           case measure => omega
           case rel => exact ⟨j + 1, p + pw o, p, o, by omega, by go_num, by rw [fw], R.out, hp.tail⟩)
    · have e2 : decide ((j : Int) < (l.length : Int)) = false := by simp; omega
      have HG : RowKit.Hid (rightB order l = true) := Lib.hid (rightB_yes HR.out (by have := hat.1; rwa [List.take_of_length_le (by omega)] at this))
      clear hat
      go_wp2_with fail
      go_ret
      exact ⟨ret_int (by rw [HG.out]; rfl), hp.below⟩

theorem check19 (order : Int) (l : List Bl) (a : Option Addr) (c : Nat) (hl : l.length ≤ 600) (w : World) (ha : RowIs w a (l.flatMap blV)) :
    Calls Try.prog 19 #[.int .i64 order, .slice a l.length c] w fun e w' => e = .returned (.int .i64 (errI (rightB order l))) ∧ Below w.heap.size w w' := by
  cases hr : regionB order
  · rw [rightB_reg hr]
    have K36 := Lib.hid (region52 order)
    rw [hr] at K36
    clear hr ha
    go_enter Try.func19, Try.ntmps19
    go_wp2_with (go_at_call 52; refine (K36.out _).mono ?_; rintro e w' ⟨rfl, rfl⟩)
    go_ret
    exact ⟨rfl, Below.refl _ _⟩
  · have := hr
    simp only [regionB, decide_eq_true_eq] at this
    exact check19_reg order this.1 this.2 l a c hl w ha
end Go.Proofs.Ytbflmnoaiklnbaa
