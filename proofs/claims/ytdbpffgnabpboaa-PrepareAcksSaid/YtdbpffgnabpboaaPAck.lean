/- The walk of prepare.Ack. -/
import Derived.Test.YtdbpffgnabpboaaPAckS
set_option linter.unusedSimpArgs false
set_option linter.unusedVariables false
namespace Go.Proofs.Ytdbpffgnabpboaa
open Go.RowKit
theorem flat_take (l : List Ak) (k : Nat) : (l.flatMap akV).take (k * 2) = (l.take k).flatMap akV := by
  induction k generalizing l with
  | zero => simp
  | succ k ih =>
    cases l with
    | nil => simp
    | cons x l => rw [show (k + 1) * 2 = k * 2 + 1 + 1 by omega]; simp only [List.flatMap_cons, akV, List.cons_append, List.nil_append, List.take_succ_cons]; rw [ih l]
theorem flat_drop (l : List Ak) (k : Nat) : (l.flatMap akV).drop (k * 2) = (l.drop k).flatMap akV := by
  induction k generalizing l with
  | zero => simp
  | succ k ih =>
    cases l with
    | nil => simp
    | cons x l => rw [show (k + 1) * 2 = k * 2 + 1 + 1 by omega]; simp only [List.flatMap_cons, akV, List.cons_append, List.nil_append, List.drop_succ_cons]; rw [ih l]
theorem ins_ack {l : List Ak} {t m : Int} {k : Nat} (hk : k ≤ l.length) (hb : hasB l t k = false) : insL 2 (l.flatMap akV) [.int .i64 t, .int .i64 m] k = (ackS l t m k).flatMap akV ∧ (ackS l t m k).length = l.length + 1 := by
  unfold insL
  rw [flat_take, flat_drop]
  unfold ackS
  unfold hasB at hb
  cases hj : l[k]? with
  | none =>
    have h1 : l.length ≤ k := List.getElem?_eq_none_iff.1 hj
    obtain rfl : k = l.length := by omega
    simp [akV, List.flatMap_append]
  | some y =>
    rw [hj] at hb
    simp only [decide_eq_false_iff_not] at hb
    have hl := (List.getElem?_eq_some_iff.1 hj).1
    have hy : l[k] = y := (List.getElem?_eq_some_iff.1 hj).2
    have hd : l.drop k = y :: l.drop (k + 1) := by rw [List.drop_eq_getElem_cons hl, hy]
    simp only [mid]
    rw [if_neg hb, hd]
    refine ⟨by simp [akV, List.flatMap_append, List.flatMap_cons], ?_⟩
    simp only [List.length_append, List.length_take, List.length_cons, List.length_nil, List.length_drop]
    omega
theorem set_ack {l : List Ak} {t m : Int} {k : Nat} {y : Ak} (hj : l[k]? = some y) (hy : y.n = t) : (l.flatMap akV).set (k * 2 + 1) (.int .i64 (mxI y.m m)) = (ackS l t m k).flatMap akV ∧ (ackS l t m k).length = l.length := by
  have hl := (List.getElem?_eq_some_iff.1 hj).1
  have hyl : l[k] = y := (List.getElem?_eq_some_iff.1 hj).2
  have hd : l = l.take k ++ (y :: l.drop (k + 1)) := by
    conv => lhs; rw [← List.take_append_drop k l]
    rw [List.drop_eq_getElem_cons hl, hyl]
  have hs : ackS l t m k = l.take k ++ ([⟨y.n, mxI y.m m⟩] ++ l.drop (k + 1)) := by
    unfold ackS; rw [hj]; simp only [mid]; rw [if_pos hy]
  rw [hs]
  constructor
  · conv => lhs; rw [hd]
    have hlen : ((l.take k).flatMap akV).length = k * 2 := by rw [flat_len akV 2 akV_len, List.length_take]; omega
    rw [List.flatMap_append, List.flatMap_append, List.set_append, if_neg (by omega), hlen, show k * 2 + 1 - k * 2 = 1 by omega]
    simp [akV, List.flatMap_cons]
  · simp only [List.length_append, List.length_take, List.length_cons, List.length_nil, List.length_drop]
    omega
theorem get_ack {l : List Ak} {k : Nat} {y : Ak} (hj : l[k]? = some y) : (l.flatMap akV)[k * 2 + 1]? = some (.int .i64 y.m) := flat_get akV 2 akV_len l k 1 y _ hj rfl
theorem Keeps.keptOf {P : Program} {w0 w : World} {M : List Blk} (h : Keeps w0.heap.size w0 M w) {ty : TypeId} (ha : cellB P ty = true) {R : List Blk} (hR : ∀ p ∈ R, p ∈ M) {b off : Nat} {vs : List Value} (k : Nat) {v : Value} (hv : vs[k]? = some v) (hc : Kept R fun w => ∀ k v, vs[k]? = some v → w.cell? ⟨b, off + k, none⟩ = some v) :
    (loadVar ty ⟨b, off + k, none⟩).run P w = .ok v w := by
  obtain ⟨L, hp, hm⟩ := h
  obtain ⟨h1, _⟩ := run_isAgg_cell ha w
  have hcc := hc.at hp (fun p hp2 => hm p (hR p hp2)) k v hv
  simp [loadVar, Sem.run_bind, h1, load, Sem.run, hcc]
set_option maxRecDepth 100000 in
set_option maxHeartbeats 8000000 in
theorem ack32_no (l : List Ak) (a : Option Addr) (c : Nat) (hl : l.length ≤ 1000) (t m : Int) (hr : ¬ Adj l l.length) (w : World) (ha : RowIs w a (l.flatMap akV)) :
    Calls Try.prog 32 #[.slice a l.length c, .int .i64 t, .int .i64 m] w (AckPost w l) := by
  have hp := Hp.start w
  have HA := Lib.hid ha
  have HNA := Lib.hid hr
  have HL2 : RowKit.Hid ((l.flatMap akV).length = l.length * 2) := Lib.hid (by rw [flat_len akV 2 akV_len])
  clear ha hr
  go_enter Try.func32, Try.ntmps32
  go_wp2_with (first | (go_at_call 60; (with_reducible refine (clone60 a l.length c hl _ HL2.out (aks_one l) _ (HA.out.below hp.below)).mono ?_); rintro e w1 ⟨v, R, rfl, hR, hp2⟩; replace hp := hp.join hp2; obtain ⟨a2, c2, rfl, hk2⟩ := hR.kept; have HR := Lib.hid hR; have HK2 := Lib.hid hk2; clear hR hp2 hk2; simp only [List.nil_append] at hp) | go_skip)
  go_loopg [8, 15] l.length (fun g i8 i wr => ∃ j : Nat, g + j = l.length ∧ i = .int .i64 j ∧ RowKit.Hid (Adj l j) ∧ Hp w.heap.size w wr R)
  case atStart => exact ⟨0, by omega, rfl, Lib.hid (fun i x y hi => by omega), hp⟩
  case round =>
    clear hp
    obtain ⟨j, hkj, rfl, HJ, hp⟩ := hrel
    by_cases hlt : j < l.length
    · have e1 : (j : Int) < (l.length : Int) := by omega
      rcases Nat.eq_zero_or_pos j with hj0 | hj0
      · subst hj0
        have e2 : decide ((0 : Int) < ((0 : Nat) : Int)) = false := by decide
        go_wp2_with fail
        refine wp_region_keeps _ (Keeps.all hp.drew) [] [(0, true), (1, true), (2, true), (3, true), (4, true), (5, true), (6, true), (7, true), (8, true), (9, true), (10, true), (11, true), (12, true), (13, true), (14, true), (15, true)] (by kernel_rfl) (by kernel_rfl) rfl (by kernel_rfl) (fun _ _ d _ _ h => by cases d <;> exact h) ?_
        replace hp := hp.drew
        (refine plan_move rfl _ rfl (by first | exact wanted_none rfl | exact wanted_yes rfl rfl rfl rfl) ?_)
        try simp only [put_some, put_none, eval_tmp, eval_const, List.set_cons_succ, List.set_cons_zero, List.getD_cons_succ, List.getD_cons_zero, wrap_eq]
        (refine plan_take rfl (by first | exact wanted_none rfl | exact wanted_yes rfl rfl rfl rfl) (fun w _ => (by go_simp; try rfl)) ?_)
        try simp only [put_some, put_none, eval_tmp, eval_const, List.set_cons_succ, List.set_cons_zero, List.getD_cons_succ, List.getD_cons_zero, wrap_eq]
        (refine plan_move rfl _ rfl (by first | exact wanted_none rfl | exact wanted_yes rfl rfl rfl rfl) ?_)
        try simp only [put_some, put_none, eval_tmp, eval_const, List.set_cons_succ, List.set_cons_zero, List.getD_cons_succ, List.getD_cons_zero, wrap_eq]
        first | (refine plan_skip rfl (wanted_no rfl rfl rfl rfl) ?_) | (refine plan_skip rfl (wanted_nu rfl rfl rfl rfl) ?_) | (refine plan_move rfl _ rfl (by first | exact wanted_none rfl | exact wanted_yes rfl rfl rfl rfl) ?_)
        try simp only [put_some, put_none, eval_tmp, eval_const, List.set_cons_succ, List.set_cons_zero, List.getD_cons_succ, List.getD_cons_zero, wrap_eq]
        first | (refine plan_skip rfl (wanted_no rfl rfl rfl rfl) ?_) | (refine plan_skip rfl (wanted_nu rfl rfl rfl rfl) ?_) | (refine plan_move rfl _ rfl (by first | exact wanted_none rfl | exact wanted_yes rfl rfl rfl rfl) ?_)
        try simp only [put_some, put_none, eval_tmp, eval_const, List.set_cons_succ, List.set_cons_zero, List.getD_cons_succ, List.getD_cons_zero, wrap_eq]
        first | (refine plan_skip rfl (wanted_no rfl rfl rfl rfl) ?_) | (refine plan_skip rfl (wanted_nu rfl rfl rfl rfl) ?_) | (refine plan_take rfl (by first | exact wanted_none rfl | exact wanted_yes rfl rfl rfl rfl) (fun w _ => (by go_simp; try rfl)) ?_)
        try simp only [put_some, put_none, eval_tmp, eval_const, List.set_cons_succ, List.set_cons_zero, List.getD_cons_succ, List.getD_cons_zero, wrap_eq]
        first | (refine plan_skip rfl (wanted_no rfl rfl rfl rfl) ?_) | (refine plan_skip rfl (wanted_nu rfl rfl rfl rfl) ?_) | (refine plan_take rfl (by first | exact wanted_none rfl | exact wanted_yes rfl rfl rfl rfl) (fun w _ => (by go_simp; try rfl)) ?_)
        try simp only [put_some, put_none, eval_tmp, eval_const, List.set_cons_succ, List.set_cons_zero, List.getD_cons_succ, List.getD_cons_zero, wrap_eq]
        first | (refine plan_skip rfl (wanted_no rfl rfl rfl rfl) ?_) | (refine plan_skip rfl (wanted_nu rfl rfl rfl rfl) ?_) | (refine plan_take rfl (by first | exact wanted_none rfl | exact wanted_yes rfl rfl rfl rfl) (fun w _ => (by go_simp; try rfl)) ?_)
        try simp only [put_some, put_none, eval_tmp, eval_const, List.set_cons_succ, List.set_cons_zero, List.getD_cons_succ, List.getD_cons_zero, wrap_eq]
        first | (refine plan_skip rfl (wanted_no rfl rfl rfl rfl) ?_) | (refine plan_skip rfl (wanted_nu rfl rfl rfl rfl) ?_) | (first | (refine plan_loadAgg rfl _ _ rfl (by first | exact wanted_none rfl | exact wanted_yes rfl rfl rfl rfl) _ _ (slot_tmp rfl) _ (fun w hS => hS.loadOne cell3 (by first | exact at0 | exact at1 | exact at2 | exact at3 | exact at4 | exact at5 | exact at6 | exact at7 | exact at8 | exact at9 | exact at10 | exact at11 | exact at12 | exact at13) _ _ (by rfl)) ?_))
        try simp only [put_some, put_none, eval_tmp, eval_const, List.set_cons_succ, List.set_cons_zero, List.getD_cons_succ, List.getD_cons_zero, wrap_eq]
        first | (refine plan_skip rfl (wanted_no rfl rfl rfl rfl) ?_) | (refine plan_skip rfl (wanted_nu rfl rfl rfl rfl) ?_) | (refine plan_move rfl _ rfl (by first | exact wanted_none rfl | exact wanted_yes rfl rfl rfl rfl) ?_)
        try simp only [put_some, put_none, eval_tmp, eval_const, List.set_cons_succ, List.set_cons_zero, List.getD_cons_succ, List.getD_cons_zero, wrap_eq]
        first | (refine plan_skip rfl (wanted_no rfl rfl rfl rfl) ?_) | (refine plan_skip rfl (wanted_nu rfl rfl rfl rfl) ?_) | (refine plan_move rfl _ rfl (by first | exact wanted_none rfl | exact wanted_yes rfl rfl rfl rfl) ?_)
        try simp only [put_some, put_none, eval_tmp, eval_const, List.set_cons_succ, List.set_cons_zero, List.getD_cons_succ, List.getD_cons_zero, wrap_eq]
        first | (refine plan_skip rfl (wanted_no rfl rfl rfl rfl) ?_) | (refine plan_skip rfl (wanted_nu rfl rfl rfl rfl) ?_) | (refine plan_take rfl (by first | exact wanted_none rfl | exact wanted_yes rfl rfl rfl rfl) (fun w _ => (by go_simp; try rfl)) ?_)
        try simp only [put_some, put_none, eval_tmp, eval_const, List.set_cons_succ, List.set_cons_zero, List.getD_cons_succ, List.getD_cons_zero, wrap_eq]
        first | (refine plan_skip rfl (wanted_no rfl rfl rfl rfl) ?_) | (refine plan_skip rfl (wanted_nu rfl rfl rfl rfl) ?_) | (refine plan_take rfl (by first | exact wanted_none rfl | exact wanted_yes rfl rfl rfl rfl) (fun w _ => (by go_simp; try rfl)) ?_)
        try simp only [put_some, put_none, eval_tmp, eval_const, List.set_cons_succ, List.set_cons_zero, List.getD_cons_succ, List.getD_cons_zero, wrap_eq]
        first | (refine plan_skip rfl (wanted_no rfl rfl rfl rfl) ?_) | (refine plan_skip rfl (wanted_nu rfl rfl rfl rfl) ?_) | (first | (refine plan_loadAgg rfl _ _ rfl (by first | exact wanted_none rfl | exact wanted_yes rfl rfl rfl rfl) _ _ (slot_tmp rfl) _ (fun w hS => hS.loadOne cell3 (by first | exact at0 | exact at1 | exact at2 | exact at3 | exact at4 | exact at5 | exact at6 | exact at7 | exact at8 | exact at9 | exact at10 | exact at11 | exact at12 | exact at13) _ _ (by rfl)) ?_))
        try simp only [put_some, put_none, eval_tmp, eval_const, List.set_cons_succ, List.set_cons_zero, List.getD_cons_succ, List.getD_cons_zero, wrap_eq]
        first | (refine plan_skip rfl (wanted_no rfl rfl rfl rfl) ?_) | (refine plan_skip rfl (wanted_nu rfl rfl rfl rfl) ?_) | (refine plan_take rfl (by first | exact wanted_none rfl | exact wanted_yes rfl rfl rfl rfl) (fun w _ => (by go_simp; try rfl)) ?_)
        try simp only [put_some, put_none, eval_tmp, eval_const, List.set_cons_succ, List.set_cons_zero, List.getD_cons_succ, List.getD_cons_zero, wrap_eq]
        (refine plan_take rfl (by first | exact wanted_none rfl | exact wanted_yes rfl rfl rfl rfl) (fun w _ => (by go_simp; try rfl)) ?_)
        try simp only [put_some, put_none, eval_tmp, eval_const, List.set_cons_succ, List.set_cons_zero, List.getD_cons_succ, List.getD_cons_zero, wrap_eq]
        refine plan_nil ?_
        go_wp2_with fail
        go_roundg (gk - 1)
        case measure => omega
        case rel => exact ⟨1, by omega, rfl, Lib.hid (fun i x y hi => by omega), hp⟩
      · obtain ⟨i0, rfl⟩ : ∃ i0, j = i0 + 1 := ⟨j - 1, by omega⟩
        have hi0 := List.getElem?_eq_getElem (l := l) (i := i0) (by omega)
        have hi1 := List.getElem?_eq_getElem (l := l) (i := i0 + 1) hlt
        obtain ⟨bq, off, he, hE1⟩ := HK2.out.elem 2 akV_len (by decide) hi0 hp (fun p h => h)
        obtain ⟨bq', off', he', hE2⟩ := HK2.out.elem 2 akV_len (by decide) hi1 hp (fun p h => h)
        subst he
        injection he' with he'
        injection he' with h1 h2
        subst h1; subst h2
        have HS := Lib.hid (fun h => adj_succ HJ.out hi0 hi1 h)
        have HN : RowKit.Hid (l[i0 + 1].n ≤ (l[i0]'(by omega)).n → ¬ Adj l l.length) := Lib.hid (fun h hadj => by
          have := hadj i0 _ _ hlt hi0 hi1
          omega)
        clear hi0 hi1
        generalize l[i0]'(by omega) = x at hE1 HS HN
        generalize l[i0 + 1] = y at hE2 HS HN
        obtain ⟨xn, xm⟩ := x
        obtain ⟨yn, ym⟩ := y
        simp only [akV] at hE1 hE2 HS HN
        have HE1 := Lib.hid hE1
        have HE2 := Lib.hid hE2
        clear hE1 hE2
        have e2 : (0 : Int) < ((i0 + 1 : Nat) : Int) := by omega
        have e3 : (0 : Int) ≤ (i0 : Int) := by omega
        have e4 : (i0 : Int) < (l.length : Int) := by omega
        have e5 : (0 : Int) ≤ ((i0 + 1 : Nat) : Int) := by omega
        have HW1 : RowKit.Hid (wrap64 (i0 : Int) = (i0 : Int)) := Lib.hid (by unfold wrap64; omega)
        go_wp2_with fail
        by_cases hc : yn ≤ xn
        · have HC := Lib.hid (HN.out hc)
          refine wp_region_keeps _ (Keeps.all hp.drew) [] [(0, true), (1, true), (2, true), (3, true), (4, true), (5, true), (6, true), (7, true), (8, true), (9, true), (10, true), (11, true), (12, true), (13, true), (14, true), (15, true)] (by kernel_rfl) (by kernel_rfl) rfl (by kernel_rfl) (fun _ _ d _ _ h => by cases d <;> exact h) ?_
          replace hp := hp.drew
          (refine plan_move rfl _ rfl (by first | exact wanted_none rfl | exact wanted_yes rfl rfl rfl rfl) ?_)
          try simp only [put_some, put_none, eval_tmp, eval_const, List.set_cons_succ, List.set_cons_zero, List.getD_cons_succ, List.getD_cons_zero, wrap_eq, HW1.out]
          (refine plan_take rfl (by first | exact wanted_none rfl | exact wanted_yes rfl rfl rfl rfl) (fun w _ => (by go_simp; try rfl)) ?_)
          try simp only [put_some, put_none, eval_tmp, eval_const, List.set_cons_succ, List.set_cons_zero, List.getD_cons_succ, List.getD_cons_zero, wrap_eq, HW1.out]
          (refine plan_move rfl _ rfl (by first | exact wanted_none rfl | exact wanted_yes rfl rfl rfl rfl) ?_)
          try simp only [put_some, put_none, eval_tmp, eval_const, List.set_cons_succ, List.set_cons_zero, List.getD_cons_succ, List.getD_cons_zero, wrap_eq, HW1.out]
          first | (refine plan_skip rfl (wanted_no rfl rfl rfl rfl) ?_) | (refine plan_skip rfl (wanted_nu rfl rfl rfl rfl) ?_) | (refine plan_move rfl _ rfl (by first | exact wanted_none rfl | exact wanted_yes rfl rfl rfl rfl) ?_)
          try simp only [put_some, put_none, eval_tmp, eval_const, List.set_cons_succ, List.set_cons_zero, List.getD_cons_succ, List.getD_cons_zero, wrap_eq, HW1.out]
          first | (refine plan_skip rfl (wanted_no rfl rfl rfl rfl) ?_) | (refine plan_skip rfl (wanted_nu rfl rfl rfl rfl) ?_) | (refine plan_move rfl _ rfl (by first | exact wanted_none rfl | exact wanted_yes rfl rfl rfl rfl) ?_)
          try simp only [put_some, put_none, eval_tmp, eval_const, List.set_cons_succ, List.set_cons_zero, List.getD_cons_succ, List.getD_cons_zero, wrap_eq, HW1.out]
          first | (refine plan_skip rfl (wanted_no rfl rfl rfl rfl) ?_) | (refine plan_skip rfl (wanted_nu rfl rfl rfl rfl) ?_) | (refine plan_take rfl (by first | exact wanted_none rfl | exact wanted_yes rfl rfl rfl rfl) (fun w _ => (by go_simp; try rfl)) ?_)
          try simp only [put_some, put_none, eval_tmp, eval_const, List.set_cons_succ, List.set_cons_zero, List.getD_cons_succ, List.getD_cons_zero, wrap_eq, HW1.out]
          first | (refine plan_skip rfl (wanted_no rfl rfl rfl rfl) ?_) | (refine plan_skip rfl (wanted_nu rfl rfl rfl rfl) ?_) | (refine plan_take rfl (by first | exact wanted_none rfl | exact wanted_yes rfl rfl rfl rfl) (fun w _ => (by go_simp; try rfl)) ?_)
          try simp only [put_some, put_none, eval_tmp, eval_const, List.set_cons_succ, List.set_cons_zero, List.getD_cons_succ, List.getD_cons_zero, wrap_eq, HW1.out]
          first | (refine plan_skip rfl (wanted_no rfl rfl rfl rfl) ?_) | (refine plan_skip rfl (wanted_nu rfl rfl rfl rfl) ?_) | (refine plan_take rfl (by first | exact wanted_none rfl | exact wanted_yes rfl rfl rfl rfl) (fun w _ => (by go_simp; try rfl)) ?_)
          try simp only [put_some, put_none, eval_tmp, eval_const, List.set_cons_succ, List.set_cons_zero, List.getD_cons_succ, List.getD_cons_zero, wrap_eq, HW1.out]
          first | (refine plan_skip rfl (wanted_no rfl rfl rfl rfl) ?_) | (refine plan_skip rfl (wanted_nu rfl rfl rfl rfl) ?_) | (first | (refine plan_loadAgg rfl _ _ rfl (by first | exact wanted_none rfl | exact wanted_yes rfl rfl rfl rfl) _ _ (slot_tmp rfl) _ (fun w hS => hS.keptOf cell3 (fun p h => h) 0 rfl HE1.out) ?_) | (refine plan_loadAgg rfl _ _ rfl (by first | exact wanted_none rfl | exact wanted_yes rfl rfl rfl rfl) _ _ (slot_tmp rfl) _ (fun w hS => hS.keptOf cell3 (fun p h => h) 0 rfl HE2.out) ?_) | (refine plan_loadAgg rfl _ _ rfl (by first | exact wanted_none rfl | exact wanted_yes rfl rfl rfl rfl) _ _ (slot_tmp rfl) _ (fun w hS => hS.loadOne cell3 (by first | exact at0 | exact at1 | exact at2 | exact at3 | exact at4 | exact at5 | exact at6 | exact at7 | exact at8 | exact at9 | exact at10 | exact at11 | exact at12 | exact at13) _ _ (by rfl)) ?_))
          try simp only [put_some, put_none, eval_tmp, eval_const, List.set_cons_succ, List.set_cons_zero, List.getD_cons_succ, List.getD_cons_zero, wrap_eq, HW1.out]
          first | (refine plan_skip rfl (wanted_no rfl rfl rfl rfl) ?_) | (refine plan_skip rfl (wanted_nu rfl rfl rfl rfl) ?_) | (refine plan_move rfl _ rfl (by first | exact wanted_none rfl | exact wanted_yes rfl rfl rfl rfl) ?_)
          try simp only [put_some, put_none, eval_tmp, eval_const, List.set_cons_succ, List.set_cons_zero, List.getD_cons_succ, List.getD_cons_zero, wrap_eq, HW1.out]
          first | (refine plan_skip rfl (wanted_no rfl rfl rfl rfl) ?_) | (refine plan_skip rfl (wanted_nu rfl rfl rfl rfl) ?_) | (refine plan_move rfl _ rfl (by first | exact wanted_none rfl | exact wanted_yes rfl rfl rfl rfl) ?_)
          try simp only [put_some, put_none, eval_tmp, eval_const, List.set_cons_succ, List.set_cons_zero, List.getD_cons_succ, List.getD_cons_zero, wrap_eq, HW1.out]
          first | (refine plan_skip rfl (wanted_no rfl rfl rfl rfl) ?_) | (refine plan_skip rfl (wanted_nu rfl rfl rfl rfl) ?_) | (refine plan_take rfl (by first | exact wanted_none rfl | exact wanted_yes rfl rfl rfl rfl) (fun w _ => (by go_simp; try rfl)) ?_)
          try simp only [put_some, put_none, eval_tmp, eval_const, List.set_cons_succ, List.set_cons_zero, List.getD_cons_succ, List.getD_cons_zero, wrap_eq, HW1.out]
          first | (refine plan_skip rfl (wanted_no rfl rfl rfl rfl) ?_) | (refine plan_skip rfl (wanted_nu rfl rfl rfl rfl) ?_) | (refine plan_take rfl (by first | exact wanted_none rfl | exact wanted_yes rfl rfl rfl rfl) (fun w _ => (by go_simp; try rfl)) ?_)
          try simp only [put_some, put_none, eval_tmp, eval_const, List.set_cons_succ, List.set_cons_zero, List.getD_cons_succ, List.getD_cons_zero, wrap_eq, HW1.out]
          first | (refine plan_skip rfl (wanted_no rfl rfl rfl rfl) ?_) | (refine plan_skip rfl (wanted_nu rfl rfl rfl rfl) ?_) | (first | (refine plan_loadAgg rfl _ _ rfl (by first | exact wanted_none rfl | exact wanted_yes rfl rfl rfl rfl) _ _ (slot_tmp rfl) _ (fun w hS => hS.keptOf cell3 (fun p h => h) 0 rfl HE1.out) ?_) | (refine plan_loadAgg rfl _ _ rfl (by first | exact wanted_none rfl | exact wanted_yes rfl rfl rfl rfl) _ _ (slot_tmp rfl) _ (fun w hS => hS.keptOf cell3 (fun p h => h) 0 rfl HE2.out) ?_) | (refine plan_loadAgg rfl _ _ rfl (by first | exact wanted_none rfl | exact wanted_yes rfl rfl rfl rfl) _ _ (slot_tmp rfl) _ (fun w hS => hS.loadOne cell3 (by first | exact at0 | exact at1 | exact at2 | exact at3 | exact at4 | exact at5 | exact at6 | exact at7 | exact at8 | exact at9 | exact at10 | exact at11 | exact at12 | exact at13) _ _ (by rfl)) ?_))
          try simp only [put_some, put_none, eval_tmp, eval_const, List.set_cons_succ, List.set_cons_zero, List.getD_cons_succ, List.getD_cons_zero, wrap_eq, HW1.out]
          first | (refine plan_skip rfl (wanted_no rfl rfl rfl rfl) ?_) | (refine plan_skip rfl (wanted_nu rfl rfl rfl rfl) ?_) | (refine plan_take rfl (by first | exact wanted_none rfl | exact wanted_yes rfl rfl rfl rfl) (fun w _ => (by go_simp; try rfl)) ?_)
          try simp only [put_some, put_none, eval_tmp, eval_const, List.set_cons_succ, List.set_cons_zero, List.getD_cons_succ, List.getD_cons_zero, wrap_eq, HW1.out]
          (refine plan_take rfl (by first | exact wanted_none rfl | exact wanted_yes rfl rfl rfl rfl) (fun w _ => (by go_simp; try rfl)) ?_)
          try simp only [put_some, put_none, eval_tmp, eval_const, List.set_cons_succ, List.set_cons_zero, List.getD_cons_succ, List.getD_cons_zero, wrap_eq, HW1.out]
          refine plan_nil ?_
          go_wp2_with fail
          go_ret
          exact ⟨_, R, rfl, HR.out, hp⟩
        · have HC := Lib.hid (show xn < yn by omega)
          have hc' : decide (yn ≤ xn) = false := by simp; omega
          clear hc
          refine wp_region_keeps _ (Keeps.all hp.drew) [] [(0, true), (1, true), (2, true), (3, true), (4, true), (5, true), (6, true), (7, true), (8, true), (9, true), (10, true), (11, true), (12, true), (13, true), (14, true), (15, true)] (by kernel_rfl) (by kernel_rfl) rfl (by kernel_rfl) (fun _ _ d _ _ h => by cases d <;> exact h) ?_
          replace hp := hp.drew
          (refine plan_move rfl _ rfl (by first | exact wanted_none rfl | exact wanted_yes rfl rfl rfl rfl) ?_)
          try simp only [put_some, put_none, eval_tmp, eval_const, List.set_cons_succ, List.set_cons_zero, List.getD_cons_succ, List.getD_cons_zero, wrap_eq, HW1.out]
          (refine plan_take rfl (by first | exact wanted_none rfl | exact wanted_yes rfl rfl rfl rfl) (fun w _ => (by go_simp; try rfl)) ?_)
          try simp only [put_some, put_none, eval_tmp, eval_const, List.set_cons_succ, List.set_cons_zero, List.getD_cons_succ, List.getD_cons_zero, wrap_eq, HW1.out]
          (refine plan_move rfl _ rfl (by first | exact wanted_none rfl | exact wanted_yes rfl rfl rfl rfl) ?_)
          try simp only [put_some, put_none, eval_tmp, eval_const, List.set_cons_succ, List.set_cons_zero, List.getD_cons_succ, List.getD_cons_zero, wrap_eq, HW1.out]
          first | (refine plan_skip rfl (wanted_no rfl rfl rfl rfl) ?_) | (refine plan_skip rfl (wanted_nu rfl rfl rfl rfl) ?_) | (refine plan_move rfl _ rfl (by first | exact wanted_none rfl | exact wanted_yes rfl rfl rfl rfl) ?_)
          try simp only [put_some, put_none, eval_tmp, eval_const, List.set_cons_succ, List.set_cons_zero, List.getD_cons_succ, List.getD_cons_zero, wrap_eq, HW1.out]
          first | (refine plan_skip rfl (wanted_no rfl rfl rfl rfl) ?_) | (refine plan_skip rfl (wanted_nu rfl rfl rfl rfl) ?_) | (refine plan_move rfl _ rfl (by first | exact wanted_none rfl | exact wanted_yes rfl rfl rfl rfl) ?_)
          try simp only [put_some, put_none, eval_tmp, eval_const, List.set_cons_succ, List.set_cons_zero, List.getD_cons_succ, List.getD_cons_zero, wrap_eq, HW1.out]
          first | (refine plan_skip rfl (wanted_no rfl rfl rfl rfl) ?_) | (refine plan_skip rfl (wanted_nu rfl rfl rfl rfl) ?_) | (refine plan_take rfl (by first | exact wanted_none rfl | exact wanted_yes rfl rfl rfl rfl) (fun w _ => (by go_simp; try rfl)) ?_)
          try simp only [put_some, put_none, eval_tmp, eval_const, List.set_cons_succ, List.set_cons_zero, List.getD_cons_succ, List.getD_cons_zero, wrap_eq, HW1.out]
          first | (refine plan_skip rfl (wanted_no rfl rfl rfl rfl) ?_) | (refine plan_skip rfl (wanted_nu rfl rfl rfl rfl) ?_) | (refine plan_take rfl (by first | exact wanted_none rfl | exact wanted_yes rfl rfl rfl rfl) (fun w _ => (by go_simp; try rfl)) ?_)
          try simp only [put_some, put_none, eval_tmp, eval_const, List.set_cons_succ, List.set_cons_zero, List.getD_cons_succ, List.getD_cons_zero, wrap_eq, HW1.out]
          first | (refine plan_skip rfl (wanted_no rfl rfl rfl rfl) ?_) | (refine plan_skip rfl (wanted_nu rfl rfl rfl rfl) ?_) | (refine plan_take rfl (by first | exact wanted_none rfl | exact wanted_yes rfl rfl rfl rfl) (fun w _ => (by go_simp; try rfl)) ?_)
          try simp only [put_some, put_none, eval_tmp, eval_const, List.set_cons_succ, List.set_cons_zero, List.getD_cons_succ, List.getD_cons_zero, wrap_eq, HW1.out]
          first | (refine plan_skip rfl (wanted_no rfl rfl rfl rfl) ?_) | (refine plan_skip rfl (wanted_nu rfl rfl rfl rfl) ?_) | (first | (refine plan_loadAgg rfl _ _ rfl (by first | exact wanted_none rfl | exact wanted_yes rfl rfl rfl rfl) _ _ (slot_tmp rfl) _ (fun w hS => hS.keptOf cell3 (fun p h => h) 0 rfl HE1.out) ?_) | (refine plan_loadAgg rfl _ _ rfl (by first | exact wanted_none rfl | exact wanted_yes rfl rfl rfl rfl) _ _ (slot_tmp rfl) _ (fun w hS => hS.keptOf cell3 (fun p h => h) 0 rfl HE2.out) ?_) | (refine plan_loadAgg rfl _ _ rfl (by first | exact wanted_none rfl | exact wanted_yes rfl rfl rfl rfl) _ _ (slot_tmp rfl) _ (fun w hS => hS.loadOne cell3 (by first | exact at0 | exact at1 | exact at2 | exact at3 | exact at4 | exact at5 | exact at6 | exact at7 | exact at8 | exact at9 | exact at10 | exact at11 | exact at12 | exact at13) _ _ (by rfl)) ?_))
          try simp only [put_some, put_none, eval_tmp, eval_const, List.set_cons_succ, List.set_cons_zero, List.getD_cons_succ, List.getD_cons_zero, wrap_eq, HW1.out]
          first | (refine plan_skip rfl (wanted_no rfl rfl rfl rfl) ?_) | (refine plan_skip rfl (wanted_nu rfl rfl rfl rfl) ?_) | (refine plan_move rfl _ rfl (by first | exact wanted_none rfl | exact wanted_yes rfl rfl rfl rfl) ?_)
          try simp only [put_some, put_none, eval_tmp, eval_const, List.set_cons_succ, List.set_cons_zero, List.getD_cons_succ, List.getD_cons_zero, wrap_eq, HW1.out]
          first | (refine plan_skip rfl (wanted_no rfl rfl rfl rfl) ?_) | (refine plan_skip rfl (wanted_nu rfl rfl rfl rfl) ?_) | (refine plan_move rfl _ rfl (by first | exact wanted_none rfl | exact wanted_yes rfl rfl rfl rfl) ?_)
          try simp only [put_some, put_none, eval_tmp, eval_const, List.set_cons_succ, List.set_cons_zero, List.getD_cons_succ, List.getD_cons_zero, wrap_eq, HW1.out]
          first | (refine plan_skip rfl (wanted_no rfl rfl rfl rfl) ?_) | (refine plan_skip rfl (wanted_nu rfl rfl rfl rfl) ?_) | (refine plan_take rfl (by first | exact wanted_none rfl | exact wanted_yes rfl rfl rfl rfl) (fun w _ => (by go_simp; try rfl)) ?_)
          try simp only [put_some, put_none, eval_tmp, eval_const, List.set_cons_succ, List.set_cons_zero, List.getD_cons_succ, List.getD_cons_zero, wrap_eq, HW1.out]
          first | (refine plan_skip rfl (wanted_no rfl rfl rfl rfl) ?_) | (refine plan_skip rfl (wanted_nu rfl rfl rfl rfl) ?_) | (refine plan_take rfl (by first | exact wanted_none rfl | exact wanted_yes rfl rfl rfl rfl) (fun w _ => (by go_simp; try rfl)) ?_)
          try simp only [put_some, put_none, eval_tmp, eval_const, List.set_cons_succ, List.set_cons_zero, List.getD_cons_succ, List.getD_cons_zero, wrap_eq, HW1.out]
          first | (refine plan_skip rfl (wanted_no rfl rfl rfl rfl) ?_) | (refine plan_skip rfl (wanted_nu rfl rfl rfl rfl) ?_) | (first | (refine plan_loadAgg rfl _ _ rfl (by first | exact wanted_none rfl | exact wanted_yes rfl rfl rfl rfl) _ _ (slot_tmp rfl) _ (fun w hS => hS.keptOf cell3 (fun p h => h) 0 rfl HE1.out) ?_) | (refine plan_loadAgg rfl _ _ rfl (by first | exact wanted_none rfl | exact wanted_yes rfl rfl rfl rfl) _ _ (slot_tmp rfl) _ (fun w hS => hS.keptOf cell3 (fun p h => h) 0 rfl HE2.out) ?_) | (refine plan_loadAgg rfl _ _ rfl (by first | exact wanted_none rfl | exact wanted_yes rfl rfl rfl rfl) _ _ (slot_tmp rfl) _ (fun w hS => hS.loadOne cell3 (by first | exact at0 | exact at1 | exact at2 | exact at3 | exact at4 | exact at5 | exact at6 | exact at7 | exact at8 | exact at9 | exact at10 | exact at11 | exact at12 | exact at13) _ _ (by rfl)) ?_))
          try simp only [put_some, put_none, eval_tmp, eval_const, List.set_cons_succ, List.set_cons_zero, List.getD_cons_succ, List.getD_cons_zero, wrap_eq, HW1.out]
          first | (refine plan_skip rfl (wanted_no rfl rfl rfl rfl) ?_) | (refine plan_skip rfl (wanted_nu rfl rfl rfl rfl) ?_) | (refine plan_take rfl (by first | exact wanted_none rfl | exact wanted_yes rfl rfl rfl rfl) (fun w _ => (by go_simp; try rfl)) ?_)
          try simp only [put_some, put_none, eval_tmp, eval_const, List.set_cons_succ, List.set_cons_zero, List.getD_cons_succ, List.getD_cons_zero, wrap_eq, HW1.out]
          (refine plan_take rfl (by first | exact wanted_none rfl | exact wanted_yes rfl rfl rfl rfl) (fun w _ => (by go_simp; try rfl)) ?_)
          try simp only [put_some, put_none, eval_tmp, eval_const, List.set_cons_succ, List.set_cons_zero, List.getD_cons_succ, List.getD_cons_zero, wrap_eq, HW1.out]
          refine plan_nil ?_
          go_wp2_with fail
          go_roundg (gk - 1)
          case measure => omega
          case rel => exact ⟨i0 + 1 + 1, by omega, by go_num, Lib.hid (HS.out HC.out), hp⟩
    · exact absurd (fun i x y hi hx hy => HJ.out i x y (by omega) hx hy) HNA.out
set_option maxRecDepth 100000 in
set_option maxHeartbeats 8000000 in
theorem ack32 (l : List Ak) (a : Option Addr) (c : Nat) (hl : l.length ≤ 1000) (t m : Int) (k : Nat) (hk : At l t k) (hr : Adj l l.length) (w : World) (ha : RowIs w a (l.flatMap akV)) :
    Calls Try.prog 32 #[.slice a l.length c, .int .i64 t, .int .i64 m] w (AckPost w (ackS l t m k)) := by
  have hp := Hp.start w
  have HA := Lib.hid ha
  have HNA := Lib.hid hr
  have HK := Lib.hid hk
  have hkl := hk.1
  have HL2 : RowKit.Hid ((l.flatMap akV).length = l.length * 2) := Lib.hid (by rw [flat_len akV 2 akV_len])
  clear ha hr hk
  go_enter Try.func32, Try.ntmps32
  go_wp2_with (first | (go_at_call 60; (with_reducible refine (clone60 a l.length c hl _ HL2.out (aks_one l) _ (HA.out.below hp.below)).mono ?_); rintro e w1 ⟨v, R, rfl, hR, hp2⟩; replace hp := hp.join hp2; obtain ⟨a2, c2, rfl, hk2⟩ := hR.kept; have HR := Lib.hid hR; have HK2 := Lib.hid hk2; clear hR hp2 hk2; simp only [List.nil_append] at hp) | go_skip)
  go_loopg [8, 15] l.length (fun g i8 i wr => ∃ j : Nat, g + j = l.length ∧ i = .int .i64 j ∧ RowKit.Hid (Adj l j) ∧ Hp w.heap.size w wr R)
  case atStart => exact ⟨0, by omega, rfl, Lib.hid (fun i x y hi => by omega), hp⟩
  case round =>
    clear hp
    obtain ⟨j, hkj, rfl, HJ, hp⟩ := hrel
    by_cases hlt : j < l.length
    · have e1 : (j : Int) < (l.length : Int) := by omega
      rcases Nat.eq_zero_or_pos j with hj0 | hj0
      · subst hj0
        have e2 : decide ((0 : Int) < ((0 : Nat) : Int)) = false := by decide
        go_wp2_with fail
        refine wp_region_keeps _ (Keeps.all hp.drew) [] [(0, true), (1, true), (2, true), (3, true), (4, true), (5, true), (6, true), (7, true), (8, true), (9, true), (10, true), (11, true), (12, true), (13, true), (14, true), (15, true)] (by kernel_rfl) (by kernel_rfl) rfl (by kernel_rfl) (fun _ _ d _ _ h => by cases d <;> exact h) ?_
        replace hp := hp.drew
        (refine plan_move rfl _ rfl (by first | exact wanted_none rfl | exact wanted_yes rfl rfl rfl rfl) ?_)
        try simp only [put_some, put_none, eval_tmp, eval_const, List.set_cons_succ, List.set_cons_zero, List.getD_cons_succ, List.getD_cons_zero, wrap_eq]
        (refine plan_take rfl (by first | exact wanted_none rfl | exact wanted_yes rfl rfl rfl rfl) (fun w _ => (by go_simp; try rfl)) ?_)
        try simp only [put_some, put_none, eval_tmp, eval_const, List.set_cons_succ, List.set_cons_zero, List.getD_cons_succ, List.getD_cons_zero, wrap_eq]
        (refine plan_move rfl _ rfl (by first | exact wanted_none rfl | exact wanted_yes rfl rfl rfl rfl) ?_)
        try simp only [put_some, put_none, eval_tmp, eval_const, List.set_cons_succ, List.set_cons_zero, List.getD_cons_succ, List.getD_cons_zero, wrap_eq]
        first | (refine plan_skip rfl (wanted_no rfl rfl rfl rfl) ?_) | (refine plan_skip rfl (wanted_nu rfl rfl rfl rfl) ?_) | (refine plan_move rfl _ rfl (by first | exact wanted_none rfl | exact wanted_yes rfl rfl rfl rfl) ?_)
        try simp only [put_some, put_none, eval_tmp, eval_const, List.set_cons_succ, List.set_cons_zero, List.getD_cons_succ, List.getD_cons_zero, wrap_eq]
        first | (refine plan_skip rfl (wanted_no rfl rfl rfl rfl) ?_) | (refine plan_skip rfl (wanted_nu rfl rfl rfl rfl) ?_) | (refine plan_move rfl _ rfl (by first | exact wanted_none rfl | exact wanted_yes rfl rfl rfl rfl) ?_)
        try simp only [put_some, put_none, eval_tmp, eval_const, List.set_cons_succ, List.set_cons_zero, List.getD_cons_succ, List.getD_cons_zero, wrap_eq]
        first | (refine plan_skip rfl (wanted_no rfl rfl rfl rfl) ?_) | (refine plan_skip rfl (wanted_nu rfl rfl rfl rfl) ?_) | (refine plan_take rfl (by first | exact wanted_none rfl | exact wanted_yes rfl rfl rfl rfl) (fun w _ => (by go_simp; try rfl)) ?_)
        try simp only [put_some, put_none, eval_tmp, eval_const, List.set_cons_succ, List.set_cons_zero, List.getD_cons_succ, List.getD_cons_zero, wrap_eq]
        first | (refine plan_skip rfl (wanted_no rfl rfl rfl rfl) ?_) | (refine plan_skip rfl (wanted_nu rfl rfl rfl rfl) ?_) | (refine plan_take rfl (by first | exact wanted_none rfl | exact wanted_yes rfl rfl rfl rfl) (fun w _ => (by go_simp; try rfl)) ?_)
        try simp only [put_some, put_none, eval_tmp, eval_const, List.set_cons_succ, List.set_cons_zero, List.getD_cons_succ, List.getD_cons_zero, wrap_eq]
        first | (refine plan_skip rfl (wanted_no rfl rfl rfl rfl) ?_) | (refine plan_skip rfl (wanted_nu rfl rfl rfl rfl) ?_) | (refine plan_take rfl (by first | exact wanted_none rfl | exact wanted_yes rfl rfl rfl rfl) (fun w _ => (by go_simp; try rfl)) ?_)
        try simp only [put_some, put_none, eval_tmp, eval_const, List.set_cons_succ, List.set_cons_zero, List.getD_cons_succ, List.getD_cons_zero, wrap_eq]
        first | (refine plan_skip rfl (wanted_no rfl rfl rfl rfl) ?_) | (refine plan_skip rfl (wanted_nu rfl rfl rfl rfl) ?_) | (first | (refine plan_loadAgg rfl _ _ rfl (by first | exact wanted_none rfl | exact wanted_yes rfl rfl rfl rfl) _ _ (slot_tmp rfl) _ (fun w hS => hS.loadOne cell3 (by first | exact at0 | exact at1 | exact at2 | exact at3 | exact at4 | exact at5 | exact at6 | exact at7 | exact at8 | exact at9 | exact at10 | exact at11 | exact at12 | exact at13) _ _ (by rfl)) ?_))
        try simp only [put_some, put_none, eval_tmp, eval_const, List.set_cons_succ, List.set_cons_zero, List.getD_cons_succ, List.getD_cons_zero, wrap_eq]
        first | (refine plan_skip rfl (wanted_no rfl rfl rfl rfl) ?_) | (refine plan_skip rfl (wanted_nu rfl rfl rfl rfl) ?_) | (refine plan_move rfl _ rfl (by first | exact wanted_none rfl | exact wanted_yes rfl rfl rfl rfl) ?_)
        try simp only [put_some, put_none, eval_tmp, eval_const, List.set_cons_succ, List.set_cons_zero, List.getD_cons_succ, List.getD_cons_zero, wrap_eq]
        first | (refine plan_skip rfl (wanted_no rfl rfl rfl rfl) ?_) | (refine plan_skip rfl (wanted_nu rfl rfl rfl rfl) ?_) | (refine plan_move rfl _ rfl (by first | exact wanted_none rfl | exact wanted_yes rfl rfl rfl rfl) ?_)
        try simp only [put_some, put_none, eval_tmp, eval_const, List.set_cons_succ, List.set_cons_zero, List.getD_cons_succ, List.getD_cons_zero, wrap_eq]
        first | (refine plan_skip rfl (wanted_no rfl rfl rfl rfl) ?_) | (refine plan_skip rfl (wanted_nu rfl rfl rfl rfl) ?_) | (refine plan_take rfl (by first | exact wanted_none rfl | exact wanted_yes rfl rfl rfl rfl) (fun w _ => (by go_simp; try rfl)) ?_)
        try simp only [put_some, put_none, eval_tmp, eval_const, List.set_cons_succ, List.set_cons_zero, List.getD_cons_succ, List.getD_cons_zero, wrap_eq]
        first | (refine plan_skip rfl (wanted_no rfl rfl rfl rfl) ?_) | (refine plan_skip rfl (wanted_nu rfl rfl rfl rfl) ?_) | (refine plan_take rfl (by first | exact wanted_none rfl | exact wanted_yes rfl rfl rfl rfl) (fun w _ => (by go_simp; try rfl)) ?_)
        try simp only [put_some, put_none, eval_tmp, eval_const, List.set_cons_succ, List.set_cons_zero, List.getD_cons_succ, List.getD_cons_zero, wrap_eq]
        first | (refine plan_skip rfl (wanted_no rfl rfl rfl rfl) ?_) | (refine plan_skip rfl (wanted_nu rfl rfl rfl rfl) ?_) | (first | (refine plan_loadAgg rfl _ _ rfl (by first | exact wanted_none rfl | exact wanted_yes rfl rfl rfl rfl) _ _ (slot_tmp rfl) _ (fun w hS => hS.loadOne cell3 (by first | exact at0 | exact at1 | exact at2 | exact at3 | exact at4 | exact at5 | exact at6 | exact at7 | exact at8 | exact at9 | exact at10 | exact at11 | exact at12 | exact at13) _ _ (by rfl)) ?_))
        try simp only [put_some, put_none, eval_tmp, eval_const, List.set_cons_succ, List.set_cons_zero, List.getD_cons_succ, List.getD_cons_zero, wrap_eq]
        first | (refine plan_skip rfl (wanted_no rfl rfl rfl rfl) ?_) | (refine plan_skip rfl (wanted_nu rfl rfl rfl rfl) ?_) | (refine plan_take rfl (by first | exact wanted_none rfl | exact wanted_yes rfl rfl rfl rfl) (fun w _ => (by go_simp; try rfl)) ?_)
        try simp only [put_some, put_none, eval_tmp, eval_const, List.set_cons_succ, List.set_cons_zero, List.getD_cons_succ, List.getD_cons_zero, wrap_eq]
        (refine plan_take rfl (by first | exact wanted_none rfl | exact wanted_yes rfl rfl rfl rfl) (fun w _ => (by go_simp; try rfl)) ?_)
        try simp only [put_some, put_none, eval_tmp, eval_const, List.set_cons_succ, List.set_cons_zero, List.getD_cons_succ, List.getD_cons_zero, wrap_eq]
        refine plan_nil ?_
        go_wp2_with fail
        go_roundg (gk - 1)
        case measure => omega
        case rel => exact ⟨1, by omega, rfl, Lib.hid (fun i x y hi => by omega), hp⟩
      · obtain ⟨i0, rfl⟩ : ∃ i0, j = i0 + 1 := ⟨j - 1, by omega⟩
        have hi0 := List.getElem?_eq_getElem (l := l) (i := i0) (by omega)
        have hi1 := List.getElem?_eq_getElem (l := l) (i := i0 + 1) hlt
        obtain ⟨bq, off, he, hE1⟩ := HK2.out.elem 2 akV_len (by decide) hi0 hp (fun p h => h)
        obtain ⟨bq', off', he', hE2⟩ := HK2.out.elem 2 akV_len (by decide) hi1 hp (fun p h => h)
        subst he
        injection he' with he'
        injection he' with h1 h2
        subst h1; subst h2
        have HS := Lib.hid (fun h => adj_succ HJ.out hi0 hi1 h)
        have HN : RowKit.Hid (l[i0 + 1].n ≤ (l[i0]'(by omega)).n → ¬ Adj l l.length) := Lib.hid (fun h hadj => by
          have := hadj i0 _ _ hlt hi0 hi1
          omega)
        have HLT := Lib.hid (HNA.out i0 _ _ hlt hi0 hi1)
        clear hi0 hi1
        generalize l[i0]'(by omega) = x at hE1 HS HN HLT
        generalize l[i0 + 1] = y at hE2 HS HN HLT
        obtain ⟨xn, xm⟩ := x
        obtain ⟨yn, ym⟩ := y
        simp only [akV] at hE1 hE2 HS HN HLT
        have HE1 := Lib.hid hE1
        have HE2 := Lib.hid hE2
        clear hE1 hE2
        have e2 : (0 : Int) < ((i0 + 1 : Nat) : Int) := by omega
        have e3 : (0 : Int) ≤ (i0 : Int) := by omega
        have e4 : (i0 : Int) < (l.length : Int) := by omega
        have e5 : (0 : Int) ≤ ((i0 + 1 : Nat) : Int) := by omega
        have HW1 : RowKit.Hid (wrap64 (i0 : Int) = (i0 : Int)) := Lib.hid (by unfold wrap64; omega)
        go_wp2_with fail
        have hlt' : xn < yn := HLT.out
        have HC := Lib.hid hlt'
        have hc' : decide (yn ≤ xn) = false := by simp; omega
        clear hlt'
        refine wp_region_keeps _ (Keeps.all hp.drew) [] [(0, true), (1, true), (2, true), (3, true), (4, true), (5, true), (6, true), (7, true), (8, true), (9, true), (10, true), (11, true), (12, true), (13, true), (14, true), (15, true)] (by kernel_rfl) (by kernel_rfl) rfl (by kernel_rfl) (fun _ _ d _ _ h => by cases d <;> exact h) ?_
        replace hp := hp.drew
        (refine plan_move rfl _ rfl (by first | exact wanted_none rfl | exact wanted_yes rfl rfl rfl rfl) ?_)
        try simp only [put_some, put_none, eval_tmp, eval_const, List.set_cons_succ, List.set_cons_zero, List.getD_cons_succ, List.getD_cons_zero, wrap_eq, HW1.out]
        (refine plan_take rfl (by first | exact wanted_none rfl | exact wanted_yes rfl rfl rfl rfl) (fun w _ => (by go_simp; try rfl)) ?_)
        try simp only [put_some, put_none, eval_tmp, eval_const, List.set_cons_succ, List.set_cons_zero, List.getD_cons_succ, List.getD_cons_zero, wrap_eq, HW1.out]
        (refine plan_move rfl _ rfl (by first | exact wanted_none rfl | exact wanted_yes rfl rfl rfl rfl) ?_)
        try simp only [put_some, put_none, eval_tmp, eval_const, List.set_cons_succ, List.set_cons_zero, List.getD_cons_succ, List.getD_cons_zero, wrap_eq, HW1.out]
        first | (refine plan_skip rfl (wanted_no rfl rfl rfl rfl) ?_) | (refine plan_skip rfl (wanted_nu rfl rfl rfl rfl) ?_) | (refine plan_move rfl _ rfl (by first | exact wanted_none rfl | exact wanted_yes rfl rfl rfl rfl) ?_)
        try simp only [put_some, put_none, eval_tmp, eval_const, List.set_cons_succ, List.set_cons_zero, List.getD_cons_succ, List.getD_cons_zero, wrap_eq, HW1.out]
        first | (refine plan_skip rfl (wanted_no rfl rfl rfl rfl) ?_) | (refine plan_skip rfl (wanted_nu rfl rfl rfl rfl) ?_) | (refine plan_move rfl _ rfl (by first | exact wanted_none rfl | exact wanted_yes rfl rfl rfl rfl) ?_)
        try simp only [put_some, put_none, eval_tmp, eval_const, List.set_cons_succ, List.set_cons_zero, List.getD_cons_succ, List.getD_cons_zero, wrap_eq, HW1.out]
        first | (refine plan_skip rfl (wanted_no rfl rfl rfl rfl) ?_) | (refine plan_skip rfl (wanted_nu rfl rfl rfl rfl) ?_) | (refine plan_take rfl (by first | exact wanted_none rfl | exact wanted_yes rfl rfl rfl rfl) (fun w _ => (by go_simp; try rfl)) ?_)
        try simp only [put_some, put_none, eval_tmp, eval_const, List.set_cons_succ, List.set_cons_zero, List.getD_cons_succ, List.getD_cons_zero, wrap_eq, HW1.out]
        first | (refine plan_skip rfl (wanted_no rfl rfl rfl rfl) ?_) | (refine plan_skip rfl (wanted_nu rfl rfl rfl rfl) ?_) | (refine plan_take rfl (by first | exact wanted_none rfl | exact wanted_yes rfl rfl rfl rfl) (fun w _ => (by go_simp; try rfl)) ?_)
        try simp only [put_some, put_none, eval_tmp, eval_const, List.set_cons_succ, List.set_cons_zero, List.getD_cons_succ, List.getD_cons_zero, wrap_eq, HW1.out]
        first | (refine plan_skip rfl (wanted_no rfl rfl rfl rfl) ?_) | (refine plan_skip rfl (wanted_nu rfl rfl rfl rfl) ?_) | (refine plan_take rfl (by first | exact wanted_none rfl | exact wanted_yes rfl rfl rfl rfl) (fun w _ => (by go_simp; try rfl)) ?_)
        try simp only [put_some, put_none, eval_tmp, eval_const, List.set_cons_succ, List.set_cons_zero, List.getD_cons_succ, List.getD_cons_zero, wrap_eq, HW1.out]
        first | (refine plan_skip rfl (wanted_no rfl rfl rfl rfl) ?_) | (refine plan_skip rfl (wanted_nu rfl rfl rfl rfl) ?_) | (first | (refine plan_loadAgg rfl _ _ rfl (by first | exact wanted_none rfl | exact wanted_yes rfl rfl rfl rfl) _ _ (slot_tmp rfl) _ (fun w hS => hS.keptOf cell3 (fun p h => h) 0 rfl HE1.out) ?_) | (refine plan_loadAgg rfl _ _ rfl (by first | exact wanted_none rfl | exact wanted_yes rfl rfl rfl rfl) _ _ (slot_tmp rfl) _ (fun w hS => hS.keptOf cell3 (fun p h => h) 0 rfl HE2.out) ?_) | (refine plan_loadAgg rfl _ _ rfl (by first | exact wanted_none rfl | exact wanted_yes rfl rfl rfl rfl) _ _ (slot_tmp rfl) _ (fun w hS => hS.loadOne cell3 (by first | exact at0 | exact at1 | exact at2 | exact at3 | exact at4 | exact at5 | exact at6 | exact at7 | exact at8 | exact at9 | exact at10 | exact at11 | exact at12 | exact at13) _ _ (by rfl)) ?_))
        try simp only [put_some, put_none, eval_tmp, eval_const, List.set_cons_succ, List.set_cons_zero, List.getD_cons_succ, List.getD_cons_zero, wrap_eq, HW1.out]
        first | (refine plan_skip rfl (wanted_no rfl rfl rfl rfl) ?_) | (refine plan_skip rfl (wanted_nu rfl rfl rfl rfl) ?_) | (refine plan_move rfl _ rfl (by first | exact wanted_none rfl | exact wanted_yes rfl rfl rfl rfl) ?_)
        try simp only [put_some, put_none, eval_tmp, eval_const, List.set_cons_succ, List.set_cons_zero, List.getD_cons_succ, List.getD_cons_zero, wrap_eq, HW1.out]
        first | (refine plan_skip rfl (wanted_no rfl rfl rfl rfl) ?_) | (refine plan_skip rfl (wanted_nu rfl rfl rfl rfl) ?_) | (refine plan_move rfl _ rfl (by first | exact wanted_none rfl | exact wanted_yes rfl rfl rfl rfl) ?_)
        try simp only [put_some, put_none, eval_tmp, eval_const, List.set_cons_succ, List.set_cons_zero, List.getD_cons_succ, List.getD_cons_zero, wrap_eq, HW1.out]
        first | (refine plan_skip rfl (wanted_no rfl rfl rfl rfl) ?_) | (refine plan_skip rfl (wanted_nu rfl rfl rfl rfl) ?_) | (refine plan_take rfl (by first | exact wanted_none rfl | exact wanted_yes rfl rfl rfl rfl) (fun w _ => (by go_simp; try rfl)) ?_)
        try simp only [put_some, put_none, eval_tmp, eval_const, List.set_cons_succ, List.set_cons_zero, List.getD_cons_succ, List.getD_cons_zero, wrap_eq, HW1.out]
        first | (refine plan_skip rfl (wanted_no rfl rfl rfl rfl) ?_) | (refine plan_skip rfl (wanted_nu rfl rfl rfl rfl) ?_) | (refine plan_take rfl (by first | exact wanted_none rfl | exact wanted_yes rfl rfl rfl rfl) (fun w _ => (by go_simp; try rfl)) ?_)
        try simp only [put_some, put_none, eval_tmp, eval_const, List.set_cons_succ, List.set_cons_zero, List.getD_cons_succ, List.getD_cons_zero, wrap_eq, HW1.out]
        first | (refine plan_skip rfl (wanted_no rfl rfl rfl rfl) ?_) | (refine plan_skip rfl (wanted_nu rfl rfl rfl rfl) ?_) | (first | (refine plan_loadAgg rfl _ _ rfl (by first | exact wanted_none rfl | exact wanted_yes rfl rfl rfl rfl) _ _ (slot_tmp rfl) _ (fun w hS => hS.keptOf cell3 (fun p h => h) 0 rfl HE1.out) ?_) | (refine plan_loadAgg rfl _ _ rfl (by first | exact wanted_none rfl | exact wanted_yes rfl rfl rfl rfl) _ _ (slot_tmp rfl) _ (fun w hS => hS.keptOf cell3 (fun p h => h) 0 rfl HE2.out) ?_) | (refine plan_loadAgg rfl _ _ rfl (by first | exact wanted_none rfl | exact wanted_yes rfl rfl rfl rfl) _ _ (slot_tmp rfl) _ (fun w hS => hS.loadOne cell3 (by first | exact at0 | exact at1 | exact at2 | exact at3 | exact at4 | exact at5 | exact at6 | exact at7 | exact at8 | exact at9 | exact at10 | exact at11 | exact at12 | exact at13) _ _ (by rfl)) ?_))
        try simp only [put_some, put_none, eval_tmp, eval_const, List.set_cons_succ, List.set_cons_zero, List.getD_cons_succ, List.getD_cons_zero, wrap_eq, HW1.out]
        first | (refine plan_skip rfl (wanted_no rfl rfl rfl rfl) ?_) | (refine plan_skip rfl (wanted_nu rfl rfl rfl rfl) ?_) | (refine plan_take rfl (by first | exact wanted_none rfl | exact wanted_yes rfl rfl rfl rfl) (fun w _ => (by go_simp; try rfl)) ?_)
        try simp only [put_some, put_none, eval_tmp, eval_const, List.set_cons_succ, List.set_cons_zero, List.getD_cons_succ, List.getD_cons_zero, wrap_eq, HW1.out]
        (refine plan_take rfl (by first | exact wanted_none rfl | exact wanted_yes rfl rfl rfl rfl) (fun w _ => (by go_simp; try rfl)) ?_)
        try simp only [put_some, put_none, eval_tmp, eval_const, List.set_cons_succ, List.set_cons_zero, List.getD_cons_succ, List.getD_cons_zero, wrap_eq, HW1.out]
        refine plan_nil ?_
        go_wp2_with fail
        go_roundg (gk - 1)
        case measure => omega
        case rel => exact ⟨i0 + 1 + 1, by omega, by go_num, Lib.hid (HS.out HC.out), hp⟩
    · have e1 : decide ((j : Int) < (l.length : Int)) = false := by simp; omega
      clear HJ
      cases hb : hasB l t k
      · have HB := Lib.hid hb
        have HI := Lib.hid (ins_ack (m := m) hkl hb)
        clear hb
        go_wp2_with (first | (go_at_call 61; (with_reducible refine (bs61 l _ _ hl t k HK.out _ (HK2.out.at hp (fun p h => h))).mono ?_); rintro e w1 ⟨rfl, hb⟩; replace hp := hp.call hb; clear hb; rw [HB.out]) | (go_at_call 64; refine (ins64 l.length k hl hkl (l.flatMap akV) _ [.int .i64 t, .int .i64 m] rfl rfl (aks_one l) _ _ _ HR.out (M := []) (by rw [List.append_nil]; exact hp)).mono ?_; clear hp; rintro e w1 ⟨v', R', rfl, hR', hp⟩; have HR' := Lib.hid hR'; clear hR') | go_skip | ((with_reducible refine pre_box _ _ rfl ?_); refine wpList_box_hp hp _ _ rfl (by first | exact wanted_none rfl | exact wanted_yes rfl rfl rfl rfl) _ (slot_tmp rfl) _ rfl _ (by simp only [List.length_cons, List.length_nil, Nat.reduceAdd]; rfl) ?_; clear hp; intro b w1 hp; simp only [put_some, put_none, List.set_cons_succ, List.set_cons_zero]) | ((with_reducible refine pre_load 72 _ rfl ?_); (refine wpList_loadAgg_hp hp _ _ rfl (by first | exact wanted_none rfl | exact wanted_yes rfl rfl rfl rfl) _ _ (slot_tmp rfl) _ agg72 _ _ _ _ (by first | exact at0 | exact at1 | exact at2 | exact at3 | exact at4 | exact at5 | exact at6 | exact at7 | exact at8 | exact at9 | exact at10 | exact at11 | exact at12 | exact at13) _ (by simp only [List.drop_zero, List.drop_succ_cons, List.take_succ_cons, List.take_zero, List.take_nil]; rfl) (by rfl) ?_; simp only [put_some, put_none, List.set_cons_succ, List.set_cons_zero])) | ((with_reducible refine pre_load 3 _ rfl ?_); (refine wpList_loadOne_hp hp _ _ rfl (by first | exact wanted_none rfl | exact wanted_yes rfl rfl rfl rfl) _ _ (slot_tmp rfl) cell3 _ _ _ _ (by first | exact at0 | exact at1 | exact at2 | exact at3 | exact at4 | exact at5 | exact at6 | exact at7 | exact at8 | exact at9 | exact at10 | exact at11 | exact at12 | exact at13) _ (by rfl) ?_; simp only [put_some, put_none, List.set_cons_succ, List.set_cons_zero])) | ((with_reducible refine pre_load 4 _ rfl ?_); (refine wpList_loadOne_hp hp _ _ rfl (by first | exact wanted_none rfl | exact wanted_yes rfl rfl rfl rfl) _ _ (slot_tmp rfl) cell4 _ _ _ _ (by first | exact at0 | exact at1 | exact at2 | exact at3 | exact at4 | exact at5 | exact at6 | exact at7 | exact at8 | exact at9 | exact at10 | exact at11 | exact at12 | exact at13) _ (by rfl) ?_; simp only [put_some, put_none, List.set_cons_succ, List.set_cons_zero])) | ((with_reducible refine pre_load 68 _ rfl ?_); (refine wpList_loadOne_hp hp _ _ rfl (by first | exact wanted_none rfl | exact wanted_yes rfl rfl rfl rfl) _ _ (slot_tmp rfl) cell68 _ _ _ _ (by first | exact at0 | exact at1 | exact at2 | exact at3 | exact at4 | exact at5 | exact at6 | exact at7 | exact at8 | exact at9 | exact at10 | exact at11 | exact at12 | exact at13) _ (by rfl) ?_; simp only [put_some, put_none, List.set_cons_succ, List.set_cons_zero])) | ((with_reducible refine pre_store 72 _ _ rfl ?_); first | (refine wpList_storeAll_hp hp _ _ _ rfl (by first | exact wanted_none rfl | exact wanted_yes rfl rfl rfl rfl) _ (slot_tmp rfl) _ (slot_tmp rfl) agg72 _ _ _ _ (by first | exact at0 | exact at1 | exact at2 | exact at3 | exact at4 | exact at5 | exact at6 | exact at7 | exact at8 | exact at9 | exact at10 | exact at11 | exact at12 | exact at13) (by rfl) (by first | rfl | simp [*]) ?_; clear hp; intro w1 hp; simp only [List.set_cons_zero, List.set_cons_succ] at hp; simp only [put_some, put_none, List.set_cons_succ, List.set_cons_zero]) | (refine wpList_storeAgg_hp hp _ _ _ rfl (by first | exact wanted_none rfl | exact wanted_yes rfl rfl rfl rfl) _ _ (slot_tmp rfl) _ (slot_tmp rfl) agg72 _ _ _ _ (by first | exact at0 | exact at1 | exact at2 | exact at3 | exact at4 | exact at5 | exact at6 | exact at7 | exact at8 | exact at9 | exact at10 | exact at11 | exact at12 | exact at13) (by simp only [List.length_cons, List.length_nil]; omega) (by first | rfl | simp [*]) ?_; clear hp; intro w1 hp; simp only [spl, List.set_cons_zero, List.set_cons_succ] at hp; simp only [put_some, put_none, List.set_cons_succ, List.set_cons_zero])) | ((with_reducible refine pre_store 3 _ _ rfl ?_); refine wpList_storeOne_hp hp _ _ _ rfl (by first | exact wanted_none rfl | exact wanted_yes rfl rfl rfl rfl) _ _ (slot_tmp rfl) _ (by first | exact slot_tmp rfl | exact slot_const) cell3 _ _ _ _ (by first | exact at0 | exact at1 | exact at2 | exact at3 | exact at4 | exact at5 | exact at6 | exact at7 | exact at8 | exact at9 | exact at10 | exact at11 | exact at12 | exact at13) (by simp only [List.length_cons, List.length_nil]; omega) (by first | rfl | assumption) ?_; clear hp; intro w1 hp; simp only [List.set_cons_zero, List.set_cons_succ] at hp; simp only [put_some, put_none, List.set_cons_succ, List.set_cons_zero]) | ((with_reducible refine pre_store 4 _ _ rfl ?_); refine wpList_storeOne_hp hp _ _ _ rfl (by first | exact wanted_none rfl | exact wanted_yes rfl rfl rfl rfl) _ _ (slot_tmp rfl) _ (by first | exact slot_tmp rfl | exact slot_const) cell4 _ _ _ _ (by first | exact at0 | exact at1 | exact at2 | exact at3 | exact at4 | exact at5 | exact at6 | exact at7 | exact at8 | exact at9 | exact at10 | exact at11 | exact at12 | exact at13) (by simp only [List.length_cons, List.length_nil]; omega) (by first | rfl | assumption) ?_; clear hp; intro w1 hp; simp only [List.set_cons_zero, List.set_cons_succ] at hp; simp only [put_some, put_none, List.set_cons_succ, List.set_cons_zero]) | ((with_reducible refine pre_store 68 _ _ rfl ?_); refine wpList_storeOne_hp hp _ _ _ rfl (by first | exact wanted_none rfl | exact wanted_yes rfl rfl rfl rfl) _ _ (slot_tmp rfl) _ (by first | exact slot_tmp rfl | exact slot_const) cell68 _ _ _ _ (by first | exact at0 | exact at1 | exact at2 | exact at3 | exact at4 | exact at5 | exact at6 | exact at7 | exact at8 | exact at9 | exact at10 | exact at11 | exact at12 | exact at13) (by simp only [List.length_cons, List.length_nil]; omega) (by first | rfl | assumption) ?_; clear hp; intro w1 hp; simp only [List.set_cons_zero, List.set_cons_succ] at hp; simp only [put_some, put_none, List.set_cons_succ, List.set_cons_zero]) | ((with_reducible refine pre_build _ _ _ rfl ?_); refine wpList_buildSlice_hp hp _ _ _ rfl (by first | exact wanted_none rfl | exact wanted_yes rfl rfl rfl rfl) _ _ (by intro w; go_simp; rfl) ?_; clear hp; intro b w1 hp; simp only [List.length_cons, List.length_nil, Nat.reduceAdd] at hp; simp only [put_some, put_none, List.set_cons_succ, List.set_cons_zero]))
        go_ret
        refine ⟨_, R', rfl, ?_, by simpa using hp⟩
        rw [← HI.out.1, HI.out.2]
        exact HR'.out
      · have HB := Lib.hid hb
        unfold hasB at hb
        cases hj : l[k]? with
        | none => rw [hj] at hb; cases hb
        | some y =>
          rw [hj] at hb
          simp only [decide_eq_true_eq] at hb
          have hkl' := (List.getElem?_eq_some_iff.1 hj).1
          have HG := Lib.hid (get_ack hj)
          have HST := Lib.hid (set_ack (m := m) hj hb)
          have hro := HR.out
          obtain ⟨hxl, ⟨h0, _⟩ | ⟨g, cap, hv, hnc, hcm, hrr⟩⟩ := hro
          · omega
          injection hv with h1 h2 h3
          subst h1 h3 hrr
          have HXL := Lib.hid hxl
          obtain ⟨yn, ym⟩ := y
          simp only at hb HG HST
          have e2 : (0 : Int) ≤ (k : Int) := by omega
          have e3 : (k : Int) < (l.length : Int) := by omega
          clear hj hb hxl
          by_cases hmx : ym < m
          · have HMX : RowKit.Hid (mxI ym m = m) := Lib.hid (by unfold mxI; rw [if_pos hmx])
            go_wp2_with (first | (go_at_call 61; (with_reducible refine (bs61 l _ _ hl t k HK.out _ (HK2.out.at hp (fun p h => h))).mono ?_); rintro e w1 ⟨rfl, hb⟩; replace hp := hp.call hb; clear hb; rw [HB.out]) | ((with_reducible refine pre_load 3 _ rfl ?_); refine wpList_loadOne_hp hp _ _ rfl (by first | exact wanted_none rfl | exact wanted_yes rfl rfl rfl rfl) _ _ (slot_tmp rfl) cell3 _ _ _ _ at0 _ HG.out ?_; simp only [put_some, put_none, List.set_cons_succ, List.set_cons_zero]) | ((with_reducible refine pre_store 3 _ _ rfl ?_); refine wpList_storeOne_hp hp _ _ _ rfl (by first | exact wanted_none rfl | exact wanted_yes rfl rfl rfl rfl) _ _ (slot_tmp rfl) _ (slot_tmp rfl) cell3 _ _ _ _ at0 (by have := HXL.out; omega) rfl ?_; clear hp; intro w1 hp; simp only [List.set_cons_zero] at hp; simp only [put_some, put_none, List.set_cons_succ, List.set_cons_zero]) | go_skip)
            rw [HMX.out] at HST
            go_ret
            refine ⟨_, _, rfl, ?_, hp⟩
            rw [HST.out.2]
            exact ⟨by rw [← HST.out.1, List.length_set]; exact HXL.out, .inr ⟨g, c2, rfl, hnc, hcm, by rw [HST.out.1]⟩⟩
          · have HMX : RowKit.Hid (mxI ym m = ym) := Lib.hid (by unfold mxI; rw [if_neg hmx])
            go_wp2_with (first | (go_at_call 61; (with_reducible refine (bs61 l _ _ hl t k HK.out _ (HK2.out.at hp (fun p h => h))).mono ?_); rintro e w1 ⟨rfl, hb⟩; replace hp := hp.call hb; clear hb; rw [HB.out]) | ((with_reducible refine pre_load 3 _ rfl ?_); refine wpList_loadOne_hp hp _ _ rfl (by first | exact wanted_none rfl | exact wanted_yes rfl rfl rfl rfl) _ _ (slot_tmp rfl) cell3 _ _ _ _ at0 _ HG.out ?_; simp only [put_some, put_none, List.set_cons_succ, List.set_cons_zero]) | ((with_reducible refine pre_store 3 _ _ rfl ?_); refine wpList_storeOne_hp hp _ _ _ rfl (by first | exact wanted_none rfl | exact wanted_yes rfl rfl rfl rfl) _ _ (slot_tmp rfl) _ (slot_tmp rfl) cell3 _ _ _ _ at0 (by have := HXL.out; omega) rfl ?_; clear hp; intro w1 hp; simp only [List.set_cons_zero] at hp; simp only [put_some, put_none, List.set_cons_succ, List.set_cons_zero]) | go_skip)
            rw [HMX.out] at HST
            go_ret
            refine ⟨_, _, rfl, ?_, hp⟩
            rw [HST.out.2]
            exact ⟨by rw [← HST.out.1, List.length_set]; exact HXL.out, .inr ⟨g, c2, rfl, hnc, hcm, by rw [HST.out.1]⟩⟩
end Go.Proofs.Ytdbpffgnabpboaa
