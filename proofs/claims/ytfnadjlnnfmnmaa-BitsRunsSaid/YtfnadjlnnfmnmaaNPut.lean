/- The walk of Put. -/
import Derived.Test.YtfnadjlnnfmnmaaNGet
import Derived.Deep.LoopGhost
set_option linter.unusedSimpArgs false
set_option linter.unusedVariables false
namespace Go.Proofs.Ytfnadjlnnfmnmaa
open Go.RowKit

/-- A map in the caller's own memory: its struct at place i of the list, its words at place j. -/
structure IsMap (L : List Blk) (i j bm bw n : Nat) (f : Nat → Bool) : Prop where
  hi : L[i]? = some ⟨bm, [.int .i64 n, .slice (some ⟨bw, 0, none⟩) (wN n) (wN n)], 57, 2⟩
  hj : L[j]? = some ⟨bw, words f (wN n), 58, wN n⟩
theorem IsMap.at_ {B : Nat} {w0 w : World} {L : List Blk} {i j bm bw n : Nat} {f : Nat → Bool} (h : IsMap L i j bm bw n f) (hp : Hp B w0 w L) : MapAt w bm bw n f :=
  ⟨hp.cell h.hi rfl, hp.cell h.hi rfl, fun k hk => hp.cell h.hj (words_get f _ k hk)⟩
theorem IsMap.ne {L : List Blk} {i j bm bw n : Nat} {f : Nat → Bool} (h : IsMap L i j bm bw n f) : i ≠ j := by
  rintro rfl
  have := h.hi.symm.trans h.hj
  injection this with this
  injection this with _ _ ht
  exact absurd ht (by decide)
abbrev wBlk (bw n : Nat) (f : Nat → Bool) : Blk := ⟨bw, words f (wN n), 58, wN n⟩
theorem IsMap.set {L : List Blk} {i j bm bw n : Nat} {f : Nat → Bool} (h : IsMap L i j bm bw n f) (g : Nat → Bool) : IsMap (L.set j (wBlk bw n g)) i j bm bw n g :=
  ⟨by rw [List.getElem?_set_ne (Ne.symm h.ne)]; exact h.hi, by rw [List.getElem?_set_self (List.getElem?_eq_some_iff.1 h.hj).1]⟩
theorem IsMap.self {L : List Blk} {i j bm bw n : Nat} {f : Nat → Bool} (h : IsMap L i j bm bw n f) : L.set j (wBlk bw n f) = L := set_same h.hj

set_option maxRecDepth 100000 in
set_option maxHeartbeats 1000000 in
theorem put12_out (bm bw n : Nat) (f : Nat → Bool) (a m : Int) (on : Bool) (hn : n ≤ 4096) (ho : a < 0 ∨ m < 0 ∨ (n : Int) < a ∨ (n : Int) - a < m) (w : World) (hm : MapAt w bm bw n f) :
    Calls Try.prog 12 #[.pointer (some ⟨bm, 0, none⟩), .int .i64 a, .int .i64 m, .bool on] w fun e w' => e = .returned (.int .i64 30) ∧ w = w' := by
  obtain ⟨h0, h1, h2⟩ := hm
  clear h1 h2
  have F : (decide (a < 0) = true) ∨ (decide (a < 0) = false ∧ decide (m < 0) = true) ∨ (decide (a < 0) = false ∧ decide (m < 0) = false ∧ decide ((n : Int) < a) = true) ∨ (0 ≤ a ∧ a ≤ n ∧ decide (a < 0) = false ∧ decide (m < 0) = false ∧ decide ((n : Int) < a) = false ∧ decide ((n : Int) - a < m) = true) := by
    by_cases g1 : a < 0
    · left; simp [g1]
    · by_cases g2 : m < 0
      · right; left; simp [g1, g2]
      · by_cases g3 : (n : Int) < a
        · right; right; left; simp [g1, g2, g3]
        · right; right; right; simp [g1, g2, g3]; omega
  clear ho
  rcases F with d1 | ⟨d1, d2⟩ | ⟨d1, d2, d3⟩ | ⟨e1, e2, d1, d2, d3, d4⟩
  all_goals
    go_enter Try.func12, Try.ntmps12
    go_wp2
    go_ret
    exact ⟨rfl, rfl⟩

set_option maxRecDepth 100000 in
set_option maxHeartbeats 4000000 in
theorem put12_on (L : List Blk) (i j bm bw n : Nat) (f : Nat → Bool) (a m : Nat) (hn : n ≤ 4096) (ha : a + m ≤ n) (B : Nat) (w0 w : World) (hp : Hp B w0 w L) (hm : IsMap L i j bm bw n f) :
    Calls Try.prog 12 #[.pointer (some ⟨bm, 0, none⟩), .int .i64 a, .int .i64 m, .bool true] w fun e w' => e = .returned (.int .i64 0) ∧ Hp B w0 w' (L.set j (wBlk bw n (upd f a (a + m) true))) := by
  have HM := Lib.hid hm
  have HP := Lib.hid (show Hp B w0 w (L.set j (wBlk bw n f)) by rw [hm.self]; exact hp)
  clear hm
  have d1 : decide ((a : Int) < 0) = false := by simp
  have d2 : decide ((m : Int) < 0) = false := by simp
  have d3 : decide (n < a) = false := by simp; omega
  have d4 : decide ((n : Int) - (a : Int) < (m : Int)) = false := by simp; omega
  have d5 : (0 : Int) ≤ (a : Int) := by omega
  have d6 : (a : Int) ≤ n := by omega
  have d7 : (a : Int) + m ≤ n := by omega
  rcases Bool.eq_false_or_eq_true ((m : Int) == (n : Int)) with d8 | d8
  all_goals
    go_enter Try.func12, Try.ntmps12
    go_wp2_with (first | (refine wpList_loadOne_hp hp _ _ rfl (by first | exact wanted_none rfl | exact wanted_yes rfl rfl rfl rfl) _ _ (slot_tmp rfl) (by first | exact cell3 | exact cell55) _ _ _ _ HM.out.hi _ (by rfl) ?_; simp only [put_some, put_none, List.set_cons_succ, List.set_cons_zero]))
    clear hp d1 d2 d3 d4 d8
    go_loopg [9] m (fun k i wr => ∃ q : Nat, k + q = m ∧ i = .int .i64 (a + q : Nat) ∧ Hp B w0 wr (L.set j (wBlk bw n (upd f a (a + q) true))))
    case atStart => exact ⟨0, by omega, rfl, by rw [Nat.add_zero, upd_zero]; exact HP.out⟩
    case round =>
      obtain ⟨q, hkq, rfl, hp⟩ := hrel
      by_cases hlt : q < m
      · have HM2 := Lib.hid (HM.out.set (upd f a (a + q) true))
        have HU := Lib.hid (upd_succ f a (a + q) true (by omega))
        have hwd := words_get (upd f a (a + q) true) (wN n) ((a + q) / 64) (by unfold wN; omega)
        have hst := Lib.hid (or_store (upd f a (a + q) true) (wN n) (a + q) (by unfold wN; omega))
        have hq : (a + q) / 64 < wN n := by unfold wN; omega
        have hwn : wN n ≤ 64 := by unfold wN; omega
        have hlt2 : a + q < a + m := by omega
        have hx1 : a + q < n := by omega
        have hx2 : a + (q + 1) = a + q + 1 := by omega
        have HX2 := Lib.hid hx2
        clear hx2
        generalize a + q = x at *
        have e1 : (0 : Int) ≤ (x : Int) := by omega
        have E2 : RowKit.Hid (wrap64 ((x : Int) / 64) = (x : Int) / 64) := Lib.hid (by unfold wrap64; omega)
        have e3 : (x : Int).tmod 64 = (x : Int) % 64 := Int.tmod_eq_emod_of_nonneg e1
        have e4 : (0 : Int) ≤ (x : Int) / 64 := by omega
        have e5 : (x : Int) / 64 < (wN n : Int) := by omega
        have e6 : (0 : Int) ≤ (x : Int) % 64 := by omega
        have e7 : (x : Int) % 64 ≤ 64 := by omega
        have e8 : (x : Int) < (a : Int) + m := by omega
        go_wp2_with fail
        refine wp_region_keeps [_, _] (Keeps.two hp.drew HM2.out.hi HM2.out.hj) [13] [(0, true), (1, true), (2, true), (3, true), (4, true), (5, true), (6, true), (7, true), (8, true), (9, true), (10, true), (11, true), (12, true), (13, false)] (by kernel_rfl) (by kernel_rfl) rfl (by kernel_rfl) (fun _ _ d _ _ h => by cases d <;> exact h) ?_
        replace hp := hp.drew
        (refine plan_move rfl _ rfl (by first | exact wanted_none rfl | exact wanted_yes rfl rfl rfl rfl) ?_)
        try simp only [put_some, put_none, eval_tmp, eval_const, List.set_cons_succ, List.set_cons_zero, List.getD_cons_succ, List.getD_cons_zero, wrap_eq, E2.out]
        (refine plan_take rfl (by first | exact wanted_none rfl | exact wanted_yes rfl rfl rfl rfl) (fun w _ => (by go_simp; try rfl)) ?_)
        try simp only [put_some, put_none, eval_tmp, eval_const, List.set_cons_succ, List.set_cons_zero, List.getD_cons_succ, List.getD_cons_zero, wrap_eq, E2.out]
        (refine plan_take rfl (by first | exact wanted_none rfl | exact wanted_yes rfl rfl rfl rfl) (fun w _ => (by go_simp; try rfl)) ?_)
        try simp only [put_some, put_none, eval_tmp, eval_const, List.set_cons_succ, List.set_cons_zero, List.getD_cons_succ, List.getD_cons_zero, wrap_eq, E2.out]
        (first | (refine plan_loadAgg rfl _ _ rfl (by first | exact wanted_none rfl | exact wanted_yes rfl rfl rfl rfl) _ _ (slot_tmp rfl) _ (fun w hS => hS.loadOne cell55 at0 _ _ (by rfl)) ?_) | (refine plan_loadAgg rfl _ _ rfl (by first | exact wanted_none rfl | exact wanted_yes rfl rfl rfl rfl) _ _ (slot_tmp rfl) _ (fun w hS => hS.loadOne cell58 at1 _ _ hwd) ?_) | (refine plan_loadAgg rfl _ _ rfl (by first | exact wanted_none rfl | exact wanted_yes rfl rfl rfl rfl) _ _ (slot_tmp rfl) _ (fun w hS => hS.loadOne cell55 (by first | exact at0 | exact at1 | exact at2 | exact at3 | exact at4 | exact at5 | exact at6 | exact at7 | exact at8 | exact at9 | exact at10 | exact at11 | exact at12 | exact at13) _ _ (by rfl)) ?_))
        try simp only [put_some, put_none, eval_tmp, eval_const, List.set_cons_succ, List.set_cons_zero, List.getD_cons_succ, List.getD_cons_zero, wrap_eq, E2.out]
        (refine plan_move rfl _ rfl (by first | exact wanted_none rfl | exact wanted_yes rfl rfl rfl rfl) ?_)
        try simp only [put_some, put_none, eval_tmp, eval_const, List.set_cons_succ, List.set_cons_zero, List.getD_cons_succ, List.getD_cons_zero, wrap_eq, E2.out]
        (refine plan_take rfl (by first | exact wanted_none rfl | exact wanted_yes rfl rfl rfl rfl) (fun w _ => (by go_simp; try rfl)) ?_)
        try simp only [put_some, put_none, eval_tmp, eval_const, List.set_cons_succ, List.set_cons_zero, List.getD_cons_succ, List.getD_cons_zero, wrap_eq, E2.out]
        (refine plan_take rfl (by first | exact wanted_none rfl | exact wanted_yes rfl rfl rfl rfl) (fun w _ => (by go_simp; try rfl)) ?_)
        try simp only [put_some, put_none, eval_tmp, eval_const, List.set_cons_succ, List.set_cons_zero, List.getD_cons_succ, List.getD_cons_zero, wrap_eq, E2.out]
        (first | (refine plan_loadAgg rfl _ _ rfl (by first | exact wanted_none rfl | exact wanted_yes rfl rfl rfl rfl) _ _ (slot_tmp rfl) _ (fun w hS => hS.loadOne cell55 at0 _ _ (by rfl)) ?_) | (refine plan_loadAgg rfl _ _ rfl (by first | exact wanted_none rfl | exact wanted_yes rfl rfl rfl rfl) _ _ (slot_tmp rfl) _ (fun w hS => hS.loadOne cell58 at1 _ _ hwd) ?_))
        try simp only [put_some, put_none, eval_tmp, eval_const, List.set_cons_succ, List.set_cons_zero, List.getD_cons_succ, List.getD_cons_zero, wrap_eq, E2.out]
        (refine plan_move rfl _ rfl (by first | exact wanted_none rfl | exact wanted_yes rfl rfl rfl rfl) ?_)
        try simp only [put_some, put_none, eval_tmp, eval_const, List.set_cons_succ, List.set_cons_zero, List.getD_cons_succ, List.getD_cons_zero, wrap_eq, E2.out]
        (refine plan_take rfl (by first | exact wanted_none rfl | exact wanted_yes rfl rfl rfl rfl) (fun w _ => (by go_simp; try rfl)) ?_)
        try simp only [put_some, put_none, eval_tmp, eval_const, List.set_cons_succ, List.set_cons_zero, List.getD_cons_succ, List.getD_cons_zero, wrap_eq, E2.out]
        (refine plan_take rfl (by first | exact wanted_none rfl | exact wanted_yes rfl rfl rfl rfl) (fun w _ => (by go_simp; try rfl)) ?_)
        try simp only [put_some, put_none, eval_tmp, eval_const, List.set_cons_succ, List.set_cons_zero, List.getD_cons_succ, List.getD_cons_zero, wrap_eq, E2.out]
        (refine plan_take rfl (by first | exact wanted_none rfl | exact wanted_yes rfl rfl rfl rfl) (fun w _ => (by go_simp; try rfl)) ?_)
        try simp only [put_some, put_none, eval_tmp, eval_const, List.set_cons_succ, List.set_cons_zero, List.getD_cons_succ, List.getD_cons_zero, wrap_eq, E2.out]
        (refine plan_take rfl (by first | exact wanted_none rfl | exact wanted_yes rfl rfl rfl rfl) (fun w _ => (by go_simp; try rfl)) ?_)
        try simp only [put_some, put_none, eval_tmp, eval_const, List.set_cons_succ, List.set_cons_zero, List.getD_cons_succ, List.getD_cons_zero, wrap_eq, E2.out]
        refine plan_do rfl (fun K hK => ?_)
        go_wp2_with (first | (refine wpList_storeOne_hp hp _ _ _ rfl (by first | exact wanted_none rfl | exact wanted_yes rfl rfl rfl rfl) _ _ (slot_tmp rfl) _ (slot_tmp rfl) cell58 _ _ _ _ HM2.out.hj (by rw [words_len]; exact hq) rfl ?_; clear hp; intro w1 hp; simp only [put_some, put_none, List.set_cons_succ, List.set_cons_zero]))
        refine hK.out _ _ (.inl rfl) ?_
        clear hK K
        try simp only [put_some, put_none, eval_tmp, eval_const, List.set_cons_succ, List.set_cons_zero, List.getD_cons_succ, List.getD_cons_zero, wrap_eq, E2.out]
        refine plan_nil ?_
        have h := hp
        rw [List.set_set, hst.out, ← HU.out, ← HX2.out] at h
        go_wp2_with fail
        clear hp
        go_roundg (gk - 1)
        case measure => omega
        case rel => exact ⟨q + 1, by omega, by rw [HX2.out]; go_num, h⟩
      · have hq : q = m := by omega
        rw [hq] at hp
        have e8 : decide (((a + q : Nat) : Int) < (a : Int) + m) = false := by simp; omega
        clear hq
        go_wp2_with fail
        go_ret
        exact ⟨rfl, hp⟩
set_option maxRecDepth 100000 in
set_option maxHeartbeats 4000000 in
theorem put12_off (L : List Blk) (i j bm bw n : Nat) (f : Nat → Bool) (a m : Nat) (hn : n ≤ 4096) (ha : a + m ≤ n) (hne : m ≠ n) (B : Nat) (w0 w : World) (hp : Hp B w0 w L) (hm : IsMap L i j bm bw n f) :
    Calls Try.prog 12 #[.pointer (some ⟨bm, 0, none⟩), .int .i64 a, .int .i64 m, .bool false] w fun e w' => e = .returned (.int .i64 0) ∧ Hp B w0 w' (L.set j (wBlk bw n (upd f a (a + m) false))) := by
  have HM := Lib.hid hm
  have HP := Lib.hid (show Hp B w0 w (L.set j (wBlk bw n f)) by rw [hm.self]; exact hp)
  clear hm
  have d1 : decide ((a : Int) < 0) = false := by simp
  have d2 : decide ((m : Int) < 0) = false := by simp
  have d3 : decide (n < a) = false := by simp; omega
  have d4 : decide ((n : Int) - (a : Int) < (m : Int)) = false := by simp; omega
  have d5 : (0 : Int) ≤ (a : Int) := by omega
  have d6 : (a : Int) ≤ n := by omega
  have d7 : (a : Int) + m ≤ n := by omega
  have d8 : ((m : Int) == (n : Int)) = false := by simp; omega
  all_goals
    go_enter Try.func12, Try.ntmps12
    go_wp2_with (first | (refine wpList_loadOne_hp hp _ _ rfl (by first | exact wanted_none rfl | exact wanted_yes rfl rfl rfl rfl) _ _ (slot_tmp rfl) (by first | exact cell3 | exact cell55) _ _ _ _ HM.out.hi _ (by rfl) ?_; simp only [put_some, put_none, List.set_cons_succ, List.set_cons_zero]))
    clear hp d1 d2 d3 d4 d8
    go_loopg [9] m (fun k i wr => ∃ q : Nat, k + q = m ∧ i = .int .i64 (a + q : Nat) ∧ Hp B w0 wr (L.set j (wBlk bw n (upd f a (a + q) false))))
    case atStart => exact ⟨0, by omega, rfl, by rw [Nat.add_zero, upd_zero]; exact HP.out⟩
    case round =>
      obtain ⟨q, hkq, rfl, hp⟩ := hrel
      by_cases hlt : q < m
      · have HM2 := Lib.hid (HM.out.set (upd f a (a + q) false))
        have HU := Lib.hid (upd_succ f a (a + q) false (by omega))
        have hwd := words_get (upd f a (a + q) false) (wN n) ((a + q) / 64) (by unfold wN; omega)
        have hst := Lib.hid (andNot_store (upd f a (a + q) false) (wN n) (a + q) (by unfold wN; omega))
        have hq : (a + q) / 64 < wN n := by unfold wN; omega
        have hwn : wN n ≤ 64 := by unfold wN; omega
        have hlt2 : a + q < a + m := by omega
        have hx1 : a + q < n := by omega
        have hx2 : a + (q + 1) = a + q + 1 := by omega
        have HX2 := Lib.hid hx2
        clear hx2
        generalize a + q = x at *
        have e1 : (0 : Int) ≤ (x : Int) := by omega
        have E2 : RowKit.Hid (wrap64 ((x : Int) / 64) = (x : Int) / 64) := Lib.hid (by unfold wrap64; omega)
        have e3 : (x : Int).tmod 64 = (x : Int) % 64 := Int.tmod_eq_emod_of_nonneg e1
        have e4 : (0 : Int) ≤ (x : Int) / 64 := by omega
        have e5 : (x : Int) / 64 < (wN n : Int) := by omega
        have e6 : (0 : Int) ≤ (x : Int) % 64 := by omega
        have e7 : (x : Int) % 64 ≤ 64 := by omega
        have e8 : (x : Int) < (a : Int) + m := by omega
        go_wp2_with fail
        refine wp_region_keeps [_, _] (Keeps.two hp.drew HM2.out.hi HM2.out.hj) [13] [(0, true), (1, true), (2, true), (3, true), (4, true), (5, true), (6, true), (7, true), (8, true), (9, true), (10, true), (11, true), (12, true), (13, false)] (by kernel_rfl) (by kernel_rfl) rfl (by kernel_rfl) (fun _ _ d _ _ h => by cases d <;> exact h) ?_
        replace hp := hp.drew
        (refine plan_move rfl _ rfl (by first | exact wanted_none rfl | exact wanted_yes rfl rfl rfl rfl) ?_)
        try simp only [put_some, put_none, eval_tmp, eval_const, List.set_cons_succ, List.set_cons_zero, List.getD_cons_succ, List.getD_cons_zero, wrap_eq, E2.out]
        (refine plan_take rfl (by first | exact wanted_none rfl | exact wanted_yes rfl rfl rfl rfl) (fun w _ => (by go_simp; try rfl)) ?_)
        try simp only [put_some, put_none, eval_tmp, eval_const, List.set_cons_succ, List.set_cons_zero, List.getD_cons_succ, List.getD_cons_zero, wrap_eq, E2.out]
        (refine plan_take rfl (by first | exact wanted_none rfl | exact wanted_yes rfl rfl rfl rfl) (fun w _ => (by go_simp; try rfl)) ?_)
        try simp only [put_some, put_none, eval_tmp, eval_const, List.set_cons_succ, List.set_cons_zero, List.getD_cons_succ, List.getD_cons_zero, wrap_eq, E2.out]
        (first | (refine plan_loadAgg rfl _ _ rfl (by first | exact wanted_none rfl | exact wanted_yes rfl rfl rfl rfl) _ _ (slot_tmp rfl) _ (fun w hS => hS.loadOne cell55 at0 _ _ (by rfl)) ?_) | (refine plan_loadAgg rfl _ _ rfl (by first | exact wanted_none rfl | exact wanted_yes rfl rfl rfl rfl) _ _ (slot_tmp rfl) _ (fun w hS => hS.loadOne cell58 at1 _ _ hwd) ?_) | (refine plan_loadAgg rfl _ _ rfl (by first | exact wanted_none rfl | exact wanted_yes rfl rfl rfl rfl) _ _ (slot_tmp rfl) _ (fun w hS => hS.loadOne cell55 (by first | exact at0 | exact at1 | exact at2 | exact at3 | exact at4 | exact at5 | exact at6 | exact at7 | exact at8 | exact at9 | exact at10 | exact at11 | exact at12 | exact at13) _ _ (by rfl)) ?_))
        try simp only [put_some, put_none, eval_tmp, eval_const, List.set_cons_succ, List.set_cons_zero, List.getD_cons_succ, List.getD_cons_zero, wrap_eq, E2.out]
        (refine plan_move rfl _ rfl (by first | exact wanted_none rfl | exact wanted_yes rfl rfl rfl rfl) ?_)
        try simp only [put_some, put_none, eval_tmp, eval_const, List.set_cons_succ, List.set_cons_zero, List.getD_cons_succ, List.getD_cons_zero, wrap_eq, E2.out]
        (refine plan_take rfl (by first | exact wanted_none rfl | exact wanted_yes rfl rfl rfl rfl) (fun w _ => (by go_simp; try rfl)) ?_)
        try simp only [put_some, put_none, eval_tmp, eval_const, List.set_cons_succ, List.set_cons_zero, List.getD_cons_succ, List.getD_cons_zero, wrap_eq, E2.out]
        (refine plan_take rfl (by first | exact wanted_none rfl | exact wanted_yes rfl rfl rfl rfl) (fun w _ => (by go_simp; try rfl)) ?_)
        try simp only [put_some, put_none, eval_tmp, eval_const, List.set_cons_succ, List.set_cons_zero, List.getD_cons_succ, List.getD_cons_zero, wrap_eq, E2.out]
        (first | (refine plan_loadAgg rfl _ _ rfl (by first | exact wanted_none rfl | exact wanted_yes rfl rfl rfl rfl) _ _ (slot_tmp rfl) _ (fun w hS => hS.loadOne cell55 at0 _ _ (by rfl)) ?_) | (refine plan_loadAgg rfl _ _ rfl (by first | exact wanted_none rfl | exact wanted_yes rfl rfl rfl rfl) _ _ (slot_tmp rfl) _ (fun w hS => hS.loadOne cell58 at1 _ _ hwd) ?_))
        try simp only [put_some, put_none, eval_tmp, eval_const, List.set_cons_succ, List.set_cons_zero, List.getD_cons_succ, List.getD_cons_zero, wrap_eq, E2.out]
        (refine plan_move rfl _ rfl (by first | exact wanted_none rfl | exact wanted_yes rfl rfl rfl rfl) ?_)
        try simp only [put_some, put_none, eval_tmp, eval_const, List.set_cons_succ, List.set_cons_zero, List.getD_cons_succ, List.getD_cons_zero, wrap_eq, E2.out]
        (refine plan_take rfl (by first | exact wanted_none rfl | exact wanted_yes rfl rfl rfl rfl) (fun w _ => (by go_simp; try rfl)) ?_)
        try simp only [put_some, put_none, eval_tmp, eval_const, List.set_cons_succ, List.set_cons_zero, List.getD_cons_succ, List.getD_cons_zero, wrap_eq, E2.out]
        (refine plan_take rfl (by first | exact wanted_none rfl | exact wanted_yes rfl rfl rfl rfl) (fun w _ => (by go_simp; try rfl)) ?_)
        try simp only [put_some, put_none, eval_tmp, eval_const, List.set_cons_succ, List.set_cons_zero, List.getD_cons_succ, List.getD_cons_zero, wrap_eq, E2.out]
        (refine plan_take rfl (by first | exact wanted_none rfl | exact wanted_yes rfl rfl rfl rfl) (fun w _ => (by go_simp; try rfl)) ?_)
        try simp only [put_some, put_none, eval_tmp, eval_const, List.set_cons_succ, List.set_cons_zero, List.getD_cons_succ, List.getD_cons_zero, wrap_eq, E2.out]
        (refine plan_take rfl (by first | exact wanted_none rfl | exact wanted_yes rfl rfl rfl rfl) (fun w _ => (by go_simp; try rfl)) ?_)
        try simp only [put_some, put_none, eval_tmp, eval_const, List.set_cons_succ, List.set_cons_zero, List.getD_cons_succ, List.getD_cons_zero, wrap_eq, E2.out]
        refine plan_do rfl (fun K hK => ?_)
        go_wp2_with (first | (refine wpList_storeOne_hp hp _ _ _ rfl (by first | exact wanted_none rfl | exact wanted_yes rfl rfl rfl rfl) _ _ (slot_tmp rfl) _ (slot_tmp rfl) cell58 _ _ _ _ HM2.out.hj (by rw [words_len]; exact hq) rfl ?_; clear hp; intro w1 hp; simp only [put_some, put_none, List.set_cons_succ, List.set_cons_zero]))
        refine hK.out _ _ (.inl rfl) ?_
        clear hK K
        try simp only [put_some, put_none, eval_tmp, eval_const, List.set_cons_succ, List.set_cons_zero, List.getD_cons_succ, List.getD_cons_zero, wrap_eq, E2.out]
        refine plan_nil ?_
        have h := hp
        rw [List.set_set, hst.out, ← HU.out, ← HX2.out] at h
        go_wp2_with fail
        clear hp
        go_roundg (gk - 1)
        case measure => omega
        case rel => exact ⟨q + 1, by omega, by rw [HX2.out]; go_num, h⟩
      · have hq : q = m := by omega
        rw [hq] at hp
        have e8 : decide (((a + q : Nat) : Int) < (a : Int) + m) = false := by simp; omega
        clear hq
        go_wp2_with fail
        go_ret
        exact ⟨rfl, hp⟩
end Go.Proofs.Ytfnadjlnnfmnmaa
