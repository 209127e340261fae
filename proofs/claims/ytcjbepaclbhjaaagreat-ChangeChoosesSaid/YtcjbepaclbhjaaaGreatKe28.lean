/- Parts of the proof. -/
import Derived.Test.YtcjbepaclbhjaaaGreatKe1
import Derived.Test.YtcjbepaclbhjaaaGreatKe27
import Derived.Test.YtcjbepaclbhjaaaGreatKe17
import Derived.Test.YtcjbepaclbhjaaaGreatKe3
open List renaming set_cons_zero → zSet, set_cons_succ → sSet
/- The walks of the document that tell what objects leave of a region. -/
set_option linter.unusedSimpArgs false
set_option linter.unusedVariables false
namespace Go.Proofs.YtcjbepaclbhjaaaGreat
open Go.RowKit
theorem waysMg (p o q r : Int) (h0 : 0 ≤ p) (h1 : p ≤ 4000000000) (h2 : 0 ≤ q) (h3 : q ≤ 4000000000) (h4 : o ≤ 8) (h5 : r ≤ 8) :
    wrap64 (q + pw r) = q + pw r ∧ wrap64 (p + pw o) = p + pw o ∧ ((decide (p < q + pw r) = false ∧ meetB p o q r = false) ∨ (decide (p < q + pw r) = true ∧ meetB p o q r = decide (q < p + pw o))) := by
  have l1 := pw_pos o
  have l2 := pw_le h4
  have l3 := pw_pos r
  have l4 := pw_le h5
  refine ⟨by unfold wrap64; omega, by unfold wrap64; omega, ?_⟩
  unfold meetB
  cases decide (p < q + pw r) <;> simp
set_option maxRecDepth 100000 in
set_option maxHeartbeats 4000000 in
theorem meetg148 (p o q r : Int) (h0 : 0 ≤ p) (h1 : p ≤ 4000000000) (h2 : 0 ≤ q) (h3 : q ≤ 4000000000) (h4 : o ≤ 8) (h5 : r ≤ 8) (mb : Bool) (hmb : meetB p o q r = mb) (w : World) :
    Calls Tryz.prog 148 #[.agg #[.int .i64 p, .int .i64 o], .agg #[.int .i64 q, .int .i64 r]] w fun e w' => e = .returned (.bool mb) ∧ Below w.heap.size w w' := by
  subst hmb
  have hp := Hp.start w
  have W9 := Lib.hid (waysMg p o q r h0 h1 h2 h3 h4 h5)
  go_enter Tryz.func148, Tryz.ntmps148
  go_wp2_with (first | go_skip | (first | (refine hA0 ?_; clear hp; intro b w1 hp) | refine hL0 ?_ | (refine hS0 ?_; clear hp; intro w1 hp)))
  refine wp_region_keeps _ (Keeps.all hp.drew) [] [(0, true), (1, true), (2, true), (3, true), (4, true), (5, true), (6, false), (7, true), (8, true), (9, true), (10, true), (11, true), (12, true), (13, true), (14, true), (15, true), (16, false), (17, true), (18, true), (19, true), (20, false)] (by kernel_rfl) (by kernel_rfl) rfl (by kernel_rfl) (fun _ _ d _ _ h => by cases d <;> exact h) ?_
  replace hp := hp.drew
  obtain ⟨w1, w2, W⟩ := W9.out
  rcases W with ⟨d1, r⟩ | ⟨d1, r⟩
  all_goals have R := Lib.hid r
  all_goals clear r W9
  all_goals
    repeat' (with_reducible refine plan_is ?_); first | (with_reducible refine plan_nil ?_) | refine tk0 ?_ | (refine plan_do rfl (fun K hK => ?_); go_wp2_with (first | (go_at_call 142; (with_reducible refine (size142 _ (by omega) _).mono ?_); rintro e w' ⟨rfl, rfl⟩) | go_skip); (refine hK.out _ _ (.inr (kall hp)) ?_); clear hK K; try simp only [put_some, put_none, eval_tmp, eval_const, sSet, zSet, List.getD_cons_succ, List.getD_cons_zero, wrap_eq])
  all_goals (go_wp2_with fail; go_ret; exact ⟨ret_bool (by rw [R.out]; try rfl), hp.below⟩)
theorem may_b (od p o : Int) (b : Bool) (hb : mayB od p o = b) (h8 : od ≤ 8) (w : World) : Calls Tryz.prog 145 #[.int .i64 od, .agg #[.int .i64 p, .int .i64 o]] w fun e w' => e = .returned (.bool b) ∧ Below w.heap.size w w' := hb ▸ may145 od h8 p o w
theorem meetsO_step {os : List Ob} {q : Nat} {x : Ob} (hj : os[q]? = some x) (b : Bl) : meetsO (os.take (q + 1)) b = (meetsO (os.take q) b || meetB b.p b.o x.p x.o) := by
  unfold meetsO
  rw [List.take_add_one, hj, List.any_append]
  simp
theorem meetsO_hit {os : List Ob} {q : Nat} {x : Ob} (hj : os[q]? = some x) {b : Bl} (h : meetB b.p b.o x.p x.o = true) (od : Int) : clearB od os b = false := by
  unfold clearB meetsO
  have : (os.any fun x => meetB b.p b.o x.p x.o) = true := List.any_eq_true.2 ⟨x, List.mem_of_getElem? hj, h⟩
  rw [this]; rfl
set_option maxRecDepth 100000 in
set_option maxHeartbeats 4000000 in
theorem clear143 (od p o : Int) (os : List Ob) (a : Option Addr) (c : Nat) (cb : Bool) (hcb : clearB od os ⟨p, o⟩ = cb) (hol : os.length ≤ 1000) (h8 : od ≤ 8) (q1 : 0 ≤ p) (q2 : p ≤ 4000000000) (q5 : o ≤ 8) (hf : ∀ x ∈ os, ObFit x) (w : World) (ha : RowIs w a (os.flatMap obV)) :
    Calls Tryz.prog 143 #[.int .i64 od, .agg #[.int .i64 p, .int .i64 o], .slice a os.length c] w fun e w' => e = .returned (.bool cb) ∧ Below w.heap.size w w' := by
  subst hcb
  have hp := Hp.start w
  have HA := Lib.hid ha
  have HF := Lib.hid hf
  clear ha hf
  go_enter Tryz.func143, Tryz.ntmps143
  go_wp2_with (first | go_skip | (first | (refine hA0 ?_; clear hp; intro b w1 hp) | refine hL0 ?_ | (refine hS0 ?_; clear hp; intro w1 hp)))
  obtain ⟨bb, rfl⟩ := hp.id0
  go_loopg [7] os.length (fun k i wr => ∃ q : Nat, k + q = os.length ∧ i = .int .i64 q ∧ RowKit.Hid (meetsO (os.take q) ⟨p, o⟩ = false) ∧ Hp w.heap.size w wr [⟨bb, [.int .i64 p, .int .i64 o], 150, 2⟩])
  case atStart => exact ⟨0, by omega, rfl, Lib.hid rfl, hp⟩
  case round =>
    clear hp
    obtain ⟨q, hkq, rfl, HQ, hp⟩ := hrel
    by_cases hlt : q < os.length
    · obtain ⟨bq, off, rfl, hx⟩ := HA.out.elems 5 obV_len (by omega) (by omega)
      have hj := List.getElem?_eq_getElem hlt
      replace hx := hx q _ hj
      have hfx := HF.out _ (List.getElem_mem hlt)
      have hst := meetsO_step hj ⟨p, o⟩
      have hht := fun h => meetsO_hit hj (b := ⟨p, o⟩) h od
      clear hj
      generalize os[q] = x at hx hfx hst hht
      obtain ⟨xh, xp, xo, wa, ws, wc, la, ls, lc⟩ := x
      simp only [obV] at hx
      simp only at hst hht
      obtain ⟨q3, q4', hx0, q6⟩ := hfx
      simp only at q3 q4' hx0 q6
      have q4 : xp ≤ 4000000000 := by omega
      have HX' := Lib.hid hx
      have HX : RowKit.Hid (∀ (j : Nat) v, [Value.int .i64 xp, .int .i64 xo][j]? = some v → w.cell? ⟨bq, off + q * 5 + 1 + j, none⟩ = some v) := Lib.hid (fun j v hj => by
        have := HX'.out (1 + j) v (by rw [Nat.add_comm]; rw [List.getElem?_cons_succ]; have hlt : j < 2 := by { have := (List.getElem?_eq_some_iff.1 hj).1; simpa using this }
                                      have hc : j = 0 ∨ j = 1 := by omega
                                      rcases hc with rfl | rfl <;> exact hj)
        rw [Nat.add_assoc (off + q * 5)]; exact this)
      have HST := Lib.hid hst
      have HHT := Lib.hid hht
      have f1 : (0 : Int) ≤ (q : Int) := by omega
      have f2 : (q : Int) < (os.length : Int) := by omega
      clear hx q4' hx0 hst hht
      cases hmb : meetB p o xp xo with
      | true =>
        have HMB := Lib.hid hmb
        clear hmb
        go_wp2_with (first | go_skip | (first | (refine hA0 ?_; clear hp; intro b w1 hp) | refine hL0 ?_ | (refine hS0 ?_; clear hp; intro w1 hp)))
        refine wp_region_keeps [_] (Keeps.one hp.drew at0) [] [(0, true), (1, true), (2, true), (3, true), (4, true), (5, true), (6, false)] (by kernel_rfl) (by kernel_rfl) rfl (by kernel_rfl) (fun _ _ d _ _ h => by cases d <;> exact h) ?_
        replace hp := hp.drew
        repeat' (with_reducible refine plan_is ?_); first | (with_reducible refine plan_nil ?_) | refine tk10 ?_ | (refine plan_do rfl (fun K hK => ?_); go_wp2_with (first | (go_at_call 148; (with_reducible refine (meetg148 p o xp xo q1 q2 q3 q4 q5 q6 _ HMB.out _).mono ?_); rintro e w1 ⟨rfl, hb⟩; replace hp := hp.call hb; clear hb) | go_skip); (refine hK.out _ _ (.inr (Keeps.one hp aa5)) ?_); clear hK K; try simp only [put_some, put_none, eval_tmp, eval_const, sSet, zSet, List.getD_cons_succ, List.getD_cons_zero, wrap_eq])
        go_wp2_with (first | go_skip | (first | (refine hA0 ?_; clear hp; intro b w1 hp) | refine hL0 ?_ | (refine hS0 ?_; clear hp; intro w1 hp)))
        go_ret
        exact ⟨ret_bool (HHT.out HMB.out).symm, hp.below⟩
      | false =>
        have HMB := Lib.hid hmb
        clear hmb
        go_wp2_with (first | go_skip | (first | (refine hA0 ?_; clear hp; intro b w1 hp) | refine hL0 ?_ | (refine hS0 ?_; clear hp; intro w1 hp)))
        refine wp_region_keeps [_] (Keeps.one hp.drew at0) [] [(0, true), (1, true), (2, true), (3, true), (4, true), (5, true), (6, false)] (by kernel_rfl) (by kernel_rfl) rfl (by kernel_rfl) (fun _ _ d _ _ h => by cases d <;> exact h) ?_
        replace hp := hp.drew
        repeat' (with_reducible refine plan_is ?_); first | (with_reducible refine plan_nil ?_) | refine tk10 ?_ | (refine plan_do rfl (fun K hK => ?_); go_wp2_with (first | (go_at_call 148; (with_reducible refine (meetg148 p o xp xo q1 q2 q3 q4 q5 q6 _ HMB.out _).mono ?_); rintro e w1 ⟨rfl, hb⟩; replace hp := hp.call hb; clear hb) | go_skip); (refine hK.out _ _ (.inr (Keeps.one hp aa5)) ?_); clear hK K; try simp only [put_some, put_none, eval_tmp, eval_const, sSet, zSet, List.getD_cons_succ, List.getD_cons_zero, wrap_eq])
        go_wp2_with (first | go_skip | (first | (refine hA0 ?_; clear hp; intro b w1 hp) | refine hL0 ?_ | (refine hS0 ?_; clear hp; intro w1 hp)))
        go_roundg (gk - 1)
        case measure => omega
        case rel => exact ⟨q + 1, by omega, by go_num, Lib.hid (by rw [HST.out, HQ.out, HMB.out]; rfl), hp⟩
    · obtain rfl : q = os.length := by omega
      have f2 : decide ((os.length : Int) < (os.length : Int)) = false := by simp
      have HM : RowKit.Hid (meetsO os ⟨p, o⟩ = false) := Lib.hid (by have := HQ.out; rw [List.take_length] at this; exact this)
      obtain ⟨yb, hyb⟩ : ∃ yb, mayB od p o = yb := ⟨_, rfl⟩
      have HYB := Lib.hid hyb
      clear hkq hlt HQ hyb
      go_wp2_with (first | (go_at_call 145; (with_reducible refine (may_b od p o yb HYB.out h8 _).mono ?_); rintro e w1 ⟨rfl, hb⟩; replace hp := hp.call hb; clear hb) | go_skip | (first | (refine hA0 ?_; clear hp; intro b w1 hp) | refine hL0 ?_ | (refine hS0 ?_; clear hp; intro w1 hp)))
      go_ret
      refine ⟨ret_bool ?_, hp.below⟩
      unfold clearB
      rw [HM.out, HYB.out]; rfl
theorem pick_zero {od : Int} {os : List Ob} {p : Int} {j : Nat} (h : j = 0) : pickO od os p j = j := by subst h; rfl
theorem pick_hit {od : Int} {os : List Ob} {p : Int} {j : Nat} (h : clearB od os ⟨p, (j : Int)⟩ = true) : pickO od os p j = j := by
  cases j with
  | zero => rfl
  | succ j => unfold pickO; rw [if_pos h]
theorem pick_miss {od : Int} {os : List Ob} {p : Int} {j : Nat} (h : clearB od os ⟨p, ((j + 1 : Nat) : Int)⟩ = false) : pickO od os p (j + 1) = pickO od os p j := by
  conv => lhs; unfold pickO
  rw [if_neg (by rw [h]; simp)]
theorem fr_stepT {od : Int} {os : List Ob} {n j : Nat} {p : Int} {res ou : List Bl} (hp : p < pw od) (hj : pickO od os p od.toNat = j) (hc : clearB od os ⟨p, (j : Int)⟩ = true) (h : ou ++ frL od os (n + 1) p = res) : (ou ++ [⟨p, (j : Int)⟩]) ++ frL od os n (p + pw j) = res := by
  have := fr_step hp h
  rw [hj, if_pos hc] at this
  exact this
theorem fr_stepF {od : Int} {os : List Ob} {n j : Nat} {p : Int} {res ou : List Bl} (hp : p < pw od) (hj : pickO od os p od.toNat = j) (hc : clearB od os ⟨p, (j : Int)⟩ = false) (h : ou ++ frL od os (n + 1) p = res) : ou ++ frL od os n (p + pw j) = res := by
  have := fr_step hp h
  rw [hj, if_neg (by rw [hc]; simp), List.append_nil] at this
  exact this
set_option maxRecDepth 100000 in
set_option maxHeartbeats 8000000 in
theorem free114 (od : Int) (h3 : 3 ≤ od) (h8 : od ≤ 8) (os : List Ob) (a : Option Addr) (c : Nat) (hol : os.length ≤ 1000) (hf : ∀ x ∈ os, ObFit x) (w : World) (ha : RowIs w a (os.flatMap obV)) :
    Calls Tryz.prog 114 #[.int .i64 od, .slice a os.length c] w fun e w' => ∃ fa fc fs R, e = .returned (.slice fa fs.length fc) ∧ fs = lfN (pw od) os od.toNat 0 ∧ OwnRow 150 2 (.slice fa fs.length fc) fs.length (fs.flatMap blV) R ∧ Hp w.heap.size w w' R := by
  obtain ⟨i0, hi0, hz0, hz1, hz2⟩ := info_parts info150
  have hp := Hp.start w
  have HA := Lib.hid ha
  have HF := Lib.hid hf
  have hpw := pw_le h8
  have HFR := Lib.hid (fr_left (os := os) (by omega) h8 256 (by omega) : frL od os 256 0 = lfN (pw od) os od.toNat 0)
  obtain ⟨res, hres⟩ : ∃ res, res = lfN (pw od) os od.toNat 0 := ⟨_, rfl⟩
  rw [← hres] at HFR ⊢
  obtain ⟨N, hN⟩ : ∃ N, N = od.toNat := ⟨_, rfl⟩
  have hNo : (N : Int) = od := by omega
  clear ha hf hres
  go_enter Tryz.func114, Tryz.ntmps114
  go_wp2_with (first | go_skip | (first | (refine hA0 ?_; clear hp; intro b w1 hp) | refine hL0 ?_ | (refine hS0 ?_; clear hp; intro w1 hp)))
  go_loopg [5, 6] 256 (fun k v i wr => ∃ (n : Nat) (p : Int) (ou : List Bl) (R D : List Blk), k = n ∧ i = .int .i64 p ∧ 0 ≤ p ∧ RowKit.Hid (pw od ≤ p + n) ∧ RowKit.Hid (ou.length + n ≤ 256) ∧ RowKit.Hid (ou ++ frL od os n p = res) ∧ RowKit.Hid (OwnRow 150 2 v ou.length (ou.flatMap blV) R) ∧ Hp w.heap.size w wr (R ++ D))
  case atStart => exact ⟨256, 0, [], [], [], rfl, rfl, Int.le_refl _, Lib.hid (by omega), Lib.hid (by simp), Lib.hid (by rw [List.nil_append]; exact HFR.out), Lib.hid (OwnRow.nil _ _), hp⟩
  case round =>
    clear hp
    obtain ⟨n, p, ou, R, D, hkn, rfl, hp0, HPW, HPL, HRES, HR, hp⟩ := hrel
    by_cases hlt : p < pw od
    · obtain ⟨n, rfl⟩ : ∃ m, n = m + 1 := ⟨n - 1, by have := HPW.out; omega⟩
      have HLT := Lib.hid hlt
      have hpb : p ≤ 4000000000 := by omega
      have e1 : decide (p < pw od) = true := decide_eq_true hlt
      have sm1 : ou.length + 1 ≤ maxLen := by have := HPL.out; unfold maxLen; omega
      have sm2 : (ou.length + 1) * 16 ≤ 140737488355328 := by have := HPL.out; omega
      have HNO := Lib.hid hNo
      clear hlt
      go_wp2_with (first | (go_at_call 142; (with_reducible refine (size142 _ (by omega) _).mono ?_); rintro e w' ⟨rfl, rfl⟩) | go_skip | (first | (refine hA0 ?_; clear hp; intro b w1 hp) | refine hL0 ?_ | (refine hS0 ?_; clear hp; intro w1 hp)))
      obtain ⟨bb, rfl⟩ := hp.id0
      go_loopg [] N (fun k wr => ∃ j : Nat, k = j ∧ j ≤ N ∧ RowKit.Hid (pickO od os p od.toNat = pickO od os p j) ∧ Hp w.heap.size w wr (⟨bb, [.int .i64 p, .int .i64 (j : Int)], 150, 2⟩ :: (R ++ D)))
      case atStart => exact ⟨N, rfl, Nat.le_refl _, Lib.hid (by rw [hN]), by rw [hNo]; exact hp⟩
      case round =>
        clear hp
        obtain ⟨j, hkj, hjN, HPJ, hp⟩ := hrel
        have hj8 : (j : Int) ≤ 8 := by omega
        have hpp := pw_pos (j : Int)
        have hpl := pw_le hj8
        have HW1 : RowKit.Hid (wrap64 (p + pw (j : Int)) = p + pw (j : Int)) := Lib.hid (by unfold wrap64; omega)
        have HPW2 : RowKit.Hid (0 ≤ p + pw (j : Int) ∧ pw od ≤ p + pw (j : Int) + n) := Lib.hid ⟨by omega, by have := HPW.out; omega⟩
        clear hpp hpl
        by_cases hj0 : j = 0
        · have HPK : RowKit.Hid (pickO od os p od.toNat = j) := Lib.hid (by rw [HPJ.out]; exact pick_zero hj0)
          have e2 : decide ((0 : Int) < (j : Int)) = false := by simp; omega
          have e3 : decide (0 < j) = false := by simp; omega
          have e4 : ¬ 0 < j := by omega
          clear hj0
          obtain ⟨cb, hcb⟩ : ∃ cb, clearB od os ⟨p, (j : Int)⟩ = cb := ⟨_, rfl⟩; have HCB := Lib.hid hcb; clear hcb; cases cb
          · go_wp2_with (first | (go_at_call 143; (with_reducible refine (clear143 od p j os _ c _ HCB.out hol h8 hp0 hpb hj8 HF.out _ (HA.out.below hp.below)).mono ?_); rintro e w1 ⟨rfl, hb⟩; replace hp := hp.call hb; clear hb) | (go_at_call 142; (with_reducible refine (size142 _ (by omega) _).mono ?_); rintro e w' ⟨rfl, rfl⟩) | go_skip | (first | (refine hA0 ?_; clear hp; intro b w1 hp) | refine hL0 ?_ | (refine hS0 ?_; clear hp; intro w1 hp)))
            go_roundg n; (case measure => omega); (case rel => exact ⟨n, p + pw (j : Int), ou, R, ⟨bb, [.int .i64 p, .int .i64 (j : Int)], 150, 2⟩ :: D, rfl, congrArg (Value.int .i64) HW1.out, HPW2.out.1, Lib.hid HPW2.out.2, Lib.hid (by have := HPL.out; omega), Lib.hid (fr_stepF HLT.out HPK.out HCB.out HRES.out), HR, hp.kp⟩)
          · go_wp2_with (first | (go_at_call 143; (with_reducible refine (clear143 od p j os _ c _ HCB.out hol h8 hp0 hpb hj8 HF.out _ (HA.out.below hp.below)).mono ?_); rintro e w1 ⟨rfl, hb⟩; replace hp := hp.call hb; clear hb) | ((with_reducible refine pre_append _ _ 81 rfl ?_); refine wpList_appendGrow (K := [_]) (R := R) (M := D) hp _ _ _ rfl wy i0 _ 16 Tryz.underlying81 hi0 hz0 hz1 hz2 rfl (by decide) (sTm rfl) HR.out 1 1 (sTm rfl) (by rfl) (by decide) (by rfl) sm1 sm2 ?_; clear hp; intro v' R' w1 hR' hp; have HR' := Lib.hid hR'; clear hR'; simp only [List.cons_append, List.nil_append] at hp; simp only [put_some, put_none, sSet, zSet]) | (go_at_call 142; (with_reducible refine (size142 _ (by omega) _).mono ?_); rintro e w' ⟨rfl, rfl⟩) | go_skip | (first | (refine hA0 ?_; clear hp; intro b w1 hp) | refine hL0 ?_ | (refine hS0 ?_; clear hp; intro w1 hp)))
            go_roundg n; (case measure => omega); (case rel => exact ⟨n, p + pw (j : Int), ou ++ [⟨p, (j : Int)⟩], R', ⟨bb, [.int .i64 p, .int .i64 (j : Int)], 150, 2⟩ :: D, rfl, congrArg (Value.int .i64) HW1.out, HPW2.out.1, Lib.hid HPW2.out.2, Lib.hid (by have := HPL.out; rw [List.length_append]; simp only [List.length_cons, List.length_nil]; omega), Lib.hid (fr_stepT HLT.out HPK.out HCB.out HRES.out), Lib.hid (by have := HR'.out; rw [List.flatMap_append, List.length_append]; exact this), hp.kp⟩)
        · have e2 : decide ((0 : Int) < (j : Int)) = true := by simp; omega
          have e3 : 0 < j := by omega
          obtain ⟨cb, hcb⟩ : ∃ cb, clearB od os ⟨p, (j : Int)⟩ = cb := ⟨_, rfl⟩
          have HCB := Lib.hid hcb
          clear hcb
          cases cb
          · obtain ⟨i, hji⟩ : ∃ i, j = i + 1 := ⟨j - 1, by omega⟩
            have HPM : RowKit.Hid (pickO od os p od.toNat = pickO od os p i) := Lib.hid (by rw [HPJ.out]; have h := HCB.out; rw [hji] at h ⊢; exact pick_miss h)
            have HJI := Lib.hid hji
            clear hji
            clear hj0
            go_wp2_with (first | (go_at_call 143; (with_reducible refine (clear143 od p j os _ c _ HCB.out hol h8 hp0 hpb hj8 HF.out _ (HA.out.below hp.below)).mono ?_); rintro e w1 ⟨rfl, hb⟩; replace hp := hp.call hb; clear hb) | go_skip | (first | (refine hA0 ?_; clear hp; intro b w1 hp) | refine hL0 ?_ | (refine hS0 ?_; clear hp; intro w1 hp)))
            go_roundg i
            case measure => have := HJI.out; omega
            case rel => exact ⟨i, rfl, by have := HJI.out; omega, HPM, by rw [show ((j : Int) - 1) = (i : Int) by have := HJI.out; omega] at hp; exact hp⟩
          · have HPK : RowKit.Hid (pickO od os p od.toNat = j) := Lib.hid (by rw [HPJ.out]; exact pick_hit HCB.out)
            clear hj0
            go_wp2_with (first | (go_at_call 143; (with_reducible refine (clear143 od p j os _ c _ HCB.out hol h8 hp0 hpb hj8 HF.out _ (HA.out.below hp.below)).mono ?_); rintro e w1 ⟨rfl, hb⟩; replace hp := hp.call hb; clear hb) | ((with_reducible refine pre_append _ _ 81 rfl ?_); refine wpList_appendGrow (K := [_]) (R := R) (M := D) hp _ _ _ rfl wy i0 _ 16 Tryz.underlying81 hi0 hz0 hz1 hz2 rfl (by decide) (sTm rfl) HR.out 1 1 (sTm rfl) (by rfl) (by decide) (by rfl) sm1 sm2 ?_; clear hp; intro v' R' w1 hR' hp; have HR' := Lib.hid hR'; clear hR'; simp only [List.cons_append, List.nil_append] at hp; simp only [put_some, put_none, sSet, zSet]) | (go_at_call 142; (with_reducible refine (size142 _ (by omega) _).mono ?_); rintro e w' ⟨rfl, rfl⟩) | go_skip | (first | (refine hA0 ?_; clear hp; intro b w1 hp) | refine hL0 ?_ | (refine hS0 ?_; clear hp; intro w1 hp)))
            go_roundg n; (case measure => omega); (case rel => exact ⟨n, p + pw (j : Int), ou ++ [⟨p, (j : Int)⟩], R', ⟨bb, [.int .i64 p, .int .i64 (j : Int)], 150, 2⟩ :: D, rfl, congrArg (Value.int .i64) HW1.out, HPW2.out.1, Lib.hid HPW2.out.2, Lib.hid (by have := HPL.out; rw [List.length_append]; simp only [List.length_cons, List.length_nil]; omega), Lib.hid (fr_stepT HLT.out HPK.out HCB.out HRES.out), Lib.hid (by have := HR'.out; rw [List.flatMap_append, List.length_append]; exact this), hp.kp⟩)
    · have e1 : decide (p < pw od) = false := decide_eq_false hlt
      have HE := Lib.hid (fr_end hlt HRES.out)
      clear hlt
      go_wp2_with (first | (go_at_call 142; (with_reducible refine (size142 _ (by omega) _).mono ?_); rintro e w' ⟨rfl, rfl⟩) | go_skip | (first | (refine hA0 ?_; clear hp; intro b w1 hp) | refine hL0 ?_ | (refine hS0 ?_; clear hp; intro w1 hp)))
      go_ret
      have he := HE.out
      have hr := HR.out
      obtain ⟨fa, fc, rfl, _⟩ := hr.kept
      subst he
      exact ⟨fa, fc, ou, R, rfl, rfl, hr, hp.sub (List.sublist_append_left _ _)⟩
end Go.Proofs.YtcjbepaclbhjaaaGreat
/- The walk of the document's Place. -/
namespace Go.Proofs.YtcjbepaclbhjaaaGreat
open Go.RowKit
def PlaceI (os : List Ob) (t : Int) (r : Int) : Prop := (r = -1 ∧ ∀ o ∈ os, o.h ≠ t) ∨ ∃ (j : Nat) (o : Ob), r = j ∧ os[j]? = some o ∧ o.h = t ∧ ∀ (i : Nat) q, i < j → os[i]? = some q → q.h ≠ t
theorem PlaceI.leads {os : List Ob} {t r : Int} (h : PlaceI os t r) (h0 : t ≠ 0) : decide (0 ≤ r) = leadsB os t := by
  rw [Bool.eq_iff_iff, decide_eq_true_eq, leadsB_iff]
  rcases h with ⟨rfl, h⟩ | ⟨j, o, rfl, hj, ho, _⟩
  · constructor
    · intro h; omega
    · rintro (h1 | ⟨o, ho, h1⟩)
      · exact absurd h1 h0
      · exact absurd h1 (h o ho)
  · exact ⟨fun _ => .inr ⟨o, List.mem_of_getElem? hj, ho⟩, fun _ => by omega⟩
def PlacePost (w : World) (os : List Ob) (t : Int) (e : Ending) (w' : World) : Prop := ∃ r : Int, e = .returned (.int .i64 r) ∧ PlaceI os t r ∧ Below w.heap.size w w'
set_option maxRecDepth 100000 in
set_option maxHeartbeats 4000000 in
theorem place166 (od : Int) (oa : Option Addr) (os : List Ob) (oc : Nat) (nx t0 t1 t2 t3 : Int) (fa : Option Addr) (fl fc : Nat) (hol : os.length ≤ 1000) (t : Int) (w : World) (ha : RowIs w oa (os.flatMap obV)) :
    Calls Tryz.prog 166 #[.agg #[.int .i64 od, .slice oa os.length oc, .int .i64 nx, .int .i64 t0, .int .i64 t1, .int .i64 t2, .int .i64 t3, .slice fa fl fc], .int .i64 t] w (PlacePost w os t) := by
  have hp := Hp.start w
  have HA := Lib.hid ha
  clear ha
  go_enter Tryz.func166, Tryz.ntmps166
  go_wp2_with (first | go_skip | (first | (refine hA3 ?_; clear hp; intro b w1 hp) | refine hL16 ?_ | (refine hS0 ?_; clear hp; intro w1 hp)))
  obtain ⟨b1, rfl⟩ := hp.id0
  go_loopg [5] os.length (fun k i wr => ∃ j : Nat, k + j = os.length ∧ i = .int .i64 j ∧ RowKit.Hid (∀ (i : Nat) q, i < j → os[i]? = some q → q.h ≠ t) ∧ Hp w.heap.size w wr [⟨b1, [.int .i64 od, .slice oa os.length oc, .int .i64 nx, .int .i64 t0, .int .i64 t1, .int .i64 t2, .int .i64 t3, .slice fa fl fc], 83, 8⟩])
  case atStart => exact ⟨0, by omega, rfl, Lib.hid (fun i y h => by omega), hp⟩
  case round =>
    clear hp
    obtain ⟨j, hkj, rfl, HY, hp⟩ := hrel
    by_cases hlt : j < os.length
    · obtain ⟨bq, off, rfl, hx⟩ := HA.out.elems 5 obV_len (by omega) (by omega)
      have hj := List.getElem?_eq_getElem hlt
      replace hx := hx j _ hj
      have HJ := Lib.hid hj
      clear hj
      generalize os[j] = x at hx HJ
      obtain ⟨xh, xp, xo, wa, ws, wc, la, ls, lc⟩ := x
      simp only [obV] at hx
      have HX := Lib.hid hx
      clear hx
      have e1 : (0 : Int) ≤ (j : Int) := by omega
      have e2 : (j : Int) < (os.length : Int) := by omega
      by_cases hne : xh = t
      · have HNE := Lib.hid hne
        have e3 : (xh == t) = true := by simpa using hne
        clear hne
        go_wp2_with (first | go_skip | (first | (refine hA3 ?_; clear hp; intro b w1 hp) | refine hL16 ?_ | (refine hS0 ?_; clear hp; intro w1 hp)))
        go_ret
        exact ⟨j, rfl, .inr ⟨j, _, rfl, HJ.out, HNE.out, HY.out⟩, hp.below⟩
      · have HNE := Lib.hid hne
        have e3 : (xh == t) = false := by simpa using hne
        clear hne
        go_wp2_with (first | go_skip | (first | (refine hA3 ?_; clear hp; intro b w1 hp) | refine hL16 ?_ | (refine hS0 ?_; clear hp; intro w1 hp)))
        go_roundg (gk - 1)
        case measure => omega
        case rel =>
          refine ⟨j + 1, by omega, by go_num, Lib.hid (fun i y hi hy => ?_), hp⟩
          rcases Nat.lt_or_ge i j with h | h
          · exact HY.out i y h hy
          · have : i = j := by omega
            subst this
            rw [HJ.out] at hy; injection hy with hy; subst hy; exact HNE.out
    · have e2 : decide ((j : Int) < (os.length : Int)) = false := by simp; omega
      go_wp2_with (first | go_skip | (first | (refine hA3 ?_; clear hp; intro b w1 hp) | refine hL16 ?_ | (refine hS0 ?_; clear hp; intro w1 hp)))
      go_ret
      refine ⟨-1, rfl, .inl ⟨rfl, fun o ho => ?_⟩, hp.below⟩
      obtain ⟨i, hi, rfl⟩ := List.getElem_of_mem ho
      exact HY.out i _ (by omega) (List.getElem?_eq_getElem hi)
theorem RowIs.fix0 {w : World} {b off : Nat} {xs : List Value} (h : RowIs w (some ⟨b, off, none⟩) xs) : ∀ j v, xs[j]? = some v → w.cell? ⟨b, off + j, none⟩ = some v := fun j v hj => by
  obtain ⟨b', off', he, hc⟩ := h j v hj
  injection he with he; injection he with e1 e2; subst e1; subst e2; exact hc
end Go.Proofs.YtcjbepaclbhjaaaGreat
