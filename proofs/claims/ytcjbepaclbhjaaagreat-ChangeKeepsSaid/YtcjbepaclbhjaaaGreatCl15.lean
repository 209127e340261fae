/- Parts of the proof. -/
import Derived.Test.YtcjbepaclbhjaaaGreatCl14
import Derived.Test.YtcjbepaclbhjaaaGreatCl2
open List renaming set_cons_zero → zSet, set_cons_succ → sSet
/- The walk of left: what objects leave of free blocks. -/
set_option linter.unusedSimpArgs false
set_option linter.unusedVariables false
namespace Go.Proofs.YtcjbepaclbhjaaaGreat
open Go.RowKit
theorem ceJF0 {ty : TypeId} (h : cellB Tryz.prog ty = true := by with_reducible first | exact cell3 | exact cell4 | exact cell81 | exact cell79) : cellB Tryz.prog ty = true := h
def CellAt (w : World) (b : Nat) (v : Value) : Prop := ∀ j u, [v][j]? = some u → w.cell? ⟨b, 0 + j, none⟩ = some u
theorem CellAt.of {w : World} {b : Nat} {v : Value} (h : w.cell? ⟨b, 0, none⟩ = some v) : CellAt w b v := fun j u hj => by
  match j, hj with
  | 0, hj => simp at hj; subst hj; exact h
theorem CellAt.below {w w' : World} {b : Nat} {v : Value} (h : CellAt w b v) (hb : Below w.heap.size w w') : CellAt w' b v := fun j u hj => by
  have := h j u hj
  exact (hb.cell (World.block_lt_of_cell? w _ this)).trans this
theorem met_ways (sz p en : Int) (x : Ob) : (decide (x.p ≤ sz) = false ∧ (decide (x.p ≤ sz) && (decide (p < x.p + pw x.o) && decide (x.p < en))) = false) ∨
    (decide (x.p ≤ sz) = true ∧ decide (p < x.p + pw x.o) = false ∧ (decide (x.p ≤ sz) && (decide (p < x.p + pw x.o) && decide (x.p < en))) = false) ∨
    (decide (x.p ≤ sz) = true ∧ decide (p < x.p + pw x.o) = true ∧ (decide (x.p ≤ sz) && (decide (p < x.p + pw x.o) && decide (x.p < en))) = decide (x.p < en)) := by
  cases decide (x.p ≤ sz) <;> cases decide (p < x.p + pw x.o) <;> simp
def ObFit (x : Ob) : Prop := 0 ≤ x.p ∧ x.p ≤ 2147483647 ∧ 0 ≤ x.o ∧ x.o ≤ 8
set_option maxRecDepth 100000 in
set_option maxHeartbeats 8000000 in
theorem leftc157 (sz p en : Int) (x : Ob) (hx : ObFit x) (bs bb be : Nat) (w : World) (hs : CellAt w bs (.int .i64 sz)) (hb : CellAt w bb (.int .i64 p)) (he : CellAt w be (.int .i64 en)) :
    Calls Tryz.prog 157 #[.agg (obV x).toArray, .pointer (some ⟨bs, 0, none⟩), .pointer (some ⟨bb, 0, none⟩), .pointer (some ⟨be, 0, none⟩)] w fun e w' => e = .returned (.bool (decide (x.p ≤ sz) && (decide (p < x.p + pw x.o) && decide (x.p < en)))) ∧ Below w.heap.size w w' := by
  have hp := Hp.start w
  have W9 := Lib.hid (met_ways sz p en x)
  obtain ⟨h1, h2, h3, h4⟩ := hx
  have HO0 := Lib.hid h3
  have HO8 := Lib.hid h4
  have HS := Lib.hid hs
  have HB := Lib.hid hb
  have HE := Lib.hid he
  have hpw := pw_le h4
  have hpw1 := pw_pos x.o
  have HW : RowKit.Hid (wrap64 (x.p + pw x.o) = x.p + pw x.o) := Lib.hid (by unfold wrap64; omega)
  obtain ⟨xh, xp, xo, xwa, xws, xwc, xla, xls, xlc⟩ := x
  simp only at W9 HW HO0 HO8
  simp only [obV]
  clear hs hb he h1 h2 h3 h4 hpw hpw1
  go_enter Tryz.func157, Tryz.ntmps157
  go_wp2_with (first | go_skip | ((first | ((with_reducible refine pre_box _ _ rfl ?_); refine lB hp rfl (sTm rfl) rfl ?_; clear hp; intro b w1 hp) | ((with_reducible refine pre_load _ _ rfl ?_); first | refine lO hp rfl (sTm rfl) ceJF0 aa5 ?_ | refine lA hp rfl (sTm rfl) (by with_reducible first | exact agg152 | exact agg150) aa5 ?_) | ((with_reducible refine pre_store _ _ _ rfl ?_); (first | refine sO hp rfl (sTm rfl) ceJF0 aa5 ?_ | refine sA hp rfl (sTm rfl) (sTm rfl) (by with_reducible first | exact agg152 | exact agg150) aa5 ?_ | refine sG hp rfl (sTm rfl) (sTm rfl) (by with_reducible first | exact agg152 | exact agg150) aa5 ?_); clear hp; intro w1 hp; simp only [spl, zSet, sSet] at hp) | ((with_reducible refine pre_build _ _ _ rfl ?_); refine lS hp rfl (by intro w; go_simp; rfl) ?_; clear hp; intro b w1 hp; simp only [List.length_cons, List.length_nil, Nat.reduceAdd] at hp)); simp only [put_some, put_none, sSet, zSet]))
  refine wp_region_keeps _ (Keeps.all hp.drew) [] [(0, true), (1, true), (2, true), (3, true), (4, true), (5, true), (6, true), (7, true), (8, true), (9, true), (10, true), (11, true), (12, true), (13, true), (14, false), (15, true), (16, true), (17, true), (18, true), (19, true), (20, true), (21, true), (22, true), (23, true), (24, true), (25, false)] (by kernel_rfl) (by kernel_rfl) rfl (by kernel_rfl) (fun _ _ d _ _ h => by cases d <;> exact h) ?_
  replace hp := hp.drew
  rcases W9.out with ⟨d1, r⟩ | ⟨d1, d2, r⟩ | ⟨d1, d2, r⟩
  all_goals have R := Lib.hid r
  all_goals clear r W9
  all_goals
    repeat' (with_reducible refine plan_is ?_); first | (with_reducible refine plan_nil ?_) | ((with_reducible refine plan_t ?_); refine plan_tk rfl ?_; (first | ((with_reducible refine tk_gd _ _ rfl ?_); refine tS (by first | exact wanted_no rfl rfl rfl rfl | exact wanted_nu rfl rfl rfl rfl) ?_) | ((with_reducible refine tk_mv _ rfl ?_); refine tM rfl ?_) | ((with_reducible refine tk_ld _ _ rfl ?_); first | refine tO rfl (sTm rfl) cell3 aa5 ?_ | refine tRO rfl (sTm rfl) cell3 (HS.out 0 _ rfl) ?_ | refine tRO rfl (sTm rfl) cell3 (HB.out 0 _ rfl) ?_ | refine tRO rfl (sTm rfl) cell3 (HE.out 0 _ rfl) ?_) | refine tG (fun w _ => (by go_simp; try rfl)) ?_); try simp only [put_some, put_none, eval_tmp, eval_const, sSet, zSet, List.getD_cons_succ, List.getD_cons_zero, wrap_eq, HW.out]) | (refine plan_do rfl (fun K hK => ?_); go_wp2_with (first | (go_at_call 133; (with_reducible refine (words133 _ (by first | exact HO0.out | omega) (by first | exact HO8.out | omega) _).mono ?_); rintro e w' ⟨rfl, rfl⟩) | go_skip); (refine hK.out _ _ (.inr (kall hp)) ?_); clear hK K; try simp only [put_some, put_none, eval_tmp, eval_const, sSet, zSet, List.getD_cons_succ, List.getD_cons_zero, wrap_eq, HW.out])
  all_goals (go_wp2_with fail; go_ret; exact ⟨ret_bool (by rw [R.out]; try rfl), hp.below⟩)
def metE (sz p en : Int) (x : Ob) : Bool := decide (x.p ≤ sz) && (decide (p < x.p + pw x.o) && decide (x.p < en))
theorem any_take {l : List Ob} {f : Ob → Bool} {j : Nat} {x : Ob} (h : l[j]? = some x) : (l.take (j + 1)).any f = ((l.take j).any f || f x) := by
  rw [List.take_add_one, h]; simp [List.any_append]
theorem any_yes {l : List Ob} {f : Ob → Bool} {j : Nat} {x : Ob} (h : l[j]? = some x) (hw : f x = true) : l.any f = true := List.any_eq_true.2 ⟨x, List.mem_of_getElem? h, hw⟩
def IdxPostO (w : World) (g : Bool) (e : Ending) (w' : World) : Prop := ∃ i : Int, e = .returned (.int .i64 i) ∧ decide (0 ≤ i) = g ∧ Below w.heap.size w w'
set_option maxRecDepth 100000 in
set_option maxHeartbeats 8000000 in
theorem index168 (sz p en : Int) (l : List Ob) (a : Option Addr) (c : Nat) (hl : l.length ≤ 600) (hob : ∀ x ∈ l, ObFit x) (bs bb be : Nat) (w : World) (ha : RowIs w a (l.flatMap obV)) (hs : CellAt w bs (.int .i64 sz)) (hb : CellAt w bb (.int .i64 p)) (he : CellAt w be (.int .i64 en)) :
    Calls Tryz.prog 168 #[.slice a l.length c, .func (.func 157) #[] #[.pointer (some ⟨bs, 0, none⟩), .pointer (some ⟨bb, 0, none⟩), .pointer (some ⟨be, 0, none⟩)]] w (IdxPostO w (l.any (metE sz p en))) := by
  have hp := Hp.start w
  have HA := Lib.hid ha
  have HS := Lib.hid hs
  have HB := Lib.hid hb
  have HE := Lib.hid he
  have HOB := Lib.hid hob
  clear ha hs hb he hob
  go_enter Tryz.func168, Tryz.ntmps168
  go_wp2_with (first | go_skip | ((first | ((with_reducible refine pre_box _ _ rfl ?_); refine lB hp rfl (sTm rfl) rfl ?_; clear hp; intro b w1 hp) | ((with_reducible refine pre_load _ _ rfl ?_); first | refine lO hp rfl (sTm rfl) ceJF0 aa5 ?_ | refine lA hp rfl (sTm rfl) (by with_reducible first | exact agg152 | exact agg150) aa5 ?_) | ((with_reducible refine pre_store _ _ _ rfl ?_); (first | refine sO hp rfl (sTm rfl) ceJF0 aa5 ?_ | refine sA hp rfl (sTm rfl) (sTm rfl) (by with_reducible first | exact agg152 | exact agg150) aa5 ?_ | refine sG hp rfl (sTm rfl) (sTm rfl) (by with_reducible first | exact agg152 | exact agg150) aa5 ?_); clear hp; intro w1 hp; simp only [spl, zSet, sSet] at hp) | ((with_reducible refine pre_build _ _ _ rfl ?_); refine lS hp rfl (by intro w; go_simp; rfl) ?_; clear hp; intro b w1 hp; simp only [List.length_cons, List.length_nil, Nat.reduceAdd] at hp)); simp only [put_some, put_none, sSet, zSet]))
  go_loopg [8] l.length (fun k i wr => ∃ j : Nat, k + j = l.length ∧ i = .int .i64 j ∧ RowKit.Hid ((l.take j).any (metE sz p en) = false) ∧ Hp w.heap.size w wr [])
  case atStart => exact ⟨0, by omega, rfl, Lib.hid (by simp), hp⟩
  case round =>
    clear hp
    obtain ⟨j, hkj, rfl, HG, hp⟩ := hrel
    by_cases hlt : j < l.length
    · obtain ⟨bq, off, rfl, hx⟩ := HA.out.elems 5 obV_len (by omega) (by omega)
      have hj := List.getElem?_eq_getElem hlt
      replace hx := hx j _ hj
      have hfit := HOB.out _ (List.getElem_mem hlt)
      generalize l[j] = x at hx hj hfit
      have HJ := Lib.hid hj
      have HFIT := Lib.hid hfit
      obtain ⟨r, hr⟩ : ∃ r, metE sz p en x = r := ⟨_, rfl⟩
      have HR := Lib.hid hr
      have HK : RowKit.Hid (∀ w1, Below w.heap.size w w1 → Calls Tryz.prog 157 #[.agg (obV x).toArray, .pointer (some ⟨bs, 0, none⟩), .pointer (some ⟨bb, 0, none⟩), .pointer (some ⟨be, 0, none⟩)] w1 fun e w' => e = .returned (.bool r) ∧ Below w1.heap.size w1 w') := Lib.hid (fun w1 hw => by
        have h := leftc157 sz p en x HFIT.out bs bb be w1 (HS.out.below hw) (HB.out.below hw) (HE.out.below hw)
        rw [show (decide (x.p ≤ sz) && (decide (p < x.p + pw x.o) && decide (x.p < en))) = r from HR.out] at h
        exact h)
      obtain ⟨xh, xp, xo, xwa, xws, xwc, xla, xls, xlc⟩ := x
      simp only [obV] at hx HK
      have HX := Lib.hid hx
      clear hx hj hfit hr
      have e1 : (0 : Int) ≤ (j : Int) := by omega
      have e2 : (j : Int) < (l.length : Int) := by omega
      cases r with
      | true =>
        go_wp2_with (first | (go_at_call 157; (with_reducible refine (HK.out _ hp.below).mono ?_); rintro e w1 ⟨rfl, hb⟩; replace hp := hp.call hb; clear hb) | go_skip | ((first | ((with_reducible refine pre_box _ _ rfl ?_); refine lB hp rfl (sTm rfl) rfl ?_; clear hp; intro b w1 hp) | ((with_reducible refine pre_load _ _ rfl ?_); first | refine lO hp rfl (sTm rfl) (by with_reducible first | exact cell3 | exact cell4) aa5 ?_ | refine lA hp rfl (sTm rfl) agg152 aa5 ?_ | refine lR hp rfl (sTm rfl) agg152 HX.out ?_) | ((with_reducible refine pre_store _ _ _ rfl ?_); (first | refine sO hp rfl (sTm rfl) (by with_reducible first | exact cell3 | exact cell4) aa5 ?_ | refine sA hp rfl (sTm rfl) (sTm rfl) agg152 aa5 ?_ | refine sG hp rfl (sTm rfl) (sTm rfl) agg152 aa5 ?_); clear hp; intro w1 hp; simp only [spl, zSet, sSet] at hp)); simp only [put_some, put_none, sSet, zSet]))
        go_ret
        exact ⟨j, rfl, by rw [any_yes HJ.out HR.out]; simp, hp.below⟩
      | false =>
        go_wp2_with (first | (go_at_call 157; (with_reducible refine (HK.out _ hp.below).mono ?_); rintro e w1 ⟨rfl, hb⟩; replace hp := hp.call hb; clear hb) | go_skip | ((first | ((with_reducible refine pre_box _ _ rfl ?_); refine lB hp rfl (sTm rfl) rfl ?_; clear hp; intro b w1 hp) | ((with_reducible refine pre_load _ _ rfl ?_); first | refine lO hp rfl (sTm rfl) (by with_reducible first | exact cell3 | exact cell4) aa5 ?_ | refine lA hp rfl (sTm rfl) agg152 aa5 ?_ | refine lR hp rfl (sTm rfl) agg152 HX.out ?_) | ((with_reducible refine pre_store _ _ _ rfl ?_); (first | refine sO hp rfl (sTm rfl) (by with_reducible first | exact cell3 | exact cell4) aa5 ?_ | refine sA hp rfl (sTm rfl) (sTm rfl) agg152 aa5 ?_ | refine sG hp rfl (sTm rfl) (sTm rfl) agg152 aa5 ?_); clear hp; intro w1 hp; simp only [spl, zSet, sSet] at hp)); simp only [put_some, put_none, sSet, zSet]))
        go_roundg (gk - 1)
        case measure => omega
        case rel => exact ⟨j + 1, by omega, by go_num, Lib.hid (by rw [any_take HJ.out, HG.out, HR.out]; rfl), hp⟩
    · have e2 : decide ((j : Int) < (l.length : Int)) = false := by simp; omega
      go_wp2_with fail
      go_ret
      exact ⟨-1, rfl, by have := HG.out; rw [List.take_of_length_le (by omega)] at this; rw [this]; decide, hp.below⟩
set_option maxRecDepth 100000 in
set_option maxHeartbeats 4000000 in
theorem contains156 (sz p en : Int) (l : List Ob) (a : Option Addr) (c : Nat) (hl : l.length ≤ 600) (hob : ∀ x ∈ l, ObFit x) (bs bb be : Nat) (w : World) (ha : RowIs w a (l.flatMap obV)) (hs : CellAt w bs (.int .i64 sz)) (hb : CellAt w bb (.int .i64 p)) (he : CellAt w be (.int .i64 en)) :
    Calls Tryz.prog 156 #[.slice a l.length c, .func (.func 157) #[] #[.pointer (some ⟨bs, 0, none⟩), .pointer (some ⟨bb, 0, none⟩), .pointer (some ⟨be, 0, none⟩)]] w fun e w' => e = .returned (.bool (l.any (metE sz p en))) ∧ Below w.heap.size w w' := by
  have hp := Hp.start w
  have K := Lib.hid (index168 sz p en l a c hl hob bs bb be w ha hs hb he)
  clear ha hs hb he
  go_enter Tryz.func156, Tryz.ntmps156
  go_wp2_with (go_at_call 168; refine K.out.mono ?_; rintro e w1 ⟨i, rfl, hi, hb⟩; replace hp := hp.call hb; have HI := Lib.hid hi; clear hi hb)
  go_ret
  exact ⟨ret_bool HI.out, hp.below⟩
def lfB (sz : Int) (os : List Ob) (b : Bl) : List Bl := lfN sz os b.o.toNat b.p
def wtB (b : Bl) : Nat := 2 * 2 ^ b.o.toNat - 1
def wtL (l : List Bl) : Nat := (l.map wtB).sum
theorem wtL_cons (b : Bl) (l : List Bl) : wtL (b :: l) = wtB b + wtL l := by simp [wtL]
theorem wtB_pos (b : Bl) : 1 ≤ wtB b := by unfold wtB; have := Nat.two_pow_pos b.o.toNat; omega
theorem wtL_len (l : List Bl) : l.length ≤ wtL l := by
  induction l with
  | nil => simp [wtL]
  | cons b l ih => rw [wtL_cons, List.length_cons]; have := wtB_pos b; omega
def BlFit (b : Bl) : Prop := 0 ≤ b.o ∧ b.o ≤ 8 ∧ 0 ≤ b.p ∧ b.p + pw b.o ≤ 256
theorem lf_no {sz : Int} {os : List Ob} {b : Bl} (h0 : 0 ≤ b.o) (h : metB sz os b = false) : lfB sz os b = [b] := by
  obtain ⟨p, o⟩ := b
  unfold lfB
  simp only at h0 ⊢
  cases hk : o.toNat with
  | zero =>
    have : o = 0 := by omega
    subst this
    unfold lfN; rw [if_neg (by rw [h]; decide)]
  | succ k =>
    have : o = ((k + 1 : Nat) : Int) := by omega
    subst this
    unfold lfN; rw [if_neg (by rw [h]; decide)]
theorem lf_zero {sz : Int} {os : List Ob} {b : Bl} (h0 : b.o = 0) (h : metB sz os b = true) : lfB sz os b = [] := by
  obtain ⟨p, o⟩ := b
  simp only at h0
  subst h0
  show lfN sz os 0 p = []
  unfold lfN; rw [if_pos h]
theorem lf_split {sz : Int} {os : List Ob} {b : Bl} (h0 : 0 < b.o) (h : metB sz os b = true) : lfB sz os b = lfB sz os ⟨b.p, b.o - 1⟩ ++ lfB sz os ⟨b.p + pw (b.o - 1), b.o - 1⟩ := by
  obtain ⟨p, o⟩ := b
  simp only at h0 h ⊢
  obtain ⟨k, rfl⟩ : ∃ k : Nat, o = ((k + 1 : Nat) : Int) := ⟨o.toNat - 1, by omega⟩
  unfold lfB
  simp only
  have e1 : ((k + 1 : Nat) : Int).toNat = k + 1 := by omega
  have e2 : (((k + 1 : Nat) : Int) - 1) = (k : Int) := by omega
  rw [e1, e2, Int.toNat_natCast]
  conv => lhs; unfold lfN
  rw [if_pos h]
theorem wt_split {b : Bl} (h0 : 0 < b.o) (q : Int) : wtB ⟨b.p, b.o - 1⟩ + wtB ⟨q, b.o - 1⟩ + 1 = wtB b := by
  obtain ⟨p, o⟩ := b
  unfold wtB
  simp only at h0 ⊢
  have e : o.toNat = (o - 1).toNat + 1 := by omega
  rw [e, Nat.pow_succ]
  have := Nat.two_pow_pos (o - 1).toNat
  omega
theorem SubRow.head {e : TypeId} {c n : Nat} {v : Value} {xs ys : List Value} {R : List Blk} (h : SubRow e c v (n + 1) (xs ++ ys) R) (hx : xs.length = c) (h0 : 0 < c) : ∃ g off cap pre, v = .slice (some ⟨g, off, none⟩) (n + 1) cap ∧ n + 1 ≤ cap ∧ cap ≤ maxLen ∧ R = [⟨g, pre ++ (xs ++ ys), e, off + cap * c⟩] ∧ pre.length = off ∧
    (cap ≠ 1 → SubRow e c (.slice (some ⟨g, off + c, none⟩) n (cap - 1)) n ys R) ∧ (cap = 1 → n = 0 ∧ ys = []) := by
  obtain ⟨hl, ⟨h0, _⟩ | ⟨g, off, cap, pre, hv, h1, h2, h3, hr⟩⟩ := h
  · omega
  · rw [List.length_append, hx, Nat.succ_mul] at hl
    refine ⟨g, off, cap, pre, hv, h1, h2, hr, h3, fun hc => ⟨by omega, .inr ⟨g, off + c, cap - 1, pre ++ xs, rfl, by omega, by omega, by rw [List.length_append, h3, hx], ?_⟩⟩, fun hc => ?_⟩
    · rw [hr, List.append_assoc]
      congr 2
      have : cap * c = (cap - 1) * c + c := by
        obtain ⟨m, rfl⟩ : ∃ m, cap = m + 1 := ⟨cap - 1, by omega⟩
        rw [Nat.succ_mul, Nat.add_sub_cancel]
      omega
    · have hn : n = 0 := by omega
      subst hn
      exact ⟨rfl, List.eq_nil_of_length_eq_zero (by simpa using hl)⟩
def LeftPost (B : Nat) (w0 : World) (l : List Bl) (L : List Blk) (e : Ending) (w' : World) : Prop := ∃ v R, e = .returned v ∧ OwnRow 150 2 v l.length (l.flatMap blV) R ∧ Hp B w0 w' (R ++ L)
end Go.Proofs.YtcjbepaclbhjaaaGreat
