/- Parts of the proof. -/
import Derived.Test.YtcjbepaclbhjaaaGreatKe1
import Derived.Test.YtcjbepaclbhjaaaGreatKe0
import Derived.LoopTactic
import Derived.Lib.Hide
import Derived.Test.YtcjbepaclbhjaaaGreatRows
import Derived.Deep.LoopGhost
open List renaming set_cons_zero → zSet, set_cons_succ → sSet
/- Texts merged: buddy:BSpec buddy:BTypes buddy:BSame buddy:BMay buddy:BMay2 buddy:BTwin buddy:BCheck buddy:BRoom buddy:BSmall buddy:BBs buddy:BRight buddy:BBest buddy:BAll. -/
set_option linter.unusedSimpArgs false
set_option linter.unusedVariables false
namespace Go.Proofs.YtcjbepaclbhjaaaGreat
structure Bl where
  p : Int
  o : Int
  deriving DecidableEq
def blV (x : Bl) : List Value := [.int .i64 x.p, .int .i64 x.o]
theorem blV_len (x : Bl) : (blV x).length = 2 := rfl
def pw (o : Int) : Int := (2 : Int) ^ o.toNat
theorem pw_pos (o : Int) : 1 ≤ pw o := by
  unfold pw
  have := Int.pow_pos (n := 2) (m := o.toNat) (by omega)
  omega
theorem pw_cases {o : Int} (h0 : 0 ≤ o) (h8 : o ≤ 8) : o = 0 ∨ o = 1 ∨ o = 2 ∨ o = 3 ∨ o = 4 ∨ o = 5 ∨ o = 6 ∨ o = 7 ∨ o = 8 := by omega
theorem pw_le {o : Int} (h8 : o ≤ 8) : pw o ≤ 256 := by
  rcases Int.le_total 0 o with h | h
  · rcases pw_cases h h8 with rfl | rfl | rfl | rfl | rfl | rfl | rfl | rfl | rfl <;> decide
  · have : o.toNat = 0 := by omega
    unfold pw; rw [this]; decide
theorem pw_succ {o : Int} (h : 0 ≤ o) : pw (o + 1) = 2 * pw o := by
  unfold pw
  have : (o + 1).toNat = o.toNat + 1 := by omega
  rw [this, Int.pow_succ]; omega
theorem pw_low {o : Int} (h : o ≤ 0) : pw o = 1 := by
  have : o.toNat = 0 := by omega
  unfold pw; rw [this]; decide
def MayP (order : Int) (x : Bl) : Prop := 0 ≤ x.o ∧ x.o ≤ order ∧ 0 ≤ x.p ∧ x.p ≤ pw order - pw x.o ∧ x.p % pw x.o = 0
instance (order : Int) (x : Bl) : Decidable (MayP order x) := by unfold MayP; infer_instance
def twinP (x : Bl) : Bl := if x.p % (2 * pw x.o) = 0 then ⟨x.p + pw x.o, x.o⟩ else ⟨x.p - pw x.o, x.o⟩
def Pair (order : Int) (x y : Bl) : Prop := x.p + pw x.o ≤ y.p ∧ ¬ (y.o < order ∧ twinP y = x)
def Good (order : Int) (l : List Bl) : Prop := ∀ i y, l[i]? = some y → MayP order y ∧ ∀ (k : Nat) x, k < i → l[k]? = some x → Pair order x y
def regionB (order : Int) : Bool := decide (3 ≤ order ∧ order ≤ 8)
open Classical in
noncomputable def rightB (order : Int) (l : List Bl) : Bool := regionB order && decide (Good order l)
theorem Good.take {order : Int} {l : List Bl} (h : Good order l) (n : Nat) : Good order (l.take n) := by
  intro i y hi
  rw [List.getElem?_take] at hi
  split at hi
  · obtain ⟨h1, h2⟩ := h i y hi
    refine ⟨h1, fun k x hk hx => ?_⟩
    rw [List.getElem?_take, if_pos (by omega)] at hx
    exact h2 k x hk hx
  · cases hi
theorem Good.nil (order : Int) : Good order [] := by intro i y h; simp at h
theorem Good.snoc {order : Int} {l : List Bl} {n : Nat} {y : Bl} (hy : l[n]? = some y) : Good order (l.take (n + 1)) ↔ Good order (l.take n) ∧ MayP order y ∧ ∀ (k : Nat) x, k < n → l[k]? = some x → Pair order x y := by
  constructor
  · intro h
    refine ⟨?_, ?_⟩
    · have := h.take n
      rw [List.take_take, Nat.min_eq_left (by omega)] at this
      exact this
    · obtain ⟨h1, h2⟩ := h n y (by rw [List.getElem?_take, if_pos (by omega)]; exact hy)
      exact ⟨h1, fun k x hk hx => h2 k x hk (by rw [List.getElem?_take, if_pos (by omega)]; exact hx)⟩
  · rintro ⟨h1, h2, h3⟩ i z hi
    rw [List.getElem?_take] at hi
    split at hi
    · by_cases hin : i = n
      · subst hin
        rw [hy] at hi
        cases hi
        refine ⟨h2, fun k x hk hx => ?_⟩
        rw [List.getElem?_take] at hx
        split at hx
        · exact h3 k x hk hx
        · cases hx
      · obtain ⟨h4, h5⟩ := h1 i z (by rw [List.getElem?_take, if_pos (by omega)]; exact hi)
        refine ⟨h4, fun k x hk hx => h5 k x hk ?_⟩
        rw [List.getElem?_take] at hx ⊢
        rw [if_pos (by omega)] at hx
        rw [if_pos (by omega)]; exact hx
    · cases hi
theorem MayP.end_le {order : Int} {x : Bl} (h : MayP order x) : x.p + pw x.o ≤ pw order := by have := h.2.2.2.1; omega
theorem Good.long {order : Int} {l : List Bl} (h : Good order l) : ∀ (i : Nat) y, l[i]? = some y → (i : Int) ≤ y.p := by
  intro i
  induction i with
  | zero => intro y hy; have := (h 0 y hy).1.2.2.1; omega
  | succ i ih =>
    intro y hy
    have hlt : i + 1 < l.length := (List.getElem?_eq_some_iff.1 hy).1
    have hx : l[i]? = some l[i] := List.getElem?_eq_getElem (by omega)
    have h1 := ih _ hx
    have h2 := ((h (i + 1) y hy).2 i _ (by omega) hx).1
    have h3 := pw_pos l[i].o
    omega
theorem Good.len {order : Int} {l : List Bl} (h : Good order l) (h0 : 3 ≤ order) : (l.length : Int) ≤ pw order := by
  rcases Nat.eq_zero_or_pos l.length with hl | hl
  · have := pw_pos order; omega
  · have hx : l[l.length - 1]? = some l[l.length - 1] := List.getElem?_eq_getElem (by omega)
    have h1 := h.long _ _ hx
    have h2 := (h _ _ hx).1.end_le
    have h3 := pw_pos l[l.length - 1].o
    omega
theorem Good.step {order : Int} {l : List Bl} {n : Nat} {y z : Bl} (hg : Good order (l.take (n + 1))) (hz : l[n]? = some z) (hm : MayP order y) (he : z.p + pw z.o ≤ y.p) (ht : ¬ (y.o < order ∧ twinP y = z)) :
    ∀ (k : Nat) x, k < n + 1 → l[k]? = some x → Pair order x y := by
  obtain ⟨_, _, h3⟩ := (Good.snoc hz).1 hg
  intro k x hk hx
  by_cases hkn : k = n
  · subst hkn
    rw [hz] at hx; cases hx
    exact ⟨he, ht⟩
  · have h4 := (h3 k x (by omega) hx).1
    have h5 := pw_pos z.o
    have h7 := pw_pos y.o
    refine ⟨by omega, ?_⟩
    rintro ⟨_, h6⟩
    subst h6
    unfold twinP at h4
    split at h4 <;> simp only at h4 <;> omega
end Go.Proofs.YtcjbepaclbhjaaaGreat
namespace Go.Proofs.YtcjbepaclbhjaaaGreat
open Go.RowKit
theorem info150 : (Tryz.prog.info? 150).map (fun i => (i.zero, i.size, i.bytes)) = some (some (.agg #[.int .i64 0, .int .i64 0]), 2, 16) := by kernel_rfl
theorem ret_bool {a b : Bool} (h : a = b) : Ending.returned (.bool a) = .returned (.bool b) := by rw [h]
theorem ret_int {k : IntKind} {a b : Int} (h : a = b) : Ending.returned (.int k a) = .returned (.int k b) := by rw [h]
theorem pw8 : pw 8 = 256 := by decide
set_option maxHeartbeats 400000 in
theorem region155 (o : Int) (w : World) : Calls Tryz.prog 155 #[.int .i64 o] w fun e w' => e = .returned (.bool (regionB o)) ∧ w = w' := by
  go_enter Tryz.func155, Tryz.ntmps155
  go_wp2
  all_goals go_ret
  all_goals refine ⟨ret_bool ?_, rfl⟩
  all_goals simp [regionB]
  all_goals omega
set_option maxHeartbeats 400000 in
theorem region113 (o : Int) (w : World) : Calls Tryz.prog 113 #[.int .i64 o] w fun e w' => e = .returned (.bool (regionB o)) ∧ w = w' := by
  go_enter Tryz.func113, Tryz.ntmps113
  go_wp2
  all_goals go_ret
  all_goals refine ⟨ret_bool ?_, rfl⟩
  all_goals simp [regionB]
  all_goals omega
set_option maxHeartbeats 1000000 in
theorem words133 (o : Int) (h0 : 0 ≤ o) (h8 : o ≤ 8) (w : World) : Calls Tryz.prog 133 #[.int .i64 o] w fun e w' => e = .returned (.int .i64 (pw o)) ∧ w = w' := by
  rcases pw_cases h0 h8 with rfl | rfl | rfl | rfl | rfl | rfl | rfl | rfl | rfl
  all_goals
    clear h0 h8
    go_enter Tryz.func133, Tryz.ntmps133
    go_wp2
    go_ret
    exact ⟨ret_int (by decide), rfl⟩
set_option maxHeartbeats 1000000 in
theorem size142 (o : Int) (h8 : o ≤ 8) (w : World) : Calls Tryz.prog 142 #[.int .i64 o] w fun e w' => e = .returned (.int .i64 (pw o)) ∧ w = w' := by
  go_enter Tryz.func142, Tryz.ntmps142
  go_wp2
  go_loop [3, 4] (fun n i => ∃ k : Int, 0 ≤ k ∧ (k ≤ o ∨ k = 0) ∧ i = .int .i64 k ∧ n = .int .i64 (pw k)) (fun _ i => (o - intOf i).toNat)
  case atStart => exact ⟨0, by omega, by omega, rfl, rfl⟩
  case round =>
    obtain ⟨k, h0, hk, rfl, rfl⟩ := hrel
    have h1 := pw_pos k
    have h2 := pw_le (o := k) (by omega)
    by_cases hlt : k < o
    · have hs := Lib.hid (pw_succ h0)
      go_wp2
      go_round
      case rel => exact ⟨k + 1, by omega, by omega, rfl, by rw [hs.out]⟩
      case measure => simp [intOf]; omega
    · have he := Lib.hid (show pw k = pw o by
        rcases hk with hk | hk
        · rw [show k = o by omega]
        · subst hk; rw [pw_low (show o ≤ 0 by omega)]; decide)
      go_wp2
      go_ret
      exact ⟨ret_int he.out, rfl⟩
end Go.Proofs.YtcjbepaclbhjaaaGreat
namespace Go.Proofs.YtcjbepaclbhjaaaGreat
open Go.RowKit
theorem lit_len (l : List Bl) : (l.flatMap blV).length = l.length * 2 := flat_len blV 2 blV_len l
def AllPost (w : World) (order : Int) (e : Ending) (w' : World) : Prop := ∃ b, e = .returned (.tuple #[.slice (some ⟨b, 0, none⟩) 1 1, .int .i64 0]) ∧ Fresh w w' ⟨b, [.int .i64 0, .int .i64 order], 150, 2⟩ ∧ Below w.heap.size w w'
set_option maxRecDepth 100000 in
set_option maxHeartbeats 4000000 in
theorem all127_no (o : Int) (h : regionB o = false) (w : World) : Calls Tryz.prog 127 #[.int .i64 o] w fun e w' => e = .returned (.tuple #[.slice none 0 0, .int .i64 1]) ∧ Below w.heap.size w w' := by
  have k := region155 o
  rw [h] at k
  have K := Lib.hid k
  clear k h
  go_enter Tryz.func127, Tryz.ntmps127
  go_wp2_with (go_at_call 155; refine (K.out _).mono ?_; rintro e w' ⟨rfl, rfl⟩)
  go_ret2
  exact ⟨rfl, Below.refl _ _⟩
set_option maxRecDepth 100000 in
set_option maxHeartbeats 4000000 in
theorem all127_yes (o : Int) (h : regionB o = true) (w : World) : Calls Tryz.prog 127 #[.int .i64 o] w (AllPost w o) := by
  have k := region155 o
  rw [h] at k
  have K := Lib.hid k
  clear k h
  have hp := Hp.start w
  go_enter Tryz.func127, Tryz.ntmps127
  go_wp2_with (first | (go_at_call 155; refine (K.out _).mono ?_; rintro e w' ⟨rfl, rfl⟩) | go_skip | (first | (refine hA0 ?_; clear hp; intro b w1 hp) | refine hL0 ?_ | (refine hS0 ?_; clear hp; intro w1 hp)))
  go_ret2
  exact ⟨_, rfl, hp.fresh at0, hp.below⟩
end Go.Proofs.YtcjbepaclbhjaaaGreat
namespace Go.Proofs.YtcjbepaclbhjaaaGreat
open Go.RowKit
theorem and_pw {p o : Int} (h0 : 0 ≤ p) (h1 : p ≤ 256) (h2 : 0 ≤ o) (h3 : o ≤ 8) : bits .and .i64 p (pw o - 1) = p % pw o := by
  have : ∀ (a : Fin 257) (b : Fin 9), bits .and .i64 (a.val : Int) (pw (b.val : Int) - 1) = (a.val : Int) % pw (b.val : Int) := by decide +kernel
  have := this ⟨p.toNat, by omega⟩ ⟨o.toNat, by omega⟩
  simpa [Int.toNat_of_nonneg h0, Int.toNat_of_nonneg h2] using this
def mayB (order p o : Int) : Bool := decide (MayP order ⟨p, o⟩)
theorem ways (order p o : Int) (h8 : order ≤ 8) :
    (decide (0 ≤ o) = false ∧ mayB order p o = false) ∨ (0 ≤ o ∧ decide (o ≤ order) = false ∧ mayB order p o = false) ∨
    (0 ≤ o ∧ o ≤ order ∧ decide (0 ≤ p) = false ∧ mayB order p o = false) ∨
    (0 ≤ o ∧ o ≤ order ∧ 0 ≤ p ∧ decide (p ≤ pw order - pw o) = false ∧ wrap64 (pw order - pw o) = pw order - pw o ∧ mayB order p o = false) ∨
    (0 ≤ o ∧ o ≤ order ∧ 0 ≤ p ∧ p ≤ pw order - pw o ∧ wrap64 (pw order - pw o) = pw order - pw o ∧ wrap64 (pw o - 1) = pw o - 1 ∧ bits .and .i64 p (pw o - 1) = p % pw o ∧ mayB order p o = (p % pw o == 0)) := by
  have l1 := pw_le (o := order) h8
  have l2 := pw_pos o
  have l3 := pw_pos order
  by_cases g1 : 0 ≤ o
  · by_cases g2 : o ≤ order
    · have l4 := pw_le (o := o) (by omega)
      have w1 : wrap64 (pw order - pw o) = pw order - pw o := by unfold wrap64; omega
      have w2 : wrap64 (pw o - 1) = pw o - 1 := by unfold wrap64; omega
      by_cases g3 : 0 ≤ p
      · by_cases g4 : p ≤ pw order - pw o
        · refine .inr (.inr (.inr (.inr ⟨g1, g2, g3, g4, w1, w2, and_pw g3 (by omega) g1 (by omega), ?_⟩)))
          rw [Bool.eq_iff_iff]; simp [mayB, MayP, g1, g2, g3, g4]
        · exact .inr (.inr (.inr (.inl ⟨g1, g2, g3, by simp [g4], w1, by simp [mayB, MayP, g4]⟩)))
      · exact .inr (.inr (.inl ⟨g1, g2, by simp [g3], by simp [mayB, MayP, g3]⟩))
    · exact .inr (.inl ⟨g1, by simp [g2], by simp [mayB, MayP, g2]⟩)
  · exact .inl ⟨by simp [g1], by simp [mayB, MayP, g1]⟩
set_option maxRecDepth 100000 in
set_option maxHeartbeats 4000000 in
theorem may159 (order : Int) (h3 : 3 ≤ order) (h8 : order ≤ 8) (p o : Int) (w : World) :
    Calls Tryz.prog 159 #[.int .i64 order, .agg #[.int .i64 p, .int .i64 o]] w fun e w' => e = .returned (.bool (mayB order p o)) ∧ Below w.heap.size w w' := by
  have hp := Hp.start w
  have W9 := Lib.hid (ways order p o h8)
  go_enter Tryz.func159, Tryz.ntmps159
  go_wp2_with (first | go_skip | (first | (refine hA1 ?_; clear hp; intro b w1 hp) | refine hL0 ?_ | (refine hS0 ?_; clear hp; intro w1 hp)))
  refine wp_region_keeps _ (Keeps.all hp.drew) [] [(0, true), (1, true), (2, true), (3, true), (4, true), (5, true), (6, true), (7, true), (8, true), (9, true), (10, true), (11, true), (12, true), (13, true), (14, true), (15, true), (16, true), (17, true), (19, true), (20, true), (18, false), (21, false), (22, true), (23, true), (24, true), (25, true), (26, true), (27, true), (28, true), (29, true), (30, false), (31, true), (32, true), (33, true), (34, true), (35, false)] (by kernel_rfl) (by kernel_rfl) rfl (by kernel_rfl) (fun _ _ d _ _ h => by cases d <;> exact h) ?_
  replace hp := hp.drew
  rcases W9.out with ⟨d1, r⟩ | ⟨d1, d2, r⟩ | ⟨d1, d2, d3, r⟩ | ⟨d1, d2, d3, d4, w1, r⟩ | ⟨d1, d2, d3, d4, w1, w2, w3, r⟩
  all_goals have R := Lib.hid r
  all_goals clear r W9
  all_goals
    repeat' (with_reducible refine plan_is ?_); first | (with_reducible refine plan_nil ?_) | refine tk0 ?_ | (refine plan_do rfl (fun K hK => ?_); go_wp2_with (first | (go_at_call 133; refine (words133 _ (by omega) (by omega) _).mono ?_; rintro e w' ⟨rfl, rfl⟩) | go_skip); (refine hK.out _ _ (.inr (kall hp)) ?_); clear hK K; try simp only [put_some, put_none, eval_tmp, eval_const, sSet, zSet, List.getD_cons_succ, List.getD_cons_zero, wrap_eq])
  all_goals (go_wp2_with fail; go_ret; exact ⟨ret_bool (by rw [R.out]; try rfl), hp.below⟩)
end Go.Proofs.YtcjbepaclbhjaaaGreat
namespace Go.Proofs.YtcjbepaclbhjaaaGreat
open Go.RowKit
theorem ways2 (order p o : Int) (h8 : order ≤ 8) :
    (decide (o < 0) = true ∧ mayB order p o = false) ∨ (decide (o < 0) = false ∧ decide (order < o) = true ∧ mayB order p o = false) ∨
    (decide (o < 0) = false ∧ decide (order < o) = false ∧ decide (p < 0) = true ∧ mayB order p o = false) ∨
    (decide (o < 0) = false ∧ decide (order < o) = false ∧ decide (p < 0) = false ∧ decide (pw order - pw o < p) = true ∧ wrap64 (pw order - pw o) = pw order - pw o ∧ o ≤ 8 ∧ mayB order p o = false) ∨
    (decide (o < 0) = false ∧ decide (order < o) = false ∧ decide (p < 0) = false ∧ decide (pw order - pw o < p) = false ∧ wrap64 (pw order - pw o) = pw order - pw o ∧ o ≤ 8 ∧ p.tmod (pw o) = p % pw o ∧ pw o ≠ 0 ∧ mayB order p o = (p % pw o == 0)) := by
  rcases ways order p o h8 with ⟨d1, r⟩ | ⟨d1, d2, r⟩ | ⟨d1, d2, d3, r⟩ | ⟨d1, d2, d3, d4, w1, r⟩ | ⟨d1, d2, d3, d4, w1, w2, w3, r⟩
  · left; simp at d1; exact ⟨by simp; omega, r⟩
  · right; left; simp at d2; exact ⟨by simp; omega, by simp; omega, r⟩
  · right; right; left; simp at d3; exact ⟨by simp; omega, by simp; omega, by simp; omega, r⟩
  · right; right; right; left; simp at d4; exact ⟨by simp; omega, by simp; omega, by simp; omega, by simp; omega, w1, by omega, r⟩
  · have := pw_pos o
    right; right; right; right; exact ⟨by simp; omega, by simp; omega, by simp; omega, by simp; omega, w1, by omega, Int.tmod_eq_emod_of_nonneg d3, by omega, r⟩
set_option maxRecDepth 100000 in
set_option maxHeartbeats 4000000 in
theorem may145 (order : Int) (h8 : order ≤ 8) (p o : Int) (w : World) :
    Calls Tryz.prog 145 #[.int .i64 order, .agg #[.int .i64 p, .int .i64 o]] w fun e w' => e = .returned (.bool (mayB order p o)) ∧ Below w.heap.size w w' := by
  have hp := Hp.start w
  have W9 := Lib.hid (ways2 order p o h8)
  go_enter Tryz.func145, Tryz.ntmps145
  go_wp2_with (first | go_skip | (first | (refine hA1 ?_; clear hp; intro b w1 hp) | refine hL0 ?_ | (refine hS0 ?_; clear hp; intro w1 hp)))
  refine wp_region_keeps _ (Keeps.all hp.drew) [] [(0, true), (1, true), (2, true), (3, true), (4, true), (5, true), (6, true), (7, true), (8, true), (9, true), (10, true), (11, true), (12, true), (13, true), (14, true), (15, true), (16, true), (17, true), (19, true), (20, true), (18, false), (21, false), (22, true), (23, true), (24, true)] (by kernel_rfl) (by kernel_rfl) rfl (by kernel_rfl) (fun _ _ d _ _ h => by cases d <;> exact h) ?_
  replace hp := hp.drew
  rcases W9.out with ⟨d1, r⟩ | ⟨d1, d2, r⟩ | ⟨d1, d2, d3, r⟩ | ⟨d1, d2, d3, d4, w1, h1, r⟩ | ⟨d1, d2, d3, d4, w1, h1, w2, w3, r⟩
  all_goals have R := Lib.hid r
  all_goals clear r W9
  all_goals
    repeat' (with_reducible refine plan_is ?_); first | (with_reducible refine plan_nil ?_) | refine tk0 ?_ | (refine plan_do rfl (fun K hK => ?_); go_wp2_with (first | (go_at_call 142; refine (size142 _ (by omega) _).mono ?_; rintro e w' ⟨rfl, rfl⟩) | go_skip); (refine hK.out _ _ (.inr (kall hp)) ?_); clear hK K; try simp only [put_some, put_none, eval_tmp, eval_const, sSet, zSet, List.getD_cons_succ, List.getD_cons_zero, wrap_eq])
  case inr.inr.inr.inr =>
    go_wp2_with fail
    refine wp_region_keeps _ (Keeps.all hp.drew) [] [(0, true), (1, true), (2, true), (3, true), (4, false), (5, true), (6, true), (7, false)] (by kernel_rfl) (by kernel_rfl) rfl (by kernel_rfl) (fun _ _ d _ _ h => by cases d <;> exact h) ?_
    replace hp := hp.drew
    repeat' (with_reducible refine plan_is ?_); first | (with_reducible refine plan_nil ?_) | refine tk1 ?_ | (refine plan_do rfl (fun K hK => ?_); go_wp2_with (first | (go_at_call 142; refine (size142 _ (by omega) _).mono ?_; rintro e w' ⟨rfl, rfl⟩) | go_skip); (refine hK.out _ _ (.inr (kall hp)) ?_); clear hK K; try simp only [put_some, put_none, eval_tmp, eval_const, sSet, zSet, List.getD_cons_succ, List.getD_cons_zero, wrap_eq])
    go_wp2_with fail
    go_ret
    exact ⟨ret_bool (by rw [R.out]; try rfl), hp.below⟩
  all_goals (go_wp2_with fail; go_ret; exact ⟨ret_bool (by rw [R.out]; try rfl), hp.below⟩)
end Go.Proofs.YtcjbepaclbhjaaaGreat
namespace Go.Proofs.YtcjbepaclbhjaaaGreat
open Go.RowKit
def twP (p o : Int) : Int := (twinP ⟨p, o⟩).p
theorem twinP_eq (p o : Int) : twinP ⟨p, o⟩ = ⟨twP p o, o⟩ := by unfold twP twinP; split <;> rfl
theorem twP_eq (p o : Int) : twP p o = if p % (2 * pw o) = 0 then p + pw o else p - pw o := by unfold twP twinP; split <;> rfl
theorem xor_pw {p o : Int} (h0 : 0 ≤ p) (h1 : p ≤ 256) (h2 : 0 ≤ o) (h3 : o ≤ 8) (h4 : p % pw o = 0) : bits .xor .i64 p (pw o) = twP p o := by
  have : ∀ (a : Fin 257) (b : Fin 9), (a.val : Int) % pw (b.val : Int) = 0 → bits .xor .i64 (a.val : Int) (pw (b.val : Int)) = twP (a.val : Int) (b.val : Int) := by decide +kernel
  have := this ⟨p.toNat, by omega⟩ ⟨o.toNat, by omega⟩
  simp only [Int.toNat_of_nonneg h0, Int.toNat_of_nonneg h2] at this
  exact this h4
set_option maxRecDepth 100000 in
set_option maxHeartbeats 4000000 in
theorem twin160 (p o : Int) (h0 : 0 ≤ p) (h1 : p ≤ 256) (h2 : 0 ≤ o) (h3 : o ≤ 8) (h4 : p % pw o = 0) (w : World) :
    Calls Tryz.prog 160 #[.agg #[.int .i64 p, .int .i64 o]] w fun e w' => e = .returned (.agg #[.int .i64 (twP p o), .int .i64 o]) ∧ Below w.heap.size w w' := by
  have hp := Hp.start w
  have hx := xor_pw h0 h1 h2 h3 h4
  clear h4
  go_enter Tryz.func160, Tryz.ntmps160
  go_wp2_with (first | go_skip | (first | (refine hA1 ?_; clear hp; intro b w1 hp) | refine hL0 ?_ | (refine hS0 ?_; clear hp; intro w1 hp)))
  refine wp_region_keeps [_] (Keeps.one hp.drew at1) [9] [(0, true), (1, true), (2, true), (3, true), (6, true), (7, true), (4, false), (5, true), (8, true), (9, false)] (by kernel_rfl) (by kernel_rfl) rfl (by kernel_rfl) (fun _ _ d _ _ h => by cases d <;> exact h) ?_
  replace hp := hp.drew
  repeat' (with_reducible refine plan_is ?_); first | (with_reducible refine plan_nil ?_) | refine tk1 ?_ | (refine plan_do rfl (fun K hK => ?_); go_wp2_with (first | (go_at_call 133; refine (words133 _ (by omega) (by omega) _).mono ?_; rintro e w' ⟨rfl, rfl⟩) | go_skip | (refine hS0 ?_; clear hp; intro w1 hp)); (first | refine hK.out _ _ (.inl rfl) ?_ | refine hK.out _ _ (.inr (Keeps.one hp aa5)) ?_); clear hK K; try simp only [put_some, put_none, eval_tmp, eval_const, sSet, zSet, List.getD_cons_succ, List.getD_cons_zero, wrap_eq])
  go_wp2_with fail
  exact bodyPost_ret (results_one (rs := [.cell 2 150]) Tryz.results160 (.cell rfl (hp.loadAgg agg150 at0 0 _ (by rfl) (by rfl)) .nil)) rfl ⟨rfl, hp.below⟩
set_option maxRecDepth 100000 in
set_option maxHeartbeats 4000000 in
theorem twin165 (p o : Int) (h0 : 0 ≤ p) (h1 : p ≤ 256) (h3 : o ≤ 8) (w : World) :
    Calls Tryz.prog 165 #[.agg #[.int .i64 p, .int .i64 o]] w fun e w' => e = .returned (.agg #[.int .i64 (twP p o), .int .i64 o]) ∧ Below w.heap.size w w' := by
  have hp := Hp.start w
  have l1 := pw_pos o
  have l2 := pw_le h3
  by_cases hq : p % (2 * pw o) = 0
  · have R : RowKit.Hid (twP p o = p + pw o) := Lib.hid (by rw [twP_eq, if_pos hq])
    go_enter Tryz.func165, Tryz.ntmps165
    go_wp2_with (first | (go_at_call 142; refine (size142 _ (by omega) _).mono ?_; rintro e w' ⟨rfl, rfl⟩) | go_skip | (first | (refine hA1 ?_; clear hp; intro b w1 hp) | refine hL0 ?_ | (refine hS0 ?_; clear hp; intro w1 hp)))
    rw [R.out]
    exact bodyPost_ret (results_one (rs := [.cell 2 150]) Tryz.results165 (.cell rfl (hp.loadAgg agg150 at0 0 _ (by rfl) (by rfl)) .nil)) rfl ⟨rfl, hp.below⟩
  · have R : RowKit.Hid (twP p o = p - pw o) := Lib.hid (by rw [twP_eq, if_neg hq])
    go_enter Tryz.func165, Tryz.ntmps165
    go_wp2_with (first | (go_at_call 142; refine (size142 _ (by omega) _).mono ?_; rintro e w' ⟨rfl, rfl⟩) | go_skip | (first | (refine hA1 ?_; clear hp; intro b w1 hp) | refine hL0 ?_ | (refine hS0 ?_; clear hp; intro w1 hp)))
    rw [R.out]
    exact bodyPost_ret (results_one (rs := [.cell 2 150]) Tryz.results165 (.cell rfl (hp.loadAgg agg150 at0 0 _ (by rfl) (by rfl)) .nil)) rfl ⟨rfl, hp.below⟩
def meetB (p o q r : Int) : Bool := decide (p < q + pw r) && decide (q < p + pw o)
theorem waysM (p o q r : Int) (h0 : 0 ≤ p) (h1 : p ≤ 256) (h2 : 0 ≤ q) (h3 : q ≤ 256) (h4 : o ≤ 8) (h5 : r ≤ 8) :
    wrap64 (q + pw r) = q + pw r ∧ wrap64 (p + pw o) = p + pw o ∧ ((decide (p < q + pw r) = false ∧ meetB p o q r = false) ∨ (decide (p < q + pw r) = true ∧ meetB p o q r = decide (q < p + pw o))) := by
  have l1 := pw_pos o
  have l2 := pw_le h4
  have l3 := pw_pos r
  have l4 := pw_le h5
  refine ⟨by unfold wrap64; omega, by unfold wrap64; omega, ?_⟩
  unfold meetB
  cases decide (p < q + pw r) <;> simp
set_option maxRecDepth 100000 in
set_option maxHeartbeats 4000000 in
theorem meet148 (p o q r : Int) (h0 : 0 ≤ p) (h1 : p ≤ 256) (h2 : 0 ≤ q) (h3 : q ≤ 256) (h4 : o ≤ 8) (h5 : r ≤ 8) (w : World) :
    Calls Tryz.prog 148 #[.agg #[.int .i64 p, .int .i64 o], .agg #[.int .i64 q, .int .i64 r]] w fun e w' => e = .returned (.bool (meetB p o q r)) ∧ Below w.heap.size w w' := by
  have hp := Hp.start w
  have W9 := Lib.hid (waysM p o q r h0 h1 h2 h3 h4 h5)
  go_enter Tryz.func148, Tryz.ntmps148
  go_wp2_with (first | go_skip | (first | (refine hA1 ?_; clear hp; intro b w1 hp) | refine hL0 ?_ | (refine hS0 ?_; clear hp; intro w1 hp)))
  refine wp_region_keeps _ (Keeps.all hp.drew) [] [(0, true), (1, true), (2, true), (3, true), (4, true), (5, true), (6, false), (7, true), (8, true), (9, true), (10, true), (11, true), (12, true), (13, true), (14, true), (15, true), (16, false), (17, true), (18, true), (19, true), (20, false)] (by kernel_rfl) (by kernel_rfl) rfl (by kernel_rfl) (fun _ _ d _ _ h => by cases d <;> exact h) ?_
  replace hp := hp.drew
  obtain ⟨w1, w2, W⟩ := W9.out
  rcases W with ⟨d1, r⟩ | ⟨d1, r⟩
  all_goals have R := Lib.hid r
  all_goals clear r W9
  all_goals
    repeat' (with_reducible refine plan_is ?_); first | (with_reducible refine plan_nil ?_) | refine tk0 ?_ | (refine plan_do rfl (fun K hK => ?_); go_wp2_with (first | (go_at_call 142; refine (size142 _ (by omega) _).mono ?_; rintro e w' ⟨rfl, rfl⟩) | go_skip); (refine hK.out _ _ (.inr (kall hp)) ?_); clear hK K; try simp only [put_some, put_none, eval_tmp, eval_const, sSet, zSet, List.getD_cons_succ, List.getD_cons_zero, wrap_eq])
  all_goals (go_wp2_with fail; go_ret; exact ⟨ret_bool (by rw [R.out]; try rfl), hp.below⟩)
end Go.Proofs.YtcjbepaclbhjaaaGreat
namespace Go.Proofs.YtcjbepaclbhjaaaGreat
open Go.RowKit
def ChkAt (order : Int) (l : List Bl) (j : Nat) (e p o : Int) : Prop := Good order (l.take j) ∧ ((j = 0 ∧ e = 0 ∧ p = -1 ∧ o = 0) ∨ ∃ i z, j = i + 1 ∧ l[i]? = some z ∧ z.p = p ∧ z.o = o ∧ e = p + pw o)
def errI (b : Bool) : Int := if b then 0 else 1
theorem rightB_yes {order : Int} {l : List Bl} (hr : regionB order = true) (h : Good order l) : rightB order l = true := by simp [rightB, hr, h]
theorem rightB_no {order : Int} {l : List Bl} (h : ¬ Good order l) : rightB order l = false := by simp [rightB, h]
theorem rightB_reg {order : Int} {l : List Bl} (h : regionB order = false) : rightB order l = false := by simp [rightB, h]
theorem mayB_may {order p o : Int} (h : mayB order p o = true) : MayP order ⟨p, o⟩ := by simpa [mayB] using h
theorem may_facts {order p o : Int} (h8 : order ≤ 8) (h : MayP order ⟨p, o⟩) : 0 ≤ p ∧ p ≤ 256 ∧ 0 ≤ o ∧ o ≤ 8 ∧ p % pw o = 0 ∧ p + pw o ≤ 256 := by
  obtain ⟨a, b, c, d, e⟩ := h
  simp only at a b c d e
  have := pw_le h8
  have := pw_pos o
  exact ⟨c, by omega, a, by omega, e, by omega⟩
theorem twP_nonneg {p o : Int} (h0 : 0 ≤ p) (h : p % pw o = 0) : 0 ≤ twP p o := by
  have := pw_pos o
  rw [twP_eq]
  split
  · omega
  · rename_i hn
    by_cases hlt : p < pw o
    · rw [Int.emod_eq_of_lt h0 hlt] at h
      subst h
      exact absurd (by simp) hn
    · omega
theorem chk_ways {order : Int} {l : List Bl} {j : Nat} {e lp lo p o : Int} (hr : regionB order = true) (h8 : order ≤ 8) (h : ChkAt order l j e lp lo) (hx : l[j]? = some ⟨p, o⟩) :
    (mayB order p o = false ∧ rightB order l = false) ∨
    (mayB order p o = true ∧ decide (p < e) = true ∧ rightB order l = false) ∨
    (mayB order p o = true ∧ decide (p < e) = false ∧ decide (o < order) = false ∧ 0 ≤ o ∧ o ≤ 8 ∧ wrap64 (p + pw o) = p + pw o ∧ ChkAt order l (j + 1) (p + pw o) p o) ∨
    (mayB order p o = true ∧ decide (p < e) = false ∧ decide (o < order) = true ∧ (0 ≤ p ∧ p ≤ 256 ∧ 0 ≤ o ∧ o ≤ 8 ∧ RowKit.Hid (p % pw o = 0)) ∧ (lp == twP p o) = false ∧ wrap64 (p + pw o) = p + pw o ∧ ChkAt order l (j + 1) (p + pw o) p o) ∨
    (mayB order p o = true ∧ decide (p < e) = false ∧ decide (o < order) = true ∧ (0 ≤ p ∧ p ≤ 256 ∧ 0 ≤ o ∧ o ≤ 8 ∧ RowKit.Hid (p % pw o = 0)) ∧ (lp == twP p o) = true ∧ (lo == o) = false ∧ wrap64 (p + pw o) = p + pw o ∧ ChkAt order l (j + 1) (p + pw o) p o) ∨
    (mayB order p o = true ∧ decide (p < e) = false ∧ decide (o < order) = true ∧ (0 ≤ p ∧ p ≤ 256 ∧ 0 ≤ o ∧ o ≤ 8 ∧ RowKit.Hid (p % pw o = 0)) ∧ (lp == twP p o) = true ∧ (lo == o) = true ∧ decide (0 ≤ lp) = true ∧ rightB order l = false) := by
  obtain ⟨hg, hs⟩ := h
  cases hm : mayB order p o
  · left
    refine ⟨rfl, rightB_no fun hG => ?_⟩
    have := (hG j _ hx).1
    simp [mayB, this] at hm
  right
  have hmay := mayB_may hm
  obtain ⟨f1, f2, f3, f4, f5, f6⟩ := may_facts h8 hmay
  have f7 := pw_pos o
  have hw : wrap64 (p + pw o) = p + pw o := by unfold wrap64; omega
  by_cases he : p < e
  · left
    refine ⟨rfl, by simp [he], rightB_no fun hG => ?_⟩
    rcases hs with ⟨rfl, rfl, _⟩ | ⟨i, z, rfl, hz, rfl, rfl, rfl⟩
    · omega
    · have := ((hG (i + 1) _ hx).2 i z (by omega) hz).1
      simp only at this
      omega
  right
  have hnext : ¬ (o < order ∧ lp = twP p o ∧ lo = o) → ChkAt order l (j + 1) (p + pw o) p o := by
    intro hno
    refine ⟨(Good.snoc hx).2 ⟨hg, hmay, ?_⟩, .inr ⟨j, _, rfl, hx, rfl, rfl, rfl⟩⟩
    rcases hs with ⟨rfl, _⟩ | ⟨i, z, rfl, hz, rfl, rfl, rfl⟩
    · intro k x hk; omega
    · refine Good.step hg hz hmay (by simp only; omega) ?_
      rintro ⟨h1, h2⟩
      rw [twinP_eq] at h2
      refine hno ⟨h1, ?_, ?_⟩ <;> rw [← h2]
  by_cases ho : o < order
  · by_cases h1 : lp = twP p o
    · by_cases h2 : lo = o
      · right; right; right
        refine ⟨rfl, by simp; omega, by simp [ho], ⟨f1, f2, f3, f4, Lib.hid f5⟩, by simp [h1], by simp [h2], ?_, rightB_no fun hG => ?_⟩
        · have := twP_nonneg f1 f5
          simp [h1, this]
        · rcases hs with ⟨rfl, _, h3, _⟩ | ⟨i, z, rfl, hz, rfl, rfl, rfl⟩
          · have := twP_nonneg f1 f5
            omega
          · refine ((hG (i + 1) _ hx).2 i z (by omega) hz).2 ⟨ho, ?_⟩
            rw [twinP_eq, ← h1]
            obtain ⟨zp, zo⟩ := z
            simp only at h2
            rw [h2]
      · right; right; left
        exact ⟨rfl, by simp; omega, by simp [ho], ⟨f1, f2, f3, f4, Lib.hid f5⟩, by simp [h1], by simp [h2], hw, hnext fun h => h2 h.2.2⟩
    · right; left
      exact ⟨rfl, by simp; omega, by simp [ho], ⟨f1, f2, f3, f4, Lib.hid f5⟩, by simp [h1], hw, hnext fun h => h1 h.2.1⟩
  · left
    exact ⟨rfl, by simp; omega, by simp; omega, f3, f4, hw, hnext fun h => ho h.1⟩
def ChkRel (order : Int) (l : List Bl) (w : World) (b6 k : Nat) (e i : Value) (wr : World) : Prop :=
  ∃ (j : Nat) (en lp lo : Int), k + j = l.length ∧ i = .int .i64 j ∧ e = .int .i64 en ∧ ChkAt order l j en lp lo ∧ Hp w.heap.size w wr [⟨b6, [.int .i64 lp, .int .i64 lo], 150, 2⟩]
set_option maxRecDepth 100000 in
set_option maxHeartbeats 8000000 in
theorem check131_reg (order : Int) (h3 : 3 ≤ order) (h8 : order ≤ 8) (l : List Bl) (a : Option Addr) (c : Nat) (hl : l.length ≤ 600) (w : World) (ha : RowIs w a (l.flatMap blV)) :
    Calls Tryz.prog 131 #[.int .i64 order, .slice a l.length c] w fun e w' => e = .returned (.int .i64 (errI (rightB order l))) ∧ Below w.heap.size w w' := by
  have hr : regionB order = true := by simp [regionB]; omega
  have K36 := Lib.hid (region155 order)
  rw [hr] at K36
  have HR := Lib.hid hr
  clear hr
  have hp := Hp.start w
  have HA := Lib.hid ha
  clear ha
  go_enter Tryz.func131, Tryz.ntmps131
  go_wp2_with (first | (go_at_call 155; refine (K36.out _).mono ?_; rintro e w' ⟨rfl, rfl⟩) | go_skip | (first | (refine hA1 ?_; clear hp; intro b w1 hp) | refine hL0 ?_ | (refine hS0 ?_; clear hp; intro w1 hp)))
  go_loopg [5, 15] l.length (fun k e i wr => ChkRel order l w b k e i wr)
  case atStart => exact ⟨0, 0, -1, 0, by omega, rfl, rfl, ⟨by simpa using Good.nil order, .inl ⟨rfl, rfl, rfl, rfl⟩⟩, hp⟩
  case round =>
    clear hp
    obtain ⟨j, en, lp, lo, hkj, rfl, rfl, hat, hp⟩ := hrel
    by_cases hlt : j < l.length
    · obtain ⟨bq, off, rfl, hx⟩ := HA.out.elems 2 blV_len (by omega) (by omega)
      have hj := List.getElem?_eq_getElem hlt
      replace hx := hx j _ hj
      generalize l[j] = x at hx hj
      obtain ⟨p, o⟩ := x
      simp only [blV] at hx
      have HX := Lib.hid hx
      have W9 := Lib.hid (chk_ways HR.out h8 hat hj)
      clear hx hj hat
      have e1 : (0 : Int) ≤ (j : Int) := by omega
      have e2 : (j : Int) < (l.length : Int) := by omega
      go_wp2_with (first | go_skip | (first | (refine hA1 ?_; clear hp; intro b w1 hp) | refine hL1 ?_ | (refine hS0 ?_; clear hp; intro w1 hp)))
      refine wp_region_keeps _ (Keeps.all hp.drew) [] [(0, true), (1, true), (2, false), (3, true), (4, true), (5, true), (6, true), (7, true), (8, true), (9, true), (10, true), (11, true), (12, true), (13, true), (14, true), (15, true), (16, true), (17, true), (18, false), (19, true), (20, true), (21, true), (22, true), (23, true), (24, true), (25, true), (26, true)] (by kernel_rfl) (by kernel_rfl) rfl (by kernel_rfl) (fun _ _ d _ _ h => by cases d <;> exact h) ?_
      replace hp := hp.drew
      rcases W9.out with ⟨d1, r⟩ | ⟨d1, d2, r⟩ | ⟨d1, d2, d3, f0, f1, fw, r⟩ | ⟨d1, d2, d3, f, d4, fw, r⟩ | ⟨d1, d2, d3, f, d4, d5, fw, r⟩ | ⟨d1, d2, d3, f, d4, d5, d6, r⟩
      all_goals have R := Lib.hid r
      all_goals clear r W9
      all_goals
        repeat' (with_reducible refine plan_is ?_); first | (with_reducible refine plan_nil ?_) | refine tk2 ?_ | (refine plan_do rfl (fun K hK => ?_); go_wp2_with (first | (go_at_call 159; refine (may159 _ h3 h8 _ _ _).mono ?_; rintro e w1 ⟨rfl, hb⟩; rw [d1]; replace hp := hp.call hb; clear hb) | (go_at_call 160; refine (twin160 _ _ f.1 f.2.1 f.2.2.1 f.2.2.2.1 f.2.2.2.2.out _).mono ?_; rintro e w1 ⟨rfl, hb⟩; replace hp := hp.call hb; clear hb) | go_skip); (refine hK.out _ _ (.inr (kall hp)) ?_); clear hK K; try simp only [put_some, put_none, eval_tmp, eval_const, sSet, zSet, List.getD_cons_succ, List.getD_cons_zero, wrap_eq])
      all_goals first
        | (go_wp2_with fail
           go_ret
           exact ⟨ret_int (by rw [R.out]; rfl), hp.below⟩)
        | (try obtain ⟨_, _, f0, f1, _⟩ := f
           go_wp2_with (first | go_skip | (first | (refine hA1 ?_; clear hp; intro b w1 hp) | refine hL0 ?_ | (refine hS0 ?_; clear hp; intro w1 hp)))
           refine wp_region_keeps [_, _] (Keeps.two hp.drew at0 at1) [8] [(0, true), (1, true), (2, true), (3, true), (6, true), (4, false), (5, true), (7, false), (8, false)] (by kernel_rfl) (by kernel_rfl) rfl (by kernel_rfl) (fun _ _ d _ _ h => by cases d <;> exact h) ?_
           replace hp := hp.drew
           repeat' (with_reducible refine plan_is ?_); first | (with_reducible refine plan_nil ?_) | refine tk3 ?_ | (refine plan_do rfl (fun K hK => ?_); go_wp2_with (first | (go_at_call 133; refine (words133 _ (by omega) (by omega) _).mono ?_; rintro e w' ⟨rfl, rfl⟩) | go_skip | (refine hS0 ?_; clear hp; intro w1 hp)); (first | refine hK.out _ _ (.inl rfl) ?_ | refine hK.out _ _ (.inr (Keeps.two hp aa5 aa5)) ?_); clear hK K; try simp only [put_some, put_none, eval_tmp, eval_const, sSet, zSet, List.getD_cons_succ, List.getD_cons_zero, wrap_eq])
           go_wp2_with fail
           go_roundg (gk - 1)
           case measure => omega
           case rel => exact ⟨j + 1, p + pw o, p, o, by omega, by go_num, by rw [fw], R.out, hp.tail⟩)
    · have e2 : decide ((j : Int) < (l.length : Int)) = false := by simp; omega
      have HG : RowKit.Hid (rightB order l = true) := Lib.hid (rightB_yes HR.out (by have := hat.1; rwa [List.take_of_length_le (by omega)] at this))
      clear hat
      go_wp2_with fail
      go_ret
      exact ⟨ret_int (by rw [HG.out]; rfl), hp.below⟩
theorem check131 (order : Int) (l : List Bl) (a : Option Addr) (c : Nat) (hl : l.length ≤ 600) (w : World) (ha : RowIs w a (l.flatMap blV)) :
    Calls Tryz.prog 131 #[.int .i64 order, .slice a l.length c] w fun e w' => e = .returned (.int .i64 (errI (rightB order l))) ∧ Below w.heap.size w w' := by
  cases hr : regionB order
  · rw [rightB_reg hr]
    have K36 := Lib.hid (region155 order)
    rw [hr] at K36
    clear hr ha
    go_enter Tryz.func131, Tryz.ntmps131
    go_wp2_with (go_at_call 155; refine (K36.out _).mono ?_; rintro e w' ⟨rfl, rfl⟩)
    go_ret
    exact ⟨rfl, Below.refl _ _⟩
  · have := hr
    simp only [regionB, decide_eq_true_eq] at this
    exact check131_reg order this.1 this.2 l a c hl w ha
end Go.Proofs.YtcjbepaclbhjaaaGreat
namespace Go.Proofs.YtcjbepaclbhjaaaGreat
open Go.RowKit
def greatB (l : List Bl) (want : Int) : Bool := l.any fun x => decide (want ≤ x.o)
theorem great_yes {l : List Bl} {want : Int} {j : Nat} {x : Bl} (h : l[j]? = some x) (hw : want ≤ x.o) : greatB l want = true := by
  unfold greatB
  exact List.any_eq_true.2 ⟨x, List.mem_of_getElem? h, by simp [hw]⟩
end Go.Proofs.YtcjbepaclbhjaaaGreat
namespace Go.Proofs.YtcjbepaclbhjaaaGreat
open Go.RowKit
theorem blsOne (l : List Bl) : (l.flatMap blV).all (·.oneCell') = true := by
  rw [List.all_eq_true]; intro u hu; obtain ⟨x, _, hx⟩ := List.mem_flatMap.1 hu; simp [blV] at hx; rcases hx with rfl | rfl <;> rfl
theorem nan99 (a : Int) (w : World) : Calls Tryz.prog 99 #[.int .i64 a] w fun e w' => e = .returned (.bool false) ∧ w = w' := by
  go_enter Tryz.func99, Tryz.ntmps99
  go_wp2
  go_ret
  exact ⟨rfl, rfl⟩
theorem cmp76 (a b : Int) (w : World) : Calls Tryz.prog 76 #[.int .i64 a, .int .i64 b] w fun e w' => e = .returned (.int .i64 (cmpI a b)) ∧ w = w' := by
  go_enter Tryz.func76, Tryz.ntmps76
  go_wp2_with (go_at_call 99; (with_reducible refine (nan99 _ _).mono ?_); rintro e w' ⟨rfl, rfl⟩)
  all_goals go_ret
  all_goals refine ⟨ret_int ?_, rfl⟩
  all_goals (simp [cmpI, *])
  all_goals omega
theorem eqn_nilBl (d : Nat) (n c : Nat) (w : World) : (Op.equalIn (d + 1) 81 (.slice none n c) (.slice none 0 0)).run Tryz.prog w = .ok true w := by
  rw [Op.equalIn]; simp [Sem.run_bind, run_underlying Tryz.underlying81]
theorem eqn_someBl (d : Nat) (a : Addr) (n c : Nat) (w : World) : (Op.equalIn (d + 1) 81 (.slice (some a) n c) (.slice none 0 0)).run Tryz.prog w = .ok false w := by
  rw [Op.equalIn]; simp [Sem.run_bind, run_underlying Tryz.underlying81]
theorem nil_eq81 (n c : Nat) (w : World) : (binOp .eql 81 (.slice none n c) (.slice none 0 0)).run Tryz.prog w = .ok (.bool true) w := by
  have h : (Op.equalIn 10000 81 (.slice none n c) (.slice none 0 0)).run Tryz.prog w = .ok true w := eqn_nilBl 9999 n c w
  simp only [binOp]
  simp [Op.equal, Op.maxDepth, h]
theorem some_eq81 (a : Addr) (n c : Nat) (w : World) : (binOp .eql 81 (.slice (some a) n c) (.slice none 0 0)).run Tryz.prog w = .ok (.bool false) w := by
  have h : (Op.equalIn 10000 81 (.slice (some a) n c) (.slice none 0 0)).run Tryz.prog w = .ok false w := eqn_someBl 9999 a n c w
  simp only [binOp]
  simp [Op.equal, Op.maxDepth, h]
def ClonePostBl (w : World) (n : Nat) (xs : List Value) (e : Ending) (w' : World) : Prop := ∃ v R, e = .returned v ∧ OwnRow 150 2 v n xs R ∧ Hp w.heap.size w w' R
set_option maxRecDepth 100000 in
set_option maxHeartbeats 4000000 in
theorem clone134 (a : Option Addr) (n c : Nat) (hn : n ≤ 2000) (xs : List Value) (hl : xs.length = n * 2) (h1 : xs.all (·.oneCell') = true) (w : World) (ha : RowIs w a xs) :
    Calls Tryz.prog 134 #[.slice a n c] w (ClonePostBl w n xs) := by
  obtain ⟨i0, hi0, hz0, hz1, hz2⟩ := info_parts info150
  have hp := Hp.start w
  cases a with
  | none =>
    have hn0 : n = 0 := by
      rcases Nat.eq_zero_or_pos n with h | h
      · exact h
      · obtain ⟨b, off, he, _⟩ := ha.addr (by omega)
        cases he
    subst hn0
    have hx : xs = [] := List.eq_nil_of_length_eq_zero (by simpa using hl)
    subst hx
    clear ha hl h1
    have hq := nil_eq81
    go_enter Tryz.func134, Tryz.ntmps134
    go_wp2
    go_ret
    exact ⟨_, [], rfl, OwnRow.nil _ _, hp⟩
  | some a =>
    have HA := Lib.hid ha
    have HL := Lib.hid hl
    have H1 := Lib.hid h1
    have sm1 : 0 + n ≤ maxLen := by unfold maxLen; omega
    have sm2 : (0 + n) * 16 ≤ 140737488355328 := by omega
    clear ha hl h1
    have hq := some_eq81
    go_enter Tryz.func134, Tryz.ntmps134
    go_wp2_with (first | ((with_reducible refine pre_build _ _ _ rfl ?_); refine wpList_buildSlice_hp hp _ _ _ rfl wy [] 150 (by intro w; go_simp; try rfl) ?_; clear hp; intro b w1 hp; simp only [put_some, put_none, sSet, zSet]) | ((with_reducible refine pre_append _ _ 81 rfl ?_); refine wpList_appendGrowRow (K := []) (R := [⟨b, [], 150, 0 * 2⟩]) (M := []) hp _ _ _ rfl wy i0 _ 16 Tryz.underlying81 hi0 hz0 hz1 hz2 rfl (by decide) (sTm rfl) ⟨rfl, .inr ⟨b, 0, rfl, Nat.le_refl _, Nat.zero_le _, rfl⟩⟩ (some a) n c (sTm rfl) xs HL.out (HA.out.below hp.below) H1.out sm1 sm2 ?_; clear hp; intro v' R' w1 hR' hp; have HR' := Lib.hid hR'; clear hR'; simp only [put_some, put_none, sSet, zSet]) | go_skip)
    go_ret
    exact ⟨v', R', rfl, by simpa using HR'.out, by simpa using hp⟩
end Go.Proofs.YtcjbepaclbhjaaaGreat
namespace Go.Proofs.YtcjbepaclbhjaaaGreat
open Go.RowKit
def AtB (l : List Bl) (t : Int) (k : Nat) : Prop := k ≤ l.length ∧ (∀ (j : Nat) y, l[j]? = some y → j < k → y.p < t) ∧ (∀ (j : Nat) y, l[j]? = some y → k ≤ j → t ≤ y.p)
def SortedB (l : List Bl) : Prop := ∀ (i j : Nat) x y, i < j → l[i]? = some x → l[j]? = some y → x.p < y.p
end Go.Proofs.YtcjbepaclbhjaaaGreat
namespace Go.Proofs.YtcjbepaclbhjaaaGreat
open Go.RowKit
theorem rgt_ways {order : Int} {l : List Bl} {i k : Nat} {p o q r : Int} (h8 : order ≤ 8) (hy : l[i]? = some ⟨p, o⟩) (hx : l[k]? = some ⟨q, r⟩) (hki : k < i) (hm : MayP order ⟨p, o⟩) (hn : MayP order ⟨q, r⟩) (hg : ∀ (k' : Nat) x, k' < k → l[k']? = some x → Pair order x ⟨p, o⟩) :
    (0 ≤ p ∧ p ≤ 256 ∧ o ≤ 8 ∧ 0 ≤ q ∧ q ≤ 256 ∧ r ≤ 8) ∧
    ((decide (p ≤ q) = true ∧ rightB order l = false) ∨
     (decide (p ≤ q) = false ∧ meetB p o q r = true ∧ rightB order l = false) ∨
     (decide (p ≤ q) = false ∧ meetB p o q r = false ∧ decide (o < order) = false ∧ ∀ (k' : Nat) x, k' < k + 1 → l[k']? = some x → Pair order x ⟨p, o⟩) ∨
     (decide (p ≤ q) = false ∧ meetB p o q r = false ∧ decide (o < order) = true ∧ (twP p o == q) = false ∧ ∀ (k' : Nat) x, k' < k + 1 → l[k']? = some x → Pair order x ⟨p, o⟩) ∨
     (decide (p ≤ q) = false ∧ meetB p o q r = false ∧ decide (o < order) = true ∧ (twP p o == q) = true ∧ (o == r) = false ∧ ∀ (k' : Nat) x, k' < k + 1 → l[k']? = some x → Pair order x ⟨p, o⟩) ∨
     (decide (p ≤ q) = false ∧ meetB p o q r = false ∧ decide (o < order) = true ∧ (twP p o == q) = true ∧ (o == r) = true ∧ rightB order l = false)) := by
  obtain ⟨f1, f2, f3, f4, f5, f6⟩ := may_facts h8 hm
  obtain ⟨g1, g2, g3, g4, g5, g6⟩ := may_facts h8 hn
  have e1 := pw_pos o
  have e2 := pw_pos r
  refine ⟨⟨f1, f2, f4, g1, g2, g4⟩, ?_⟩
  have hno : ¬ Pair order ⟨q, r⟩ ⟨p, o⟩ → rightB order l = false := fun h => rightB_no fun hG => h ((hG i _ hy).2 k _ hki hx)
  by_cases h1 : p ≤ q
  · left
    refine ⟨by simp [h1], hno fun h => ?_⟩
    have := h.1
    simp only at this
    omega
  right
  cases h2 : meetB p o q r
  case true =>
    left
    refine ⟨by simp; omega, rfl, hno fun h => ?_⟩
    have := h.1
    simp only at this
    simp [meetB] at h2
    omega
  right
  have h3 : q + pw r ≤ p := by simp [meetB] at h2; omega
  have hyes : ¬ (o < order ∧ twP p o = q ∧ o = r) → ∀ (k' : Nat) x, k' < k + 1 → l[k']? = some x → Pair order x ⟨p, o⟩ := by
    intro hnot k' x hk hx'
    by_cases hkk : k' = k
    · subst hkk
      rw [hx] at hx'
      cases hx'
      refine ⟨h3, ?_⟩
      rintro ⟨h4, h5⟩
      rw [twinP_eq] at h5
      injection h5 with h5 h6
      exact hnot ⟨h4, h5, h6⟩
    · exact hg k' x (by omega) hx'
  by_cases h4 : o < order
  · by_cases h5 : twP p o = q
    · by_cases h6 : o = r
      · right; right; right
        refine ⟨by simp; omega, rfl, by simp [h4], by simp [h5], by simp [h6], hno fun h => h.2 ⟨h4, ?_⟩⟩
        rw [twinP_eq, h5, h6]
      · right; right; left
        exact ⟨by simp; omega, rfl, by simp [h4], by simp [h5], by simp [h6], hyes fun h => h6 h.2.2⟩
    · right; left
      exact ⟨by simp; omega, rfl, by simp [h4], by simp [h5], hyes fun h => h5 h.2.1⟩
  · left
    exact ⟨by simp; omega, rfl, by simp; omega, hyes fun h => h4 h.1⟩
theorem mayB_no {order : Int} {l : List Bl} {i : Nat} {p o : Int} (hy : l[i]? = some ⟨p, o⟩) (h : mayB order p o = false) : rightB order l = false := rightB_no fun hG => by
  have := (hG i _ hy).1
  simp [mayB, this] at h
set_option maxRecDepth 100000 in
set_option maxHeartbeats 8000000 in
theorem right144_reg (order : Int) (h3 : 3 ≤ order) (h8 : order ≤ 8) (l : List Bl) (a : Option Addr) (c : Nat) (hl : l.length ≤ 600) (hlen : (l.length : Int) ≤ pw order) (w : World) (ha : RowIs w a (l.flatMap blV)) :
    Calls Tryz.prog 144 #[.int .i64 order, .slice a l.length c] w fun e w' => e = .returned (.bool (rightB order l)) ∧ Below w.heap.size w w' := by
  have hr : regionB order = true := by simp [regionB]; omega
  have K11 := Lib.hid (region113 order)
  rw [hr] at K11
  have HR := Lib.hid hr
  clear hr
  have hp := Hp.start w
  have HA := Lib.hid ha
  clear ha
  have hd : decide (pw order < (l.length : Int)) = false := by simp; omega
  go_enter Tryz.func144, Tryz.ntmps144
  go_wp2_with (first | (go_at_call 113; refine (K11.out _).mono ?_; rintro e w' ⟨rfl, rfl⟩) | (go_at_call 142; refine (size142 _ (by omega) _).mono ?_; rintro e w' ⟨rfl, rfl⟩) | go_skip | (first | (refine hA1 ?_; clear hp; intro b w1 hp) | refine hL0 ?_ | (refine hS0 ?_; clear hp; intro w1 hp)))
  clear hd hlen
  go_loopg [5] l.length (fun k i wr => ∃ j : Nat, k + j = l.length ∧ i = .int .i64 j ∧ Good order (l.take j) ∧ Hp w.heap.size w wr [])
  case atStart => exact ⟨0, by omega, rfl, by simpa using Good.nil order, hp⟩
  case round =>
    clear hp
    obtain ⟨j, hkj, rfl, hg, hp⟩ := hrel
    have HG := Lib.hid hg
    clear hg
    by_cases hlt : j < l.length
    · obtain ⟨bq, off, rfl, hx⟩ := HA.out.elems 2 blV_len (by omega) (by omega)
      have HE := Lib.hid hx
      have hj := List.getElem?_eq_getElem hlt
      replace hx := hx j _ hj
      generalize l[j] = x at hx hj
      obtain ⟨p, o⟩ := x
      simp only [blV] at hx
      have HX := Lib.hid hx
      have HJ := Lib.hid hj
      clear hx hj
      have e1 : (0 : Int) ≤ (j : Int) := by omega
      have e2 : (j : Int) < (l.length : Int) := by omega
      cases dm : mayB order p o
      · go_wp2_with (first | (go_at_call 145; refine (may145 _ h8 _ _ _).mono ?_; rintro e w1 ⟨rfl, hb⟩; rw [dm]; replace hp := hp.call hb; clear hb) | go_skip | (first | (refine hA1 ?_; clear hp; intro b w1 hp) | refine hL1 ?_ | (refine hS0 ?_; clear hp; intro w1 hp)))
        go_ret
        exact ⟨ret_bool (mayB_no HJ.out dm).symm, hp.below⟩
      · go_wp2_with (first | (go_at_call 145; refine (may145 _ h8 _ _ _).mono ?_; rintro e w1 ⟨rfl, hb⟩; rw [dm]; replace hp := hp.call hb; clear hb) | go_skip | (first | (refine hA1 ?_; clear hp; intro b w1 hp) | refine hL1 ?_ | (refine hS0 ?_; clear hp; intro w1 hp)))
        have DM := Lib.hid dm
        clear dm
        go_loopg [6] j (fun k i wr => ∃ m : Nat, k + m = j ∧ i = .int .i64 m ∧ (∀ (k' : Nat) x, k' < m → l[k']? = some x → Pair order x ⟨p, o⟩) ∧ Hp w.heap.size w wr [])
        case atStart => exact ⟨0, by omega, rfl, fun k' x h => by omega, hp⟩
        case round =>
          clear hp
          obtain ⟨m, hkm, rfl, hpr, hp⟩ := hrel
          have HPR := Lib.hid hpr
          clear hpr
          by_cases hlm : m < j
          · have hm := List.getElem?_eq_getElem (show m < l.length by omega)
            have hy := HE.out m _ hm
            generalize l[m] = y at hy hm
            obtain ⟨q, r⟩ := y
            simp only [blV] at hy
            have HY := Lib.hid hy
            have hmay := mayB_may DM.out
            have hmay2 := (HG.out m _ (by rw [List.getElem?_take, if_pos hlm]; exact hm)).1
            have W9 := Lib.hid (rgt_ways h8 HJ.out hm hlm hmay hmay2 HPR.out)
            clear hm hy hmay hmay2
            have e3 : (0 : Int) ≤ (m : Int) := by omega
            have e4 : (m : Int) < (l.length : Int) := by omega
            have e5 : (m : Int) < (j : Int) := by omega
            go_wp2_with (first | go_skip | (first | (refine hA1 ?_; clear hp; intro b w1 hp) | refine hL0 ?_ | (refine hS0 ?_; clear hp; intro w1 hp)))
            refine wp_region_keeps _ (Keeps.all hp.drew) [] [(0, true), (1, true), (2, true), (3, true), (4, true), (5, true), (6, true), (7, true), (8, true), (9, true), (10, true), (11, true), (12, true), (13, true), (14, true), (15, true), (16, true), (17, true), (18, true), (19, true), (20, false), (21, true), (22, true), (23, true), (24, true), (25, true), (26, true), (27, true), (28, true), (29, true), (30, true), (31, true), (32, true), (33, true), (34, true), (36, true), (37, true), (38, true), (39, true), (35, false), (40, true), (41, true), (42, true)] (by kernel_rfl) (by kernel_rfl) rfl (by kernel_rfl) (fun _ _ d _ _ h => by cases d <;> exact h) ?_
            replace hp := hp.drew
            obtain ⟨f, W⟩ := W9.out
            rcases W with ⟨d1, r⟩ | ⟨d1, d2, r⟩ | ⟨d1, d2, d3, r⟩ | ⟨d1, d2, d3, d4, r⟩ | ⟨d1, d2, d3, d4, d5, r⟩ | ⟨d1, d2, d3, d4, d5, r⟩
            all_goals have R := Lib.hid r
            all_goals clear r W9
            all_goals
              repeat' (with_reducible refine plan_is ?_); first | (with_reducible refine plan_nil ?_) | refine tk4 ?_ | (refine plan_do rfl (fun K hK => ?_); go_wp2_with (first | (go_at_call 148; refine (meet148 _ _ _ _ f.1 f.2.1 f.2.2.2.1 f.2.2.2.2.1 f.2.2.1 f.2.2.2.2.2 _).mono ?_; rintro e w1 ⟨rfl, hb⟩; rw [d2]; replace hp := hp.call hb; clear hb) | (go_at_call 165; refine (twin165 _ _ f.1 f.2.1 f.2.2.1 _).mono ?_; rintro e w1 ⟨rfl, hb⟩; replace hp := hp.call hb; clear hb) | go_skip); (refine hK.out _ _ (.inr (kall hp)) ?_); clear hK K; try simp only [put_some, put_none, eval_tmp, eval_const, sSet, zSet, List.getD_cons_succ, List.getD_cons_zero, wrap_eq])
            all_goals first
              | (go_wp2_with fail
                 go_ret
                 exact ⟨ret_bool R.out.symm, hp.below⟩)
              | (go_wp2_with fail
                 go_roundg (gk - 1)
                 case measure => omega
                 case rel => exact ⟨m + 1, by omega, by go_num, R.out, hp⟩)
          · have e5 : decide ((m : Int) < (j : Int)) = false := by simp; omega
            have HG2 : RowKit.Hid (Good order (l.take (j + 1))) := Lib.hid ((Good.snoc HJ.out).2 ⟨HG.out, mayB_may DM.out, fun k' x hk hx => HPR.out k' x (by omega) hx⟩)
            go_wp2_with fail
            go_roundg (l.length - (j + 1))
            case measure => omega
            case rel => exact ⟨j + 1, by omega, by go_num, HG2.out, hp⟩
    · have e2 : decide ((j : Int) < (l.length : Int)) = false := by simp; omega
      have HG2 : RowKit.Hid (rightB order l = true) := Lib.hid (rightB_yes HR.out (by have := HG.out; rwa [List.take_of_length_le (by omega)] at this))
      go_wp2_with fail
      go_ret
      exact ⟨ret_bool HG2.out.symm, hp.below⟩
set_option maxRecDepth 100000 in
set_option maxHeartbeats 8000000 in
theorem right144 (order : Int) (l : List Bl) (a : Option Addr) (c : Nat) (hl : l.length ≤ 600) (w : World) (ha : RowIs w a (l.flatMap blV)) :
    Calls Tryz.prog 144 #[.int .i64 order, .slice a l.length c] w fun e w' => e = .returned (.bool (rightB order l)) ∧ Below w.heap.size w w' := by
  have K11 := Lib.hid (region113 order)
  cases hr : regionB order
  · rw [rightB_reg hr]
    rw [hr] at K11
    clear hr ha
    go_enter Tryz.func144, Tryz.ntmps144
    go_wp2_with (go_at_call 113; refine (K11.out _).mono ?_; rintro e w' ⟨rfl, rfl⟩)
    go_ret
    exact ⟨rfl, Below.refl _ _⟩
  · have := hr
    simp only [regionB, decide_eq_true_eq] at this
    obtain ⟨h3, h8⟩ := this
    by_cases hlen : (l.length : Int) ≤ pw order
    · exact right144_reg order h3 h8 l a c hl hlen w ha
    · rw [rightB_no fun hG => hlen (hG.len h3)]
      rw [hr] at K11
      clear hr ha
      have hd : decide (pw order < (l.length : Int)) = true := by simp; omega
      go_enter Tryz.func144, Tryz.ntmps144
      go_wp2_with (first | (go_at_call 113; refine (K11.out _).mono ?_; rintro e w' ⟨rfl, rfl⟩) | (go_at_call 142; refine (size142 _ (by omega) _).mono ?_; rintro e w' ⟨rfl, rfl⟩))
      go_ret
      exact ⟨rfl, Below.refl _ _⟩
end Go.Proofs.YtcjbepaclbhjaaaGreat
namespace Go.Proofs.YtcjbepaclbhjaaaGreat
open Go.RowKit
def BestAt (l : List Bl) (want : Int) (n : Nat) (i : Int) : Prop :=
  (i = -1 ∧ ∀ (k : Nat) x, k < n → l[k]? = some x → ¬ want ≤ x.o) ∨
  ∃ (k : Nat) (z : Bl), i = (k : Int) ∧ k < n ∧ l[k]? = some z ∧ want ≤ z.o ∧ ∀ (k' : Nat) x, k' < n → l[k']? = some x → want ≤ x.o → z.o ≤ x.o ∧ (x.o = z.o → k ≤ k')
theorem BestAt.great {l : List Bl} {want i : Int} (h : BestAt l want l.length i) : decide (0 ≤ i) = greatB l want := by
  rcases h with ⟨rfl, h⟩ | ⟨k, z, rfl, hk, hz, hw, h⟩
  · have : greatB l want = false := by
      unfold greatB
      rw [List.any_eq_false]
      intro x hx
      obtain ⟨k, hk, rfl⟩ := List.getElem_of_mem hx
      have := h k _ hk (List.getElem?_eq_getElem hk)
      simpa using this
    rw [this]; decide
  · rw [great_yes hz hw]; simp
end Go.Proofs.YtcjbepaclbhjaaaGreat
namespace Go.Proofs.YtcjbepaclbhjaaaGreat
open Go.RowKit
end Go.Proofs.YtcjbepaclbhjaaaGreat
