/- The walks of slices.Clone of blocks and of cmp.Compare. -/
import Derived.Test.YtbflmnoaiklnbaaBSame
import Derived.Test.YtbflmnoaiklnbaaBy
import Derived.Test.YtbflmnoaiklnbaaCmp
set_option linter.unusedSimpArgs false
set_option linter.unusedVariables false
namespace Go.Proofs.Ytbflmnoaiklnbaa
open Go.RowKit
theorem blsOne (l : List Bl) : (l.flatMap blV).all (·.oneCell') = true := by
  rw [List.all_eq_true]; intro u hu; obtain ⟨x, _, hx⟩ := List.mem_flatMap.1 hu; simp [blV] at hx; rcases hx with rfl | rfl <;> rfl
theorem nan128 (a : Int) (w : World) : Calls Try.prog 128 #[.int .i64 a] w fun e w' => e = .returned (.bool false) ∧ w = w' := by
  go_enter Try.func128, Try.ntmps128
  go_wp2
  go_ret
  exact ⟨rfl, rfl⟩
theorem cmp82 (a b : Int) (w : World) : Calls Try.prog 82 #[.int .i64 a, .int .i64 b] w fun e w' => e = .returned (.int .i64 (cmpI a b)) ∧ w = w' := by
  go_enter Try.func82, Try.ntmps82
  go_wp2_with (go_at_call 128; (with_reducible refine (nan128 _ _).mono ?_); rintro e w' ⟨rfl, rfl⟩)
  all_goals go_ret
  all_goals refine ⟨ret_int ?_, rfl⟩
  all_goals (simp [cmpI, *])
  all_goals omega
theorem eqn_nilBl (d : Nat) (n c : Nat) (w : World) : (Op.equalIn (d + 1) 24 (.slice none n c) (.slice none 0 0)).run Try.prog w = .ok true w := by
  rw [Op.equalIn]; simp [Sem.run_bind, run_underlying Try.underlying24]
theorem eqn_someBl (d : Nat) (a : Addr) (n c : Nat) (w : World) : (Op.equalIn (d + 1) 24 (.slice (some a) n c) (.slice none 0 0)).run Try.prog w = .ok false w := by
  rw [Op.equalIn]; simp [Sem.run_bind, run_underlying Try.underlying24]
theorem nil_eq24 (n c : Nat) (w : World) : (binOp .eql 24 (.slice none n c) (.slice none 0 0)).run Try.prog w = .ok (.bool true) w := by
  have h : (Op.equalIn 10000 24 (.slice none n c) (.slice none 0 0)).run Try.prog w = .ok true w := eqn_nilBl 9999 n c w
  simp only [binOp]
  simp [Op.equal, Op.maxDepth, h]
theorem some_eq24 (a : Addr) (n c : Nat) (w : World) : (binOp .eql 24 (.slice (some a) n c) (.slice none 0 0)).run Try.prog w = .ok (.bool false) w := by
  have h : (Op.equalIn 10000 24 (.slice (some a) n c) (.slice none 0 0)).run Try.prog w = .ok false w := eqn_someBl 9999 a n c w
  simp only [binOp]
  simp [Op.equal, Op.maxDepth, h]
def ClonePostBl (w : World) (n : Nat) (xs : List Value) (e : Ending) (w' : World) : Prop := ∃ v R, e = .returned v ∧ OwnRow 44 2 v n xs R ∧ Hp w.heap.size w w' R
set_option maxRecDepth 100000 in
set_option maxHeartbeats 4000000 in
theorem clone79 (a : Option Addr) (n c : Nat) (hn : n ≤ 2000) (xs : List Value) (hl : xs.length = n * 2) (h1 : xs.all (·.oneCell') = true) (w : World) (ha : RowIs w a xs) :
    Calls Try.prog 79 #[.slice a n c] w (ClonePostBl w n xs) := by
  obtain ⟨i0, hi0, hz0, hz1, hz2⟩ := info_parts info44
  have hp := Hp.start w
  cases a with
  | none =>
    have hn0 : n = 0 := by
      rcases Nat.eq_zero_or_pos n with h | h
      · exact h
      · obtain ⟨b, off, he, _⟩ := ha.addr (by omega)
        cases he
    subst hn0
    have hx : xs = [] := List.eq_nil_of_length_eq_zero (by simpa using hl)
    subst hx
    clear ha hl h1
    have hq := nil_eq24
    go_enter Try.func79, Try.ntmps79
    go_wp2
    go_ret
    exact ⟨_, [], rfl, OwnRow.nil _ _, hp⟩
  | some a =>
    have HA := Lib.hid ha
    have HL := Lib.hid hl
    have H1 := Lib.hid h1
    have sm1 : 0 + n ≤ maxLen := by unfold maxLen; omega
    have sm2 : (0 + n) * 16 ≤ 140737488355328 := by omega
    clear ha hl h1
    have hq := some_eq24
    go_enter Try.func79, Try.ntmps79
    go_wp2_with (first | ((with_reducible refine pre_build _ _ _ rfl ?_); refine wpList_buildSlice_hp hp _ _ _ rfl wy [] 44 (by intro w; go_simp; try rfl) ?_; clear hp; intro b w1 hp; simp only [put_some, put_none, List.set_cons_succ, List.set_cons_zero]) | ((with_reducible refine pre_append _ _ 24 rfl ?_); refine wpList_appendGrowRow (K := []) (R := [⟨b, [], 44, 0 * 2⟩]) (M := []) hp _ _ _ rfl wy i0 _ 16 Try.underlying24 hi0 hz0 hz1 hz2 rfl (by decide) (slot_tmp rfl) ⟨rfl, .inr ⟨b, 0, rfl, Nat.le_refl _, Nat.zero_le _, rfl⟩⟩ (some a) n c (slot_tmp rfl) xs HL.out (HA.out.below hp.below) H1.out sm1 sm2 ?_; clear hp; intro v' R' w1 hR' hp; have HR' := Lib.hid hR'; clear hR'; simp only [put_some, put_none, List.set_cons_succ, List.set_cons_zero]) | go_skip)
    go_ret
    exact ⟨v', R', rfl, by simpa using HR'.out, by simpa using hp⟩
end Go.Proofs.Ytbflmnoaiklnbaa
