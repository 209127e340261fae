import Derived.Test.YtcjbepaclbhjaaaTjQB
import Derived.Test.YtcjbepaclbhjaaaTjQC
/- The walks of slices.Clone of objects and of numbers. -/
set_option linter.unusedSimpArgs false
set_option linter.unusedVariables false
namespace Go.Proofs.Ytcjbepaclbhjaaa
open Go.RowKit
theorem eqn_nilObs (d : Nat) (n c : Nat) (w : World) : (Op.equalIn (d + 1) 23 (.slice none n c) (.slice none 0 0)).run Try.prog w = .ok true w := by
  rw [Op.equalIn]; simp [Sem.run_bind, run_underlying Try.underlying23]
theorem eqn_someObs (d : Nat) (a : Addr) (n c : Nat) (w : World) : (Op.equalIn (d + 1) 23 (.slice (some a) n c) (.slice none 0 0)).run Try.prog w = .ok false w := by
  rw [Op.equalIn]; simp [Sem.run_bind, run_underlying Try.underlying23]
theorem nil_eq23 (n c : Nat) (w : World) : (binOp .eql 23 (.slice none n c) (.slice none 0 0)).run Try.prog w = .ok (.bool true) w := by
  have h : (Op.equalIn 10000 23 (.slice none n c) (.slice none 0 0)).run Try.prog w = .ok true w := eqn_nilObs 9999 n c w
  simp only [binOp]
  simp [Op.equal, Op.maxDepth, h]
theorem some_eq23 (a : Addr) (n c : Nat) (w : World) : (binOp .eql 23 (.slice (some a) n c) (.slice none 0 0)).run Try.prog w = .ok (.bool false) w := by
  have h : (Op.equalIn 10000 23 (.slice (some a) n c) (.slice none 0 0)).run Try.prog w = .ok false w := eqn_someObs 9999 a n c w
  simp only [binOp]
  simp [Op.equal, Op.maxDepth, h]
def ClonePostObs (w : World) (n : Nat) (xs : List Value) (e : Ending) (w' : World) : Prop := ∃ v R, e = .returned v ∧ OwnRow 48 5 v n xs R ∧ Hp w.heap.size w w' R
set_option maxRecDepth 100000 in
set_option maxHeartbeats 4000000 in
theorem clone33 (a : Option Addr) (n c : Nat) (hn : n ≤ 2000) (xs : List Value) (hl : xs.length = n * 5) (h1 : xs.all (·.oneCell') = true) (w : World) (ha : RowIs w a xs) :
    Calls Try.prog 33 #[.slice a n c] w (ClonePostObs w n xs) := by
  obtain ⟨i0, hi0, hz0, hz1, hz2⟩ := info_parts info48
  have hp := Hp.start w
  cases a with
  | none =>
    have hn0 : n = 0 := by
      rcases Nat.eq_zero_or_pos n with h | h
      · exact h
      · obtain ⟨b, off, he, _⟩ := ha.addr (by omega)
        cases he
    subst hn0
    have hx : xs = [] := List.eq_nil_of_length_eq_zero (by simpa using hl)
    subst hx
    clear ha hl h1
    have hq := nil_eq23
    go_enter Try.func33, Try.ntmps33
    go_wp2
    go_ret
    exact ⟨_, [], rfl, OwnRow.nil _ _, hp⟩
  | some a =>
    have HA := Lib.hid ha
    have HL := Lib.hid hl
    have H1 := Lib.hid h1
    have sm1 : 0 + n ≤ maxLen := by unfold maxLen; omega
    have sm2 : (0 + n) * 72 ≤ 140737488355328 := by omega
    clear ha hl h1
    have hq := some_eq23
    go_enter Try.func33, Try.ntmps33
    go_wp2_with (first | ((with_reducible refine pre_build _ _ _ rfl ?_); refine wpList_buildSlice_hp hp _ _ _ rfl wy [] 48 (by intro w; go_simp; try rfl) ?_; clear hp; intro b w1 hp; simp only [put_some, put_none, List.set_cons_succ, List.set_cons_zero]) | ((with_reducible refine pre_append _ _ 23 rfl ?_); refine wpList_appendGrowRow (K := []) (R := [⟨b, [], 48, 0 * 5⟩]) (M := []) hp _ _ _ rfl wy i0 _ 72 Try.underlying23 hi0 hz0 hz1 hz2 rfl (by decide) (slot_tmp rfl) ⟨rfl, .inr ⟨b, 0, rfl, Nat.le_refl _, Nat.zero_le _, rfl⟩⟩ (some a) n c (slot_tmp rfl) xs HL.out (HA.out.below hp.below) H1.out sm1 sm2 ?_; clear hp; intro v' R' w1 hR' hp; have HR' := Lib.hid hR'; clear hR'; simp only [put_some, put_none, List.set_cons_succ, List.set_cons_zero]) | go_skip)
    go_ret
    exact ⟨v', R', rfl, by simpa using HR'.out, by simpa using hp⟩
theorem eqn_nilInts (d : Nat) (n c : Nat) (w : World) : (Op.equalIn (d + 1) 46 (.slice none n c) (.slice none 0 0)).run Try.prog w = .ok true w := by
  rw [Op.equalIn]; simp [Sem.run_bind, run_underlying Try.underlying46]
theorem eqn_someInts (d : Nat) (a : Addr) (n c : Nat) (w : World) : (Op.equalIn (d + 1) 46 (.slice (some a) n c) (.slice none 0 0)).run Try.prog w = .ok false w := by
  rw [Op.equalIn]; simp [Sem.run_bind, run_underlying Try.underlying46]
theorem nil_eq46 (n c : Nat) (w : World) : (binOp .eql 46 (.slice none n c) (.slice none 0 0)).run Try.prog w = .ok (.bool true) w := by
  have h : (Op.equalIn 10000 46 (.slice none n c) (.slice none 0 0)).run Try.prog w = .ok true w := eqn_nilInts 9999 n c w
  simp only [binOp]
  simp [Op.equal, Op.maxDepth, h]
theorem some_eq46 (a : Addr) (n c : Nat) (w : World) : (binOp .eql 46 (.slice (some a) n c) (.slice none 0 0)).run Try.prog w = .ok (.bool false) w := by
  have h : (Op.equalIn 10000 46 (.slice (some a) n c) (.slice none 0 0)).run Try.prog w = .ok false w := eqn_someInts 9999 a n c w
  simp only [binOp]
  simp [Op.equal, Op.maxDepth, h]
def ClonePostInts (w : World) (n : Nat) (xs : List Value) (e : Ending) (w' : World) : Prop := ∃ v R, e = .returned v ∧ OwnRow 3 1 v n xs R ∧ Hp w.heap.size w w' R
set_option maxRecDepth 100000 in
set_option maxHeartbeats 4000000 in
theorem clone34 (a : Option Addr) (n c : Nat) (hn : n ≤ 5000) (xs : List Value) (hl : xs.length = n * 1) (h1 : xs.all (·.oneCell') = true) (w : World) (ha : RowIs w a xs) :
    Calls Try.prog 34 #[.slice a n c] w (ClonePostInts w n xs) := by
  obtain ⟨i0, hi0, hz0, hz1, hz2⟩ := info_parts info3
  have hp := Hp.start w
  cases a with
  | none =>
    have hn0 : n = 0 := by
      rcases Nat.eq_zero_or_pos n with h | h
      · exact h
      · obtain ⟨b, off, he, _⟩ := ha.addr (by omega)
        cases he
    subst hn0
    have hx : xs = [] := List.eq_nil_of_length_eq_zero (by simpa using hl)
    subst hx
    clear ha hl h1
    have hq := nil_eq46
    go_enter Try.func34, Try.ntmps34
    go_wp2
    go_ret
    exact ⟨_, [], rfl, OwnRow.nil _ _, hp⟩
  | some a =>
    have HA := Lib.hid ha
    have HL := Lib.hid hl
    have H1 := Lib.hid h1
    have sm1 : 0 + n ≤ maxLen := by unfold maxLen; omega
    have sm2 : (0 + n) * 8 ≤ 140737488355328 := by omega
    clear ha hl h1
    have hq := some_eq46
    go_enter Try.func34, Try.ntmps34
    go_wp2_with (first | ((with_reducible refine pre_build _ _ _ rfl ?_); refine wpList_buildSlice_hp hp _ _ _ rfl wy [] 3 (by intro w; go_simp; try rfl) ?_; clear hp; intro b w1 hp; simp only [put_some, put_none, List.set_cons_succ, List.set_cons_zero]) | ((with_reducible refine pre_append _ _ 46 rfl ?_); refine wpList_appendGrowRow (K := []) (R := [⟨b, [], 3, 0 * 1⟩]) (M := []) hp _ _ _ rfl wy i0 _ 8 Try.underlying46 hi0 hz0 hz1 hz2 rfl (by decide) (slot_tmp rfl) ⟨rfl, .inr ⟨b, 0, rfl, Nat.le_refl _, Nat.zero_le _, rfl⟩⟩ (some a) n c (slot_tmp rfl) xs HL.out (HA.out.below hp.below) H1.out sm1 sm2 ?_; clear hp; intro v' R' w1 hR' hp; have HR' := Lib.hid hR'; clear hR'; simp only [put_some, put_none, List.set_cons_succ, List.set_cons_zero]) | go_skip)
    go_ret
    exact ⟨v', R', rfl, by simpa using HR'.out, by simpa using hp⟩
end Go.Proofs.Ytcjbepaclbhjaaa
