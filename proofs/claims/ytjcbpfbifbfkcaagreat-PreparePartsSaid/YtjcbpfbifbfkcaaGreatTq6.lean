import Derived.Test.YtjcbpfbifbfkcaaGreatTq1
import Derived.Test.YtjcbpfbifbfkcaaGreatTq2
set_option linter.unusedSimpArgs false
set_option linter.unusedVariables false
set_option maxRecDepth 100000
set_option maxHeartbeats 60000000
namespace Go.Proofs.YtjcbpfbifbfkcaaGreat
open Go.RowKit
theorem zlB (d : Nat) (n c : Nat) (w : World) : (Op.equalIn (d + 1) 60 (.slice none n c) (.slice none 0 0)).run Tryz.prog w = .ok true w := by
 rw [Op.equalIn]; simp [Sem.run_bind, run_underlying Tryz.underlying60]
theorem ziK (d : Nat) (a : Addr) (n c : Nat) (w : World) : (Op.equalIn (d + 1) 60 (.slice (some a) n c) (.slice none 0 0)).run Tryz.prog w = .ok false w := by
 rw [Op.equalIn]; simp [Sem.run_bind, run_underlying Tryz.underlying60]
theorem zpt (n c : Nat) (w : World) : (binOp .eql 60 (.slice none n c) (.slice none 0 0)).run Tryz.prog w = .ok (.bool true) w := by
 have h : (Op.equalIn 10000 60 (.slice none n c) (.slice none 0 0)).run Tryz.prog w = .ok true w := zlB 9999 n c w
 simp only [binOp]
 simp [Op.equal, Op.maxDepth, h]
theorem znk (a : Addr) (n c : Nat) (w : World) : (binOp .eql 60 (.slice (some a) n c) (.slice none 0 0)).run Tryz.prog w = .ok (.bool false) w := by
 have h : (Op.equalIn 10000 60 (.slice (some a) n c) (.slice none 0 0)).run Tryz.prog w = .ok false w := ziK 9999 a n c w
 simp only [binOp]
 simp [Op.equal, Op.maxDepth, h]
def zh8 (w : World) (n : Nat) (xs : List Value) (e : Ending) (w' : World) : Prop := ∃ v R, e = .returned v ∧ zB 148 5 v n xs R ∧ Hp w.heap.size w w' R
theorem zox (a : Option Addr) (n c : Nat) (hn : n ≤ 2000) (xs : List Value) (hl : xs.length = n * 5) (h1 : xs.all (·.oneCell') = true) (w : World) (ha : zr w a xs) :
  Calls Tryz.prog 150 #[.slice a n c] w (zh8 w n xs) := by
 obtain ⟨i0, hi0, hz0, hz1, hz2⟩ := info_parts zg7
 have hp := Hp.start w
 cases a with
 | none =>
  have hn0 : n = 0 := by
   rcases Nat.eq_zero_or_pos n with h | h
   ·exact h
   ·obtain ⟨b, off, he, _⟩ := ha.addr (by omega)
    cases he
  subst hn0
  have hx : xs = [] := List.eq_nil_of_length_eq_zero (by simpa using hl)
  subst hx
  clear ha hl h1
  have hq := zpt
  go_enter Tryz.func150, Tryz.ntmps150
  go_wp2
  go_ret
  exact ⟨_, [], rfl, zB.nil _ _, hp⟩
 | some a =>
  have HA := z0j ha
  have HL := z0j hl
  have H1 := z0j h1
  have sm1 : 0 + n ≤ maxLen := by unfold maxLen; omega
  have sm2 : (0 + n) * 72 ≤ 140737488355328 := by omega
  clear ha hl h1
  have hq := znk
  go_enter Tryz.func150, Tryz.ntmps150
  go_wp2_with (first | ((refine zk _ _ _ rfl ?_); refine Zn hp _ _ _ rfl wy [] 148 (by intro w; go_simp; try rfl) ?_; clear hp; intro b w1 hp; simp only [zc, zb, z0b, z0a]) | ((refine zJ _ _ 60 rfl ?_); refine zR (K := []) (R := [⟨b, [], 148, 0 * 5⟩]) (M := []) hp _ _ _ rfl wy i0 _ 72 Tryz.underlying60 hi0 hz0 hz1 hz2 rfl (by decide) (za rfl) ⟨rfl, .inr ⟨b, 0, rfl, Nat.le_refl _, Nat.zero_le _, rfl⟩⟩ (some a) n c (za rfl) xs HL.out (HA.out.below hp.below) H1.out sm1 sm2 ?_; clear hp; intro v' R' w1 hR' hp; have HR' := z0j hR'; clear hR'; simp only [zc, zb, z0b, z0a]) | go_skip)
  go_ret
  exact ⟨v', R', rfl, by simpa using HR'.out, by simpa using hp⟩
theorem zjn (d : Nat) (n c : Nat) (w : World) : (Op.equalIn (d + 1) 120 (.slice none n c) (.slice none 0 0)).run Tryz.prog w = .ok true w := by
 rw [Op.equalIn]; simp [Sem.run_bind, run_underlying Tryz.underlying120]
theorem zhT (d : Nat) (a : Addr) (n c : Nat) (w : World) : (Op.equalIn (d + 1) 120 (.slice (some a) n c) (.slice none 0 0)).run Tryz.prog w = .ok false w := by
 rw [Op.equalIn]; simp [Sem.run_bind, run_underlying Tryz.underlying120]
theorem zmw (n c : Nat) (w : World) : (binOp .eql 120 (.slice none n c) (.slice none 0 0)).run Tryz.prog w = .ok (.bool true) w := by
 have h : (Op.equalIn 10000 120 (.slice none n c) (.slice none 0 0)).run Tryz.prog w = .ok true w := zjn 9999 n c w
 simp only [binOp]
 simp [Op.equal, Op.maxDepth, h]
theorem zk8 (a : Addr) (n c : Nat) (w : World) : (binOp .eql 120 (.slice (some a) n c) (.slice none 0 0)).run Tryz.prog w = .ok (.bool false) w := by
 have h : (Op.equalIn 10000 120 (.slice (some a) n c) (.slice none 0 0)).run Tryz.prog w = .ok false w := zhT 9999 a n c w
 simp only [binOp]
 simp [Op.equal, Op.maxDepth, h]
def zhh (w : World) (n : Nat) (xs : List Value) (e : Ending) (w' : World) : Prop := ∃ v R, e = .returned v ∧ zB 3 1 v n xs R ∧ Hp w.heap.size w w' R
theorem zkA (a : Option Addr) (n c : Nat) (hn : n ≤ 5000) (xs : List Value) (hl : xs.length = n * 1) (h1 : xs.all (·.oneCell') = true) (w : World) (ha : zr w a xs) :
  Calls Tryz.prog 151 #[.slice a n c] w (zhh w n xs) := by
 obtain ⟨i0, hi0, hz0, hz1, hz2⟩ := info_parts zne
 have hp := Hp.start w
 cases a with
 | none =>
  have hn0 : n = 0 := by
   rcases Nat.eq_zero_or_pos n with h | h
   ·exact h
   ·obtain ⟨b, off, he, _⟩ := ha.addr (by omega)
    cases he
  subst hn0
  have hx : xs = [] := List.eq_nil_of_length_eq_zero (by simpa using hl)
  subst hx
  clear ha hl h1
  have hq := zmw
  go_enter Tryz.func151, Tryz.ntmps151
  go_wp2
  go_ret
  exact ⟨_, [], rfl, zB.nil _ _, hp⟩
 | some a =>
  have HA := z0j ha
  have HL := z0j hl
  have H1 := z0j h1
  have sm1 : 0 + n ≤ maxLen := by unfold maxLen; omega
  have sm2 : (0 + n) * 8 ≤ 140737488355328 := by omega
  clear ha hl h1
  have hq := zk8
  go_enter Tryz.func151, Tryz.ntmps151
  go_wp2_with (first | ((refine zk _ _ _ rfl ?_); refine Zn hp _ _ _ rfl wy [] 3 (by intro w; go_simp; try rfl) ?_; clear hp; intro b w1 hp; simp only [zc, zb, z0b, z0a]) | ((refine zJ _ _ 120 rfl ?_); refine zR (K := []) (R := [⟨b, [], 3, 0 * 1⟩]) (M := []) hp _ _ _ rfl wy i0 _ 8 Tryz.underlying120 hi0 hz0 hz1 hz2 rfl (by decide) (za rfl) ⟨rfl, .inr ⟨b, 0, rfl, Nat.le_refl _, Nat.zero_le _, rfl⟩⟩ (some a) n c (za rfl) xs HL.out (HA.out.below hp.below) H1.out sm1 sm2 ?_; clear hp; intro v' R' w1 hR' hp; have HR' := z0j hR'; clear hR'; simp only [zc, zb, z0b, z0a]) | go_skip)
  go_ret
  exact ⟨v', R', rfl, by simpa using HR'.out, by simpa using hp⟩
end Go.Proofs.YtjcbpfbifbfkcaaGreat
