import Derived.Test.YtaafajaadfgaoaaGreatTb1
import Derived.Test.YtaafajaadfgaoaaGreatTb2
set_option linter.unusedSimpArgs false
set_option linter.unusedVariables false
set_option maxRecDepth 100000
set_option maxHeartbeats 60000000
namespace Go.Proofs.YtaafajaadfgaoaaGreat
open Go.RowKit
theorem zjE (d : Nat) (n c : Nat) (w : World) : (Op.equalIn (d + 1) 43 (.slice none n c) (.slice none 0 0)).run Tryz.prog w = .ok true w := by
 rw [Op.equalIn]; simp [Sem.run_bind, run_underlying Tryz.underlying43]
theorem zia (d : Nat) (a : Addr) (n c : Nat) (w : World) : (Op.equalIn (d + 1) 43 (.slice (some a) n c) (.slice none 0 0)).run Tryz.prog w = .ok false w := by
 rw [Op.equalIn]; simp [Sem.run_bind, run_underlying Tryz.underlying43]
theorem zml (n c : Nat) (w : World) : (binOp .eql 43 (.slice none n c) (.slice none 0 0)).run Tryz.prog w = .ok (.bool true) w := by
 have h : (Op.equalIn 10000 43 (.slice none n c) (.slice none 0 0)).run Tryz.prog w = .ok true w := zjE 9999 n c w
 simp only [binOp]
 simp [Op.equal, Op.maxDepth, h]
theorem zlr (a : Addr) (n c : Nat) (w : World) : (binOp .eql 43 (.slice (some a) n c) (.slice none 0 0)).run Tryz.prog w = .ok (.bool false) w := by
 have h : (Op.equalIn 10000 43 (.slice (some a) n c) (.slice none 0 0)).run Tryz.prog w = .ok false w := zia 9999 a n c w
 simp only [binOp]
 simp [Op.equal, Op.maxDepth, h]
def zgQ (w : World) (n : Nat) (xs : List Value) (e : Ending) (w' : World) : Prop := ∃ v R, e = .returned v ∧ zH 126 5 v n xs R ∧ Hp w.heap.size w w' R
theorem zlV (a : Option Addr) (n c : Nat) (hn : n ≤ 2000) (xs : List Value) (hl : xs.length = n * 5) (h1 : xs.all (·.oneCell') = true) (w : World) (ha : zD w a xs) :
  Calls Tryz.prog 149 #[.slice a n c] w (zgQ w n xs) := by
 obtain ⟨i0, hi0, hz0, hz1, hz2⟩ := info_parts zdm
 have hp := Hp.start w
 cases a with
 | none =>
  have hn0 : n = 0 := by
   rcases Nat.eq_zero_or_pos n with h | h
   ·exact h
   ·obtain ⟨b, off, he, _⟩ := ha.addr (by omega)
    cases he
  subst hn0
  have hx : xs = [] := List.eq_nil_of_length_eq_zero (by simpa using hl)
  subst hx
  clear ha hl h1
  have hq := zml
  go_enter Tryz.func149, Tryz.ntmps149
  go_wp2
  go_ret
  exact ⟨_, [], rfl, zH.nil _ _, hp⟩
 | some a =>
  have HA := z0j ha
  have HL := z0j hl
  have H1 := z0j h1
  have sm1 : 0 + n ≤ maxLen := by unfold maxLen; omega
  have sm2 : (0 + n) * 72 ≤ 140737488355328 := by omega
  clear ha hl h1
  have hq := zlr
  go_enter Tryz.func149, Tryz.ntmps149
  go_wp2_with (first | ((refine zm _ _ _ rfl ?_); refine ZO hp _ _ _ rfl wy [] 126 (by intro w; go_simp; try rfl) ?_; clear hp; intro b w1 hp; simp only [ze, zd, z0b, z0a]) | ((refine zM _ _ 43 rfl ?_); refine Zp (K := []) (R := [⟨b, [], 126, 0 * 5⟩]) (M := []) hp _ _ _ rfl wy i0 _ 72 Tryz.underlying43 hi0 hz0 hz1 hz2 rfl (by decide) (zb rfl) ⟨rfl, .inr ⟨b, 0, rfl, Nat.le_refl _, Nat.zero_le _, rfl⟩⟩ (some a) n c (zb rfl) xs HL.out (HA.out.below hp.below) H1.out sm1 sm2 ?_; clear hp; intro v' R' w1 hR' hp; have HR' := z0j hR'; clear hR'; simp only [ze, zd, z0b, z0a]) | go_skip)
  go_ret
  exact ⟨v', R', rfl, by simpa using HR'.out, by simpa using hp⟩
theorem zh8 (d : Nat) (n c : Nat) (w : World) : (Op.equalIn (d + 1) 122 (.slice none n c) (.slice none 0 0)).run Tryz.prog w = .ok true w := by
 rw [Op.equalIn]; simp [Sem.run_bind, run_underlying Tryz.underlying122]
theorem zhf (d : Nat) (a : Addr) (n c : Nat) (w : World) : (Op.equalIn (d + 1) 122 (.slice (some a) n c) (.slice none 0 0)).run Tryz.prog w = .ok false w := by
 rw [Op.equalIn]; simp [Sem.run_bind, run_underlying Tryz.underlying122]
theorem zk7 (n c : Nat) (w : World) : (binOp .eql 122 (.slice none n c) (.slice none 0 0)).run Tryz.prog w = .ok (.bool true) w := by
 have h : (Op.equalIn 10000 122 (.slice none n c) (.slice none 0 0)).run Tryz.prog w = .ok true w := zh8 9999 n c w
 simp only [binOp]
 simp [Op.equal, Op.maxDepth, h]
theorem zj3 (a : Addr) (n c : Nat) (w : World) : (binOp .eql 122 (.slice (some a) n c) (.slice none 0 0)).run Tryz.prog w = .ok (.bool false) w := by
 have h : (Op.equalIn 10000 122 (.slice (some a) n c) (.slice none 0 0)).run Tryz.prog w = .ok false w := zhf 9999 a n c w
 simp only [binOp]
 simp [Op.equal, Op.maxDepth, h]
def zf9 (w : World) (n : Nat) (xs : List Value) (e : Ending) (w' : World) : Prop := ∃ v R, e = .returned v ∧ zH 3 1 v n xs R ∧ Hp w.heap.size w w' R
theorem ziT (a : Option Addr) (n c : Nat) (hn : n ≤ 5000) (xs : List Value) (hl : xs.length = n * 1) (h1 : xs.all (·.oneCell') = true) (w : World) (ha : zD w a xs) :
  Calls Tryz.prog 150 #[.slice a n c] w (zf9 w n xs) := by
 obtain ⟨i0, hi0, hz0, hz1, hz2⟩ := info_parts zjN
 have hp := Hp.start w
 cases a with
 | none =>
  have hn0 : n = 0 := by
   rcases Nat.eq_zero_or_pos n with h | h
   ·exact h
   ·obtain ⟨b, off, he, _⟩ := ha.addr (by omega)
    cases he
  subst hn0
  have hx : xs = [] := List.eq_nil_of_length_eq_zero (by simpa using hl)
  subst hx
  clear ha hl h1
  have hq := zk7
  go_enter Tryz.func150, Tryz.ntmps150
  go_wp2
  go_ret
  exact ⟨_, [], rfl, zH.nil _ _, hp⟩
 | some a =>
  have HA := z0j ha
  have HL := z0j hl
  have H1 := z0j h1
  have sm1 : 0 + n ≤ maxLen := by unfold maxLen; omega
  have sm2 : (0 + n) * 8 ≤ 140737488355328 := by omega
  clear ha hl h1
  have hq := zj3
  go_enter Tryz.func150, Tryz.ntmps150
  go_wp2_with (first | ((refine zm _ _ _ rfl ?_); refine ZO hp _ _ _ rfl wy [] 3 (by intro w; go_simp; try rfl) ?_; clear hp; intro b w1 hp; simp only [ze, zd, z0b, z0a]) | ((refine zM _ _ 122 rfl ?_); refine Zp (K := []) (R := [⟨b, [], 3, 0 * 1⟩]) (M := []) hp _ _ _ rfl wy i0 _ 8 Tryz.underlying122 hi0 hz0 hz1 hz2 rfl (by decide) (zb rfl) ⟨rfl, .inr ⟨b, 0, rfl, Nat.le_refl _, Nat.zero_le _, rfl⟩⟩ (some a) n c (zb rfl) xs HL.out (HA.out.below hp.below) H1.out sm1 sm2 ?_; clear hp; intro v' R' w1 hR' hp; have HR' := z0j hR'; clear hR'; simp only [ze, zd, z0b, z0a]) | go_skip)
  go_ret
  exact ⟨v', R', rfl, by simpa using HR'.out, by simpa using hp⟩
end Go.Proofs.YtaafajaadfgaoaaGreat
