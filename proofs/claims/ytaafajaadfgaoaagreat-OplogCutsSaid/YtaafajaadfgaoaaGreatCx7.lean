import Derived.Test.YtaafajaadfgaoaaGreatCx1
import Derived.Test.YtaafajaadfgaoaaGreatCx2
set_option linter.unusedSimpArgs false
set_option linter.unusedVariables false
set_option maxRecDepth 100000
set_option maxHeartbeats 60000000
namespace Go.Proofs.YtaafajaadfgaoaaGreat
open Go.RowKit
theorem zk1 (d : Nat) (n c : Nat) (w : World) : (Op.equalIn (d + 1) 43 (.slice none n c) (.slice none 0 0)).run Tryz.prog w = .ok true w := by
 rw [Op.equalIn]; simp [Sem.run_bind, run_underlying Tryz.underlying43]
theorem zi7 (d : Nat) (a : Addr) (n c : Nat) (w : World) : (Op.equalIn (d + 1) 43 (.slice (some a) n c) (.slice none 0 0)).run Tryz.prog w = .ok false w := by
 rw [Op.equalIn]; simp [Sem.run_bind, run_underlying Tryz.underlying43]
theorem zpI (n c : Nat) (w : World) : (binOp .eql 43 (.slice none n c) (.slice none 0 0)).run Tryz.prog w = .ok (.bool true) w := by
 have h : (Op.equalIn 10000 43 (.slice none n c) (.slice none 0 0)).run Tryz.prog w = .ok true w := zk1 9999 n c w
 simp only [binOp]
 simp [Op.equal, Op.maxDepth, h]
theorem znZ (a : Addr) (n c : Nat) (w : World) : (binOp .eql 43 (.slice (some a) n c) (.slice none 0 0)).run Tryz.prog w = .ok (.bool false) w := by
 have h : (Op.equalIn 10000 43 (.slice (some a) n c) (.slice none 0 0)).run Tryz.prog w = .ok false w := zi7 9999 a n c w
 simp only [binOp]
 simp [Op.equal, Op.maxDepth, h]
def zhi (w : World) (n : Nat) (xs : List Value) (e : Ending) (w' : World) : Prop := ∃ v R, e = .returned v ∧ zA 126 5 v n xs R ∧ Hp w.heap.size w w' R
theorem zoT (a : Option Addr) (n c : Nat) (hn : n ≤ 2000) (xs : List Value) (hl : xs.length = n * 5) (h1 : xs.all (·.oneCell') = true) (w : World) (ha : zm w a xs) :
  Calls Tryz.prog 149 #[.slice a n c] w (zhi w n xs) := by
 obtain ⟨i0, hi0, hz0, hz1, hz2⟩ := info_parts zgU
 have hp := Hp.start w
 cases a with
 | none =>
  have hn0 : n = 0 := by
   rcases Nat.eq_zero_or_pos n with h | h
   ·exact h
   ·obtain ⟨b, off, he, _⟩ := ha.addr (by omega)
    cases he
  subst hn0
  have hx : xs = [] := List.eq_nil_of_length_eq_zero (by simpa using hl)
  subst hx
  clear ha hl h1
  have hq := zpI
  go_enter Tryz.func149, Tryz.ntmps149
  go_wp2
  go_ret
  exact ⟨_, [], rfl, zA.nil _ _, hp⟩
 | some a =>
  have HA := z0j ha
  have HL := z0j hl
  have H1 := z0j h1
  have sm1 : 0 + n ≤ maxLen := by unfold maxLen; omega
  have sm2 : (0 + n) * 72 ≤ 140737488355328 := by omega
  clear ha hl h1
  have hq := znZ
  go_enter Tryz.func149, Tryz.ntmps149
  go_wp2_with (first | ((refine zC _ _ _ rfl ?_); refine Zm hp _ _ _ rfl wy [] 126 (by intro w; go_simp; try rfl) ?_; clear hp; intro b w1 hp; simp only [zc, zb, z0b, z0a]) | ((refine zG _ _ 43 rfl ?_); refine zR (K := []) (R := [⟨b, [], 126, 0 * 5⟩]) (M := []) hp _ _ _ rfl wy i0 _ 72 Tryz.underlying43 hi0 hz0 hz1 hz2 rfl (by decide) (za rfl) ⟨rfl, .inr ⟨b, 0, rfl, Nat.le_refl _, Nat.zero_le _, rfl⟩⟩ (some a) n c (za rfl) xs HL.out (HA.out.below hp.below) H1.out sm1 sm2 ?_; clear hp; intro v' R' w1 hR' hp; have HR' := z0j hR'; clear hR'; simp only [zc, zb, z0b, z0a]))
  go_ret
  exact ⟨v', R', rfl, by simpa using HR'.out, by simpa using hp⟩
theorem zi5 (d : Nat) (n c : Nat) (w : World) : (Op.equalIn (d + 1) 122 (.slice none n c) (.slice none 0 0)).run Tryz.prog w = .ok true w := by
 rw [Op.equalIn]; simp [Sem.run_bind, run_underlying Tryz.underlying122]
theorem zhK (d : Nat) (a : Addr) (n c : Nat) (w : World) : (Op.equalIn (d + 1) 122 (.slice (some a) n c) (.slice none 0 0)).run Tryz.prog w = .ok false w := by
 rw [Op.equalIn]; simp [Sem.run_bind, run_underlying Tryz.underlying122]
theorem znv (n c : Nat) (w : World) : (binOp .eql 122 (.slice none n c) (.slice none 0 0)).run Tryz.prog w = .ok (.bool true) w := by
 have h : (Op.equalIn 10000 122 (.slice none n c) (.slice none 0 0)).run Tryz.prog w = .ok true w := zi5 9999 n c w
 simp only [binOp]
 simp [Op.equal, Op.maxDepth, h]
theorem zlL (a : Addr) (n c : Nat) (w : World) : (binOp .eql 122 (.slice (some a) n c) (.slice none 0 0)).run Tryz.prog w = .ok (.bool false) w := by
 have h : (Op.equalIn 10000 122 (.slice (some a) n c) (.slice none 0 0)).run Tryz.prog w = .ok false w := zhK 9999 a n c w
 simp only [binOp]
 simp [Op.equal, Op.maxDepth, h]
def zgu (w : World) (n : Nat) (xs : List Value) (e : Ending) (w' : World) : Prop := ∃ v R, e = .returned v ∧ zA 3 1 v n xs R ∧ Hp w.heap.size w w' R
theorem zjY (a : Option Addr) (n c : Nat) (hn : n ≤ 5000) (xs : List Value) (hl : xs.length = n * 1) (h1 : xs.all (·.oneCell') = true) (w : World) (ha : zm w a xs) :
  Calls Tryz.prog 150 #[.slice a n c] w (zgu w n xs) := by
 obtain ⟨i0, hi0, hz0, hz1, hz2⟩ := info_parts zm5
 have hp := Hp.start w
 cases a with
 | none =>
  have hn0 : n = 0 := by
   rcases Nat.eq_zero_or_pos n with h | h
   ·exact h
   ·obtain ⟨b, off, he, _⟩ := ha.addr (by omega)
    cases he
  subst hn0
  have hx : xs = [] := List.eq_nil_of_length_eq_zero (by simpa using hl)
  subst hx
  clear ha hl h1
  have hq := znv
  go_enter Tryz.func150, Tryz.ntmps150
  go_wp2
  go_ret
  exact ⟨_, [], rfl, zA.nil _ _, hp⟩
 | some a =>
  have HA := z0j ha
  have HL := z0j hl
  have H1 := z0j h1
  have sm1 : 0 + n ≤ maxLen := by unfold maxLen; omega
  have sm2 : (0 + n) * 8 ≤ 140737488355328 := by omega
  clear ha hl h1
  have hq := zlL
  go_enter Tryz.func150, Tryz.ntmps150
  go_wp2_with (first | ((refine zC _ _ _ rfl ?_); refine Zm hp _ _ _ rfl wy [] 3 (by intro w; go_simp; try rfl) ?_; clear hp; intro b w1 hp; simp only [zc, zb, z0b, z0a]) | ((refine zG _ _ 122 rfl ?_); refine zR (K := []) (R := [⟨b, [], 3, 0 * 1⟩]) (M := []) hp _ _ _ rfl wy i0 _ 8 Tryz.underlying122 hi0 hz0 hz1 hz2 rfl (by decide) (za rfl) ⟨rfl, .inr ⟨b, 0, rfl, Nat.le_refl _, Nat.zero_le _, rfl⟩⟩ (some a) n c (za rfl) xs HL.out (HA.out.below hp.below) H1.out sm1 sm2 ?_; clear hp; intro v' R' w1 hR' hp; have HR' := z0j hR'; clear hR'; simp only [zc, zb, z0b, z0a]))
  go_ret
  exact ⟨v', R', rfl, by simpa using HR'.out, by simpa using hp⟩
end Go.Proofs.YtaafajaadfgaoaaGreat
