/- Arrays of four numbers: '=='. No program in sight. -/
import Derived.Test.YtbflmnoaiklnbaaSl
import Derived.Laws.StructEq
set_option linter.unusedSimpArgs false
set_option linter.unusedVariables false
namespace Go.Proofs.Ytbflmnoaiklnbaa
open Go.RowKit
/-- A block's number under a name: 'obtain ⟨b1, rfl⟩ := hp.id1'. -/
theorem Hp.id0 {B : Nat} {w0 w : World} {L : List Blk} {j : Nat} {l : List Value} {t : TypeId} {n : Nat} (_ : Hp B w0 w (⟨j, l, t, n⟩ :: L)) : ∃ x, x = j := ⟨_, rfl⟩
theorem Hp.id1 {B : Nat} {w0 w : World} {L : List Blk} {p : Blk} {j : Nat} {l : List Value} {t : TypeId} {n : Nat} (_ : Hp B w0 w (p :: ⟨j, l, t, n⟩ :: L)) : ∃ x, x = j := ⟨_, rfl⟩
theorem Hp.id2 {B : Nat} {w0 w : World} {L : List Blk} {p q : Blk} {j : Nat} {l : List Value} {t : TypeId} {n : Nat} (_ : Hp B w0 w (p :: q :: ⟨j, l, t, n⟩ :: L)) : ∃ x, x = j := ⟨_, rfl⟩
theorem Hp.id3 {B : Nat} {w0 w : World} {L : List Blk} {p q r : Blk} {j : Nat} {l : List Value} {t : TypeId} {n : Nat} (_ : Hp B w0 w (p :: q :: r :: ⟨j, l, t, n⟩ :: L)) : ∃ x, x = j := ⟨_, rfl⟩
section
variable {P : Program}
theorem run_part1 {e : TypeId} (he : cellB P e = true) {xs : Array Value} {off : Nat} {v : Value} (hx : xs[off]? = some v) (w : World) : (part e xs off).run P w = .ok v w := by
  obtain ⟨h1, _⟩ := run_isAgg_cell he w
  simp [part, Sem.run_bind, h1, hx]
def fourV (a b c d : Int) : Value := .agg #[.int .i64 a, .int .i64 b, .int .i64 c, .int .i64 d]
theorem run_four {t e : TypeId} (ht : P.underlying t = some (.array 4 e)) (he : cellB P e = true) (hk : P.underlying e = some (.int .i64)) (n : Nat) (a b c d a' b' c' d' : Int) (w : World) :
    (Op.equalIn (n + 2) t (fourV a b c d) (fourV a' b' c' d')).run P w = .ok (a == a' && b == b' && c == c' && d == d') w := by
  obtain ⟨_, h2⟩ := run_isAgg_cell he w
  have hp : ∀ (xs : Array Value) (off : Nat) (v : Value) (hx : xs[off]? = some v), (part e xs off).run P w = .ok v w := fun xs off v hx => run_part1 he hx w
  have h1 : ∀ m x y, (Op.equalIn (m + 1) e (.int .i64 x) (.int .i64 y)).run P w = .ok (x == y) w := fun m x y => run_equalIn_int w m e _ _ x y hk
  have q0 : ∀ x y z u : Int, (part e #[.int .i64 x, .int .i64 y, .int .i64 z, .int .i64 u] 0).run P w = .ok (.int .i64 x) w := fun x y z u => hp _ _ _ rfl
  have q1 : ∀ x y z u : Int, (part e #[.int .i64 x, .int .i64 y, .int .i64 z, .int .i64 u] 1).run P w = .ok (.int .i64 y) w := fun x y z u => hp _ _ _ rfl
  have q2 : ∀ x y z u : Int, (part e #[.int .i64 x, .int .i64 y, .int .i64 z, .int .i64 u] 2).run P w = .ok (.int .i64 z) w := fun x y z u => hp _ _ _ rfl
  have q3 : ∀ x y z u : Int, (part e #[.int .i64 x, .int .i64 y, .int .i64 z, .int .i64 u] 3).run P w = .ok (.int .i64 u) w := fun x y z u => hp _ _ _ rfl
  unfold fourV
  rw [Op.equalIn]
  simp [Sem.run_bind, run_underlying ht, Result.andThen_ok, h2]
  rw [show List.range' 0 4 = [0, 1, 2, 3] from rfl]
  simp only [List.forIn_cons, List.forIn_nil, Sem.run_bind, Result.andThen_ok, q0, q1, q2, q3, h1, Sem.run_ite, Sem.run_pure]
  by_cases hA : a = a' <;> by_cases hB : b = b' <;> by_cases hC : c = c' <;> by_cases hD : d = d' <;> simp [Sem.run_bind, Result.andThen_ok, Sem.run_ite, Sem.run_pure, q0, q1, q2, q3, h1, hA, hB, hC, hD]
variable {ops : Array Oper} {rest : List Oper} {o : Oper} {a : Act} {w : World} {Q : Exit → Act → World → Prop}
theorem pre_neq (ty u : TypeId) (x y : Operand) (_ : o.op = .binOp .neq ty x y u) (h : wpList P ops Q (o :: rest) a w) : wpList P ops Q (o :: rest) a w := h
theorem wpList_neqFour (t u : TypeId) (x y : Operand) (ho : o.op = .binOp .neq t x y u) (hw : Region.wanted o (yielded ops a.tmps) = true) {e : TypeId} (ht : P.underlying t = some (.array 4 e)) (he : cellB P e = true) (hk : P.underlying e = some (.int .i64))
    (hm : P.eqGuardType P.depth t = false) (p q r s p' q' r' s' : Int) (hx : a.eval x = fourV p q r s) (hy : a.eval y = fourV p' q' r' s')
    (h : wpList P ops Q rest (a.put o.dst (.bool (!(p == p' && q == q' && r == r' && s == s')))) w) : wpList P ops Q (o :: rest) a w := by
  refine BigFrame.wpList_want hw fun K hK => ?_
  unfold Oper.wp execOp
  have hr : (Op.equalIn 10000 t (.agg #[.int .i64 p, .int .i64 q, .int .i64 r, .int .i64 s]) (.agg #[.int .i64 p', .int .i64 q', .int .i64 r', .int .i64 s'])).run P w = .ok (p == p' && q == q' && r == r' && s == s') w := run_four (n := 9998) ht he hk p q r s p' q' r' s' w
  simp only [ho, hx, hy, fourV, Sem.run_bind, Sem.run_pure, run_eqGuard_agg w _ _ _ _ _ _ hm, run_neq_struct, Result.andThen_ok, hr]
  exact hK _ _ h
end
end Go.Proofs.Ytbflmnoaiklnbaa
