/- make([]T, n) of one-cell elements as a block of the call's own. No program in sight. -/
import Derived.Test.YtbflmnoaiklnbaaSl
import Derived.Laws.MakeOwn
set_option linter.unusedSimpArgs false
set_option linter.unusedVariables false
namespace Go.Proofs.Ytbflmnoaiklnbaa
open Go.RowKit
theorem made_one (z : Value) (m : Nat) : madeCells #[z] m = (List.replicate m z).toArray := by
  unfold madeCells
  apply Array.ext
  · simp
  · intro i h1 h2
    simp [Nat.mod_one]
section
variable {P : Program} {ops : Array Oper} {rest : List Oper} {o : Oper} {a : Act} {w : World} {Q : Exit → Act → World → Prop} {w0 : World} {L : List Blk}
theorem wpList_makeSlice_hp {B : Nat} (hp : Hp B w0 w L) (t : TypeId) (x y : Operand) (ho : o.op = .makeSlice t x y) (hw : Region.wanted o (yielded ops a.tmps) = true) (e : TypeId) (i : TypeInfo) (z : Value)
    (ht : P.underlying t = some (.slice e)) (hi : P.info? e = some i) (hz : i.zero = some z) (hs : i.size = 1) (hzc : z.cells = #[z]) (zz : Int) (hx : a.eval x = .int .i64 zz) (hy : a.eval y = .int .i64 zz)
    (m : Nat) (hm : zz = m) (hb : i.bytes * m ≤ 281474976710656) (h63 : m ≤ 9223372036854775807)
    (h : ∀ b w', Hp B w0 w' (⟨b, List.replicate m z, e, m⟩ :: L) → wpList P ops Q rest (a.put o.dst (.slice (some ⟨b, 0, none⟩) m m)) w') : wpList P ops Q (o :: rest) a w := by
  refine BigFrame.wpList_want hw fun K hK => ?_
  unfold Oper.wp execOp
  subst hm
  have hr := run_make (P := P) w t e i z ht hi hz .i64 .i64 (m : Int) (m : Int) (by omega) (by omega) (by have := Int.ofNat_le.2 hb; rw [Int.natCast_mul] at this; exact this) (Int.ofNat_le.2 h63)
  rw [hzc, hs, Int.toNat_natCast, Nat.mul_one, made_one] at hr
  simp only [ho, hx, hy, Sem.run_bind, hr, Result.andThen_ok, Sem.run_pure]
  exact hK _ _ (h _ _ (hp.alloc (List.replicate m z).toArray (List.replicate m z) e m (by rw [List.size_toArray, List.length_replicate]) (List.take_of_length_le (Nat.le_refl _))))
end
end Go.Proofs.Ytbflmnoaiklnbaa
