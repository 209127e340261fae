import Derived.Test.YtcjbepaclbhjaaaTjQC
import Derived.Test.YtcjbepaclbhjaaaTjDV
/- A row of operations that comes in, opened (a heap's operations alone). -/
set_option linter.unusedSimpArgs false
set_option linter.unusedVariables false
namespace Go.Proofs.Ytcjbepaclbhjaaa
open Go.RowKit Go.ChangeShapes Go.WideShapes Go.ChangeAt Go.Deep
section
variable {H : Type} {enc : TypeId × Value → H} {w : World} {base : Nat} {spare : Nat → Bool} {held : Bool} {cs : List Value}
theorem reads_opT (h : Reads H enc Try.prog w base spare held 39 cs) : ∃ x : Opd, cs = opdL x ∧ True := by
  obtain ⟨hl, hz⟩ := h.struct Try.underlying39
  rw [show Try.prog.cellsOf 39 = 7 by kernel_rfl] at hl
  match cs, hl with
  | [v0, v1, v2, v3, v4, v5, v6], _ =>
    obtain ⟨a0, h0, _⟩ := (hz 0 _ rfl 0 1 rfl (by kernel_rfl)).int Try.underlying37
    obtain ⟨a1, h1, _⟩ := (hz 1 _ rfl 1 1 rfl (by kernel_rfl)).int Try.underlying3
    obtain ⟨a2, h2, _⟩ := (hz 2 _ rfl 2 1 rfl (by kernel_rfl)).int Try.underlying3
    obtain ⟨a3, h3, _⟩ := (hz 3 _ rfl 3 1 rfl (by kernel_rfl)).int Try.underlying3
    obtain ⟨a4, h4, _⟩ := (hz 4 _ rfl 4 1 rfl (by kernel_rfl)).int Try.underlying3
    obtain ⟨a5, h5, _⟩ := (hz 5 _ rfl 5 1 rfl (by kernel_rfl)).int Try.underlying3
    obtain ⟨a6, h6, _⟩ := (hz 6 _ rfl 6 1 rfl (by kernel_rfl)).int Try.underlying3
    simp at h0 h1 h2 h3 h4 h5 h6
    subst h0 h1 h2 h3 h4 h5 h6
    exact ⟨⟨a0, a1, a2, a3, a4, a5, a6⟩, rfl, trivial⟩
theorem reads_opsT {v : Value} (h : Reads H enc Try.prog w base spare held 22 [v]) : ∃ (a : Option Addr) (l : List Opd) (c : Nat), v = .slice a l.length c ∧ RowIs w a (l.flatMap opdL) := by
  obtain ⟨a, l, c, h1, h2, _⟩ := h.slice opdL (fun _ => True) 7 (by decide) (fun _ => rfl) Try.underlying22 (by kernel_rfl) (fun cs h => reads_opT h)
  simp at h1
  exact ⟨a, l, c, h1, h2⟩
end
end Go.Proofs.Ytcjbepaclbhjaaa
