/- Entries that come in, opened. -/
import Derived.Test.YtppdjlgjcdmiaaaGreatHDec
import Derived.Test.YtppdjlgjcdmiaaaGreatHMay
set_option linter.unusedSimpArgs false
set_option linter.unusedVariables false
namespace Go.Proofs.YtppdjlgjcdmiaaaGreat
open Go.RowKit Go.ChangeShapes Go.WideShapes Go.ChangeAt Go.Deep
theorem envL_len (e : Env) : (envL e).length = 11 := rfl
section
variable {H : Type} {enc : TypeId × Value → H} {w : World} {base : Nat} {spare : Nat → Bool} {held : Bool} {cs : List Value}
theorem reads_opE (h : Reads H enc Tryz.prog w base spare held 29 cs) : ∃ o : Opv, cs = opL o := by
  obtain ⟨hl, hz⟩ := h.struct Tryz.underlying29
  rw [show Tryz.prog.cellsOf 29 = 7 by kernel_rfl] at hl
  match cs, hl with
  | [v0, v1, v2, v3, v4, v5, v6], _ =>
    obtain ⟨a0, h0, _⟩ := (hz 0 _ rfl 0 1 rfl (by kernel_rfl)).int Tryz.underlying27
    obtain ⟨a1, h1, _⟩ := (hz 1 _ rfl 1 1 rfl (by kernel_rfl)).int Tryz.underlying3
    obtain ⟨a2, h2, _⟩ := (hz 2 _ rfl 2 1 rfl (by kernel_rfl)).int Tryz.underlying3
    obtain ⟨a3, h3, _⟩ := (hz 3 _ rfl 3 1 rfl (by kernel_rfl)).int Tryz.underlying3
    obtain ⟨a4, h4, _⟩ := (hz 4 _ rfl 4 1 rfl (by kernel_rfl)).int Tryz.underlying3
    obtain ⟨a5, h5, _⟩ := (hz 5 _ rfl 5 1 rfl (by kernel_rfl)).int Tryz.underlying3
    obtain ⟨a6, h6, _⟩ := (hz 6 _ rfl 6 1 rfl (by kernel_rfl)).int Tryz.underlying3
    simp at h0 h1 h2 h3 h4 h5 h6
    subst h0 h1 h2 h3 h4 h5 h6
    exact ⟨⟨a0, a1, a2, a3, a4, a5, a6⟩, rfl⟩
theorem reads_entry (h : Reads H enc Tryz.prog w base spare held 45 cs) : ∃ e : Env, cs = envL e ∧ True := by
  obtain ⟨hl, hz⟩ := h.struct Tryz.underlying45
  rw [show Tryz.prog.cellsOf 45 = 11 by kernel_rfl] at hl
  match cs, hl with
  | [v0, v1, v2, v3, v4, v5, v6, v7, v8, v9, v10], _ =>
    obtain ⟨a0, h0, _⟩ := (hz 0 _ rfl 0 1 rfl (by kernel_rfl)).int Tryz.underlying3
    obtain ⟨a1, h1, _⟩ := (hz 1 _ rfl 1 1 rfl (by kernel_rfl)).int Tryz.underlying3
    obtain ⟨a2, h2, _⟩ := (hz 2 _ rfl 2 1 rfl (by kernel_rfl)).int Tryz.underlying3
    obtain ⟨a3, h3, _⟩ := (hz 3 _ rfl 3 1 rfl (by kernel_rfl)).int Tryz.underlying3
    obtain ⟨o, h4⟩ := reads_opE (hz 4 _ rfl 4 7 rfl (by kernel_rfl))
    simp at h0 h1 h2 h3 h4
    subst h0 h1 h2 h3
    refine ⟨⟨a0, a1, a2, a3, o⟩, ?_, trivial⟩
    simp only [envL, List.cons_append, List.nil_append]
    rw [← h4]
theorem reads_entries {v : Value} (h : Reads H enc Tryz.prog w base spare held 61 [v]) : ∃ (a : Option Addr) (l : List Env) (c : Nat), v = .slice a l.length c ∧ RowIs w a (l.flatMap envL) := by
  obtain ⟨a, l, c, h1, h2, _⟩ := h.slice envL (fun _ => True) 11 (by decide) envL_len Tryz.underlying61 (by kernel_rfl) (fun cs h => reads_entry h)
  simp at h1
  exact ⟨a, l, c, h1, h2⟩
end
end Go.Proofs.YtppdjlgjcdmiaaaGreat
