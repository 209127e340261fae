/- Heaps and states that come in, opened. -/
import Derived.Test.YtppdjlgjcdmiaaaGreatQC
set_option linter.unusedSimpArgs false
set_option linter.unusedVariables false
namespace Go.Proofs.YtppdjlgjcdmiaaaGreat
open Go.RowKit Go.ChangeShapes Go.WideShapes Go.ChangeAt Go.Deep
section
variable {H : Type} {enc : TypeId × Value → H} {w : World} {base : Nat} {spare : Nat → Bool} {held : Bool} {cs : List Value}
theorem reads_result (h : Reads H enc Tryz.prog w base spare held 34 cs) : ∃ a b, cs = [.int .i64 a, .int .i64 b] := by
  obtain ⟨hl, hz⟩ := h.struct Tryz.underlying34
  rw [show Tryz.prog.cellsOf 34 = 2 by kernel_rfl] at hl
  match cs, hl with
  | [v0, v1], _ =>
    obtain ⟨a, ha, _⟩ := (hz 0 _ rfl 0 1 rfl (by kernel_rfl)).int Tryz.underlying32
    obtain ⟨b, hb, _⟩ := (hz 1 _ rfl 1 1 rfl (by kernel_rfl)).int Tryz.underlying3
    simp at ha hb
    exact ⟨a, b, by rw [ha, hb]⟩
theorem reads_row (h : Reads H enc Tryz.prog w base spare held 57 cs) : ∃ x, cs = rwV x ∧ True := by
  obtain ⟨hl, hz⟩ := h.struct Tryz.underlying57
  rw [show Tryz.prog.cellsOf 57 = 4 by kernel_rfl] at hl
  match cs, hl with
  | [v0, v1, v2, v3], _ =>
    obtain ⟨a, ha, _⟩ := (hz 0 _ rfl 0 1 rfl (by kernel_rfl)).int Tryz.underlying3
    obtain ⟨b, hb, _⟩ := (hz 1 _ rfl 1 1 rfl (by kernel_rfl)).int Tryz.underlying3
    obtain ⟨c, d, hc⟩ := reads_result (hz 2 _ rfl 2 2 rfl (by kernel_rfl))
    simp at ha hb hc
    obtain ⟨hc, hd⟩ := hc
    subst ha hb hc hd
    exact ⟨⟨a, b, c, d⟩, rfl, trivial⟩
theorem reads_state (h : Reads H enc Tryz.prog w base spare held 43 cs) : ∃ x : Sv, cs = svL x ∧ x.Is w := by
  obtain ⟨hl, hz⟩ := h.struct Tryz.underlying43
  rw [show Tryz.prog.cellsOf 43 = 9 by kernel_rfl] at hl
  match cs, hl with
  | [v0, v1, v2, v3, v4, v5, v6, v7, v8], _ =>
    obtain ⟨x, h0, hx⟩ := reads_heap (hz 0 _ rfl 0 8 rfl (by kernel_rfl))
    obtain ⟨ra, rs, rc, h1, h1r, _⟩ := (hz 1 _ rfl 8 1 rfl (by kernel_rfl)).slice rwV (fun _ => True) 4 (by decide) rwV_len Tryz.underlying41 (by kernel_rfl) (fun cs h => reads_row h)
    simp at h0 h1
    refine ⟨⟨x, ra, rs, rc⟩, ?_, hx, h1r⟩
    simp only [svL]
    rw [← h0, h1]; rfl
end
end Go.Proofs.YtppdjlgjcdmiaaaGreat
