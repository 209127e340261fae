/- Heaps and states that come in, opened. -/
import Derived.Test.YtdbpffgnabpboaaDecS
import Derived.Test.YtdbpffgnabpboaaHTypes
set_option linter.unusedSimpArgs false
set_option linter.unusedVariables false
namespace Go.Proofs.Ytdbpffgnabpboaa
open Go.RowKit Go.ChangeShapes Go.WideShapes Go.ChangeAt Go.Deep
section
variable {H : Type} {enc : TypeId × Value → H} {w : World} {base : Nat} {spare : Nat → Bool} {held : Bool} {cs : List Value}
theorem reads_int (h : Reads H enc Try.prog w base spare held 3 cs) : ∃ x, cs = iV x ∧ True := by
  obtain ⟨n, rfl, _⟩ := h.int Try.underlying3
  exact ⟨n, rfl, trivial⟩
theorem reads_ints (h : Reads H enc Try.prog w base spare held 94 cs) : ∃ (a : Option Addr) (l : List Int) (c : Nat), cs = [.slice a l.length c] ∧ RowIs w a (l.flatMap iV) := by
  obtain ⟨a, l, c, h1, h2, _⟩ := h.slice iV (fun _ => True) 1 (by decide) iV_len Try.underlying94 (by kernel_rfl) (fun cs h => reads_int h)
  exact ⟨a, l, c, h1, h2⟩
theorem reads_bl (h : Reads H enc Try.prog w base spare held 32 cs) : ∃ x, cs = blV x ∧ True := by
  obtain ⟨hl, hz⟩ := h.struct Try.underlying32
  rw [show Try.prog.cellsOf 32 = 2 by kernel_rfl] at hl
  match cs, hl with
  | [v0, v1], _ =>
    obtain ⟨a, ha, _⟩ := (hz 0 _ rfl 0 1 rfl (by kernel_rfl)).int Try.underlying3
    obtain ⟨b, hb, _⟩ := (hz 1 _ rfl 1 1 rfl (by kernel_rfl)).int Try.underlying3
    simp at ha hb
    exact ⟨⟨a, b⟩, by rw [ha, hb]; rfl, trivial⟩
theorem reads_bls (h : Reads H enc Try.prog w base spare held 22 cs) : ∃ (a : Option Addr) (l : List Bl) (c : Nat), cs = [.slice a l.length c] ∧ RowIs w a (l.flatMap blV) := by
  obtain ⟨a, l, c, h1, h2, _⟩ := h.slice blV (fun _ => True) 2 (by decide) blV_len Try.underlying22 (by kernel_rfl) (fun cs h => reads_bl h)
  exact ⟨a, l, c, h1, h2⟩
theorem reads_ob (h : Reads H enc Try.prog w base spare held 108 cs) : ∃ x, cs = obV x ∧ x.Is w := by
  obtain ⟨hl, hz⟩ := h.struct Try.underlying108
  rw [show Try.prog.cellsOf 108 = 5 by kernel_rfl] at hl
  match cs, hl with
  | [v0, v1, v2, v3, v4], _ =>
    obtain ⟨a, ha, _⟩ := (hz 0 _ rfl 0 1 rfl (by kernel_rfl)).int Try.underlying3
    obtain ⟨⟨p, o⟩, hb, _⟩ := reads_bl (hz 1 _ rfl 1 2 rfl (by kernel_rfl))
    obtain ⟨wa, ws, wc, hw, hw2⟩ := reads_ints (hz 2 _ rfl 3 1 rfl (by kernel_rfl))
    obtain ⟨la, ls, lc, hk, hk2⟩ := reads_ints (hz 3 _ rfl 4 1 rfl (by kernel_rfl))
    simp [blV] at ha hb hw hk
    obtain ⟨hb1, hb2⟩ := hb
    subst ha hb1 hb2 hw hk
    exact ⟨⟨a, p, o, wa, ws, wc, la, ls, lc⟩, rfl, hw2, hk2⟩
theorem reads_heap (h : Reads H enc Try.prog w base spare held 41 cs) : ∃ x : Hv, cs = hvL x ∧ x.Is w := by
  obtain ⟨hl, hz⟩ := h.struct Try.underlying41
  rw [show Try.prog.cellsOf 41 = 8 by kernel_rfl] at hl
  match cs, hl with
  | [v0, v1, v2, v3, v4, v5, v6, v7], _ =>
    obtain ⟨od, h0, _⟩ := (hz 0 _ rfl 0 1 rfl (by kernel_rfl)).int Try.underlying3
    obtain ⟨oa, os, oc, h1, h1r, h1g⟩ := (hz 1 _ rfl 1 1 rfl (by kernel_rfl)).slice obV (fun x => x.Is w) 5 (by decide) obV_len Try.underlying38 (by kernel_rfl) (fun cs h => reads_ob h)
    obtain ⟨nx, h2, _⟩ := (hz 2 _ rfl 2 1 rfl (by kernel_rfl)).int Try.underlying3
    obtain ⟨t0, t1, t2, t3, h3⟩ := (hz 3 _ rfl 3 4 rfl (by kernel_rfl)).four Try.underlying39 Try.underlying3 (by kernel_rfl) (by kernel_rfl)
    obtain ⟨fa, fs, fc, h4, h4r⟩ := reads_bls (hz 4 _ rfl 7 1 rfl (by kernel_rfl))
    simp at h0 h1 h2 h3 h4
    obtain ⟨h30, h31, h32, h33⟩ := h3
    subst h0 h1 h2 h30 h31 h32 h33 h4
    exact ⟨⟨od, oa, os, oc, nx, t0, t1, t2, t3, fa, fs, fc⟩, rfl, h1r, h1g, h4r⟩
theorem reads_result (h : Reads H enc Try.prog w base spare held 55 cs) : ∃ a b, cs = [.int .i64 a, .int .i64 b] := by
  obtain ⟨hl, hz⟩ := h.struct Try.underlying55
  rw [show Try.prog.cellsOf 55 = 2 by kernel_rfl] at hl
  match cs, hl with
  | [v0, v1], _ =>
    obtain ⟨a, ha, _⟩ := (hz 0 _ rfl 0 1 rfl (by kernel_rfl)).int Try.underlying24
    obtain ⟨b, hb, _⟩ := (hz 1 _ rfl 1 1 rfl (by kernel_rfl)).int Try.underlying3
    simp at ha hb
    exact ⟨a, b, by rw [ha, hb]⟩
theorem reads_row (h : Reads H enc Try.prog w base spare held 57 cs) : ∃ x, cs = rwV x ∧ True := by
  obtain ⟨hl, hz⟩ := h.struct Try.underlying57
  rw [show Try.prog.cellsOf 57 = 4 by kernel_rfl] at hl
  match cs, hl with
  | [v0, v1, v2, v3], _ =>
    obtain ⟨a, ha, _⟩ := (hz 0 _ rfl 0 1 rfl (by kernel_rfl)).int Try.underlying3
    obtain ⟨b, hb, _⟩ := (hz 1 _ rfl 1 1 rfl (by kernel_rfl)).int Try.underlying3
    obtain ⟨c, d, hc⟩ := reads_result (hz 2 _ rfl 2 2 rfl (by kernel_rfl))
    simp at ha hb hc
    obtain ⟨hc, hd⟩ := hc
    subst ha hb hc hd
    exact ⟨⟨a, b, c, d⟩, rfl, trivial⟩
theorem reads_state (h : Reads H enc Try.prog w base spare held 44 cs) : ∃ x : Sv, cs = svL x ∧ x.Is w := by
  obtain ⟨hl, hz⟩ := h.struct Try.underlying44
  rw [show Try.prog.cellsOf 44 = 9 by kernel_rfl] at hl
  match cs, hl with
  | [v0, v1, v2, v3, v4, v5, v6, v7, v8], _ =>
    obtain ⟨x, h0, hx⟩ := reads_heap (hz 0 _ rfl 0 8 rfl (by kernel_rfl))
    obtain ⟨ra, rs, rc, h1, h1r, _⟩ := (hz 1 _ rfl 8 1 rfl (by kernel_rfl)).slice rwV (fun _ => True) 4 (by decide) rwV_len Try.underlying42 (by kernel_rfl) (fun cs h => reads_row h)
    simp at h0 h1
    refine ⟨⟨x, ra, rs, rc⟩, ?_, hx, h1r⟩
    simp only [svL]
    rw [← h0, h1]; rfl
end
end Go.Proofs.Ytdbpffgnabpboaa
