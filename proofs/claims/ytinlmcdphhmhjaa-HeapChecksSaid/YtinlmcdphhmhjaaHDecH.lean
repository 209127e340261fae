/- Heaps that come in, opened. -/
import Derived.Test.YtinlmcdphhmhjaaDecS
import Derived.Test.YtinlmcdphhmhjaaHTypes
set_option linter.unusedSimpArgs false
set_option linter.unusedVariables false
namespace Go.Proofs.Ytinlmcdphhmhjaa
open Go.RowKit Go.ChangeShapes Go.WideShapes Go.ChangeAt Go.Deep
section
variable {H : Type} {enc : TypeId × Value → H} {w : World} {base : Nat} {spare : Nat → Bool} {held : Bool} {cs : List Value}
theorem reads_int (h : Reads H enc Try.prog w base spare held 3 cs) : ∃ x, cs = iV x ∧ True := by
  obtain ⟨n, rfl, _⟩ := h.int Try.underlying3
  exact ⟨n, rfl, trivial⟩
theorem reads_ints (h : Reads H enc Try.prog w base spare held 53 cs) : ∃ (a : Option Addr) (l : List Int) (c : Nat), cs = [.slice a l.length c] ∧ RowIs w a (l.flatMap iV) := by
  obtain ⟨a, l, c, h1, h2, _⟩ := h.slice iV (fun _ => True) 1 (by decide) iV_len Try.underlying53 (by kernel_rfl) (fun cs h => reads_int h)
  exact ⟨a, l, c, h1, h2⟩
theorem reads_bl (h : Reads H enc Try.prog w base spare held 39 cs) : ∃ x, cs = blV x ∧ True := by
  obtain ⟨hl, hz⟩ := h.struct Try.underlying39
  rw [show Try.prog.cellsOf 39 = 2 by kernel_rfl] at hl
  match cs, hl with
  | [v0, v1], _ =>
    obtain ⟨a, ha, _⟩ := (hz 0 _ rfl 0 1 rfl (by kernel_rfl)).int Try.underlying3
    obtain ⟨b, hb, _⟩ := (hz 1 _ rfl 1 1 rfl (by kernel_rfl)).int Try.underlying3
    simp at ha hb
    exact ⟨⟨a, b⟩, by rw [ha, hb]; rfl, trivial⟩
theorem reads_bls (h : Reads H enc Try.prog w base spare held 24 cs) : ∃ (a : Option Addr) (l : List Bl) (c : Nat), cs = [.slice a l.length c] ∧ RowIs w a (l.flatMap blV) := by
  obtain ⟨a, l, c, h1, h2, _⟩ := h.slice blV (fun _ => True) 2 (by decide) blV_len Try.underlying24 (by kernel_rfl) (fun cs h => reads_bl h)
  exact ⟨a, l, c, h1, h2⟩
theorem reads_ob (h : Reads H enc Try.prog w base spare held 55 cs) : ∃ x, cs = obV x ∧ x.Is w := by
  obtain ⟨hl, hz⟩ := h.struct Try.underlying55
  rw [show Try.prog.cellsOf 55 = 5 by kernel_rfl] at hl
  match cs, hl with
  | [v0, v1, v2, v3, v4], _ =>
    obtain ⟨a, ha, _⟩ := (hz 0 _ rfl 0 1 rfl (by kernel_rfl)).int Try.underlying3
    obtain ⟨⟨p, o⟩, hb, _⟩ := reads_bl (hz 1 _ rfl 1 2 rfl (by kernel_rfl))
    obtain ⟨wa, ws, wc, hw, hw2⟩ := reads_ints (hz 2 _ rfl 3 1 rfl (by kernel_rfl))
    obtain ⟨la, ls, lc, hk, hk2⟩ := reads_ints (hz 3 _ rfl 4 1 rfl (by kernel_rfl))
    simp [blV] at ha hb hw hk
    obtain ⟨hb1, hb2⟩ := hb
    subst ha hb1 hb2 hw hk
    exact ⟨⟨a, p, o, wa, ws, wc, la, ls, lc⟩, rfl, hw2, hk2⟩
theorem reads_heap (h : Reads H enc Try.prog w base spare held 26 cs) : ∃ x : Hv, cs = hvL x ∧ x.Is w := by
  obtain ⟨hl, hz⟩ := h.struct Try.underlying26
  rw [show Try.prog.cellsOf 26 = 8 by kernel_rfl] at hl
  match cs, hl with
  | [v0, v1, v2, v3, v4, v5, v6, v7], _ =>
    obtain ⟨od, h0, _⟩ := (hz 0 _ rfl 0 1 rfl (by kernel_rfl)).int Try.underlying3
    obtain ⟨oa, os, oc, h1, h1r, h1g⟩ := (hz 1 _ rfl 1 1 rfl (by kernel_rfl)).slice obV (fun x => x.Is w) 5 (by decide) obV_len Try.underlying22 (by kernel_rfl) (fun cs h => reads_ob h)
    obtain ⟨nx, h2, _⟩ := (hz 2 _ rfl 2 1 rfl (by kernel_rfl)).int Try.underlying3
    obtain ⟨t0, t1, t2, t3, h3⟩ := (hz 3 _ rfl 3 4 rfl (by kernel_rfl)).four Try.underlying23 Try.underlying3 (by kernel_rfl) (by kernel_rfl)
    obtain ⟨fa, fs, fc, h4, h4r⟩ := reads_bls (hz 4 _ rfl 7 1 rfl (by kernel_rfl))
    simp at h0 h1 h2 h3 h4
    obtain ⟨h30, h31, h32, h33⟩ := h3
    subst h0 h1 h2 h30 h31 h32 h33 h4
    exact ⟨⟨od, oa, os, oc, nx, t0, t1, t2, t3, fa, fs, fc⟩, rfl, h1r, h1g, h4r⟩
theorem reads_heapN (h : Reads H enc Try.prog w base spare held 26 cs) : ∃ x : Hv, cs = hvL x ∧ (x.Is w ∧ x.nx ≤ 9223372036854775807) := by
  obtain ⟨x, rfl, hx⟩ := reads_heap h
  refine ⟨x, rfl, hx, ?_⟩
  obtain ⟨hl, hz⟩ := h.struct Try.underlying26
  obtain ⟨nx, h2, h3⟩ := (hz 2 _ rfl 2 1 rfl (by kernel_rfl)).int Try.underlying3
  simp [hvL] at h2
  subst h2
  have h5 : IntKind.i64.max = 9223372036854775807 := by decide
  have h6 := h3.2
  rw [h5] at h6
  exact h6
end
end Go.Proofs.Ytinlmcdphhmhjaa
