import Derived.Test.YtpgljcapgakanaaGreatGaQC
import Derived.Test.YtpgljcapgakanaaGreatGaPL
/- Heaps and states that come in, opened: what words they hold is in range. -/
set_option linter.unusedSimpArgs false
set_option linter.unusedVariables false
namespace Go.Proofs.YtpgljcapgakanaaGreat
open Go.RowKit Go.ChangeShapes Go.WideShapes Go.ChangeAt Go.Deep
section
variable {H : Type} {enc : TypeId × Value → H} {w : World} {base : Nat} {spare : Nat → Bool} {held : Bool} {cs : List Value}
theorem has_I64 {n : Int} (h : IntKind.i64.has n) : I64 n := by
  have h5 : IntKind.i64.max = 9223372036854775807 := by decide
  have h6 : IntKind.i64.min = -9223372036854775808 := by decide
  have h7 := h.1
  have h8 := h.2
  rw [h6] at h7
  rw [h5] at h8
  exact ⟨h7, h8⟩
theorem reads_intW (h : Reads H enc Tryz.prog w base spare held 3 cs) : ∃ x, cs = iV x ∧ I64 x := by
  obtain ⟨n, rfl, hn⟩ := h.int Tryz.underlying3
  exact ⟨n, rfl, has_I64 hn⟩
theorem reads_intsW (h : Reads H enc Tryz.prog w base spare held 104 cs) : ∃ (a : Option Addr) (l : List Int) (c : Nat), cs = [.slice a l.length c] ∧ RowIs w a (l.flatMap iV) ∧ ∀ v ∈ l, I64 v := h.slice iV I64 1 (by decide) iV_len Tryz.underlying104 (by kernel_rfl) (fun cs h => reads_intW h)
theorem reads_obW (h : Reads H enc Tryz.prog w base spare held 136 cs) : ∃ x, cs = obV x ∧ x.Is w ∧ ∀ v ∈ x.ws, I64 v := by
  obtain ⟨hl, hz⟩ := h.struct Tryz.underlying136
  rw [show Tryz.prog.cellsOf 136 = 5 by kernel_rfl] at hl
  match cs, hl with
  | [v0, v1, v2, v3, v4], _ =>
    obtain ⟨a, ha, _⟩ := (hz 0 _ rfl 0 1 rfl (by kernel_rfl)).int Tryz.underlying3
    obtain ⟨⟨p, o⟩, hb, _⟩ := reads_bl (hz 1 _ rfl 1 2 rfl (by kernel_rfl))
    obtain ⟨wa, ws, wc, hw, hw2, hw3⟩ := reads_intsW (hz 2 _ rfl 3 1 rfl (by kernel_rfl))
    obtain ⟨la, ls, lc, hk, hk2⟩ := reads_ints (hz 3 _ rfl 4 1 rfl (by kernel_rfl))
    simp [blV] at ha hb hw hk
    obtain ⟨hb1, hb2⟩ := hb
    subst ha hb1 hb2 hw hk
    exact ⟨⟨a, p, o, wa, ws, wc, la, ls, lc⟩, rfl, ⟨hw2, hk2⟩, hw3⟩
theorem reads_heapW (h : Reads H enc Tryz.prog w base spare held 26 cs) : ∃ x : Hv, cs = hvL x ∧ (x.Is w ∧ x.W64) := by
  obtain ⟨hl, hz⟩ := h.struct Tryz.underlying26
  rw [show Tryz.prog.cellsOf 26 = 8 by kernel_rfl] at hl
  match cs, hl with
  | [v0, v1, v2, v3, v4, v5, v6, v7], _ =>
    obtain ⟨od, h0, _⟩ := (hz 0 _ rfl 0 1 rfl (by kernel_rfl)).int Tryz.underlying3
    obtain ⟨oa, os, oc, h1, h1r, h1g⟩ := (hz 1 _ rfl 1 1 rfl (by kernel_rfl)).slice obV (fun x => x.Is w ∧ ∀ v ∈ x.ws, I64 v) 5 (by decide) obV_len Tryz.underlying22 (by kernel_rfl) (fun cs h => reads_obW h)
    obtain ⟨nx, h2, _⟩ := (hz 2 _ rfl 2 1 rfl (by kernel_rfl)).int Tryz.underlying3
    obtain ⟨t0, t1, t2, t3, h3⟩ := (hz 3 _ rfl 3 4 rfl (by kernel_rfl)).four Tryz.underlying23 Tryz.underlying3 (by kernel_rfl) (by kernel_rfl)
    obtain ⟨fa, fs, fc, h4, h4r⟩ := reads_bls (hz 4 _ rfl 7 1 rfl (by kernel_rfl))
    simp at h0 h1 h2 h3 h4
    obtain ⟨h30, h31, h32, h33⟩ := h3
    subst h0 h1 h2 h30 h31 h32 h33 h4
    exact ⟨⟨od, oa, os, oc, nx, t0, t1, t2, t3, fa, fs, fc⟩, rfl, ⟨h1r, fun o ho => (h1g o ho).1, h4r⟩, fun o ho => (h1g o ho).2⟩
end
end Go.Proofs.YtpgljcapgakanaaGreat
