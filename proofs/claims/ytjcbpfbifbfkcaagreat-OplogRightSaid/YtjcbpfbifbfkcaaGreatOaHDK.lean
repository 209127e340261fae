import Derived.Test.YtjcbpfbifbfkcaaGreatOaQC
import Derived.Test.YtjcbpfbifbfkcaaGreatOaPL
import Derived.Test.YtjcbpfbifbfkcaaGreatOaOA
/- What is kept, and records, that come in: their entries. -/
set_option linter.unusedSimpArgs false
set_option linter.unusedVariables false
namespace Go.Proofs.YtjcbpfbifbfkcaaGreat
open Go.RowKit Go.ChangeShapes Go.WideShapes Go.ChangeAt Go.Deep
section
variable {H : Type} {enc : TypeId × Value → H} {w : World} {base : Nat} {spare : Nat → Bool} {held : Bool} {cs : List Value}
theorem reads_opK (h : Reads H enc Tryz.prog w base spare held 36 cs) : ∃ x, cs = opL x := by
  obtain ⟨hl, hz⟩ := h.struct Tryz.underlying36
  rw [show Tryz.prog.cellsOf 36 = 7 by kernel_rfl] at hl
  match cs, hl with
  | [v0, v1, v2, v3, v4, v5, v6], _ =>
    obtain ⟨a0, h0, _⟩ := (hz 0 _ rfl 0 1 rfl (by kernel_rfl)).int Tryz.underlying34
    obtain ⟨a1, h1, _⟩ := (hz 1 _ rfl 1 1 rfl (by kernel_rfl)).int Tryz.underlying3
    obtain ⟨a2, h2, _⟩ := (hz 2 _ rfl 2 1 rfl (by kernel_rfl)).int Tryz.underlying3
    obtain ⟨a3, h3, _⟩ := (hz 3 _ rfl 3 1 rfl (by kernel_rfl)).int Tryz.underlying3
    obtain ⟨a4, h4, _⟩ := (hz 4 _ rfl 4 1 rfl (by kernel_rfl)).int Tryz.underlying3
    obtain ⟨a5, h5, _⟩ := (hz 5 _ rfl 5 1 rfl (by kernel_rfl)).int Tryz.underlying3
    obtain ⟨a6, h6, _⟩ := (hz 6 _ rfl 6 1 rfl (by kernel_rfl)).int Tryz.underlying3
    simp at h0 h1 h2 h3 h4 h5 h6
    subst h0 h1 h2 h3 h4 h5 h6
    exact ⟨⟨a0, a1, a2, a3, a4, a5, a6⟩, rfl⟩
theorem reads_entryK (h : Reads H enc Tryz.prog w base spare held 38 cs) : ∃ x, cs = envL x ∧ True := by
  obtain ⟨hl, hz⟩ := h.struct Tryz.underlying38
  rw [show Tryz.prog.cellsOf 38 = 11 by kernel_rfl] at hl
  match cs, hl with
  | [v0, v1, v2, v3, v4, v5, v6, v7, v8, v9, v10], _ =>
    obtain ⟨a0, h0, _⟩ := (hz 0 _ rfl 0 1 rfl (by kernel_rfl)).int Tryz.underlying3
    obtain ⟨a1, h1, _⟩ := (hz 1 _ rfl 1 1 rfl (by kernel_rfl)).int Tryz.underlying3
    obtain ⟨a2, h2, _⟩ := (hz 2 _ rfl 2 1 rfl (by kernel_rfl)).int Tryz.underlying3
    obtain ⟨a3, h3, _⟩ := (hz 3 _ rfl 3 1 rfl (by kernel_rfl)).int Tryz.underlying3
    obtain ⟨o, h4⟩ := reads_opK (hz 4 _ rfl 4 7 rfl (by kernel_rfl))
    simp at h0 h1 h2 h3 h4
    subst h0 h1 h2 h3
    refine ⟨⟨a0, a1, a2, a3, o⟩, ?_, trivial⟩
    simp only [envL, List.cons_append, List.nil_append]
    rw [← h4]
theorem reads_entriesK {a : Option Addr} {n c : Nat} (h : Reads H enc Tryz.prog w base spare held 23 [.slice a n c]) : ∃ l : List Env, l.length = n ∧ RowIs w a (l.flatMap envL) ∧ n ≤ c := by
  have hc : n ≤ c := by
    obtain ⟨m, y, h'⟩ := h
    rcases open_slice Tryz.underlying23 h' with ⟨he, _⟩ | ⟨ad, n', cap, m, nn, D, Pl, he, _, hl, _⟩
    · simp at he; omega
    · simp at he; omega
  obtain ⟨a', l, c', h1, h2, _⟩ := h.slice envL (fun _ => True) 11 (by decide) envL_len11 Tryz.underlying23 (by kernel_rfl) (fun cs h => reads_entryK h)
  simp at h1
  obtain ⟨rfl, rfl, rfl⟩ := h1
  exact ⟨l, rfl, h2, hc⟩
theorem reads_keptE {v0 v1 v2 v3 : Value} {a : Option Addr} {n c : Nat} (h : Reads H enc Tryz.prog w base spare held 28 [v0, v1, v2, v3, .slice a n c]) : ∃ l : List Env, l.length = n ∧ RowIs w a (l.flatMap envL) ∧ n ≤ c := by
  obtain ⟨_, hz⟩ := h.struct Tryz.underlying28
  exact reads_entriesK (hz 4 _ rfl 4 1 rfl (by kernel_rfl))
theorem reads_recE {v0 v1 v2 v3 v4 v5 v6 v7 v8 v9 v10 v11 v12 v13 v14 v15 : Value} {a : Option Addr} {n c : Nat} (h : Reads H enc Tryz.prog w base spare held 40 [v0, v1, v2, v3, v4, v5, v6, v7, v8, v9, v10, v11, v12, v13, v14, v15, .slice a n c]) : ∃ l : List Env, l.length = n ∧ RowIs w a (l.flatMap envL) ∧ n ≤ c := by
  obtain ⟨_, hz⟩ := h.struct Tryz.underlying40
  exact reads_entriesK (hz 6 _ rfl 16 1 rfl (by kernel_rfl))
end
end Go.Proofs.YtjcbpfbifbfkcaaGreat
