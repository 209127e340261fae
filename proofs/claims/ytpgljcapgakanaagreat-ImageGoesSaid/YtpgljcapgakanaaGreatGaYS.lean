import Derived.Test.YtpgljcapgakanaaGreatGaDV
import Derived.Test.YtpgljcapgakanaaGreatGaQC
import Derived.Test.YtpgljcapgakanaaGreatGaQB
/- What an entry makes of a state: the plain law. No program in sight. -/
set_option linter.unusedSimpArgs false
set_option linter.unusedVariables false
namespace Go.Proofs.YtpgljcapgakanaaGreat
def rowOk (last : Int) (x : Rw) : Bool := decide (last < x.c ∧ x.c ≤ 4 ∧ 1 ≤ x.s ∧ x.s ≤ 1000000 ∧ 0 ≤ x.e ∧ x.e ≤ 65535)
def rowsOk : Int → List Rw → Bool
  | _, [] => true
  | last, x :: r => rowOk last x && rowsOk x.c r
theorem rowsOk_cons {last : Int} {x : Rw} {r : List Rw} : rowsOk last (x :: r) = true ↔ rowOk last x = true ∧ rowsOk x.c r = true := by simp [rowsOk]
theorem rowOk_iff {last : Int} {x : Rw} : rowOk last x = true ↔ last < x.c ∧ x.c ≤ 4 ∧ 1 ≤ x.s ∧ x.s ≤ 1000000 ∧ 0 ≤ x.e ∧ x.e ≤ 65535 := by simp [rowOk]
theorem rowsOk_len : ∀ {l : List Rw} {last : Int}, rowsOk last l = true → last ≤ 4 → (l.length : Int) ≤ 4 - last
  | [], _, _, h => by simp; omega
  | y :: r, last, h, _ => by
    obtain ⟨h1, h2⟩ := rowsOk_cons.1 h
    have h3 := rowOk_iff.1 h1
    have := rowsOk_len h2 h3.2.1
    simp only [List.length_cons]; omega
structure StR (x : Sv) : Prop where
  hv : HRight x.hv
  rows : rowsOk 0 x.rs = true
theorem StR.small {x : Sv} (h : StR x) : x.Small := ⟨h.hv.small, by have := rowsOk_len h.rows (by decide); omega⟩
end Go.Proofs.YtpgljcapgakanaaGreat
