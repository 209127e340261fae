/- Parts of the proof. -/
import Derived.Test.YtcjbepaclbhjaaaGreatKe1
import Derived.Test.YtcjbepaclbhjaaaGreatKe40
open List renaming set_cons_zero → zSet, set_cons_succ → sSet
/- What Adopt tells and what it makes when it is saved: the plain laws. No program in sight. -/
set_option linter.unusedSimpArgs false
set_option linter.unusedVariables false
namespace Go.Proofs.YtcjbepaclbhjaaaGreat
open Go.RowKit
noncomputable def adoptB (x : Kv) (cm vw bs : Int) (l : List Env) : Bool := okC x && (inM cm x.bs (lastK x) && (inM vw x.vw 900000000 && (inM bs 0 cm && (folB bs 0 l && decide (cm - bs ≤ (l.length : Int))))))
theorem adoptB_facts {x : Kv} {cm vw bs : Int} {l : List Env} (h : adoptB x cm vw bs l = true) : okC x = true ∧ (x.bs ≤ cm ∧ cm ≤ lastK x) ∧ (x.vw ≤ vw ∧ vw ≤ 900000000) ∧ (0 ≤ bs ∧ bs ≤ cm) ∧ folB bs 0 l = true ∧ cm - bs ≤ (l.length : Int) := by
  unfold adoptB inM at h
  simp only [Bool.and_eq_true, decide_eq_true_eq] at h
  exact ⟨h.1, h.2.1, h.2.2.1, h.2.2.2.1, h.2.2.2.2.1, h.2.2.2.2.2⟩
def adoptL (cm bs : Int) (l : List Env) : List Env := l.drop (cm - bs).toNat
theorem adopt_nu {x : Kv} {cm vw bs : Int} {l : List Env} (h : adoptB x cm vw bs l = true) (hl : l.length ≤ 100000) (hn : ∀ e ∈ l, I64 e.nu) : ∀ (i : Nat) (hi : i < l.length), l[i].nu = bs + 1 + (i : Nat) := by
  obtain ⟨h1, h2, h3, h4, h5, h6⟩ := adoptB_facts h
  have hf := ok_facts h1
  have hk : lastK x ≤ 2000000000 := by unfold lastK; omega
  intro i hi
  have := fol_nu64 h4.1 (by omega) (q := 0) (by omega) hn h5 i hi
  rw [this, Nat.zero_add]
end Go.Proofs.YtcjbepaclbhjaaaGreat
