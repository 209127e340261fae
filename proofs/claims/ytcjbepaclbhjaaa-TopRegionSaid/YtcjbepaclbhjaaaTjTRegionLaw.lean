import Derived.Test.YtcjbepaclbhjaaaTjQA
import Derived.Test.YtcjbepaclbhjaaaTjTRd
import Derived.Test.YtcjbepaclbhjaaaTjTRb
/-
  Proved: the law TopRegion (tumulustop) answers true for every input and leaves its arguments as they read; no condition.
-/
set_option linter.unusedSimpArgs false
set_option linter.unusedVariables false
namespace Go.Proofs.Ytcjbepaclbhjaaa
open Go.RowKit Go.ChangeShapes Go.WideShapes Go.ChangeAt
theorem own_knob : ownKnob Try.prog.godebug = none := by kernel_rfl
theorem law_laidOut : laidOutB Try.prog = true := by kernel_rfl
set_option maxRecDepth 100000 in
set_option maxHeartbeats 4000000 in
theorem topRegion_lifted (os : Os) (started : os.Started) (H : Type) (enc : TypeId × Value → H) :
    ReturnsInHanded {} Try.checked os 3 .any (Rows.topRegionSpec.pre6 enc Try.prog Try.f3 Rows.topRegionRow.domain false) (Rows.topRegionSpec.post enc Try.prog Try.f3 false true false false) := by
  refine returnsInHanded_of_change (C := Try.checked) own_knob started (by kernel_rfl) Try.func3
    (ChangeSpec.witness6 (enc := enc) (C := Try.checked) false ⟨#[], #[.int .i64 0, .slice none 0 0], []⟩ 8 (by kernel_rfl) (by kernel_rfl) (by kernel_rfl) (by kernel_rfl)) ?_
  intro W base args ds gs before hval0 hW _ _
  have hval : ∀ (j : Nat) t v, Try.f3.params[j]? = some t → args[j]? = some v → Value.okWide Try.prog W .any base t v := hval0
  have hW' := hW
  obtain ⟨p, q, hA0, hV, _, _, _⟩ := hW'
  have hA : DataW.TrodAll enc Try.prog W 0 (fun _ => true) true Try.f3.params.toList args.toList ds p := hA0
  obtain ⟨rfl, rfl⟩ := trodVars_none hV
  clear hA0 hval0
  rw [Try.params3] at hA hval
  obtain ⟨v0, vs0, d0, ds0, p0, q0, hargs, hd0, _, tr0, r0⟩ := trodAll_cons hA
  obtain ⟨v1, vs1, d1, ds1, p1, q1, rfl, hd1, _, tr1, r1⟩ := trodAll_cons r0
  obtain ⟨rfl, hdn, _⟩ := trodAll_nil r1
  obtain rfl : args = #[v0, v1] := by cases args; simp_all
  have hds : ds = [d0, d1] := by rw [hd0, hd1, hdn]
  obtain ⟨x0, rfl, b0⟩ := ok_int Try.underlying3 (hval 0 3 v0 rfl rfl)
  obtain ⟨la, ln, lk, rfl⟩ := ok_slice Try.underlying22 (hval 1 22 v1 rfl rfl)
  obtain ⟨fu1, ht1⟩ := tr1
  obtain ⟨la2, l, lc, hlv, hl⟩ := reads_opsT (Reads.of (by simpa [Value.cells] using ht1))
  injection hlv with hl1 hl2 hl3
  subst hl1 hl2 hl3
  refine (law3 x0 l _ _ W hl).mono fun e W' ⟨he, hb⟩ => ⟨_, he, post_law (tb := 4) law_laidOut ?_ rfl (by kernel_rfl) Try.underlying4 ?_ hW hb⟩
  · rw [Try.params3]; intro t ht; simp only [List.mem_cons, List.not_mem_nil, or_false] at ht; rcases ht with rfl | rfl <;> exact ⟨by kernel_rfl, of_decide_eq_true (by kernel_rfl)⟩
  · rw [hds]; rfl
theorem topRegion_holds : Rows.TopRegionSaid :=
  OpenClaim.holds_of_wide 3 Try.f3 rfl rfl rfl rfl rfl rfl rfl ⟨rfl, rfl, rfl, rfl, rfl⟩ rfl rfl rfl rfl rfl (by kernel_rfl) Try.func3 (by kernel_rfl)
    (of_decide_eq_true (by kernel_rfl)) (by unfold Func.isWrapper; rw [if_neg (of_decide_eq_false (by kernel_rfl))]; exact ⟨rfl, rfl⟩)
    (fun os started H enc _ => topRegion_lifted os started H enc)
end Go.Proofs.Ytcjbepaclbhjaaa
