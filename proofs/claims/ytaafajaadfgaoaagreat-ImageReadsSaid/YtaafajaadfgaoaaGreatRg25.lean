/- Parts of the proof. -/
import Derived.Test.YtaafajaadfgaoaaGreatRg0
import Derived.Test.YtaafajaadfgaoaaGreatRg14
import Derived.Test.YtaafajaadfgaoaaGreatRg2
import Derived.Test.YtaafajaadfgaoaaGreatRg24
/-
  Proved: the law ImageReads (tumuluslaw06) answers true for every input and leaves its arguments as they read; no condition.
-/
set_option linter.unusedSimpArgs false
set_option linter.unusedVariables false
namespace Go.Proofs.YtaafajaadfgaoaaGreat
open Go.RowKit Go.ChangeShapes Go.WideShapes Go.ChangeAt
theorem own_knob : ownKnob Tryz.prog.godebug = none := by kernel_rfl
theorem law_laidOut : laidOutB Tryz.prog = true := by kernel_rfl
set_option maxRecDepth 100000 in
set_option maxHeartbeats 4000000 in
theorem imageReads_lifted (os : Os) (started : os.Started) (H : Type) (enc : TypeId × Value → H) :
    ReturnsInHanded {} Tryz.checked os 8 .any (Rows.imageReadsSpec.pre6 enc Tryz.prog Tryz.f8 Rows.imageReadsRow.domain false) (Rows.imageReadsSpec.post enc Tryz.prog Tryz.f8 false true false false) := by
  refine returnsInHanded_of_change (C := Tryz.checked) own_knob started (by kernel_rfl) Tryz.func8
    (ChangeSpec.witness6 (enc := enc) (C := Tryz.checked) false ⟨#[], #[.slice none 0 0], []⟩ 8 (by kernel_rfl) (by kernel_rfl) (by kernel_rfl) (by kernel_rfl)) ?_
  intro W base args ds gs before hval0 hW _ _
  have hval : ∀ (j : Nat) t v, Tryz.f8.params[j]? = some t → args[j]? = some v → Value.okWide Tryz.prog W .any base t v := hval0
  have hW' := hW
  obtain ⟨p, q, hA0, hV, _, _, _⟩ := hW'
  have hA : DataW.TrodAll enc Tryz.prog W 0 (fun _ => true) true Tryz.f8.params.toList args.toList ds p := hA0
  obtain ⟨rfl, rfl⟩ := trodVars_none hV
  clear hA0 hval0
  rw [Tryz.params8] at hA hval
  obtain ⟨v0, vs0, d0, ds0, p0, q0, hargs, hd0, _, tr0, r0⟩ := trodAll_cons hA
  obtain ⟨rfl, hdn, _⟩ := trodAll_nil r0
  obtain rfl : args = #[v0] := by cases args; simp_all
  have hds : ds = [d0] := by rw [hd0, hdn]
  obtain ⟨ba, bn, bk, rfl⟩ := ok_slice Tryz.underlying57 (hval 0 57 v0 rfl rfl)
  obtain ⟨fu0, ht0⟩ := tr0
  obtain ⟨b, hbn, hb, hbc⟩ := reads_bytes (Reads.of (by simpa [Value.cells] using ht0))
  subst hbn
  refine (law8 b ba bk hbc W hb).mono fun e W' ⟨he, hb⟩ => ⟨_, he, post_law (tb := 4) law_laidOut ?_ rfl (by kernel_rfl) Tryz.underlying4 ?_ hW hb⟩
  · rw [Tryz.params8]; intro t ht; simp only [List.mem_cons, List.not_mem_nil, or_false] at ht; rcases ht with rfl <;> exact ⟨by kernel_rfl, of_decide_eq_true (by kernel_rfl)⟩
  · rw [hds]; rfl
theorem imageReads_inPlace : (Rows.imageReadsRow.inPlace == Tryz.prog.inPlace 8) = true := by kernel_rfl
theorem imageReads_unfollowed : (Rows.imageReadsRow.unfollowed == Tryz.prog.unfollowed 8) = true := by kernel_rfl
theorem imageReads_recurses : (Rows.imageReadsRow.recurses == Tryz.prog.recurses 8) = true := by kernel_rfl
theorem imageReads_varsNamed : (Rows.imageReadsRow.named == Tryz.prog.varsNamed 8) = true := by kernel_rfl
theorem imageReads_closed : joinedFacts Tryz.prog 8 Tryz.f8 Rows.imageReadsSpec Rows.imageReadsRow = true := by
  unfold joinedFacts
  rw [imageReads_inPlace, imageReads_unfollowed, imageReads_recurses, imageReads_varsNamed]
  kernel_rfl
theorem imageReads_holds : Rows.ImageReadsSaid :=
  OpenClaim.holds_of_wide 8 Tryz.f8 rfl rfl rfl rfl rfl rfl rfl ⟨rfl, rfl, rfl, rfl, rfl⟩ rfl rfl rfl rfl rfl (by kernel_rfl) Tryz.func8 imageReads_closed
    (of_decide_eq_true (by kernel_rfl)) (by unfold Func.isWrapper; rw [if_neg (of_decide_eq_false (by kernel_rfl))]; exact ⟨rfl, rfl⟩)
    (fun os started H enc _ => imageReads_lifted os started H enc)
end Go.Proofs.YtaafajaadfgaoaaGreat
