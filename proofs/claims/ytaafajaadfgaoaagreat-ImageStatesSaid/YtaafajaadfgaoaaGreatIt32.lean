/- Parts of the proof. -/
import Derived.Test.YtaafajaadfgaoaaGreatIt0
import Derived.Test.YtaafajaadfgaoaaGreatIt24
import Derived.Test.YtaafajaadfgaoaaGreatIt2
import Derived.Test.YtaafajaadfgaoaaGreatIt31
/-
  Proved: the law ImageStates (tumuluslaw06) answers true for every input and leaves its arguments as they read; no condition.
-/
set_option linter.unusedSimpArgs false
set_option linter.unusedVariables false
namespace Go.Proofs.YtaafajaadfgaoaaGreat
open Go.RowKit Go.ChangeShapes Go.WideShapes Go.ChangeAt
theorem own_knob : ownKnob Tryz.prog.godebug = none := by kernel_rfl
theorem law_laidOut : laidOutB Tryz.prog = true := by kernel_rfl
theorem celltypes50 : Tryz.prog.cellTypes Tryz.prog.depth 50 = some [3, 43, 3, 3, 3, 3, 3, 45, 48] := by kernel_rfl
theorem cellsof50 : Tryz.prog.cellsOf 50 = [3, 43, 3, 3, 3, 3, 3, 45, 48].length := by kernel_rfl
set_option maxRecDepth 100000 in
set_option maxHeartbeats 4000000 in
theorem imageStates_lifted (os : Os) (started : os.Started) (H : Type) (enc : TypeId × Value → H) :
    ReturnsInHanded {} Tryz.checked os 7 .any (Rows.imageStatesSpec.pre6 enc Tryz.prog Tryz.f7 Rows.imageStatesRow.domain false) (Rows.imageStatesSpec.post enc Tryz.prog Tryz.f7 false true false false) := by
  refine returnsInHanded_of_change (C := Tryz.checked) own_knob started (by kernel_rfl) Tryz.func7
    (ChangeSpec.witness6 (enc := enc) (C := Tryz.checked) false ⟨#[], #[.agg #[.int .i64 0, .slice none 0 0, .int .i64 0, .int .i64 0, .int .i64 0, .int .i64 0, .int .i64 0, .slice none 0 0, .slice none 0 0]], []⟩ 8 (by kernel_rfl) (by kernel_rfl) (by kernel_rfl) (by kernel_rfl)) ?_
  intro W base args ds gs before hval0 hW _ _
  have hval : ∀ (j : Nat) t v, Tryz.f7.params[j]? = some t → args[j]? = some v → Value.okWide Tryz.prog W .any base t v := hval0
  have hW' := hW
  obtain ⟨p, q, hA0, hV, _, _, _⟩ := hW'
  have hA : DataW.TrodAll enc Tryz.prog W 0 (fun _ => true) true Tryz.f7.params.toList args.toList ds p := hA0
  obtain ⟨rfl, rfl⟩ := trodVars_none hV
  clear hA0 hval0
  rw [Tryz.params7] at hA hval
  obtain ⟨v0, vs0, d0, ds0, p0, q0, hargs, hd0, _, tr0, r0⟩ := trodAll_cons hA
  obtain ⟨rfl, hdn, _⟩ := trodAll_nil r0
  obtain rfl : args = #[v0] := by cases args; simp_all
  have hds : ds = [d0] := by rw [hd0, hdn]
  obtain ⟨cs0, rfl, _⟩ := open_agg Tryz.underlying50 celltypes50 cellsof50 (hval 0 50 v0 rfl rfl)
  obtain ⟨fu0, ht0⟩ := tr0
  obtain ⟨x, rfl, hx⟩ := reads_stateX (Reads.of (by simpa [Value.cells] using ht0))
  refine (law7 x W hx).mono fun e W' ⟨he, hb⟩ => ⟨_, he, post_law (tb := 4) law_laidOut ?_ rfl (by kernel_rfl) Tryz.underlying4 ?_ hW hb⟩
  · rw [Tryz.params7]; intro t ht; simp only [List.mem_cons, List.not_mem_nil, or_false] at ht; rcases ht with rfl <;> exact ⟨by kernel_rfl, of_decide_eq_true (by kernel_rfl)⟩
  · rw [hds]; rfl
theorem imageStates_inPlace : (Rows.imageStatesRow.inPlace == Tryz.prog.inPlace 7) = true := by kernel_rfl
theorem imageStates_unfollowed : (Rows.imageStatesRow.unfollowed == Tryz.prog.unfollowed 7) = true := by kernel_rfl
theorem imageStates_recurses : (Rows.imageStatesRow.recurses == Tryz.prog.recurses 7) = true := by kernel_rfl
theorem imageStates_varsNamed : (Rows.imageStatesRow.named == Tryz.prog.varsNamed 7) = true := by kernel_rfl
theorem imageStates_closed : joinedFacts Tryz.prog 7 Tryz.f7 Rows.imageStatesSpec Rows.imageStatesRow = true := by
  unfold joinedFacts
  rw [imageStates_inPlace, imageStates_unfollowed, imageStates_recurses, imageStates_varsNamed]
  kernel_rfl
theorem imageStates_holds : Rows.ImageStatesSaid :=
  OpenClaim.holds_of_wide 7 Tryz.f7 rfl rfl rfl rfl rfl rfl rfl ⟨rfl, rfl, rfl, rfl, rfl⟩ rfl rfl rfl rfl rfl (by kernel_rfl) Tryz.func7 imageStates_closed
    (of_decide_eq_true (by kernel_rfl)) (by unfold Func.isWrapper; rw [if_neg (of_decide_eq_false (by kernel_rfl))]; exact ⟨rfl, rfl⟩)
    (fun os started H enc _ => imageStates_lifted os started H enc)
end Go.Proofs.YtaafajaadfgaoaaGreat
