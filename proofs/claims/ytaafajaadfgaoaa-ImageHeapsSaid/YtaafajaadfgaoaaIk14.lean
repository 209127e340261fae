/- Parts of the proof. -/
import Derived.Test.YtaafajaadfgaoaaIk0
import Derived.Test.YtaafajaadfgaoaaIk11
import Derived.Test.YtaafajaadfgaoaaIk2
import Derived.Test.YtaafajaadfgaoaaIk13
/-
  Proved: the law ImageHeaps (tumuluslaw06) answers true for every input and leaves its arguments as they read; no condition.
-/
set_option linter.unusedSimpArgs false
set_option linter.unusedVariables false
namespace Go.Proofs.Ytaafajaadfgaoaa
open Go.RowKit Go.ChangeShapes Go.WideShapes Go.ChangeAt
theorem own_knob : ownKnob Try.prog.godebug = none := by kernel_rfl
theorem law_laidOut : laidOutB Try.prog = true := by kernel_rfl
theorem celltypes26 : Try.prog.cellTypes Try.prog.depth 26 = some [3, 22, 3, 3, 3, 3, 3, 24] := by kernel_rfl
theorem cellsof26 : Try.prog.cellsOf 26 = [3, 22, 3, 3, 3, 3, 3, 24].length := by kernel_rfl
set_option maxRecDepth 100000 in
set_option maxHeartbeats 4000000 in
theorem imageHeaps_lifted (os : Os) (started : os.Started) (H : Type) (enc : TypeId × Value → H) :
    ReturnsInHanded {} Try.checked os 4 .any (Rows.imageHeapsSpec.pre6 enc Try.prog Try.f4 Rows.imageHeapsRow.domain false) (Rows.imageHeapsSpec.post enc Try.prog Try.f4 false true false false) := by
  refine returnsInHanded_of_change (C := Try.checked) own_knob started (by kernel_rfl) Try.func4
    (ChangeSpec.witness6 (enc := enc) (C := Try.checked) false ⟨#[], #[.agg #[.int .i64 0, .slice none 0 0, .int .i64 0, .int .i64 0, .int .i64 0, .int .i64 0, .int .i64 0, .slice none 0 0]], []⟩ 8 (by kernel_rfl) (by kernel_rfl) (by kernel_rfl) (by kernel_rfl)) ?_
  intro W base args ds gs before hval0 hW _ _
  have hval : ∀ (j : Nat) t v, Try.f4.params[j]? = some t → args[j]? = some v → Value.okWide Try.prog W .any base t v := hval0
  have hW' := hW
  obtain ⟨p, q, hA0, hV, _, _, _⟩ := hW'
  have hA : DataW.TrodAll enc Try.prog W 0 (fun _ => true) true Try.f4.params.toList args.toList ds p := hA0
  obtain ⟨rfl, rfl⟩ := trodVars_none hV
  clear hA0 hval0
  rw [Try.params4] at hA hval
  obtain ⟨v0, vs0, d0, ds0, p0, q0, hargs, hd0, _, tr0, r0⟩ := trodAll_cons hA
  obtain ⟨rfl, hdn, _⟩ := trodAll_nil r0
  obtain rfl : args = #[v0] := by cases args; simp_all
  have hds : ds = [d0] := by rw [hd0, hdn]
  obtain ⟨cs0, rfl, _⟩ := open_agg Try.underlying26 celltypes26 cellsof26 (hval 0 26 v0 rfl rfl)
  obtain ⟨fu0, ht0⟩ := tr0
  obtain ⟨x, rfl, hx⟩ := reads_heapX (Reads.of (by simpa [Value.cells] using ht0))
  refine (law4 x W hx).mono fun e W' ⟨he, hb⟩ => ⟨_, he, post_law (tb := 4) law_laidOut ?_ rfl (by kernel_rfl) Try.underlying4 ?_ hW hb⟩
  · rw [Try.params4]; intro t ht; simp only [List.mem_cons, List.not_mem_nil, or_false] at ht; rcases ht with rfl <;> exact ⟨by kernel_rfl, of_decide_eq_true (by kernel_rfl)⟩
  · rw [hds]; rfl
theorem imageHeaps_inPlace : (Rows.imageHeapsRow.inPlace == Try.prog.inPlace 4) = true := by kernel_rfl
theorem imageHeaps_unfollowed : (Rows.imageHeapsRow.unfollowed == Try.prog.unfollowed 4) = true := by kernel_rfl
theorem imageHeaps_recurses : (Rows.imageHeapsRow.recurses == Try.prog.recurses 4) = true := by kernel_rfl
theorem imageHeaps_varsNamed : (Rows.imageHeapsRow.named == Try.prog.varsNamed 4) = true := by kernel_rfl
theorem imageHeaps_closed : joinedFacts Try.prog 4 Try.f4 Rows.imageHeapsSpec Rows.imageHeapsRow = true := by
  unfold joinedFacts
  rw [imageHeaps_inPlace, imageHeaps_unfollowed, imageHeaps_recurses, imageHeaps_varsNamed]
  kernel_rfl
theorem imageHeaps_holds : Rows.ImageHeapsSaid :=
  OpenClaim.holds_of_wide 4 Try.f4 rfl rfl rfl rfl rfl rfl rfl ⟨rfl, rfl, rfl, rfl, rfl⟩ rfl rfl rfl rfl rfl (by kernel_rfl) Try.func4 imageHeaps_closed
    (of_decide_eq_true (by kernel_rfl)) (by unfold Func.isWrapper; rw [if_neg (of_decide_eq_false (by kernel_rfl))]; exact ⟨rfl, rfl⟩)
    (fun os started H enc _ => imageHeaps_lifted os started H enc)
end Go.Proofs.Ytaafajaadfgaoaa
