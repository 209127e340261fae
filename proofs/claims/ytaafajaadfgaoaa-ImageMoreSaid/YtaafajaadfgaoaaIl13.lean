/- Parts of the proof. -/
import Derived.Test.YtaafajaadfgaoaaIl0
import Derived.Test.YtaafajaadfgaoaaIl11
import Derived.Test.YtaafajaadfgaoaaIl2
import Derived.Test.YtaafajaadfgaoaaIl12
/-
  Proved: the law ImageMore (tumuluslaw06) answers true for every input and leaves its arguments as they read; no condition.
-/
set_option linter.unusedSimpArgs false
set_option linter.unusedVariables false
namespace Go.Proofs.Ytaafajaadfgaoaa
open Go.RowKit Go.ChangeShapes Go.WideShapes Go.ChangeAt
theorem own_knob : ownKnob Try.prog.godebug = none := by kernel_rfl
theorem law_laidOut : laidOutB Try.prog = true := by kernel_rfl
theorem celltypes29 : Try.prog.cellTypes Try.prog.depth 29 = some [3, 22, 3, 3, 3, 3, 3, 24, 27] := by kernel_rfl
theorem cellsof29 : Try.prog.cellsOf 29 = [3, 22, 3, 3, 3, 3, 3, 24, 27].length := by kernel_rfl
set_option maxRecDepth 100000 in
set_option maxHeartbeats 4000000 in
theorem imageMore_lifted (os : Os) (started : os.Started) (H : Type) (enc : TypeId × Value → H) :
    ReturnsInHanded {} Try.checked os 3 .any (Rows.imageMoreSpec.pre6 enc Try.prog Try.f3 Rows.imageMoreRow.domain false) (Rows.imageMoreSpec.post enc Try.prog Try.f3 false true false false) := by
  refine returnsInHanded_of_change (C := Try.checked) own_knob started (by kernel_rfl) Try.func3
    (ChangeSpec.witness6 (enc := enc) (C := Try.checked) false ⟨#[], #[.agg #[.int .i64 0, .slice none 0 0, .int .i64 0, .int .i64 0, .int .i64 0, .int .i64 0, .int .i64 0, .slice none 0 0, .slice none 0 0], .int .u8 0], []⟩ 8 (by kernel_rfl) (by kernel_rfl) (by kernel_rfl) (by kernel_rfl)) ?_
  intro W base args ds gs before hval0 hW _ _
  have hval : ∀ (j : Nat) t v, Try.f3.params[j]? = some t → args[j]? = some v → Value.okWide Try.prog W .any base t v := hval0
  have hW' := hW
  obtain ⟨p, q, hA0, hV, _, _, _⟩ := hW'
  have hA : DataW.TrodAll enc Try.prog W 0 (fun _ => true) true Try.f3.params.toList args.toList ds p := hA0
  obtain ⟨rfl, rfl⟩ := trodVars_none hV
  clear hA0 hval0
  rw [Try.params3] at hA hval
  obtain ⟨v0, vs0, d0, ds0, p0, q0, hargs, hd0, _, tr0, r0⟩ := trodAll_cons hA
  obtain ⟨v1, vs1, d1, ds1, p1, q1, rfl, hd1, _, tr1, r1⟩ := trodAll_cons r0
  obtain ⟨rfl, hdn, _⟩ := trodAll_nil r1
  obtain rfl : args = #[v0, v1] := by cases args; simp_all
  have hds : ds = [d0, d1] := by rw [hd0, hd1, hdn]
  obtain ⟨cs0, rfl, _⟩ := open_agg Try.underlying29 celltypes29 cellsof29 (hval 0 29 v0 rfl rfl)
  obtain ⟨fu0, ht0⟩ := tr0
  obtain ⟨x, rfl, hx⟩ := reads_stateW (Reads.of (by simpa [Value.cells] using ht0))
  obtain ⟨m, rfl, b1⟩ := ok_int Try.underlying5 (hval 1 5 v1 rfl rfl)
  refine (law3 x m (has_U8 b1).1 (has_U8 b1).2 W hx).mono fun e W' ⟨he, hb⟩ => ⟨_, he, post_law (tb := 4) law_laidOut ?_ rfl (by kernel_rfl) Try.underlying4 ?_ hW hb⟩
  · rw [Try.params3]; intro t ht; simp only [List.mem_cons, List.not_mem_nil, or_false] at ht; rcases ht with rfl | rfl <;> exact ⟨by kernel_rfl, of_decide_eq_true (by kernel_rfl)⟩
  · rw [hds]; rfl
theorem imageMore_inPlace : (Rows.imageMoreRow.inPlace == Try.prog.inPlace 3) = true := by kernel_rfl
theorem imageMore_unfollowed : (Rows.imageMoreRow.unfollowed == Try.prog.unfollowed 3) = true := by kernel_rfl
theorem imageMore_recurses : (Rows.imageMoreRow.recurses == Try.prog.recurses 3) = true := by kernel_rfl
theorem imageMore_varsNamed : (Rows.imageMoreRow.named == Try.prog.varsNamed 3) = true := by kernel_rfl
theorem imageMore_closed : joinedFacts Try.prog 3 Try.f3 Rows.imageMoreSpec Rows.imageMoreRow = true := by
  unfold joinedFacts
  rw [imageMore_inPlace, imageMore_unfollowed, imageMore_recurses, imageMore_varsNamed]
  kernel_rfl
theorem imageMore_holds : Rows.ImageMoreSaid :=
  OpenClaim.holds_of_wide 3 Try.f3 rfl rfl rfl rfl rfl rfl rfl ⟨rfl, rfl, rfl, rfl, rfl⟩ rfl rfl rfl rfl rfl (by kernel_rfl) Try.func3 imageMore_closed
    (of_decide_eq_true (by kernel_rfl)) (by unfold Func.isWrapper; rw [if_neg (of_decide_eq_false (by kernel_rfl))]; exact ⟨rfl, rfl⟩)
    (fun os started H enc _ => imageMore_lifted os started H enc)
end Go.Proofs.Ytaafajaadfgaoaa
