/-
  Proved: the law ImageOps (tumuluslaw06) answers true for every input and leaves its arguments as they read; no condition.
-/
import Derived.Test.YtdbpffgnabpboaaFrame
import Derived.Test.YtdbpffgnabpboaaILaw
set_option linter.unusedSimpArgs false
set_option linter.unusedVariables false
namespace Go.Proofs.Ytdbpffgnabpboaa
open Go.RowKit Go.ChangeShapes Go.WideShapes Go.ChangeAt
theorem own_knob : ownKnob Try.prog.godebug = none := by kernel_rfl
theorem law_laidOut : laidOutB Try.prog = true := by kernel_rfl
theorem celltypes47 : Try.prog.cellTypes Try.prog.depth 47 = some [45, 3, 3, 3, 3, 3, 3] := by kernel_rfl
theorem cellsof47 : Try.prog.cellsOf 47 = [45, 3, 3, 3, 3, 3, 3].length := by kernel_rfl

set_option maxRecDepth 100000 in
set_option maxHeartbeats 4000000 in
theorem imageOps_lifted (os : Os) (started : os.Started) (H : Type) (enc : TypeId × Value → H) :
    ReturnsInHanded {} Try.checked os 5 .any (Rows.imageOpsSpec.pre6 enc Try.prog Try.f5 Rows.imageOpsRow.domain false) (Rows.imageOpsSpec.post enc Try.prog Try.f5 false true false false) := by
  refine returnsInHanded_of_change (C := Try.checked) own_knob started (by kernel_rfl) Try.func5
    (ChangeSpec.witness6 (enc := enc) (C := Try.checked) false ⟨#[], #[.agg #[.int .i64 0, .int .i64 0, .int .i64 0, .int .i64 0, .int .i64 0, .int .i64 0, .int .i64 0]], []⟩ 8 (by kernel_rfl) (by kernel_rfl) (by kernel_rfl) (by kernel_rfl)) ?_
  intro W base args ds gs before hval0 hW _ _
  have hval : ∀ (j : Nat) t v, Try.f5.params[j]? = some t → args[j]? = some v → Value.okWide Try.prog W .any base t v := hval0
  have hW' := hW
  obtain ⟨p, q, hA0, hV, _, _, _⟩ := hW'
  have hA : DataW.TrodAll enc Try.prog W 0 (fun _ => true) true Try.f5.params.toList args.toList ds p := hA0
  obtain ⟨rfl, rfl⟩ := trodVars_none hV
  clear hA0 hval0
  rw [Try.params5] at hA hval
  obtain ⟨v0, vs0, d0, ds0, p0, q0, hargs, hd0, _, tr0, r0⟩ := trodAll_cons hA
  obtain ⟨rfl, hdn, _⟩ := trodAll_nil r0
  obtain rfl : args = #[v0] := by cases args; simp_all
  have hds : ds = [d0] := by rw [hd0, hdn]
  obtain ⟨cs0, rfl, hc0_0⟩ := open_agg Try.underlying47 celltypes47 cellsof47 (hval 0 47 v0 rfl rfl)
  obtain ⟨o0, _, rfl, g0_0, hc0_1⟩ := all_int Try.underlying45 hc0_0
  obtain ⟨o1, _, rfl, g0_1, hc0_2⟩ := all_int Try.underlying3 hc0_1
  obtain ⟨o2, _, rfl, g0_2, hc0_3⟩ := all_int Try.underlying3 hc0_2
  obtain ⟨o3, _, rfl, g0_3, hc0_4⟩ := all_int Try.underlying3 hc0_3
  obtain ⟨o4, _, rfl, g0_4, hc0_5⟩ := all_int Try.underlying3 hc0_4
  obtain ⟨o5, _, rfl, g0_5, hc0_6⟩ := all_int Try.underlying3 hc0_5
  obtain ⟨o6, _, rfl, g0_6, hc0_7⟩ := all_int Try.underlying3 hc0_6
  obtain rfl := all_nil hc0_7
  refine (law5 o0 o1 o2 o3 o4 o5 o6 (inb_lit _ _ _ _ _ _ _ g0_0 g0_1 g0_2 g0_3 g0_4 g0_5 g0_6) W).mono fun e W' ⟨he, hb⟩ => ⟨_, he, post_law (tb := 4) law_laidOut ?_ rfl (by kernel_rfl) Try.underlying4 ?_ hW hb⟩
  · rw [Try.params5]; intro t ht; simp only [List.mem_cons, List.not_mem_nil, or_false] at ht; rcases ht with rfl <;> exact ⟨by kernel_rfl, of_decide_eq_true (by kernel_rfl)⟩
  · rw [hds]; rfl

/-- ImageOps: whatever the input, the law answers true, and each argument reads as it did. -/
theorem imageOps_holds : Rows.ImageOpsSaid :=
  OpenClaim.holds_of_wide 5 Try.f5 rfl rfl rfl rfl rfl rfl rfl ⟨rfl, rfl, rfl, rfl, rfl⟩ rfl rfl rfl rfl rfl (by kernel_rfl) Try.func5 (by kernel_rfl)
    (of_decide_eq_true (by kernel_rfl)) (by unfold Func.isWrapper; rw [if_neg (of_decide_eq_false (by kernel_rfl))]; exact ⟨rfl, rfl⟩)
    (fun os started H enc _ => imageOps_lifted os started H enc)
end Go.Proofs.Ytdbpffgnabpboaa
