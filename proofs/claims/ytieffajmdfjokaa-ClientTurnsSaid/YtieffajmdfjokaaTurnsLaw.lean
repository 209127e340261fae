/-
  Proved: the law ClientTurns (tumuluslaw20) answers true for every input and leaves its argument as it reads; no condition.
-/
import Derived.Test.YtieffajmdfjokaaFrame
import Derived.Test.YtieffajmdfjokaaTurns
set_option linter.unusedSimpArgs false
set_option linter.unusedVariables false
namespace Go.Proofs.Ytieffajmdfjokaa
open Go.RowKit Go.ChangeShapes Go.WideShapes Go.ChangeAt
theorem own_knob : ownKnob Try.prog.godebug = none := by kernel_rfl
theorem law_laidOut : laidOutB Try.prog = true := by kernel_rfl
theorem celltypes26 : Try.prog.cellTypes Try.prog.depth 26 = some [3, 3, 3, 3, 3, 4, 22, 3, 3, 3, 3, 3, 3] := by kernel_rfl
theorem cellsof26 : Try.prog.cellsOf 26 = [3, 3, 3, 3, 3, 4, 22, 3, 3, 3, 3, 3, 3].length := by kernel_rfl

set_option maxRecDepth 100000 in
theorem clientTurns_lifted (os : Os) (started : os.Started) (H : Type) (enc : TypeId × Value → H) :
    ReturnsInHanded {} Try.checked os 7 .any (Rows.clientTurnsSpec.pre6 enc Try.prog Try.f7 Rows.clientTurnsRow.domain false) (Rows.clientTurnsSpec.post enc Try.prog Try.f7 false true false false) := by
  refine returnsInHanded_of_change (C := Try.checked) own_knob started (by kernel_rfl) Try.func7
    (ChangeSpec.witness6 (enc := enc) (C := Try.checked) false ⟨#[], #[.agg #[.int .i64 0, .int .i64 0, .int .i64 0, .int .i64 0, .int .i64 0, .bool false, .int .i64 0, .int .i64 0, .int .i64 0, .int .i64 0, .int .i64 0, .int .i64 0, .int .i64 0]], []⟩ 8 (by kernel_rfl) (by kernel_rfl) (by kernel_rfl) (by kernel_rfl)) ?_
  intro W base args ds gs before hval0 hW _ _
  have hval : ∀ (j : Nat) t v, Try.f7.params[j]? = some t → args[j]? = some v → Value.okWide Try.prog W .any base t v := hval0
  have hW' := hW
  obtain ⟨p, q, hA0, hV, _, _, _⟩ := hW'
  have hA : DataW.TrodAll enc Try.prog W 0 (fun _ => true) true Try.f7.params.toList args.toList ds p := hA0
  obtain ⟨rfl, rfl⟩ := trodVars_none hV
  clear hA0 hval0
  rw [Try.params7] at hA hval
  obtain ⟨v0, vs0, d0, ds0, p0, q0, hargs, hd0, _, _, r0⟩ := trodAll_cons hA
  obtain ⟨rfl, hdn, _⟩ := trodAll_nil r0
  obtain rfl : args = #[v0] := by cases args; simp_all
  have hds : ds = [d0] := by rw [hd0, hdn]
  obtain ⟨cs0, rfl, hc0_0⟩ := open_agg Try.underlying26 celltypes26 cellsof26 (hval 0 26 v0 rfl rfl)
  obtain ⟨c0, _, rfl, g0_0, hc0_1⟩ := all_int Try.underlying3 hc0_0
  obtain ⟨c1, _, rfl, g0_1, hc0_2⟩ := all_int Try.underlying3 hc0_1
  obtain ⟨c2, _, rfl, g0_2, hc0_3⟩ := all_int Try.underlying3 hc0_2
  obtain ⟨c3, _, rfl, g0_3, hc0_4⟩ := all_int Try.underlying3 hc0_3
  obtain ⟨c4, _, rfl, g0_4, hc0_5⟩ := all_int Try.underlying3 hc0_4
  obtain ⟨c5, _, rfl, hc0_6⟩ := all_bool Try.underlying4 hc0_5
  obtain ⟨c6, _, rfl, g0_6, hc0_7⟩ := all_int Try.underlying22 hc0_6
  obtain ⟨c7, _, rfl, g0_7, hc0_8⟩ := all_int Try.underlying3 hc0_7
  obtain ⟨c8, _, rfl, g0_8, hc0_9⟩ := all_int Try.underlying3 hc0_8
  obtain ⟨c9, _, rfl, g0_9, hc0_10⟩ := all_int Try.underlying3 hc0_9
  obtain ⟨c10, _, rfl, g0_10, hc0_11⟩ := all_int Try.underlying3 hc0_10
  obtain ⟨c11, _, rfl, g0_11, hc0_12⟩ := all_int Try.underlying3 hc0_11
  obtain ⟨c12, _, rfl, g0_12, hc0_13⟩ := all_int Try.underlying3 hc0_12
  obtain rfl := all_nil hc0_13
  refine (turns7 ⟨c0, c1, c2, c3, c4, c5, ⟨c6, c7, c8, c9, c10, c11, c12⟩⟩ W).mono fun e W' ⟨he, hb⟩ => ⟨_, he, post_law (tb := 4) law_laidOut ?_ rfl (by kernel_rfl) Try.underlying4 ?_ hW hb⟩
  · rw [Try.params7]; intro t ht; simp only [List.mem_cons, List.not_mem_nil, or_false] at ht; rcases ht with rfl <;> exact ⟨by kernel_rfl, of_decide_eq_true (by kernel_rfl)⟩
  · rw [hds]; rfl

/-- ClientTurns: whatever the input, the law answers true, and each argument reads as it did. -/
theorem clientTurns_holds : Rows.ClientTurnsSaid :=
  OpenClaim.holds_of_wide 7 Try.f7 rfl rfl rfl rfl rfl rfl rfl ⟨rfl, rfl, rfl, rfl, rfl⟩ rfl rfl rfl rfl rfl (by kernel_rfl) Try.func7 (by kernel_rfl)
    (of_decide_eq_true (by kernel_rfl)) (by unfold Func.isWrapper; rw [if_neg (of_decide_eq_false (by kernel_rfl))]; exact ⟨rfl, rfl⟩)
    (fun os started H enc _ => clientTurns_lifted os started H enc)
end Go.Proofs.Ytieffajmdfjokaa
