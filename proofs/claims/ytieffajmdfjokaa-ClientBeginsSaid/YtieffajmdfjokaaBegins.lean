/-
  Proved: the law ClientBegins (tumuluslaw20) answers true for every input and leaves its arguments as they read; no condition.
-/
import Derived.Test.YtieffajmdfjokaaFrame
import Derived.Test.YtieffajmdfjokaaLawA
set_option linter.unusedSimpArgs false
set_option linter.unusedVariables false
namespace Go.Proofs.Ytieffajmdfjokaa
open Go.RowKit Go.ChangeShapes Go.WideShapes Go.ChangeAt
theorem own_knob : ownKnob Try.prog.godebug = none := by kernel_rfl
theorem law_laidOut : laidOutB Try.prog = true := by kernel_rfl
theorem celltypes26 : Try.prog.cellTypes Try.prog.depth 26 = some [3, 3, 3, 3, 3, 4, 22, 3, 3, 3, 3, 3, 3] := by kernel_rfl
theorem cellsof26 : Try.prog.cellsOf 26 = [3, 3, 3, 3, 3, 4, 22, 3, 3, 3, 3, 3, 3].length := by kernel_rfl

set_option maxRecDepth 100000 in
theorem clientBegins_lifted (os : Os) (started : os.Started) (H : Type) (enc : TypeId × Value → H) :
    ReturnsInHanded {} Try.checked os 3 .any (Rows.clientBeginsSpec.pre6 enc Try.prog Try.f3 Rows.clientBeginsRow.domain false) (Rows.clientBeginsSpec.post enc Try.prog Try.f3 false true false false) := by
  refine returnsInHanded_of_change (C := Try.checked) own_knob started (by kernel_rfl) Try.func3
    (ChangeSpec.witness6 (enc := enc) (C := Try.checked) false ⟨#[], #[.int .i64 0, .int .i64 0, .agg #[.int .i64 0, .int .i64 0, .int .i64 0, .int .i64 0, .int .i64 0, .bool false, .int .i64 0, .int .i64 0, .int .i64 0, .int .i64 0, .int .i64 0, .int .i64 0, .int .i64 0]], []⟩ 8 (by kernel_rfl) (by kernel_rfl) (by kernel_rfl) (by kernel_rfl)) ?_
  intro W base args ds gs before hval0 hW _ _
  have hval : ∀ (j : Nat) t v, Try.f3.params[j]? = some t → args[j]? = some v → Value.okWide Try.prog W .any base t v := hval0
  have hW' := hW
  obtain ⟨p, q, hA0, hV, _, _, _⟩ := hW'
  have hA : DataW.TrodAll enc Try.prog W 0 (fun _ => true) true Try.f3.params.toList args.toList ds p := hA0
  obtain ⟨rfl, rfl⟩ := trodVars_none hV
  clear hA0 hval0
  rw [Try.params3] at hA hval
  obtain ⟨v0, vs0, d0, ds0, p0, q0, hargs, hd0, _, _, r0⟩ := trodAll_cons hA
  obtain ⟨v1, vs1, d1, ds1, p1, q1, rfl, hd1, _, _, r1⟩ := trodAll_cons r0
  obtain ⟨v2, vs2, d2, ds2, p2, q2, rfl, hd2, _, _, r2⟩ := trodAll_cons r1
  obtain ⟨rfl, hdn, _⟩ := trodAll_nil r2
  obtain rfl : args = #[v0, v1, v2] := by cases args; simp_all
  have hds : ds = [d0, d1, d2] := by rw [hd0, hd1, hd2, hdn]
  obtain ⟨a, rfl, b0⟩ := ok_int Try.underlying3 (hval 0 3 v0 rfl rfl)
  obtain ⟨b, rfl, b1⟩ := ok_int Try.underlying3 (hval 1 3 v1 rfl rfl)
  obtain ⟨cs2, rfl, hc2_0⟩ := open_agg Try.underlying26 celltypes26 cellsof26 (hval 2 26 v2 rfl rfl)
  obtain ⟨c0, _, rfl, g2_0, hc2_1⟩ := all_int Try.underlying3 hc2_0
  obtain ⟨c1, _, rfl, g2_1, hc2_2⟩ := all_int Try.underlying3 hc2_1
  obtain ⟨c2, _, rfl, g2_2, hc2_3⟩ := all_int Try.underlying3 hc2_2
  obtain ⟨c3, _, rfl, g2_3, hc2_4⟩ := all_int Try.underlying3 hc2_3
  obtain ⟨c4, _, rfl, g2_4, hc2_5⟩ := all_int Try.underlying3 hc2_4
  obtain ⟨c5, _, rfl, hc2_6⟩ := all_bool Try.underlying4 hc2_5
  obtain ⟨c6, _, rfl, g2_6, hc2_7⟩ := all_int Try.underlying22 hc2_6
  obtain ⟨c7, _, rfl, g2_7, hc2_8⟩ := all_int Try.underlying3 hc2_7
  obtain ⟨c8, _, rfl, g2_8, hc2_9⟩ := all_int Try.underlying3 hc2_8
  obtain ⟨c9, _, rfl, g2_9, hc2_10⟩ := all_int Try.underlying3 hc2_9
  obtain ⟨c10, _, rfl, g2_10, hc2_11⟩ := all_int Try.underlying3 hc2_10
  obtain ⟨c11, _, rfl, g2_11, hc2_12⟩ := all_int Try.underlying3 hc2_11
  obtain ⟨c12, _, rfl, g2_12, hc2_13⟩ := all_int Try.underlying3 hc2_12
  obtain rfl := all_nil hc2_13
  refine (begins3 a b ⟨c0, c1, c2, c3, c4, c5, ⟨c6, c7, c8, c9, c10, c11, c12⟩⟩ W).mono fun e W' ⟨he, hb⟩ => ⟨_, he, post_law (tb := 4) law_laidOut ?_ rfl (by kernel_rfl) Try.underlying4 ?_ hW hb⟩
  · rw [Try.params3]; intro t ht; simp only [List.mem_cons, List.not_mem_nil, or_false] at ht; rcases ht with rfl | rfl | rfl <;> exact ⟨by kernel_rfl, of_decide_eq_true (by kernel_rfl)⟩
  · rw [hds]; rfl

/-- ClientBegins: whatever the input, the law answers true, and each argument reads as it did. -/
theorem clientBegins_holds : Rows.ClientBeginsSaid :=
  OpenClaim.holds_of_wide 3 Try.f3 rfl rfl rfl rfl rfl rfl rfl ⟨rfl, rfl, rfl, rfl, rfl⟩ rfl rfl rfl rfl rfl (by kernel_rfl) Try.func3 (by kernel_rfl)
    (of_decide_eq_true (by kernel_rfl)) (by unfold Func.isWrapper; rw [if_neg (of_decide_eq_false (by kernel_rfl))]; exact ⟨rfl, rfl⟩)
    (fun os started H enc _ => clientBegins_lifted os started H enc)
end Go.Proofs.Ytieffajmdfjokaa
