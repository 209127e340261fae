/-
  Proved: the law BitsNil (tumuluslaw03) answers true for every input and leaves its arguments as they read; no condition.
-/
import Derived.Test.YtfnadjlnnfmnmaaFrame
import Derived.Test.YtfnadjlnnfmnmaaNNil
set_option linter.unusedSimpArgs false
set_option linter.unusedVariables false
namespace Go.Proofs.Ytfnadjlnnfmnmaa
open Go.RowKit Go.ChangeShapes Go.WideShapes Go.ChangeAt
theorem own_knob : ownKnob Try.prog.godebug = none := by kernel_rfl
theorem law_laidOut : laidOutB Try.prog = true := by kernel_rfl
theorem celltypes23 : Try.prog.cellTypes Try.prog.depth 23 = some [3, 3, 3, 4] := by kernel_rfl
theorem cellsof23 : Try.prog.cellsOf 23 = [3, 3, 3, 4].length := by kernel_rfl

set_option maxRecDepth 100000 in
theorem bitsNil_lifted (os : Os) (started : os.Started) (H : Type) (enc : TypeId × Value → H) :
    ReturnsInHanded {} Try.checked os 5 .any (Rows.bitsNilSpec.pre6 enc Try.prog Try.f5 Rows.bitsNilRow.domain false) (Rows.bitsNilSpec.post enc Try.prog Try.f5 false true false false) := by
  refine returnsInHanded_of_change (C := Try.checked) own_knob started (by kernel_rfl) Try.func5
    (ChangeSpec.witness6 (enc := enc) (C := Try.checked) false ⟨#[], #[.agg #[.int .i64 0, .int .i64 0, .int .i64 0, .bool false]], []⟩ 8 (by kernel_rfl) (by kernel_rfl) (by kernel_rfl) (by kernel_rfl)) ?_
  intro W base args ds gs before hval0 hW _ _
  have hval : ∀ (j : Nat) t v, Try.f5.params[j]? = some t → args[j]? = some v → Value.okWide Try.prog W .any base t v := hval0
  have hW' := hW
  obtain ⟨p, q, hA0, hV, _, _, _⟩ := hW'
  have hA : DataW.TrodAll enc Try.prog W 0 (fun _ => true) true Try.f5.params.toList args.toList ds p := hA0
  obtain ⟨rfl, rfl⟩ := trodVars_none hV
  clear hA0 hval0
  rw [Try.params5] at hA hval
  obtain ⟨v0, vs0, d0, ds0, p0, q0, hargs, hd0, _, tr0, r0⟩ := trodAll_cons hA
  obtain ⟨rfl, hdn, _⟩ := trodAll_nil r0
  obtain rfl : args = #[v0] := by cases args; simp_all
  have hds : ds = [d0] := by rw [hd0, hdn]
  obtain ⟨cs0, rfl, hc0_0⟩ := open_agg Try.underlying23 celltypes23 cellsof23 (hval 0 23 v0 rfl rfl)
  obtain ⟨o0, _, rfl, g0_0, hc0_1⟩ := all_int Try.underlying3 hc0_0
  obtain ⟨o1, _, rfl, g0_1, hc0_2⟩ := all_int Try.underlying3 hc0_1
  obtain ⟨o2, _, rfl, g0_2, hc0_3⟩ := all_int Try.underlying3 hc0_2
  obtain ⟨o3, _, rfl, hc0_4⟩ := all_bool Try.underlying4 hc0_3
  obtain rfl := all_nil hc0_4
  refine (nil5 o0 o1 o2 o3 W).mono fun e W' ⟨he, hb⟩ => ⟨_, he, post_law (tb := 4) law_laidOut ?_ rfl (by kernel_rfl) Try.underlying4 ?_ hW hb⟩
  · rw [Try.params5]; intro t ht; simp only [List.mem_cons, List.not_mem_nil, or_false] at ht; rcases ht with rfl <;> exact ⟨by kernel_rfl, of_decide_eq_true (by kernel_rfl)⟩
  · rw [hds]; rfl

/-- BitsNil: whatever the input, the law answers true, and each argument reads as it did. -/
theorem bitsNil_holds : Rows.BitsNilSaid :=
  OpenClaim.holds_of_wide 5 Try.f5 rfl rfl rfl rfl rfl rfl rfl ⟨rfl, rfl, rfl, rfl, rfl⟩ rfl rfl rfl rfl rfl (by kernel_rfl) Try.func5 (by kernel_rfl)
    (of_decide_eq_true (by kernel_rfl)) (by unfold Func.isWrapper; rw [if_neg (of_decide_eq_false (by kernel_rfl))]; exact ⟨rfl, rfl⟩)
    (fun os started H enc _ => bitsNil_lifted os started H enc)
end Go.Proofs.Ytfnadjlnnfmnmaa
