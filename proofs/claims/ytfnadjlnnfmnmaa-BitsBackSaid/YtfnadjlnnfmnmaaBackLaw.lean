/-
  Proved: the law BitsBack (tumuluslaw03) answers true for every input and leaves its arguments as they read; no condition.
-/
import Derived.Test.YtfnadjlnnfmnmaaFrame
import Derived.Test.YtfnadjlnnfmnmaaNBack
set_option linter.unusedSimpArgs false
set_option linter.unusedVariables false
namespace Go.Proofs.Ytfnadjlnnfmnmaa
open Go.RowKit Go.ChangeShapes Go.WideShapes Go.ChangeAt
theorem own_knob : ownKnob Try.prog.godebug = none := by kernel_rfl
theorem law_laidOut : laidOutB Try.prog = true := by kernel_rfl
theorem celltypes23 : Try.prog.cellTypes Try.prog.depth 23 = some [3, 3, 3, 4] := by kernel_rfl
theorem cellsof23 : Try.prog.cellsOf 23 = [3, 3, 3, 4].length := by kernel_rfl

set_option maxRecDepth 100000 in
set_option maxHeartbeats 4000000 in
theorem bitsBack_lifted (os : Os) (started : os.Started) (H : Type) (enc : TypeId × Value → H) :
    ReturnsInHanded {} Try.checked os 6 .any (Rows.bitsBackSpec.pre6 enc Try.prog Try.f6 Rows.bitsBackRow.domain false) (Rows.bitsBackSpec.post enc Try.prog Try.f6 false true false false) := by
  refine returnsInHanded_of_change (C := Try.checked) own_knob started (by kernel_rfl) Try.func6
    (ChangeSpec.witness6 (enc := enc) (C := Try.checked) false ⟨#[], #[.int .i64 0, .agg #[.int .i64 0, .int .i64 0, .int .i64 0, .bool false], .agg #[.int .i64 0, .int .i64 0, .int .i64 0, .bool false], .int .i64 0, .int .i64 0, .bool false], []⟩ 8 (by kernel_rfl) (by kernel_rfl) (by kernel_rfl) (by kernel_rfl)) ?_
  intro W base args ds gs before hval0 hW _ _
  have hval : ∀ (j : Nat) t v, Try.f6.params[j]? = some t → args[j]? = some v → Value.okWide Try.prog W .any base t v := hval0
  have hW' := hW
  obtain ⟨p, q, hA0, hV, _, _, _⟩ := hW'
  have hA : DataW.TrodAll enc Try.prog W 0 (fun _ => true) true Try.f6.params.toList args.toList ds p := hA0
  obtain ⟨rfl, rfl⟩ := trodVars_none hV
  clear hA0 hval0
  rw [Try.params6] at hA hval
  obtain ⟨v0, vs0, d0, ds0, p0, q0, hargs, hd0, _, tr0, r0⟩ := trodAll_cons hA
  obtain ⟨v1, vs1, d1, ds1, p1, q1, rfl, hd1, _, tr1, r1⟩ := trodAll_cons r0
  obtain ⟨v2, vs2, d2, ds2, p2, q2, rfl, hd2, _, tr2, r2⟩ := trodAll_cons r1
  obtain ⟨v3, vs3, d3, ds3, p3, q3, rfl, hd3, _, tr3, r3⟩ := trodAll_cons r2
  obtain ⟨v4, vs4, d4, ds4, p4, q4, rfl, hd4, _, tr4, r4⟩ := trodAll_cons r3
  obtain ⟨v5, vs5, d5, ds5, p5, q5, rfl, hd5, _, tr5, r5⟩ := trodAll_cons r4
  obtain ⟨rfl, hdn, _⟩ := trodAll_nil r5
  obtain rfl : args = #[v0, v1, v2, v3, v4, v5] := by cases args; simp_all
  have hds : ds = [d0, d1, d2, d3, d4, d5] := by rw [hd0, hd1, hd2, hd3, hd4, hd5, hdn]
  obtain ⟨n, rfl, b0⟩ := ok_int Try.underlying3 (hval 0 3 v0 rfl rfl)
  obtain ⟨cs1, rfl, hc1_0⟩ := open_agg Try.underlying23 celltypes23 cellsof23 (hval 1 23 v1 rfl rfl)
  obtain ⟨a0, _, rfl, g1_0, hc1_1⟩ := all_int Try.underlying3 hc1_0
  obtain ⟨a1, _, rfl, g1_1, hc1_2⟩ := all_int Try.underlying3 hc1_1
  obtain ⟨a2, _, rfl, g1_2, hc1_3⟩ := all_int Try.underlying3 hc1_2
  obtain ⟨a3, _, rfl, hc1_4⟩ := all_bool Try.underlying4 hc1_3
  obtain rfl := all_nil hc1_4
  obtain ⟨cs2, rfl, hc2_0⟩ := open_agg Try.underlying23 celltypes23 cellsof23 (hval 2 23 v2 rfl rfl)
  obtain ⟨u0, _, rfl, g2_0, hc2_1⟩ := all_int Try.underlying3 hc2_0
  obtain ⟨u1, _, rfl, g2_1, hc2_2⟩ := all_int Try.underlying3 hc2_1
  obtain ⟨u2, _, rfl, g2_2, hc2_3⟩ := all_int Try.underlying3 hc2_2
  obtain ⟨u3, _, rfl, hc2_4⟩ := all_bool Try.underlying4 hc2_3
  obtain rfl := all_nil hc2_4
  obtain ⟨x, rfl, b3⟩ := ok_int Try.underlying3 (hval 3 3 v3 rfl rfl)
  obtain ⟨m, rfl, b4⟩ := ok_int Try.underlying3 (hval 4 3 v4 rfl rfl)
  obtain ⟨o, rfl⟩ := ok_bool Try.underlying4 (hval 5 4 v5 rfl rfl)
  refine (back6 n a0 a1 a2 a3 u0 u1 u2 u3 x m o (by have h := b4.2; simpa [IntKind.max, IntKind.signed, IntKind.bits] using h) W).mono fun e W' ⟨he, hb⟩ => ⟨_, he, post_law (tb := 4) law_laidOut ?_ rfl (by kernel_rfl) Try.underlying4 ?_ hW hb⟩
  · rw [Try.params6]; intro t ht; simp only [List.mem_cons, List.not_mem_nil, or_false] at ht; rcases ht with rfl | rfl | rfl | rfl | rfl | rfl <;> exact ⟨by kernel_rfl, of_decide_eq_true (by kernel_rfl)⟩
  · rw [hds]; rfl

/-- BitsBack: whatever the input, the law answers true, and each argument reads as it did. -/
theorem bitsBack_holds : Rows.BitsBackSaid :=
  OpenClaim.holds_of_wide 6 Try.f6 rfl rfl rfl rfl rfl rfl rfl ⟨rfl, rfl, rfl, rfl, rfl⟩ rfl rfl rfl rfl rfl (by kernel_rfl) Try.func6 (by kernel_rfl)
    (of_decide_eq_true (by kernel_rfl)) (by unfold Func.isWrapper; rw [if_neg (of_decide_eq_false (by kernel_rfl))]; exact ⟨rfl, rfl⟩)
    (fun os started H enc _ => bitsBack_lifted os started H enc)
end Go.Proofs.Ytfnadjlnnfmnmaa
