/-
  Proved: the law ClientOnce (tumuluslaw20) answers true for every input and leaves its arguments as they read; no condition.
-/
import Derived.Test.YtieffajmdfjokaaFrame
import Derived.Test.YtieffajmdfjokaaOnce5
set_option linter.unusedSimpArgs false
set_option linter.unusedVariables false
namespace Go.Proofs.Ytieffajmdfjokaa
open Go.RowKit Go.ChangeShapes Go.WideShapes Go.ChangeAt
theorem own_knob : ownKnob Try.prog.godebug = none := by kernel_rfl
theorem law_laidOut : laidOutB Try.prog = true := by kernel_rfl
theorem celltypes26 : Try.prog.cellTypes Try.prog.depth 26 = some [3, 3, 3, 3, 3, 4, 22, 3, 3, 3, 3, 3, 3] := by kernel_rfl
theorem cellsof26 : Try.prog.cellsOf 26 = [3, 3, 3, 3, 3, 4, 22, 3, 3, 3, 3, 3, 3].length := by kernel_rfl
theorem celltypes24 : Try.prog.cellTypes Try.prog.depth 24 = some [22, 3, 3, 3, 3, 3, 3] := by kernel_rfl
theorem cellsof24 : Try.prog.cellsOf 24 = [22, 3, 3, 3, 3, 3, 3].length := by kernel_rfl
theorem celltypes39 : Try.prog.cellTypes Try.prog.depth 39 = some [34, 3, 3, 3, 3, 3, 3, 3, 35, 3, 3, 9, 3, 22, 3, 3, 3, 3, 3, 3, 27, 3, 4] := by kernel_rfl
theorem cellsof39 : Try.prog.cellsOf 39 = [34, 3, 3, 3, 3, 3, 3, 3, 35, 3, 3, 9, 3, 22, 3, 3, 3, 3, 3, 3, 27, 3, 4].length := by kernel_rfl

set_option maxRecDepth 100000 in
theorem clientOnce_lifted (os : Os) (started : os.Started) (H : Type) (enc : TypeId × Value → H) :
    ReturnsInHanded {} Try.checked os 6 .any (Rows.clientOnceSpec.pre6 enc Try.prog Try.f6 Rows.clientOnceRow.domain false) (Rows.clientOnceSpec.post enc Try.prog Try.f6 false true false false) := by
  refine returnsInHanded_of_change (C := Try.checked) own_knob started (by kernel_rfl) Try.func6
    (ChangeSpec.witness6 (enc := enc) (C := Try.checked) false ⟨#[], #[.agg #[.int .i64 0, .int .i64 0, .int .i64 0, .int .i64 0, .int .i64 0, .bool false, .int .i64 0, .int .i64 0, .int .i64 0, .int .i64 0, .int .i64 0, .int .i64 0, .int .i64 0], .agg #[.int .i64 0, .int .i64 0, .int .i64 0, .int .i64 0, .int .i64 0, .int .i64 0, .int .i64 0], .agg #[.int .i64 0, .int .i64 0, .int .i64 0, .int .i64 0, .int .i64 0, .int .i64 0, .int .i64 0, .int .i64 0, .slice none 0 0, .int .i64 0, .int .i64 0, .string ByteArray.empty, .int .i64 0, .int .i64 0, .int .i64 0, .int .i64 0, .int .i64 0, .int .i64 0, .int .i64 0, .int .i64 0, .int .i64 0, .int .i64 0, .bool false]], []⟩ 8 (by kernel_rfl) (by kernel_rfl) (by kernel_rfl) (by kernel_rfl)) ?_
  intro W base args ds gs before hval0 hW _ _
  have hval : ∀ (j : Nat) t v, Try.f6.params[j]? = some t → args[j]? = some v → Value.okWide Try.prog W .any base t v := hval0
  have hW' := hW
  obtain ⟨p, q, hA0, hV, _, _, _⟩ := hW'
  have hA : DataW.TrodAll enc Try.prog W 0 (fun _ => true) true Try.f6.params.toList args.toList ds p := hA0
  obtain ⟨rfl, rfl⟩ := trodVars_none hV
  clear hA0 hval0
  rw [Try.params6] at hA hval
  obtain ⟨v0, vs0, d0, ds0, p0, q0, hargs, hd0, _, _, r0⟩ := trodAll_cons hA
  obtain ⟨v1, vs1, d1, ds1, p1, q1, rfl, hd1, _, _, r1⟩ := trodAll_cons r0
  obtain ⟨v2, vs2, d2, ds2, p2, q2, rfl, hd2, _, _, r2⟩ := trodAll_cons r1
  obtain ⟨rfl, hdn, _⟩ := trodAll_nil r2
  obtain rfl : args = #[v0, v1, v2] := by cases args; simp_all
  have hds : ds = [d0, d1, d2] := by rw [hd0, hd1, hd2, hdn]
  obtain ⟨cs0, rfl, hc0_0⟩ := open_agg Try.underlying26 celltypes26 cellsof26 (hval 0 26 v0 rfl rfl)
  obtain ⟨c0, _, rfl, g0_0, hc0_1⟩ := all_int Try.underlying3 hc0_0
  obtain ⟨c1, _, rfl, g0_1, hc0_2⟩ := all_int Try.underlying3 hc0_1
  obtain ⟨c2, _, rfl, g0_2, hc0_3⟩ := all_int Try.underlying3 hc0_2
  obtain ⟨c3, _, rfl, g0_3, hc0_4⟩ := all_int Try.underlying3 hc0_3
  obtain ⟨c4, _, rfl, g0_4, hc0_5⟩ := all_int Try.underlying3 hc0_4
  obtain ⟨c5, _, rfl, hc0_6⟩ := all_bool Try.underlying4 hc0_5
  obtain ⟨c6, _, rfl, g0_6, hc0_7⟩ := all_int Try.underlying22 hc0_6
  obtain ⟨c7, _, rfl, g0_7, hc0_8⟩ := all_int Try.underlying3 hc0_7
  obtain ⟨c8, _, rfl, g0_8, hc0_9⟩ := all_int Try.underlying3 hc0_8
  obtain ⟨c9, _, rfl, g0_9, hc0_10⟩ := all_int Try.underlying3 hc0_9
  obtain ⟨c10, _, rfl, g0_10, hc0_11⟩ := all_int Try.underlying3 hc0_10
  obtain ⟨c11, _, rfl, g0_11, hc0_12⟩ := all_int Try.underlying3 hc0_11
  obtain ⟨c12, _, rfl, g0_12, hc0_13⟩ := all_int Try.underlying3 hc0_12
  obtain rfl := all_nil hc0_13
  obtain ⟨cs1, rfl, hc1_0⟩ := open_agg Try.underlying24 celltypes24 cellsof24 (hval 1 24 v1 rfl rfl)
  obtain ⟨o0, _, rfl, g1_0, hc1_1⟩ := all_int Try.underlying22 hc1_0
  obtain ⟨o1, _, rfl, g1_1, hc1_2⟩ := all_int Try.underlying3 hc1_1
  obtain ⟨o2, _, rfl, g1_2, hc1_3⟩ := all_int Try.underlying3 hc1_2
  obtain ⟨o3, _, rfl, g1_3, hc1_4⟩ := all_int Try.underlying3 hc1_3
  obtain ⟨o4, _, rfl, g1_4, hc1_5⟩ := all_int Try.underlying3 hc1_4
  obtain ⟨o5, _, rfl, g1_5, hc1_6⟩ := all_int Try.underlying3 hc1_5
  obtain ⟨o6, _, rfl, g1_6, hc1_7⟩ := all_int Try.underlying3 hc1_6
  obtain rfl := all_nil hc1_7
  obtain ⟨cs2, rfl, hc2_0⟩ := open_agg Try.underlying39 celltypes39 cellsof39 (hval 2 39 v2 rfl rfl)
  obtain ⟨m0, _, rfl, g2_0, hc2_1⟩ := all_int Try.underlying34 hc2_0
  obtain ⟨m1, _, rfl, g2_1, hc2_2⟩ := all_int Try.underlying3 hc2_1
  obtain ⟨m2, _, rfl, g2_2, hc2_3⟩ := all_int Try.underlying3 hc2_2
  obtain ⟨m3, _, rfl, g2_3, hc2_4⟩ := all_int Try.underlying3 hc2_3
  obtain ⟨m4, _, rfl, g2_4, hc2_5⟩ := all_int Try.underlying3 hc2_4
  obtain ⟨m5, _, rfl, g2_5, hc2_6⟩ := all_int Try.underlying3 hc2_5
  obtain ⟨m6, _, rfl, g2_6, hc2_7⟩ := all_int Try.underlying3 hc2_6
  obtain ⟨m7, _, rfl, g2_7, hc2_8⟩ := all_int Try.underlying3 hc2_7
  obtain ⟨m8a, m8n, m8k, _, rfl, g2_8, hc2_9⟩ := all_slice Try.underlying35 hc2_8
  obtain ⟨m9, _, rfl, g2_9, hc2_10⟩ := all_int Try.underlying3 hc2_9
  obtain ⟨m10, _, rfl, g2_10, hc2_11⟩ := all_int Try.underlying3 hc2_10
  obtain ⟨m11, _, rfl, g2_11, hc2_12⟩ := all_string Try.underlying9 hc2_11
  obtain ⟨m12, _, rfl, g2_12, hc2_13⟩ := all_int Try.underlying3 hc2_12
  obtain ⟨m13, _, rfl, g2_13, hc2_14⟩ := all_int Try.underlying22 hc2_13
  obtain ⟨m14, _, rfl, g2_14, hc2_15⟩ := all_int Try.underlying3 hc2_14
  obtain ⟨m15, _, rfl, g2_15, hc2_16⟩ := all_int Try.underlying3 hc2_15
  obtain ⟨m16, _, rfl, g2_16, hc2_17⟩ := all_int Try.underlying3 hc2_16
  obtain ⟨m17, _, rfl, g2_17, hc2_18⟩ := all_int Try.underlying3 hc2_17
  obtain ⟨m18, _, rfl, g2_18, hc2_19⟩ := all_int Try.underlying3 hc2_18
  obtain ⟨m19, _, rfl, g2_19, hc2_20⟩ := all_int Try.underlying3 hc2_19
  obtain ⟨m20, _, rfl, g2_20, hc2_21⟩ := all_int Try.underlying27 hc2_20
  obtain ⟨m21, _, rfl, g2_21, hc2_22⟩ := all_int Try.underlying3 hc2_21
  obtain ⟨m22, _, rfl, hc2_23⟩ := all_bool Try.underlying4 hc2_22
  obtain rfl := all_nil hc2_23
  refine (onces6 ⟨c0, c1, c2, c3, c4, c5, ⟨c6, c7, c8, c9, c10, c11, c12⟩⟩ ⟨o0, o1, o2, o3, o4, o5, o6⟩ ⟨m0, m1, m2, m3, m4, m5, m6, m7, .slice none 0 0, m9, m10, m11, m12, ⟨m13, m14, m15, m16, m17, m18, m19⟩, m20, m21, m22⟩ m8a m8n m8k W).mono fun e W' ⟨he, hb⟩ => ⟨_, he, post_law (tb := 4) law_laidOut ?_ rfl (by kernel_rfl) Try.underlying4 ?_ hW hb⟩
  · rw [Try.params6]; intro t ht; simp only [List.mem_cons, List.not_mem_nil, or_false] at ht; rcases ht with rfl | rfl | rfl <;> exact ⟨by kernel_rfl, of_decide_eq_true (by kernel_rfl)⟩
  · rw [hds]; rfl

/-- ClientOnce: whatever the input, the law answers true, and each argument reads as it did. -/
theorem clientOnce_holds : Rows.ClientOnceSaid :=
  OpenClaim.holds_of_wide 6 Try.f6 rfl rfl rfl rfl rfl rfl rfl ⟨rfl, rfl, rfl, rfl, rfl⟩ rfl rfl rfl rfl rfl (by kernel_rfl) Try.func6 (by kernel_rfl)
    (of_decide_eq_true (by kernel_rfl)) (by unfold Func.isWrapper; rw [if_neg (of_decide_eq_false (by kernel_rfl))]; exact ⟨rfl, rfl⟩)
    (fun os started H enc _ => clientOnce_lifted os started H enc)
end Go.Proofs.Ytieffajmdfjokaa
