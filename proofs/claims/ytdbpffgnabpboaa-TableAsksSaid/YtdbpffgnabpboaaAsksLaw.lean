/-
  Proved: the law TableAsks (tumuluslaw14) answers true for every input and leaves its arguments as they read; no condition.
-/
import Derived.Test.YtdbpffgnabpboaaFrame
import Derived.Test.YtdbpffgnabpboaaHDec
import Derived.Test.YtdbpffgnabpboaaTLaw
set_option linter.unusedSimpArgs false
set_option linter.unusedVariables false
namespace Go.Proofs.Ytdbpffgnabpboaa
open Go.RowKit Go.ChangeShapes Go.WideShapes Go.ChangeAt
theorem own_knob : ownKnob Try.prog.godebug = none := by kernel_rfl
theorem law_laidOut : laidOutB Try.prog = true := by kernel_rfl
theorem celltypes44 : Try.prog.cellTypes Try.prog.depth 44 = some [3, 38, 3, 3, 3, 3, 3, 22, 42] := by kernel_rfl
theorem cellsof44 : Try.prog.cellsOf 44 = [3, 38, 3, 3, 3, 3, 3, 22, 42].length := by kernel_rfl
theorem celltypes49 : Try.prog.cellTypes Try.prog.depth 49 = some [3, 3, 3, 3, 45, 3, 3, 3, 3, 3, 3] := by kernel_rfl
theorem cellsof49 : Try.prog.cellsOf 49 = [3, 3, 3, 3, 45, 3, 3, 3, 3, 3, 3].length := by kernel_rfl

set_option maxRecDepth 100000 in
set_option maxHeartbeats 4000000 in
theorem tableAsks_lifted (os : Os) (started : os.Started) (H : Type) (enc : TypeId × Value → H) :
    ReturnsInHanded {} Try.checked os 4 .any (Rows.tableAsksSpec.pre6 enc Try.prog Try.f4 Rows.tableAsksRow.domain false) (Rows.tableAsksSpec.post enc Try.prog Try.f4 false true false false) := by
  refine returnsInHanded_of_change (C := Try.checked) own_knob started (by kernel_rfl) Try.func4
    (ChangeSpec.witness6 (enc := enc) (C := Try.checked) false ⟨#[], #[.int .i64 0, .agg #[.int .i64 0, .slice none 0 0, .int .i64 0, .int .i64 0, .int .i64 0, .int .i64 0, .int .i64 0, .slice none 0 0, .slice none 0 0], .int .i64 0, .agg #[.int .i64 0, .int .i64 0, .int .i64 0, .int .i64 0, .int .i64 0, .int .i64 0, .int .i64 0, .int .i64 0, .int .i64 0, .int .i64 0, .int .i64 0]], []⟩ 8 (by kernel_rfl) (by kernel_rfl) (by kernel_rfl) (by kernel_rfl)) ?_
  intro W base args ds gs before hval0 hW _ _
  have hval : ∀ (j : Nat) t v, Try.f4.params[j]? = some t → args[j]? = some v → Value.okWide Try.prog W .any base t v := hval0
  have hW' := hW
  obtain ⟨p, q, hA0, hV, _, _, _⟩ := hW'
  have hA : DataW.TrodAll enc Try.prog W 0 (fun _ => true) true Try.f4.params.toList args.toList ds p := hA0
  obtain ⟨rfl, rfl⟩ := trodVars_none hV
  clear hA0 hval0
  rw [Try.params4] at hA hval
  obtain ⟨v0, vs0, d0, ds0, p0, q0, hargs, hd0, _, tr0, r0⟩ := trodAll_cons hA
  obtain ⟨v1, vs1, d1, ds1, p1, q1, rfl, hd1, _, tr1, r1⟩ := trodAll_cons r0
  obtain ⟨v2, vs2, d2, ds2, p2, q2, rfl, hd2, _, tr2, r2⟩ := trodAll_cons r1
  obtain ⟨v3, vs3, d3, ds3, p3, q3, rfl, hd3, _, tr3, r3⟩ := trodAll_cons r2
  obtain ⟨rfl, hdn, _⟩ := trodAll_nil r3
  obtain rfl : args = #[v0, v1, v2, v3] := by cases args; simp_all
  have hds : ds = [d0, d1, d2, d3] := by rw [hd0, hd1, hd2, hd3, hdn]
  obtain ⟨o, rfl, b0⟩ := ok_int Try.underlying3 (hval 0 3 v0 rfl rfl)
  obtain ⟨cs1, rfl, _⟩ := open_agg Try.underlying44 celltypes44 cellsof44 (hval 1 44 v1 rfl rfl)
  obtain ⟨fu1, ht1⟩ := tr1
  obtain ⟨s, rfl, hs⟩ := reads_state (Reads.of (by simpa [Value.cells] using ht1))
  obtain ⟨c, rfl, b2⟩ := ok_int Try.underlying3 (hval 2 3 v2 rfl rfl)
  obtain ⟨cs3, rfl, hc3_0⟩ := open_agg Try.underlying49 celltypes49 cellsof49 (hval 3 49 v3 rfl rfl)
  obtain ⟨e0, _, rfl, g3_0, hc3_1⟩ := all_int Try.underlying3 hc3_0
  obtain ⟨e1, _, rfl, g3_1, hc3_2⟩ := all_int Try.underlying3 hc3_1
  obtain ⟨e2, _, rfl, g3_2, hc3_3⟩ := all_int Try.underlying3 hc3_2
  obtain ⟨e3, _, rfl, g3_3, hc3_4⟩ := all_int Try.underlying3 hc3_3
  obtain ⟨e4, _, rfl, g3_4, hc3_5⟩ := all_int Try.underlying45 hc3_4
  obtain ⟨e5, _, rfl, g3_5, hc3_6⟩ := all_int Try.underlying3 hc3_5
  obtain ⟨e6, _, rfl, g3_6, hc3_7⟩ := all_int Try.underlying3 hc3_6
  obtain ⟨e7, _, rfl, g3_7, hc3_8⟩ := all_int Try.underlying3 hc3_7
  obtain ⟨e8, _, rfl, g3_8, hc3_9⟩ := all_int Try.underlying3 hc3_8
  obtain ⟨e9, _, rfl, g3_9, hc3_10⟩ := all_int Try.underlying3 hc3_9
  obtain ⟨e10, _, rfl, g3_10, hc3_11⟩ := all_int Try.underlying3 hc3_10
  obtain rfl := all_nil hc3_11
  refine (law4 o s c ⟨e0, e1, e2, e3, ⟨e4, e5, e6, e7, e8, e9, e10⟩⟩ W hs).mono fun e W' ⟨he, hb⟩ => ⟨_, he, post_law (tb := 4) law_laidOut ?_ rfl (by kernel_rfl) Try.underlying4 ?_ hW hb⟩
  · rw [Try.params4]; intro t ht; simp only [List.mem_cons, List.not_mem_nil, or_false] at ht; rcases ht with rfl | rfl | rfl | rfl <;> exact ⟨by kernel_rfl, of_decide_eq_true (by kernel_rfl)⟩
  · rw [hds]; rfl

/-- TableAsks: whatever the input, the law answers true, and each argument reads as it did. -/
theorem tableAsks_holds : Rows.TableAsksSaid :=
  OpenClaim.holds_of_wide 4 Try.f4 rfl rfl rfl rfl rfl rfl rfl ⟨rfl, rfl, rfl, rfl, rfl⟩ rfl rfl rfl rfl rfl (by kernel_rfl) Try.func4 (by kernel_rfl)
    (of_decide_eq_true (by kernel_rfl)) (by unfold Func.isWrapper; rw [if_neg (of_decide_eq_false (by kernel_rfl))]; exact ⟨rfl, rfl⟩)
    (fun os started H enc _ => tableAsks_lifted os started H enc)
end Go.Proofs.Ytdbpffgnabpboaa
