/-
  Proved: the law HeapDoes (tumuluslaw05) answers true for every input and leaves its arguments as they read; no condition.
-/
import Derived.Test.YtppdjlgjcdmiaaaGreatQA
import Derived.Test.YtppdjlgjcdmiaaaGreatQC
import Derived.Test.YtppdjlgjcdmiaaaGreatEL
set_option linter.unusedSimpArgs false
set_option linter.unusedVariables false
namespace Go.Proofs.YtppdjlgjcdmiaaaGreat
open Go.RowKit Go.ChangeShapes Go.WideShapes Go.ChangeAt
theorem own_knob : ownKnob Tryz.prog.godebug = none := by kernel_rfl
theorem law_laidOut : laidOutB Tryz.prog = true := by kernel_rfl
theorem celltypes26 : Tryz.prog.cellTypes Tryz.prog.depth 26 = some [3, 22, 3, 3, 3, 3, 3, 24] := by kernel_rfl
theorem cellsof26 : Tryz.prog.cellsOf 26 = [3, 22, 3, 3, 3, 3, 3, 24].length := by kernel_rfl
theorem celltypes29 : Tryz.prog.cellTypes Tryz.prog.depth 29 = some [27, 3, 3, 3, 3, 3, 3] := by kernel_rfl
theorem cellsof29 : Tryz.prog.cellsOf 29 = [27, 3, 3, 3, 3, 3, 3].length := by kernel_rfl
set_option maxRecDepth 100000 in
set_option maxHeartbeats 4000000 in
theorem heapDoes_lifted (os : Os) (started : os.Started) (H : Type) (enc : TypeId × Value → H) :
    ReturnsInHanded {} Tryz.checked os 3 .any (Rows.heapDoesSpec.pre6 enc Tryz.prog Tryz.f3 Rows.heapDoesRow.domain false) (Rows.heapDoesSpec.post enc Tryz.prog Tryz.f3 false true false false) := by
  refine returnsInHanded_of_change (C := Tryz.checked) own_knob started (by kernel_rfl) Tryz.func3
    (ChangeSpec.witness6 (enc := enc) (C := Tryz.checked) false ⟨#[], #[.agg #[.int .i64 0, .slice none 0 0, .int .i64 0, .int .i64 0, .int .i64 0, .int .i64 0, .int .i64 0, .slice none 0 0], .agg #[.int .i64 0, .int .i64 0, .int .i64 0, .int .i64 0, .int .i64 0, .int .i64 0, .int .i64 0]], []⟩ 8 (by kernel_rfl) (by kernel_rfl) (by kernel_rfl) (by kernel_rfl)) ?_
  intro W base args ds gs before hval0 hW _ _
  have hval : ∀ (j : Nat) t v, Tryz.f3.params[j]? = some t → args[j]? = some v → Value.okWide Tryz.prog W .any base t v := hval0
  have hW' := hW
  obtain ⟨p, q, hA0, hV, _, _, _⟩ := hW'
  have hA : DataW.TrodAll enc Tryz.prog W 0 (fun _ => true) true Tryz.f3.params.toList args.toList ds p := hA0
  obtain ⟨rfl, rfl⟩ := trodVars_none hV
  clear hA0 hval0
  rw [Tryz.params3] at hA hval
  obtain ⟨v0, vs0, d0, ds0, p0, q0, hargs, hd0, _, tr0, r0⟩ := trodAll_cons hA
  obtain ⟨v1, vs1, d1, ds1, p1, q1, rfl, hd1, _, tr1, r1⟩ := trodAll_cons r0
  obtain ⟨rfl, hdn, _⟩ := trodAll_nil r1
  obtain rfl : args = #[v0, v1] := by cases args; simp_all
  have hds : ds = [d0, d1] := by rw [hd0, hd1, hdn]
  obtain ⟨cs0, rfl, _⟩ := open_agg Tryz.underlying26 celltypes26 cellsof26 (hval 0 26 v0 rfl rfl)
  obtain ⟨fu0, ht0⟩ := tr0
  obtain ⟨h, rfl, hh⟩ := reads_heapN (Reads.of (by simpa [Value.cells] using ht0))
  obtain ⟨cs1, rfl, hc1_0⟩ := open_agg Tryz.underlying29 celltypes29 cellsof29 (hval 1 29 v1 rfl rfl)
  obtain ⟨o0, _, rfl, g1_0, hc1_1⟩ := all_int Tryz.underlying27 hc1_0
  obtain ⟨o1, _, rfl, g1_1, hc1_2⟩ := all_int Tryz.underlying3 hc1_1
  obtain ⟨o2, _, rfl, g1_2, hc1_3⟩ := all_int Tryz.underlying3 hc1_2
  obtain ⟨o3, _, rfl, g1_3, hc1_4⟩ := all_int Tryz.underlying3 hc1_3
  obtain ⟨o4, _, rfl, g1_4, hc1_5⟩ := all_int Tryz.underlying3 hc1_4
  obtain ⟨o5, _, rfl, g1_5, hc1_6⟩ := all_int Tryz.underlying3 hc1_5
  obtain ⟨o6, _, rfl, g1_6, hc1_7⟩ := all_int Tryz.underlying3 hc1_6
  obtain rfl := all_nil hc1_7
  refine (law3 h o0 o1 o2 o3 o4 o5 o6 W hh).mono fun e W' ⟨he, hb⟩ => ⟨_, he, post_law (tb := 4) law_laidOut ?_ rfl (by kernel_rfl) Tryz.underlying4 ?_ hW hb⟩
  · rw [Tryz.params3]; intro t ht; simp only [List.mem_cons, List.not_mem_nil, or_false] at ht; rcases ht with rfl | rfl <;> exact ⟨by kernel_rfl, of_decide_eq_true (by kernel_rfl)⟩
  · rw [hds]; rfl
theorem heapDoes_holds : Rows.HeapDoesSaid :=
  OpenClaim.holds_of_wide 3 Tryz.f3 rfl rfl rfl rfl rfl rfl rfl ⟨rfl, rfl, rfl, rfl, rfl⟩ rfl rfl rfl rfl rfl (by kernel_rfl) Tryz.func3 (by kernel_rfl)
    (of_decide_eq_true (by kernel_rfl)) (by unfold Func.isWrapper; rw [if_neg (of_decide_eq_false (by kernel_rfl))]; exact ⟨rfl, rfl⟩)
    (fun os started H enc _ => heapDoes_lifted os started H enc)
end Go.Proofs.YtppdjlgjcdmiaaaGreat
