/-
  Proved: the law TableHeap (tumuluslaw14) answers true for every input and leaves its arguments as they read; no condition.
-/
import Derived.Test.YtppdjlgjcdmiaaaGreatQA
import Derived.Test.YtppdjlgjcdmiaaaGreatHDec
import Derived.Test.YtppdjlgjcdmiaaaGreatYH
set_option linter.unusedSimpArgs false
set_option linter.unusedVariables false
namespace Go.Proofs.YtppdjlgjcdmiaaaGreat
open Go.RowKit Go.ChangeShapes Go.WideShapes Go.ChangeAt
theorem own_knob : ownKnob Tryz.prog.godebug = none := by kernel_rfl
theorem law_laidOut : laidOutB Tryz.prog = true := by kernel_rfl
theorem celltypes43 : Tryz.prog.cellTypes Tryz.prog.depth 43 = some [3, 22, 3, 3, 3, 3, 3, 24, 41] := by kernel_rfl
theorem cellsof43 : Tryz.prog.cellsOf 43 = [3, 22, 3, 3, 3, 3, 3, 24, 41].length := by kernel_rfl
theorem celltypes45 : Tryz.prog.cellTypes Tryz.prog.depth 45 = some [3, 3, 3, 3, 27, 3, 3, 3, 3, 3, 3] := by kernel_rfl
theorem cellsof45 : Tryz.prog.cellsOf 45 = [3, 3, 3, 3, 27, 3, 3, 3, 3, 3, 3].length := by kernel_rfl
set_option maxRecDepth 100000 in
set_option maxHeartbeats 4000000 in
theorem tableHeap_lifted (os : Os) (started : os.Started) (H : Type) (enc : TypeId × Value → H) :
    ReturnsInHanded {} Tryz.checked os 6 .any (Rows.tableHeapSpec.pre6 enc Tryz.prog Tryz.f6 Rows.tableHeapRow.domain false) (Rows.tableHeapSpec.post enc Tryz.prog Tryz.f6 false true false false) := by
  refine returnsInHanded_of_change (C := Tryz.checked) own_knob started (by kernel_rfl) Tryz.func6
    (ChangeSpec.witness6 (enc := enc) (C := Tryz.checked) false ⟨#[], #[.agg #[.int .i64 0, .slice none 0 0, .int .i64 0, .int .i64 0, .int .i64 0, .int .i64 0, .int .i64 0, .slice none 0 0, .slice none 0 0], .agg #[.int .i64 0, .int .i64 0, .int .i64 0, .int .i64 0, .int .i64 0, .int .i64 0, .int .i64 0, .int .i64 0, .int .i64 0, .int .i64 0, .int .i64 0], .int .i64 0], []⟩ 8 (by kernel_rfl) (by kernel_rfl) (by kernel_rfl) (by kernel_rfl)) ?_
  intro W base args ds gs before hval0 hW _ _
  have hval : ∀ (j : Nat) t v, Tryz.f6.params[j]? = some t → args[j]? = some v → Value.okWide Tryz.prog W .any base t v := hval0
  have hW' := hW
  obtain ⟨p, q, hA0, hV, _, _, _⟩ := hW'
  have hA : DataW.TrodAll enc Tryz.prog W 0 (fun _ => true) true Tryz.f6.params.toList args.toList ds p := hA0
  obtain ⟨rfl, rfl⟩ := trodVars_none hV
  clear hA0 hval0
  rw [Tryz.params6] at hA hval
  obtain ⟨v0, vs0, d0, ds0, p0, q0, hargs, hd0, _, tr0, r0⟩ := trodAll_cons hA
  obtain ⟨v1, vs1, d1, ds1, p1, q1, rfl, hd1, _, tr1, r1⟩ := trodAll_cons r0
  obtain ⟨v2, vs2, d2, ds2, p2, q2, rfl, hd2, _, tr2, r2⟩ := trodAll_cons r1
  obtain ⟨rfl, hdn, _⟩ := trodAll_nil r2
  obtain rfl : args = #[v0, v1, v2] := by cases args; simp_all
  have hds : ds = [d0, d1, d2] := by rw [hd0, hd1, hd2, hdn]
  obtain ⟨cs0, rfl, _⟩ := open_agg Tryz.underlying43 celltypes43 cellsof43 (hval 0 43 v0 rfl rfl)
  obtain ⟨fu0, ht0⟩ := tr0
  obtain ⟨s, rfl, hs⟩ := reads_state (Reads.of (by simpa [Value.cells] using ht0))
  obtain ⟨cs1, rfl, hc1_0⟩ := open_agg Tryz.underlying45 celltypes45 cellsof45 (hval 1 45 v1 rfl rfl)
  obtain ⟨e0, _, rfl, g1_0, hc1_1⟩ := all_int Tryz.underlying3 hc1_0
  obtain ⟨e1, _, rfl, g1_1, hc1_2⟩ := all_int Tryz.underlying3 hc1_1
  obtain ⟨e2, _, rfl, g1_2, hc1_3⟩ := all_int Tryz.underlying3 hc1_2
  obtain ⟨e3, _, rfl, g1_3, hc1_4⟩ := all_int Tryz.underlying3 hc1_3
  obtain ⟨e4, _, rfl, g1_4, hc1_5⟩ := all_int Tryz.underlying27 hc1_4
  obtain ⟨e5, _, rfl, g1_5, hc1_6⟩ := all_int Tryz.underlying3 hc1_5
  obtain ⟨e6, _, rfl, g1_6, hc1_7⟩ := all_int Tryz.underlying3 hc1_6
  obtain ⟨e7, _, rfl, g1_7, hc1_8⟩ := all_int Tryz.underlying3 hc1_7
  obtain ⟨e8, _, rfl, g1_8, hc1_9⟩ := all_int Tryz.underlying3 hc1_8
  obtain ⟨e9, _, rfl, g1_9, hc1_10⟩ := all_int Tryz.underlying3 hc1_9
  obtain ⟨e10, _, rfl, g1_10, hc1_11⟩ := all_int Tryz.underlying3 hc1_10
  obtain rfl := all_nil hc1_11
  obtain ⟨c, rfl, b2⟩ := ok_int Tryz.underlying3 (hval 2 3 v2 rfl rfl)
  refine (law6 s e0 e1 e2 e3 e4 e5 e6 e7 e8 e9 e10 c W hs).mono fun e W' ⟨he, hb⟩ => ⟨_, he, post_law (tb := 4) law_laidOut ?_ rfl (by kernel_rfl) Tryz.underlying4 ?_ hW hb⟩
  · rw [Tryz.params6]; intro t ht; simp only [List.mem_cons, List.not_mem_nil, or_false] at ht; rcases ht with rfl | rfl | rfl <;> exact ⟨by kernel_rfl, of_decide_eq_true (by kernel_rfl)⟩
  · rw [hds]; rfl
theorem tableHeap_holds : Rows.TableHeapSaid :=
  OpenClaim.holds_of_wide 6 Tryz.f6 rfl rfl rfl rfl rfl rfl rfl ⟨rfl, rfl, rfl, rfl, rfl⟩ rfl rfl rfl rfl rfl (by kernel_rfl) Tryz.func6 (by kernel_rfl)
    (of_decide_eq_true (by kernel_rfl)) (by unfold Func.isWrapper; rw [if_neg (of_decide_eq_false (by kernel_rfl))]; exact ⟨rfl, rfl⟩)
    (fun os started H enc _ => tableHeap_lifted os started H enc)
end Go.Proofs.YtppdjlgjcdmiaaaGreat
