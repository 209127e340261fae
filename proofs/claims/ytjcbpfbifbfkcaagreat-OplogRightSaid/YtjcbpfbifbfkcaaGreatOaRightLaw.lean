import Derived.Test.YtjcbpfbifbfkcaaGreatOaQA
import Derived.Test.YtjcbpfbifbfkcaaGreatOaHDK
import Derived.Test.YtjcbpfbifbfkcaaGreatOaOM
/-
  Proved: the law OplogRight (tumuluslaw15) answers true for every input and leaves its arguments as they read; no condition.
-/
set_option linter.unusedSimpArgs false
set_option linter.unusedVariables false
namespace Go.Proofs.YtjcbpfbifbfkcaaGreat
open Go.RowKit Go.ChangeShapes Go.WideShapes Go.ChangeAt
theorem own_knob : ownKnob Tryz.prog.godebug = none := by kernel_rfl
theorem law_laidOut : laidOutB Tryz.prog = true := by kernel_rfl
theorem celltypes28 : Tryz.prog.cellTypes Tryz.prog.depth 28 = some [3, 3, 3, 9, 23] := by kernel_rfl
theorem cellsof28 : Tryz.prog.cellsOf 28 = [3, 3, 3, 9, 23].length := by kernel_rfl
theorem celltypes40 : Tryz.prog.cellTypes Tryz.prog.depth 40 = some [33, 3, 3, 3, 9, 3, 3, 3, 3, 34, 3, 3, 3, 3, 3, 3, 23] := by kernel_rfl
theorem cellsof40 : Tryz.prog.cellsOf 40 = [33, 3, 3, 3, 9, 3, 3, 3, 3, 34, 3, 3, 3, 3, 3, 3, 23].length := by kernel_rfl
set_option maxRecDepth 100000 in
set_option maxHeartbeats 60000000 in
theorem oplogRight_lifted (os : Os) (started : os.Started) (H : Type) (enc : TypeId × Value → H) :
    ReturnsInHanded {} Tryz.checked os 4 .any (Rows.oplogRightSpec.pre6 enc Tryz.prog Tryz.f4 Rows.oplogRightRow.domain false) (Rows.oplogRightSpec.post enc Tryz.prog Tryz.f4 false true false false) := by
  refine returnsInHanded_of_change (C := Tryz.checked) own_knob started (by kernel_rfl) Tryz.func4
    (ChangeSpec.witness6 (enc := enc) (C := Tryz.checked) false ⟨#[], #[.agg #[.int .i64 0, .int .i64 0, .int .i64 0, .string ⟨#[]⟩, .slice none 0 0], .agg #[.int .i64 0, .int .i64 0, .int .i64 0, .int .i64 0, .string ⟨#[]⟩, .int .i64 0, .int .i64 0, .int .i64 0, .int .i64 0, .int .i64 0, .int .i64 0, .int .i64 0, .int .i64 0, .int .i64 0, .int .i64 0, .int .i64 0, .slice none 0 0]], []⟩ 8 (by kernel_rfl) (by kernel_rfl) (by kernel_rfl) (by kernel_rfl)) ?_
  intro W base args ds gs before hval0 hW _ _
  have hval : ∀ (j : Nat) t v, Tryz.f4.params[j]? = some t → args[j]? = some v → Value.okWide Tryz.prog W .any base t v := hval0
  have hW' := hW
  obtain ⟨p, q, hA0, hV, _, _, _⟩ := hW'
  have hA : DataW.TrodAll enc Tryz.prog W 0 (fun _ => true) true Tryz.f4.params.toList args.toList ds p := hA0
  obtain ⟨rfl, rfl⟩ := trodVars_none hV
  clear hA0 hval0
  rw [Tryz.params4] at hA hval
  obtain ⟨v0, vs0, d0, ds0, p0, q0, hargs, hd0, _, tr0, r0⟩ := trodAll_cons hA
  obtain ⟨v1, vs1, d1, ds1, p1, q1, rfl, hd1, _, tr1, r1⟩ := trodAll_cons r0
  obtain ⟨rfl, hdn, _⟩ := trodAll_nil r1
  obtain rfl : args = #[v0, v1] := by cases args; simp_all
  have hds : ds = [d0, d1] := by rw [hd0, hd1, hdn]
  obtain ⟨cs0, rfl, hc0_0⟩ := open_agg Tryz.underlying28 celltypes28 cellsof28 (hval 0 28 v0 rfl rfl)
  obtain ⟨k0, _, rfl, g0_0, hc0_1⟩ := all_int Tryz.underlying3 hc0_0
  obtain ⟨k1, _, rfl, g0_1, hc0_2⟩ := all_int Tryz.underlying3 hc0_1
  obtain ⟨k2, _, rfl, g0_2, hc0_3⟩ := all_int Tryz.underlying3 hc0_2
  obtain ⟨k3, _, rfl, g0_3, hc0_4⟩ := all_string Tryz.underlying9 hc0_3
  obtain ⟨k4a, k4n, k4k, _, rfl, g0_4, hc0_5⟩ := all_slice Tryz.underlying23 hc0_4
  obtain rfl := all_nil hc0_5
  obtain ⟨fu0, ht0⟩ := tr0
  obtain ⟨ke, hkn, hk, hkc⟩ := reads_keptE (Reads.of (by simpa [Value.cells] using ht0))
  subst hkn
  obtain ⟨cs1, rfl, hc1_0⟩ := open_agg Tryz.underlying40 celltypes40 cellsof40 (hval 1 40 v1 rfl rfl)
  obtain ⟨z0, _, rfl, g1_0, hc1_1⟩ := all_int Tryz.underlying33 hc1_0
  obtain ⟨z1, _, rfl, g1_1, hc1_2⟩ := all_int Tryz.underlying3 hc1_1
  obtain ⟨z2, _, rfl, g1_2, hc1_3⟩ := all_int Tryz.underlying3 hc1_2
  obtain ⟨z3, _, rfl, g1_3, hc1_4⟩ := all_int Tryz.underlying3 hc1_3
  obtain ⟨z4, _, rfl, g1_4, hc1_5⟩ := all_string Tryz.underlying9 hc1_4
  obtain ⟨z5, _, rfl, g1_5, hc1_6⟩ := all_int Tryz.underlying3 hc1_5
  obtain ⟨z6, _, rfl, g1_6, hc1_7⟩ := all_int Tryz.underlying3 hc1_6
  obtain ⟨z7, _, rfl, g1_7, hc1_8⟩ := all_int Tryz.underlying3 hc1_7
  obtain ⟨z8, _, rfl, g1_8, hc1_9⟩ := all_int Tryz.underlying3 hc1_8
  obtain ⟨z9, _, rfl, g1_9, hc1_10⟩ := all_int Tryz.underlying34 hc1_9
  obtain ⟨z10, _, rfl, g1_10, hc1_11⟩ := all_int Tryz.underlying3 hc1_10
  obtain ⟨z11, _, rfl, g1_11, hc1_12⟩ := all_int Tryz.underlying3 hc1_11
  obtain ⟨z12, _, rfl, g1_12, hc1_13⟩ := all_int Tryz.underlying3 hc1_12
  obtain ⟨z13, _, rfl, g1_13, hc1_14⟩ := all_int Tryz.underlying3 hc1_13
  obtain ⟨z14, _, rfl, g1_14, hc1_15⟩ := all_int Tryz.underlying3 hc1_14
  obtain ⟨z15, _, rfl, g1_15, hc1_16⟩ := all_int Tryz.underlying3 hc1_15
  obtain ⟨z16a, z16n, z16k, _, rfl, g1_16, hc1_17⟩ := all_slice Tryz.underlying23 hc1_16
  obtain rfl := all_nil hc1_17
  obtain ⟨fu1, ht1⟩ := tr1
  obtain ⟨ze, hzn, hz, hzc⟩ := reads_recE (Reads.of (by simpa [Value.cells] using ht1))
  subst hzn
  refine (law4 k0 k1 k2 k3 k4a ke k4k z0 z1 z2 z3 z4 z5 z6 z7 z8 z9 z10 z11 z12 z13 z14 z15 z16a ze z16k hkc hzc W hk hz).mono fun e W' ⟨he, hb⟩ => ⟨_, he, post_law (tb := 4) law_laidOut ?_ rfl (by kernel_rfl) Tryz.underlying4 ?_ hW hb⟩
  · rw [Tryz.params4]; intro t ht; simp only [List.mem_cons, List.not_mem_nil, or_false] at ht; rcases ht with rfl | rfl <;> exact ⟨by kernel_rfl, of_decide_eq_true (by kernel_rfl)⟩
  · rw [hds]; rfl
theorem oplogRight_inPlace : (Rows.oplogRightRow.inPlace == Tryz.prog.inPlace 4) = true := by kernel_rfl
theorem oplogRight_unfollowed : (Rows.oplogRightRow.unfollowed == Tryz.prog.unfollowed 4) = true := by kernel_rfl
theorem oplogRight_recurses : (Rows.oplogRightRow.recurses == Tryz.prog.recurses 4) = true := by kernel_rfl
theorem oplogRight_varsNamed : (Rows.oplogRightRow.named == Tryz.prog.varsNamed 4) = true := by kernel_rfl
theorem oplogRight_closed : joinedFacts Tryz.prog 4 Tryz.f4 Rows.oplogRightSpec Rows.oplogRightRow = true := by
  unfold joinedFacts
  rw [oplogRight_inPlace, oplogRight_unfollowed, oplogRight_recurses, oplogRight_varsNamed]
  kernel_rfl
theorem oplogRight_holds : Rows.OplogRightSaid :=
  OpenClaim.holds_of_wide 4 Tryz.f4 rfl rfl rfl rfl rfl rfl rfl ⟨rfl, rfl, rfl, rfl, rfl⟩ rfl rfl rfl rfl rfl (by kernel_rfl) Tryz.func4 oplogRight_closed
    (of_decide_eq_true (by kernel_rfl)) (by unfold Func.isWrapper; rw [if_neg (of_decide_eq_false (by kernel_rfl))]; exact ⟨rfl, rfl⟩)
    (fun os started H enc _ => oplogRight_lifted os started H enc)
end Go.Proofs.YtjcbpfbifbfkcaaGreat
