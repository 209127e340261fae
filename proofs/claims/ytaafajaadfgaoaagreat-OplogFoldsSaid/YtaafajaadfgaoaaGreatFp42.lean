/-
 Proved: the law OplogFolds (tumuluslaw15) answers true for every input and leaves its arguments as they read; no condition.
-/
import Derived.Test.YtaafajaadfgaoaaGreatFp0
import Derived.Test.YtaafajaadfgaoaaGreatFp20
import Derived.Test.YtaafajaadfgaoaaGreatFp2
import Derived.Test.YtaafajaadfgaoaaGreatFp41
set_option linter.unusedSimpArgs false
set_option linter.unusedVariables false
set_option maxRecDepth 100000
set_option maxHeartbeats 60000000
namespace Go.Proofs.YtaafajaadfgaoaaGreat
open Go.RowKit Go.ChangeShapes Go.WideShapes Go.ChangeAt
theorem zlt : ownKnob Tryz.prog.godebug = none := by kernel_rfl
theorem zg9 : laidOutB Tryz.prog = true := by kernel_rfl
theorem zgZ : Tryz.prog.cellTypes Tryz.prog.depth 24 = some [3, 3, 3, 9, 22] := by kernel_rfl
theorem zjd : Tryz.prog.cellsOf 24 = [3, 3, 3, 9, 22].length := by kernel_rfl
theorem zg0 : Tryz.prog.cellTypes Tryz.prog.depth 33 = some [26, 3, 3, 3, 9, 3, 3, 3, 3, 27, 3, 3, 3, 3, 3, 3, 22] := by kernel_rfl
theorem zje : Tryz.prog.cellsOf 33 = [26, 3, 3, 3, 9, 3, 3, 3, 3, 27, 3, 3, 3, 3, 3, 3, 22].length := by kernel_rfl
theorem zdV (os : Os) (started : os.Started) (H : Type) (enc : TypeId × Value → H) :
  ReturnsInHanded {} Tryz.checked os 10 .any (Rows.oplogFoldsSpec.pre6 enc Tryz.prog Tryz.f10 Rows.oplogFoldsRow.domain false) (Rows.oplogFoldsSpec.post enc Tryz.prog Tryz.f10 false true false false) := by
 refine returnsInHanded_of_change (C := Tryz.checked) zlt started (by kernel_rfl) Tryz.func10
  (ChangeSpec.witness6 (enc := enc) (C := Tryz.checked) false ⟨#[], #[.agg #[.int .i64 0, .int .i64 0, .int .i64 0, .string ⟨#[]⟩, .slice none 0 0], .agg #[.int .i64 0, .int .i64 0, .int .i64 0, .int .i64 0, .string ⟨#[]⟩, .int .i64 0, .int .i64 0, .int .i64 0, .int .i64 0, .int .i64 0, .int .i64 0, .int .i64 0, .int .i64 0, .int .i64 0, .int .i64 0, .int .i64 0, .slice none 0 0]], []⟩ 8 (by kernel_rfl) (by kernel_rfl) (by kernel_rfl) (by kernel_rfl)) ?_
 intro W base args ds gs before hval0 hW _ _
 have hval : ∀ (j : Nat) t v, Tryz.f10.params[j]? = some t → args[j]? = some v → Value.okWide Tryz.prog W .any base t v := hval0
 have hW' := hW
 obtain ⟨p, q, hA0, hV, _, _, _⟩ := hW'
 have hA : DataW.TrodAll enc Tryz.prog W 0 (fun _ => true) true Tryz.f10.params.toList args.toList ds p := hA0
 obtain ⟨rfl, rfl⟩ := trodVars_none hV
 clear hA0 hval0
 rw [Tryz.params10] at hA hval
 obtain ⟨v0, vs0, d0, ds0, p0, q0, hargs, hd0, _, tr0, r0⟩ := trodAll_cons hA
 obtain ⟨v1, vs1, d1, ds1, p1, q1, rfl, hd1, _, tr1, r1⟩ := trodAll_cons r0
 obtain ⟨rfl, hdn, _⟩ := trodAll_nil r1
 obtain rfl : args = #[v0, v1] := by cases args; simp_all
 have hds : ds = [d0, d1] := by rw [hd0, hd1, hdn]
 obtain ⟨cs0, rfl, hc0_0⟩ := zhS Tryz.underlying24 zgZ zjd (hval 0 24 v0 rfl rfl)
 obtain ⟨k0, _, rfl, g0_0, hc0_1⟩ := zah Tryz.underlying3 hc0_0
 obtain ⟨k1, _, rfl, g0_1, hc0_2⟩ := zah Tryz.underlying3 hc0_1
 obtain ⟨k2, _, rfl, g0_2, hc0_3⟩ := zah Tryz.underlying3 hc0_2
 obtain ⟨k3, _, rfl, g0_3, hc0_4⟩ := zfb Tryz.underlying9 hc0_3
 obtain ⟨k4a, k4n, k4k, _, rfl, g0_4, hc0_5⟩ := zf5 Tryz.underlying22 hc0_4
 obtain rfl := zi7 hc0_5
 obtain ⟨fu0, ht0⟩ := tr0
 obtain ⟨ke, hkn, hk, hkc⟩ := zhm (zcf.of (by simpa [Value.cells] using ht0))
 subst hkn
 obtain ⟨cs1, rfl, hc1_0⟩ := zhS Tryz.underlying33 zg0 zje (hval 1 33 v1 rfl rfl)
 obtain ⟨z0, _, rfl, g1_0, hc1_1⟩ := zah Tryz.underlying26 hc1_0
 obtain ⟨z1, _, rfl, g1_1, hc1_2⟩ := zah Tryz.underlying3 hc1_1
 obtain ⟨z2, _, rfl, g1_2, hc1_3⟩ := zah Tryz.underlying3 hc1_2
 obtain ⟨z3, _, rfl, g1_3, hc1_4⟩ := zah Tryz.underlying3 hc1_3
 obtain ⟨z4, _, rfl, g1_4, hc1_5⟩ := zfb Tryz.underlying9 hc1_4
 obtain ⟨z5, _, rfl, g1_5, hc1_6⟩ := zah Tryz.underlying3 hc1_5
 obtain ⟨z6, _, rfl, g1_6, hc1_7⟩ := zah Tryz.underlying3 hc1_6
 obtain ⟨z7, _, rfl, g1_7, hc1_8⟩ := zah Tryz.underlying3 hc1_7
 obtain ⟨z8, _, rfl, g1_8, hc1_9⟩ := zah Tryz.underlying3 hc1_8
 obtain ⟨z9, _, rfl, g1_9, hc1_10⟩ := zah Tryz.underlying27 hc1_9
 obtain ⟨z10, _, rfl, g1_10, hc1_11⟩ := zah Tryz.underlying3 hc1_10
 obtain ⟨z11, _, rfl, g1_11, hc1_12⟩ := zah Tryz.underlying3 hc1_11
 obtain ⟨z12, _, rfl, g1_12, hc1_13⟩ := zah Tryz.underlying3 hc1_12
 obtain ⟨z13, _, rfl, g1_13, hc1_14⟩ := zah Tryz.underlying3 hc1_13
 obtain ⟨z14, _, rfl, g1_14, hc1_15⟩ := zah Tryz.underlying3 hc1_14
 obtain ⟨z15, _, rfl, g1_15, hc1_16⟩ := zah Tryz.underlying3 hc1_15
 obtain ⟨z16a, z16n, z16k, _, rfl, g1_16, hc1_17⟩ := zf5 Tryz.underlying22 hc1_16
 obtain rfl := zi7 hc1_17
 obtain ⟨fu1, ht1⟩ := tr1
 obtain ⟨ze, hzn, hz, hzc⟩ := ziF (zcf.of (by simpa [Value.cells] using ht1))
 subst hzn
 refine (zod k0 k1 k2 k3 k4a ke k4k z0 z1 z2 z3 z4 z5 z6 z7 z8 z9 z10 z11 z12 z13 z14 z15 z16a ze z16k hzc W hk hz).mono fun e W' ⟨he, hb⟩ => ⟨_, he, zlw (tb := 4) zg9 ?_ rfl (by kernel_rfl) Tryz.underlying4 ?_ hW hb⟩
 ·rw [Tryz.params10]; intro t ht; simp only [List.mem_cons, List.not_mem_nil, or_false] at ht; rcases ht with rfl | rfl <;> exact ⟨by kernel_rfl, of_decide_eq_true (by kernel_rfl)⟩
 ·rw [hds]; rfl
theorem zdw : (Rows.oplogFoldsRow.inPlace == Tryz.prog.inPlace 10) = true := by kernel_rfl
theorem zcH : (Rows.oplogFoldsRow.unfollowed == Tryz.prog.unfollowed 10) = true := by kernel_rfl
theorem zc9 : (Rows.oplogFoldsRow.recurses == Tryz.prog.recurses 10) = true := by kernel_rfl
theorem zcU : (Rows.oplogFoldsRow.named == Tryz.prog.varsNamed 10) = true := by kernel_rfl
theorem zdU : joinedFacts Tryz.prog 10 Tryz.f10 Rows.oplogFoldsSpec Rows.oplogFoldsRow = true := by
 unfold joinedFacts
 rw [zdw, zcH, zc9, zcU]
 kernel_rfl
theorem oplogFolds_holds : Rows.OplogFoldsSaid :=
 OpenClaim.holds_of_wide 10 Tryz.f10 rfl rfl rfl rfl rfl rfl rfl ⟨rfl, rfl, rfl, rfl, rfl⟩ rfl rfl rfl rfl rfl (by kernel_rfl) Tryz.func10 zdU
  (of_decide_eq_true (by kernel_rfl)) (by unfold Func.isWrapper; rw [if_neg (of_decide_eq_false (by kernel_rfl))]; exact ⟨rfl, rfl⟩)
  (fun os started H enc _ => zdV os started H enc)
end Go.Proofs.YtaafajaadfgaoaaGreat
