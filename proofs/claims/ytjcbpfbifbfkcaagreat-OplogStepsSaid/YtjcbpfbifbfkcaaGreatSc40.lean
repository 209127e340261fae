/-
 Proved: the law OplogSteps (tumuluslaw15) answers true for every input and leaves its arguments as they read; no condition.
-/
import Derived.Test.YtjcbpfbifbfkcaaGreatSc0
import Derived.Test.YtjcbpfbifbfkcaaGreatSc31
import Derived.Test.YtjcbpfbifbfkcaaGreatSc39
set_option linter.unusedSimpArgs false
set_option linter.unusedVariables false
set_option maxRecDepth 100000
set_option maxHeartbeats 60000000
namespace Go.Proofs.YtjcbpfbifbfkcaaGreat
open Go.RowKit Go.ChangeShapes Go.WideShapes Go.ChangeAt
theorem znQ : ownKnob Tryz.prog.godebug = none := by kernel_rfl
theorem ziX : laidOutB Tryz.prog = true := by kernel_rfl
theorem ziH : Tryz.prog.cellTypes Tryz.prog.depth 28 = some [3, 3, 3, 9, 23] := by kernel_rfl
theorem zlu : Tryz.prog.cellsOf 28 = [3, 3, 3, 9, 23].length := by kernel_rfl
theorem zdQ (os : Os) (started : os.Started) (H : Type) (enc : TypeId × Value → H) :
  ReturnsInHanded {} Tryz.checked os 11 .any (Rows.oplogStepsSpec.pre6 enc Tryz.prog Tryz.f11 Rows.oplogStepsRow.domain false) (Rows.oplogStepsSpec.post enc Tryz.prog Tryz.f11 false true false false) := by
 refine returnsInHanded_of_change (C := Tryz.checked) znQ started (by kernel_rfl) Tryz.func11
  (ChangeSpec.witness6 (enc := enc) (C := Tryz.checked) false ⟨#[], #[.agg #[.int .i64 0, .int .i64 0, .int .i64 0, .string ⟨#[]⟩, .slice none 0 0], .int .i64 0], []⟩ 8 (by kernel_rfl) (by kernel_rfl) (by kernel_rfl) (by kernel_rfl)) ?_
 intro W base args ds gs before hval0 hW _ _
 have hval : ∀ (j : Nat) t v, Tryz.f11.params[j]? = some t → args[j]? = some v → Value.okWide Tryz.prog W .any base t v := hval0
 have hW' := hW
 obtain ⟨p, q, hA0, hV, _, _, _⟩ := hW'
 have hA : DataW.TrodAll enc Tryz.prog W 0 (fun _ => true) true Tryz.f11.params.toList args.toList ds p := hA0
 obtain ⟨rfl, rfl⟩ := trodVars_none hV
 clear hA0 hval0
 rw [Tryz.params11] at hA hval
 obtain ⟨v0, vs0, d0, ds0, p0, q0, hargs, hd0, _, tr0, r0⟩ := trodAll_cons hA
 obtain ⟨v1, vs1, d1, ds1, p1, q1, rfl, hd1, _, tr1, r1⟩ := trodAll_cons r0
 obtain ⟨rfl, hdn, _⟩ := trodAll_nil r1
 obtain rfl : args = #[v0, v1] := by cases args; simp_all
 have hds : ds = [d0, d1] := by rw [hd0, hd1, hdn]
 obtain ⟨cs0, rfl, hc0_0⟩ := zn2 Tryz.underlying28 ziH zlu (hval 0 28 v0 rfl rfl)
 obtain ⟨k0, _, rfl, g0_0, hc0_1⟩ := zi5 Tryz.underlying3 hc0_0
 obtain ⟨k1, _, rfl, g0_1, hc0_2⟩ := zi5 Tryz.underlying3 hc0_1
 obtain ⟨k2, _, rfl, g0_2, hc0_3⟩ := zi5 Tryz.underlying3 hc0_2
 obtain ⟨k3, _, rfl, g0_3, hc0_4⟩ := zkq Tryz.underlying9 hc0_3
 obtain ⟨k4a, k4n, k4k, _, rfl, g0_4, hc0_5⟩ := zlW Tryz.underlying23 hc0_4
 obtain rfl := zpQ hc0_5
 obtain ⟨fu0, ht0⟩ := tr0
 obtain ⟨ke, hkn, hk, hkc⟩ := ziD (zcF.of (by simpa [Value.cells] using ht0))
 subst hkn
 obtain ⟨n, rfl, b1⟩ := zrE Tryz.underlying3 (hval 1 3 v1 rfl rfl)
 refine (zss k0 k1 k2 k3 k4a ke k4k n hkc W hk).mono fun e W' ⟨he, hb⟩ => ⟨_, he, znp (tb := 4) ziX ?_ rfl (by kernel_rfl) Tryz.underlying4 ?_ hW hb⟩
 ·rw [Tryz.params11]; intro t ht; simp only [List.mem_cons, List.not_mem_nil, or_false] at ht; rcases ht with rfl | rfl <;> exact ⟨by kernel_rfl, of_decide_eq_true (by kernel_rfl)⟩
 ·rw [hds]; rfl
theorem zdw : (Rows.oplogStepsRow.inPlace == Tryz.prog.inPlace 11) = true := by kernel_rfl
theorem zcD : (Rows.oplogStepsRow.unfollowed == Tryz.prog.unfollowed 11) = true := by kernel_rfl
theorem zdf : (Rows.oplogStepsRow.recurses == Tryz.prog.recurses 11) = true := by kernel_rfl
theorem zcU : (Rows.oplogStepsRow.named == Tryz.prog.varsNamed 11) = true := by kernel_rfl
theorem zdT : joinedFacts Tryz.prog 11 Tryz.f11 Rows.oplogStepsSpec Rows.oplogStepsRow = true := by
 unfold joinedFacts
 rw [zdw, zcD, zdf, zcU]
 kernel_rfl
theorem oplogSteps_holds : Rows.OplogStepsSaid :=
 OpenClaim.holds_of_wide 11 Tryz.f11 rfl rfl rfl rfl rfl rfl rfl ⟨rfl, rfl, rfl, rfl, rfl⟩ rfl rfl rfl rfl rfl (by kernel_rfl) Tryz.func11 zdT
  (of_decide_eq_true (by kernel_rfl)) (by unfold Func.isWrapper; rw [if_neg (of_decide_eq_false (by kernel_rfl))]; exact ⟨rfl, rfl⟩)
  (fun os started H enc _ => zdQ os started H enc)
end Go.Proofs.YtjcbpfbifbfkcaaGreat
