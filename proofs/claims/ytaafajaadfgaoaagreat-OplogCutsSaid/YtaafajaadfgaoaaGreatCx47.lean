/-
 Proved: the law OplogCuts (tumuluslaw15) answers true for every input and leaves its arguments as they read; no condition.
-/
import Derived.Test.YtaafajaadfgaoaaGreatCx0
import Derived.Test.YtaafajaadfgaoaaGreatCx32
import Derived.Test.YtaafajaadfgaoaaGreatCx46
set_option linter.unusedSimpArgs false
set_option linter.unusedVariables false
set_option maxRecDepth 100000
set_option maxHeartbeats 60000000
namespace Go.Proofs.YtaafajaadfgaoaaGreat
open Go.RowKit Go.ChangeShapes Go.WideShapes Go.ChangeAt
theorem zpP : ownKnob Tryz.prog.godebug = none := by kernel_rfl
theorem zjj : laidOutB Tryz.prog = true := by kernel_rfl
theorem ziR : Tryz.prog.cellTypes Tryz.prog.depth 24 = some [3, 3, 3, 9, 22] := by kernel_rfl
theorem zms : Tryz.prog.cellsOf 24 = [3, 3, 3, 9, 22].length := by kernel_rfl
theorem zeH (os : Os) (started : os.Started) (H : Type) (enc : TypeId × Value → H) :
  ReturnsInHanded {} Tryz.checked os 5 .any (Rows.oplogCutsSpec.pre6 enc Tryz.prog Tryz.f5 Rows.oplogCutsRow.domain false) (Rows.oplogCutsSpec.post enc Tryz.prog Tryz.f5 false true false false) := by
 refine returnsInHanded_of_change (C := Tryz.checked) zpP started (by kernel_rfl) Tryz.func5
  (ChangeSpec.witness6 (enc := enc) (C := Tryz.checked) false ⟨#[], #[.agg #[.int .i64 0, .int .i64 0, .int .i64 0, .string ⟨#[]⟩, .slice none 0 0], .int .i64 0, .int .i64 0], []⟩ 8 (by kernel_rfl) (by kernel_rfl) (by kernel_rfl) (by kernel_rfl)) ?_
 intro W base args ds gs before hval0 hW _ _
 have hval : ∀ (j : Nat) t v, Tryz.f5.params[j]? = some t → args[j]? = some v → Value.okWide Tryz.prog W .any base t v := hval0
 have hW' := hW
 obtain ⟨p, q, hA0, hV, _, _, _⟩ := hW'
 have hA : DataW.TrodAll enc Tryz.prog W 0 (fun _ => true) true Tryz.f5.params.toList args.toList ds p := hA0
 obtain ⟨rfl, rfl⟩ := trodVars_none hV
 clear hA0 hval0
 rw [Tryz.params5] at hA hval
 obtain ⟨v0, vs0, d0, ds0, p0, q0, hargs, hd0, _, tr0, r0⟩ := trodAll_cons hA
 obtain ⟨v1, vs1, d1, ds1, p1, q1, rfl, hd1, _, tr1, r1⟩ := trodAll_cons r0
 obtain ⟨v2, vs2, d2, ds2, p2, q2, rfl, hd2, _, tr2, r2⟩ := trodAll_cons r1
 obtain ⟨rfl, hdn, _⟩ := trodAll_nil r2
 obtain rfl : args = #[v0, v1, v2] := by cases args; simp_all
 have hds : ds = [d0, d1, d2] := by rw [hd0, hd1, hd2, hdn]
 obtain ⟨cs0, rfl, hc0_0⟩ := zpN Tryz.underlying24 ziR zms (hval 0 24 v0 rfl rfl)
 obtain ⟨k0, _, rfl, g0_0, hc0_1⟩ := ziH Tryz.underlying3 hc0_0
 obtain ⟨k1, _, rfl, g0_1, hc0_2⟩ := ziH Tryz.underlying3 hc0_1
 obtain ⟨k2, _, rfl, g0_2, hc0_3⟩ := ziH Tryz.underlying3 hc0_2
 obtain ⟨k3, _, rfl, g0_3, hc0_4⟩ := zkJ Tryz.underlying9 hc0_3
 obtain ⟨k4a, k4n, k4k, _, rfl, g0_4, hc0_5⟩ := zmd Tryz.underlying22 hc0_4
 obtain rfl := zq5 hc0_5
 obtain ⟨fu0, ht0⟩ := tr0
 obtain ⟨ke, hkn, hk, hkc⟩ := zjw (zbW.of (by simpa [Value.cells] using ht0))
 subst hkn
 obtain ⟨c, rfl, b1⟩ := zqR Tryz.underlying3 (hval 1 3 v1 rfl rfl)
 obtain ⟨n, rfl, b2⟩ := zqR Tryz.underlying3 (hval 2 3 v2 rfl rfl)
 refine (zvl k0 k1 k2 k3 k4a ke k4k c n hkc.1 hkc.2 W hk).mono fun e W' ⟨he, hb⟩ => ⟨_, he, zpS (tb := 4) zjj ?_ rfl (by kernel_rfl) Tryz.underlying4 ?_ hW hb⟩
 ·rw [Tryz.params5]; intro t ht; simp only [List.mem_cons, List.not_mem_nil, or_false] at ht; rcases ht with rfl | rfl | rfl <;> exact ⟨by kernel_rfl, of_decide_eq_true (by kernel_rfl)⟩
 ·rw [hds]; rfl
theorem zed : (Rows.oplogCutsRow.inPlace == Tryz.prog.inPlace 5) = true := by kernel_rfl
theorem zc9 : (Rows.oplogCutsRow.unfollowed == Tryz.prog.unfollowed 5) = true := by kernel_rfl
theorem zdL : (Rows.oplogCutsRow.recurses == Tryz.prog.recurses 5) = true := by kernel_rfl
theorem zdr : (Rows.oplogCutsRow.named == Tryz.prog.varsNamed 5) = true := by kernel_rfl
theorem zeG : joinedFacts Tryz.prog 5 Tryz.f5 Rows.oplogCutsSpec Rows.oplogCutsRow = true := by
 unfold joinedFacts
 rw [zed, zc9, zdL, zdr]
 kernel_rfl
theorem oplogCuts_holds : Rows.OplogCutsSaid :=
 OpenClaim.holds_of_wide 5 Tryz.f5 rfl rfl rfl rfl rfl rfl rfl ⟨rfl, rfl, rfl, rfl, rfl⟩ rfl rfl rfl rfl rfl (by kernel_rfl) Tryz.func5 zeG
  (of_decide_eq_true (by kernel_rfl)) (by unfold Func.isWrapper; rw [if_neg (of_decide_eq_false (by kernel_rfl))]; exact ⟨rfl, rfl⟩)
  (fun os started H enc _ => zeH os started H enc)
end Go.Proofs.YtaafajaadfgaoaaGreat
