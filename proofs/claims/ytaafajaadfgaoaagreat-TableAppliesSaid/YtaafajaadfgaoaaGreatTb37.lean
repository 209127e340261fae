/-
 Proved: the law TableApplies (tumuluslaw14) answers true for every input and leaves its arguments as they read; no condition.
-/
import Derived.Test.YtaafajaadfgaoaaGreatTb0
import Derived.Test.YtaafajaadfgaoaaGreatTb22
import Derived.Test.YtaafajaadfgaoaaGreatTb2
import Derived.Test.YtaafajaadfgaoaaGreatTb36
set_option linter.unusedSimpArgs false
set_option linter.unusedVariables false
set_option maxRecDepth 100000
set_option maxHeartbeats 60000000
namespace Go.Proofs.YtaafajaadfgaoaaGreat
open Go.RowKit Go.ChangeShapes Go.WideShapes Go.ChangeAt
theorem zmp : ownKnob Tryz.prog.godebug = none := by kernel_rfl
theorem zik : laidOutB Tryz.prog = true := by kernel_rfl
theorem zhT : Tryz.prog.cellTypes Tryz.prog.depth 50 = some [3, 43, 3, 3, 3, 3, 3, 45, 48] := by kernel_rfl
theorem zku : Tryz.prog.cellsOf 50 = [3, 43, 3, 3, 3, 3, 3, 45, 48].length := by kernel_rfl
theorem zhS : Tryz.prog.cellTypes Tryz.prog.depth 31 = some [3, 3, 3, 3, 27, 3, 3, 3, 3, 3, 3] := by kernel_rfl
theorem zkt : Tryz.prog.cellsOf 31 = [3, 3, 3, 3, 27, 3, 3, 3, 3, 3, 3].length := by kernel_rfl
theorem zdt (os : Os) (started : os.Started) (H : Type) (enc : TypeId × Value → H) :
  ReturnsInHanded {} Tryz.checked os 9 .any (Rows.tableAppliesSpec.pre6 enc Tryz.prog Tryz.f9 Rows.tableAppliesRow.domain false) (Rows.tableAppliesSpec.post enc Tryz.prog Tryz.f9 false true false false) := by
 refine returnsInHanded_of_change (C := Tryz.checked) zmp started (by kernel_rfl) Tryz.func9
  (ChangeSpec.witness6 (enc := enc) (C := Tryz.checked) false ⟨#[], #[.agg #[.int .i64 0, .slice none 0 0, .int .i64 0, .int .i64 0, .int .i64 0, .int .i64 0, .int .i64 0, .slice none 0 0, .slice none 0 0], .agg #[.int .i64 0, .int .i64 0, .int .i64 0, .int .i64 0, .int .i64 0, .int .i64 0, .int .i64 0, .int .i64 0, .int .i64 0, .int .i64 0, .int .i64 0]], []⟩ 8 (by kernel_rfl) (by kernel_rfl) (by kernel_rfl) (by kernel_rfl)) ?_
 intro W base args ds gs before hval0 hW _ _
 have hval : ∀ (j : Nat) t v, Tryz.f9.params[j]? = some t → args[j]? = some v → Value.okWide Tryz.prog W .any base t v := hval0
 have hW' := hW
 obtain ⟨p, q, hA0, hV, _, _, _⟩ := hW'
 have hA : DataW.TrodAll enc Tryz.prog W 0 (fun _ => true) true Tryz.f9.params.toList args.toList ds p := hA0
 obtain ⟨rfl, rfl⟩ := trodVars_none hV
 clear hA0 hval0
 rw [Tryz.params9] at hA hval
 obtain ⟨v0, vs0, d0, ds0, p0, q0, hargs, hd0, _, tr0, r0⟩ := trodAll_cons hA
 obtain ⟨v1, vs1, d1, ds1, p1, q1, rfl, hd1, _, tr1, r1⟩ := trodAll_cons r0
 obtain ⟨rfl, hdn, _⟩ := trodAll_nil r1
 obtain rfl : args = #[v0, v1] := by cases args; simp_all
 have hds : ds = [d0, d1] := by rw [hd0, hd1, hdn]
 obtain ⟨cs0, rfl, _⟩ := zi8 Tryz.underlying50 zhT zku (hval 0 50 v0 rfl rfl)
 obtain ⟨fu0, ht0⟩ := tr0
 obtain ⟨s, rfl, hs⟩ := zhr (zbh.of (by simpa [Value.cells] using ht0))
 obtain ⟨cs1, rfl, hc1_0⟩ := zi8 Tryz.underlying31 zhS zkt (hval 1 31 v1 rfl rfl)
 obtain ⟨e0, _, rfl, g1_0, hc1_1⟩ := zbv Tryz.underlying3 hc1_0
 obtain ⟨e1, _, rfl, g1_1, hc1_2⟩ := zbv Tryz.underlying3 hc1_1
 obtain ⟨e2, _, rfl, g1_2, hc1_3⟩ := zbv Tryz.underlying3 hc1_2
 obtain ⟨e3, _, rfl, g1_3, hc1_4⟩ := zbv Tryz.underlying3 hc1_3
 obtain ⟨e4, _, rfl, g1_4, hc1_5⟩ := zbv Tryz.underlying27 hc1_4
 obtain ⟨e5, _, rfl, g1_5, hc1_6⟩ := zbv Tryz.underlying3 hc1_5
 obtain ⟨e6, _, rfl, g1_6, hc1_7⟩ := zbv Tryz.underlying3 hc1_6
 obtain ⟨e7, _, rfl, g1_7, hc1_8⟩ := zbv Tryz.underlying3 hc1_7
 obtain ⟨e8, _, rfl, g1_8, hc1_9⟩ := zbv Tryz.underlying3 hc1_8
 obtain ⟨e9, _, rfl, g1_9, hc1_10⟩ := zbv Tryz.underlying3 hc1_9
 obtain ⟨e10, _, rfl, g1_10, hc1_11⟩ := zbv Tryz.underlying3 hc1_10
 obtain rfl := znb hc1_11
 refine (zpP s e0 e1 e2 e3 e4 e5 e6 e7 e8 e9 e10 W hs).mono fun e W' ⟨he, hb⟩ => ⟨_, he, zms (tb := 4) zik ?_ rfl (by kernel_rfl) Tryz.underlying4 ?_ hW hb⟩
 ·rw [Tryz.params9]; intro t ht; simp only [List.mem_cons, List.not_mem_nil, or_false] at ht; rcases ht with rfl | rfl <;> exact ⟨by kernel_rfl, of_decide_eq_true (by kernel_rfl)⟩
 ·rw [hds]; rfl
theorem zc9 : (Rows.tableAppliesRow.inPlace == Tryz.prog.inPlace 9) = true := by kernel_rfl
theorem zcm : (Rows.tableAppliesRow.unfollowed == Tryz.prog.unfollowed 9) = true := by kernel_rfl
theorem zcQ : (Rows.tableAppliesRow.recurses == Tryz.prog.recurses 9) = true := by kernel_rfl
theorem zcy : (Rows.tableAppliesRow.named == Tryz.prog.varsNamed 9) = true := by kernel_rfl
theorem zds : joinedFacts Tryz.prog 9 Tryz.f9 Rows.tableAppliesSpec Rows.tableAppliesRow = true := by
 unfold joinedFacts
 rw [zc9, zcm, zcQ, zcy]
 kernel_rfl
theorem tableApplies_holds : Rows.TableAppliesSaid :=
 OpenClaim.holds_of_wide 9 Tryz.f9 rfl rfl rfl rfl rfl rfl rfl ⟨rfl, rfl, rfl, rfl, rfl⟩ rfl rfl rfl rfl rfl (by kernel_rfl) Tryz.func9 zds
  (of_decide_eq_true (by kernel_rfl)) (by unfold Func.isWrapper; rw [if_neg (of_decide_eq_false (by kernel_rfl))]; exact ⟨rfl, rfl⟩)
  (fun os started H enc _ => zdt os started H enc)
end Go.Proofs.YtaafajaadfgaoaaGreat
