/-
 Proved: the law PrepareParts (tumuluslaw16) answers true for every input and leaves its arguments as they read; no condition.
-/
import Derived.Test.YtjcbpfbifbfkcaaGreatTq0
import Derived.Test.YtjcbpfbifbfkcaaGreatTq31
import Derived.Test.YtjcbpfbifbfkcaaGreatTq3
import Derived.Test.YtjcbpfbifbfkcaaGreatTr42
set_option linter.unusedSimpArgs false
set_option linter.unusedVariables false
set_option maxRecDepth 100000
set_option maxHeartbeats 60000000
namespace Go.Proofs.YtjcbpfbifbfkcaaGreat
open Go.RowKit Go.ChangeShapes Go.WideShapes Go.ChangeAt
theorem zgI : ownKnob Tryz.prog.godebug = none := by kernel_rfl
theorem zdz : laidOutB Tryz.prog = true := by kernel_rfl
theorem zdJ : Tryz.prog.cellTypes Tryz.prog.depth 67 = some [3, 60, 3, 3, 3, 3, 3, 62, 65] := by kernel_rfl
theorem zfn : Tryz.prog.cellsOf 67 = [3, 60, 3, 3, 3, 3, 3, 62, 65].length := by kernel_rfl
theorem zdC (os : Os) (started : os.Started) (H : Type) (enc : TypeId × Value → H) :
  ReturnsInHanded {} Tryz.checked os 13 .any (Rows.preparePartsSpec.pre6 enc Tryz.prog Tryz.f13 Rows.preparePartsRow.domain false) (Rows.preparePartsSpec.post enc Tryz.prog Tryz.f13 false true false false) := by
 refine returnsInHanded_of_change (C := Tryz.checked) zgI started (by kernel_rfl) Tryz.func13
  (ChangeSpec.witness6 (enc := enc) (C := Tryz.checked) false ⟨#[], #[.int .i64 0, .int .i64 0, .agg #[.int .i64 0, .slice none 0 0, .int .i64 0, .int .i64 0, .int .i64 0, .int .i64 0, .int .i64 0, .slice none 0 0, .slice none 0 0], .slice none 0 0, .int .i64 0], []⟩ 8 (by kernel_rfl) (by kernel_rfl) (by kernel_rfl) (by kernel_rfl)) ?_
 intro W base args ds gs before hval0 hW _ _
 have hval : ∀ (j : Nat) t v, Tryz.f13.params[j]? = some t → args[j]? = some v → Value.okWide Tryz.prog W .any base t v := hval0
 have hW' := hW
 obtain ⟨p, q, hA0, hV, _, _, _⟩ := hW'
 have hA : DataW.TrodAll enc Tryz.prog W 0 (fun _ => true) true Tryz.f13.params.toList args.toList ds p := hA0
 obtain ⟨rfl, rfl⟩ := trodVars_none hV
 clear hA0 hval0
 rw [Tryz.params13] at hA hval
 obtain ⟨v0, vs0, d0, ds0, p0, q0, hargs, hd0, _, tr0, r0⟩ := trodAll_cons hA
 obtain ⟨v1, vs1, d1, ds1, p1, q1, rfl, hd1, _, tr1, r1⟩ := trodAll_cons r0
 obtain ⟨v2, vs2, d2, ds2, p2, q2, rfl, hd2, _, tr2, r2⟩ := trodAll_cons r1
 obtain ⟨v3, vs3, d3, ds3, p3, q3, rfl, hd3, _, tr3, r3⟩ := trodAll_cons r2
 obtain ⟨v4, vs4, d4, ds4, p4, q4, rfl, hd4, _, tr4, r4⟩ := trodAll_cons r3
 obtain ⟨rfl, hdn, _⟩ := trodAll_nil r4
 obtain rfl : args = #[v0, v1, v2, v3, v4] := by cases args; simp_all
 have hds : ds = [d0, d1, d2, d3, d4] := by rw [hd0, hd1, hd2, hd3, hd4, hdn]
 obtain ⟨i, rfl, b0⟩ := zih Tryz.underlying3 (hval 0 3 v0 rfl rfl)
 obtain ⟨v, rfl, b1⟩ := zih Tryz.underlying3 (hval 1 3 v1 rfl rfl)
 obtain ⟨cs2, rfl, _⟩ := zkD Tryz.underlying67 zdJ zfn (hval 2 67 v2 rfl rfl)
 obtain ⟨fu2, ht2⟩ := tr2
 obtain ⟨s, rfl, hs⟩ := zfr (zaM.of (by simpa [Value.cells] using ht2))
 obtain ⟨la, ln, lk, rfl⟩ := zj2 Tryz.underlying23 (hval 3 23 v3 rfl rfl)
 obtain ⟨fu3, ht3⟩ := tr3
 obtain ⟨l, hln, hl, hlc⟩ := zdm (zaM.of (by simpa [Value.cells] using ht3))
 subst hln
 obtain ⟨a, rfl, b4⟩ := zih Tryz.underlying3 (hval 4 3 v4 rfl rfl)
 refine (zsW i v s _ l _ a hlc W hs hl).mono fun e W' ⟨he, hb⟩ => ⟨_, he, zjU (tb := 4) zdz ?_ rfl (by kernel_rfl) Tryz.underlying4 ?_ hW hb⟩
 ·rw [Tryz.params13]; intro t ht; simp only [List.mem_cons, List.not_mem_nil, or_false] at ht; rcases ht with rfl | rfl | rfl | rfl | rfl <;> exact ⟨by kernel_rfl, of_decide_eq_true (by kernel_rfl)⟩
 ·rw [hds]; rfl
theorem zdj : (Rows.preparePartsRow.inPlace == Tryz.prog.inPlace 13) = true := by kernel_rfl
theorem zcx : (Rows.preparePartsRow.unfollowed == Tryz.prog.unfollowed 13) = true := by kernel_rfl
theorem zcP : (Rows.preparePartsRow.recurses == Tryz.prog.recurses 13) = true := by kernel_rfl
theorem zcG : (Rows.preparePartsRow.named == Tryz.prog.varsNamed 13) = true := by kernel_rfl
theorem zdD : joinedFacts Tryz.prog 13 Tryz.f13 Rows.preparePartsSpec Rows.preparePartsRow = true := by
 unfold joinedFacts
 rw [zdj, zcx, zcP, zcG]
 kernel_rfl
theorem prepareParts_holds : Rows.PreparePartsSaid :=
 OpenClaim.holds_of_wide 13 Tryz.f13 rfl rfl rfl rfl rfl rfl rfl ⟨rfl, rfl, rfl, rfl, rfl⟩ rfl rfl rfl rfl rfl (by kernel_rfl) Tryz.func13 zdD
  (of_decide_eq_true (by kernel_rfl)) (by unfold Func.isWrapper; rw [if_neg (of_decide_eq_false (by kernel_rfl))]; exact ⟨rfl, rfl⟩)
  (fun os started H enc _ => zdC os started H enc)
end Go.Proofs.YtjcbpfbifbfkcaaGreat
