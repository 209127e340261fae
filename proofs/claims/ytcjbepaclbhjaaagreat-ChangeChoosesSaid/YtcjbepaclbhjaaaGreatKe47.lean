/- Parts of the proof. -/
import Derived.Test.YtcjbepaclbhjaaaGreatKe1
import Derived.Test.YtcjbepaclbhjaaaGreatKe0
import Derived.Test.YtcjbepaclbhjaaaGreatKe25
import Derived.Test.YtcjbepaclbhjaaaGreatKe46
open List renaming set_cons_zero → zSet, set_cons_succ → sSet
/-
  Proved: the law ChangeChooses (tumuluslaw17) answers true for every input and leaves its arguments as they read; no condition.
-/
set_option linter.unusedSimpArgs false
set_option linter.unusedVariables false
namespace Go.Proofs.YtcjbepaclbhjaaaGreat
open Go.RowKit Go.ChangeShapes Go.WideShapes Go.ChangeAt
theorem own_knob : ownKnob Tryz.prog.godebug = none := by kernel_rfl
theorem law_laidOut : laidOutB Tryz.prog = true := by kernel_rfl
theorem celltypes24 : Tryz.prog.cellTypes Tryz.prog.depth 24 = some [3, 3, 3, 9, 22] := by kernel_rfl
theorem cellsof24 : Tryz.prog.cellsOf 24 = [3, 3, 3, 9, 22].length := by kernel_rfl
set_option maxRecDepth 100000 in
set_option maxHeartbeats 4000000 in
theorem changeChooses_lifted (os : Os) (started : os.Started) (H : Type) (enc : TypeId × Value → H) :
    ReturnsInHanded {} Tryz.checked os 6 .any (Rows.changeChoosesSpec.pre6 enc Tryz.prog Tryz.f6 Rows.changeChoosesRow.domain false) (Rows.changeChoosesSpec.post enc Tryz.prog Tryz.f6 false true false false) := by
  refine returnsInHanded_of_change (C := Tryz.checked) own_knob started (by kernel_rfl) Tryz.func6
    (ChangeSpec.witness6 (enc := enc) (C := Tryz.checked) false ⟨#[], #[.int .i64 0, .int .i64 0, .slice none 0 0, .agg #[.int .i64 0, .int .i64 0, .int .i64 0, .string ⟨#[]⟩, .slice none 0 0], .int .i64 0], []⟩ 8 (by kernel_rfl) (by kernel_rfl) (by kernel_rfl) (by kernel_rfl)) ?_
  intro W base args ds gs before hval0 hW _ _
  have hval : ∀ (j : Nat) t v, Tryz.f6.params[j]? = some t → args[j]? = some v → Value.okWide Tryz.prog W .any base t v := hval0
  have hW' := hW
  obtain ⟨p, q, hA0, hV, _, _, _⟩ := hW'
  have hA : DataW.TrodAll enc Tryz.prog W 0 (fun _ => true) true Tryz.f6.params.toList args.toList ds p := hA0
  obtain ⟨rfl, rfl⟩ := trodVars_none hV
  clear hA0 hval0
  rw [Tryz.params6] at hA hval
  obtain ⟨v0, vs0, d0, ds0, p0, q0, hargs, hd0, _, tr0, r0⟩ := trodAll_cons hA
  obtain ⟨v1, vs1, d1, ds1, p1, q1, rfl, hd1, _, tr1, r1⟩ := trodAll_cons r0
  obtain ⟨v2, vs2, d2, ds2, p2, q2, rfl, hd2, _, tr2, r2⟩ := trodAll_cons r1
  obtain ⟨v3, vs3, d3, ds3, p3, q3, rfl, hd3, _, tr3, r3⟩ := trodAll_cons r2
  obtain ⟨v4, vs4, d4, ds4, p4, q4, rfl, hd4, _, tr4, r4⟩ := trodAll_cons r3
  obtain ⟨rfl, hdn, _⟩ := trodAll_nil r4
  obtain rfl : args = #[v0, v1, v2, v3, v4] := by cases args; simp_all
  have hds : ds = [d0, d1, d2, d3, d4] := by rw [hd0, hd1, hd2, hd3, hd4, hdn]
  obtain ⟨nn, rfl, b0⟩ := ok_int Tryz.underlying3 (hval 0 3 v0 rfl rfl)
  obtain ⟨vv, rfl, b1⟩ := ok_int Tryz.underlying3 (hval 1 3 v1 rfl rfl)
  obtain ⟨la, ln, lk, rfl⟩ := ok_slice Tryz.underlying25 (hval 2 25 v2 rfl rfl)
  obtain ⟨fu2, ht2⟩ := tr2
  obtain ⟨la2, l, lc, hlv, hl⟩ := reads_votes (Reads.of (by simpa [Value.cells] using ht2))
  injection hlv with hl1 hl2 hl3
  subst hl1 hl2 hl3
  obtain ⟨cs3, rfl, hc3_0⟩ := open_agg Tryz.underlying24 celltypes24 cellsof24 (hval 3 24 v3 rfl rfl)
  obtain ⟨k0, _, rfl, g3_0, hc3_1⟩ := all_int Tryz.underlying3 hc3_0
  obtain ⟨k1, _, rfl, g3_1, hc3_2⟩ := all_int Tryz.underlying3 hc3_1
  obtain ⟨k2, _, rfl, g3_2, hc3_3⟩ := all_int Tryz.underlying3 hc3_2
  obtain ⟨k3, _, rfl, g3_3, hc3_4⟩ := all_string Tryz.underlying9 hc3_3
  obtain ⟨k4a, k4n, k4k, _, rfl, g3_4, hc3_5⟩ := all_slice Tryz.underlying22 hc3_4
  obtain rfl := all_nil hc3_5
  obtain ⟨fu3, ht3⟩ := tr3
  obtain ⟨ke, hkn, hk, hkc⟩ := reads_keptE (Reads.of (by simpa [Value.cells] using ht3))
  subst hkn
  obtain ⟨cm, rfl, b4⟩ := ok_int Tryz.underlying3 (hval 4 3 v4 rfl rfl)
  refine (law6 nn vv _ l _ k0 k1 k2 k3 k4a ke k4k cm W hl.1 (fun v hv => (hl.2 v hv).1) (fun v hv => (hl.2 v hv).2) hk).mono fun e W' ⟨he, hb⟩ => ⟨_, he, post_law (tb := 4) law_laidOut ?_ rfl (by kernel_rfl) Tryz.underlying4 ?_ hW hb⟩
  · rw [Tryz.params6]; intro t ht; simp only [List.mem_cons, List.not_mem_nil, or_false] at ht; rcases ht with rfl | rfl | rfl | rfl | rfl <;> exact ⟨by kernel_rfl, of_decide_eq_true (by kernel_rfl)⟩
  · rw [hds]; rfl
theorem changeChooses_inPlace : (Rows.changeChoosesRow.inPlace == Tryz.prog.inPlace 6) = true := by kernel_rfl
theorem changeChooses_unfollowed : (Rows.changeChoosesRow.unfollowed == Tryz.prog.unfollowed 6) = true := by kernel_rfl
theorem changeChooses_recurses : (Rows.changeChoosesRow.recurses == Tryz.prog.recurses 6) = true := by kernel_rfl
theorem changeChooses_varsNamed : (Rows.changeChoosesRow.named == Tryz.prog.varsNamed 6) = true := by kernel_rfl
theorem changeChooses_closed : joinedFacts Tryz.prog 6 Tryz.f6 Rows.changeChoosesSpec Rows.changeChoosesRow = true := by
  unfold joinedFacts
  rw [changeChooses_inPlace, changeChooses_unfollowed, changeChooses_recurses, changeChooses_varsNamed]
  kernel_rfl
theorem changeChooses_holds : Rows.ChangeChoosesSaid :=
  OpenClaim.holds_of_wide 6 Tryz.f6 rfl rfl rfl rfl rfl rfl rfl ⟨rfl, rfl, rfl, rfl, rfl⟩ rfl rfl rfl rfl rfl (by kernel_rfl) Tryz.func6 changeChooses_closed
    (of_decide_eq_true (by kernel_rfl)) (by unfold Func.isWrapper; rw [if_neg (of_decide_eq_false (by kernel_rfl))]; exact ⟨rfl, rfl⟩)
    (fun os started H enc _ => changeChooses_lifted os started H enc)
end Go.Proofs.YtcjbepaclbhjaaaGreat
