/- Parts of the proof. -/
import Derived.Test.YtaafajaadfgaoaaGreatAz0
import Derived.Test.YtaafajaadfgaoaaGreatAz37
import Derived.Test.YtaafajaadfgaoaaGreatAz2
import Derived.Test.YtaafajaadfgaoaaGreatAz44
/-
  Proved: the law ImageApart (tumuluslaw06) answers true for every input and leaves its arguments as they read; no condition.
-/
set_option linter.unusedSimpArgs false
set_option linter.unusedVariables false
namespace Go.Proofs.YtaafajaadfgaoaaGreat
open Go.RowKit Go.ChangeShapes Go.WideShapes Go.ChangeAt
theorem own_knob : ownKnob Tryz.prog.godebug = none := by kernel_rfl
theorem law_laidOut : laidOutB Tryz.prog = true := by kernel_rfl
theorem celltypes50 : Tryz.prog.cellTypes Tryz.prog.depth 50 = some [3, 43, 3, 3, 3, 3, 3, 45, 48] := by kernel_rfl
theorem cellsof50 : Tryz.prog.cellsOf 50 = [3, 43, 3, 3, 3, 3, 3, 45, 48].length := by kernel_rfl
theorem celltypes29 : Tryz.prog.cellTypes Tryz.prog.depth 29 = some [27, 3, 3, 3, 3, 3, 3] := by kernel_rfl
theorem cellsof29 : Tryz.prog.cellsOf 29 = [27, 3, 3, 3, 3, 3, 3].length := by kernel_rfl
set_option maxRecDepth 100000 in
set_option maxHeartbeats 4000000 in
theorem imageApart_lifted (os : Os) (started : os.Started) (H : Type) (enc : TypeId × Value → H) :
    ReturnsInHanded {} Tryz.checked os 4 .any (Rows.imageApartSpec.pre6 enc Tryz.prog Tryz.f4 Rows.imageApartRow.domain false) (Rows.imageApartSpec.post enc Tryz.prog Tryz.f4 false true false false) := by
  refine returnsInHanded_of_change (C := Tryz.checked) own_knob started (by kernel_rfl) Tryz.func4
    (ChangeSpec.witness6 (enc := enc) (C := Tryz.checked) false ⟨#[], #[.agg #[.int .i64 0, .slice none 0 0, .int .i64 0, .int .i64 0, .int .i64 0, .int .i64 0, .int .i64 0, .slice none 0 0, .slice none 0 0], .agg #[.int .i64 0, .slice none 0 0, .int .i64 0, .int .i64 0, .int .i64 0, .int .i64 0, .int .i64 0, .slice none 0 0, .slice none 0 0], .agg #[.int .i64 0, .int .i64 0, .int .i64 0, .int .i64 0, .int .i64 0, .int .i64 0, .int .i64 0], .bool false], []⟩ 8 (by kernel_rfl) (by kernel_rfl) (by kernel_rfl) (by kernel_rfl)) ?_
  intro W base args ds gs before hval0 hW _ _
  have hval : ∀ (j : Nat) t v, Tryz.f4.params[j]? = some t → args[j]? = some v → Value.okWide Tryz.prog W .any base t v := hval0
  have hW' := hW
  obtain ⟨p, q, hA0, hV, _, _, _⟩ := hW'
  have hA : DataW.TrodAll enc Tryz.prog W 0 (fun _ => true) true Tryz.f4.params.toList args.toList ds p := hA0
  obtain ⟨rfl, rfl⟩ := trodVars_none hV
  clear hA0 hval0
  rw [Tryz.params4] at hA hval
  obtain ⟨v0, vs0, d0, ds0, p0, q0, hargs, hd0, _, tr0, r0⟩ := trodAll_cons hA
  obtain ⟨v1, vs1, d1, ds1, p1, q1, rfl, hd1, _, tr1, r1⟩ := trodAll_cons r0
  obtain ⟨v2, vs2, d2, ds2, p2, q2, rfl, hd2, _, tr2, r2⟩ := trodAll_cons r1
  obtain ⟨v3, vs3, d3, ds3, p3, q3, rfl, hd3, _, tr3, r3⟩ := trodAll_cons r2
  obtain ⟨rfl, hdn, _⟩ := trodAll_nil r3
  obtain rfl : args = #[v0, v1, v2, v3] := by cases args; simp_all
  have hds : ds = [d0, d1, d2, d3] := by rw [hd0, hd1, hd2, hd3, hdn]
  obtain ⟨cs0, rfl, _⟩ := open_agg Tryz.underlying50 celltypes50 cellsof50 (hval 0 50 v0 rfl rfl)
  obtain ⟨fu0, ht0⟩ := tr0
  obtain ⟨x, rfl, hx⟩ := reads_stateW (Reads.of (by simpa [Value.cells] using ht0))
  obtain ⟨cs1, rfl, _⟩ := open_agg Tryz.underlying50 celltypes50 cellsof50 (hval 1 50 v1 rfl rfl)
  obtain ⟨fu1, ht1⟩ := tr1
  obtain ⟨y, rfl, hy⟩ := reads_stateW (Reads.of (by simpa [Value.cells] using ht1))
  obtain ⟨cs2, rfl, hc2_0⟩ := open_agg Tryz.underlying29 celltypes29 cellsof29 (hval 2 29 v2 rfl rfl)
  obtain ⟨o0, _, rfl, g2_0, hc2_1⟩ := all_int Tryz.underlying27 hc2_0
  obtain ⟨o1, _, rfl, g2_1, hc2_2⟩ := all_int Tryz.underlying3 hc2_1
  obtain ⟨o2, _, rfl, g2_2, hc2_3⟩ := all_int Tryz.underlying3 hc2_2
  obtain ⟨o3, _, rfl, g2_3, hc2_4⟩ := all_int Tryz.underlying3 hc2_3
  obtain ⟨o4, _, rfl, g2_4, hc2_5⟩ := all_int Tryz.underlying3 hc2_4
  obtain ⟨o5, _, rfl, g2_5, hc2_6⟩ := all_int Tryz.underlying3 hc2_5
  obtain ⟨o6, _, rfl, g2_6, hc2_7⟩ := all_int Tryz.underlying3 hc2_6
  obtain rfl := all_nil hc2_7
  obtain ⟨on, rfl⟩ := ok_bool Tryz.underlying4 (hval 3 4 v3 rfl rfl)
  refine (law4 x y o0 o1 o2 o3 o4 o5 o6 on (has_I64 g2_5) W hx hy).mono fun e W' ⟨he, hb⟩ => ⟨_, he, post_law (tb := 4) law_laidOut ?_ rfl (by kernel_rfl) Tryz.underlying4 ?_ hW hb⟩
  · rw [Tryz.params4]; intro t ht; simp only [List.mem_cons, List.not_mem_nil, or_false] at ht; rcases ht with rfl | rfl | rfl | rfl <;> exact ⟨by kernel_rfl, of_decide_eq_true (by kernel_rfl)⟩
  · rw [hds]; rfl
theorem imageApart_inPlace : (Rows.imageApartRow.inPlace == Tryz.prog.inPlace 4) = true := by kernel_rfl
theorem imageApart_unfollowed : (Rows.imageApartRow.unfollowed == Tryz.prog.unfollowed 4) = true := by kernel_rfl
theorem imageApart_recurses : (Rows.imageApartRow.recurses == Tryz.prog.recurses 4) = true := by kernel_rfl
theorem imageApart_varsNamed : (Rows.imageApartRow.named == Tryz.prog.varsNamed 4) = true := by kernel_rfl
theorem imageApart_closed : joinedFacts Tryz.prog 4 Tryz.f4 Rows.imageApartSpec Rows.imageApartRow = true := by
  unfold joinedFacts
  rw [imageApart_inPlace, imageApart_unfollowed, imageApart_recurses, imageApart_varsNamed]
  kernel_rfl
theorem imageApart_holds : Rows.ImageApartSaid :=
  OpenClaim.holds_of_wide 4 Tryz.f4 rfl rfl rfl rfl rfl rfl rfl ⟨rfl, rfl, rfl, rfl, rfl⟩ rfl rfl rfl rfl rfl (by kernel_rfl) Tryz.func4 imageApart_closed
    (of_decide_eq_true (by kernel_rfl)) (by unfold Func.isWrapper; rw [if_neg (of_decide_eq_false (by kernel_rfl))]; exact ⟨rfl, rfl⟩)
    (fun os started H enc _ => imageApart_lifted os started H enc)
end Go.Proofs.YtaafajaadfgaoaaGreat
