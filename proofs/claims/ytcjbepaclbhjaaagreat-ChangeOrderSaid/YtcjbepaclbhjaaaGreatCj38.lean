/- Parts of the proof. -/
import Derived.Test.YtcjbepaclbhjaaaGreatCj0
import Derived.Test.YtcjbepaclbhjaaaGreatCj26
import Derived.Test.YtcjbepaclbhjaaaGreatCj37
/-
  Proved: the law ChangeOrder (tumuluslaw17) answers true for every input and leaves its arguments as they read; no condition.
-/
set_option linter.unusedSimpArgs false
set_option linter.unusedVariables false
namespace Go.Proofs.YtcjbepaclbhjaaaGreat
open Go.RowKit Go.ChangeShapes Go.WideShapes Go.ChangeAt
theorem own_knob : ownKnob Tryz.prog.godebug = none := by kernel_rfl
theorem law_laidOut : laidOutB Tryz.prog = true := by kernel_rfl
theorem celltypes27 : Tryz.prog.cellTypes Tryz.prog.depth 27 = some [3, 3, 3, 3, 3, 22] := by kernel_rfl
theorem cellsof27 : Tryz.prog.cellsOf 27 = [3, 3, 3, 3, 3, 22].length := by kernel_rfl
set_option maxRecDepth 100000 in
set_option maxHeartbeats 4000000 in
theorem changeOrder_lifted (os : Os) (started : os.Started) (H : Type) (enc : TypeId × Value → H) :
    ReturnsInHanded {} Tryz.checked os 4 .any (Rows.changeOrderSpec.pre6 enc Tryz.prog Tryz.f4 Rows.changeOrderRow.domain false) (Rows.changeOrderSpec.post enc Tryz.prog Tryz.f4 false true false false) := by
  refine returnsInHanded_of_change (C := Tryz.checked) own_knob started (by kernel_rfl) Tryz.func4
    (ChangeSpec.witness6 (enc := enc) (C := Tryz.checked) false ⟨#[], #[.slice none 0 0, .agg #[.int .i64 0, .int .i64 0, .int .i64 0, .int .i64 0, .int .i64 0, .slice none 0 0], .agg #[.int .i64 0, .int .i64 0, .int .i64 0, .int .i64 0, .int .i64 0, .slice none 0 0]], []⟩ 8 (by kernel_rfl) (by kernel_rfl) (by kernel_rfl) (by kernel_rfl)) ?_
  intro W base args ds gs before hval0 hW _ _
  have hval : ∀ (j : Nat) t v, Tryz.f4.params[j]? = some t → args[j]? = some v → Value.okWide Tryz.prog W .any base t v := hval0
  have hW' := hW
  obtain ⟨p, q, hA0, hV, _, _, _⟩ := hW'
  have hA : DataW.TrodAll enc Tryz.prog W 0 (fun _ => true) true Tryz.f4.params.toList args.toList ds p := hA0
  obtain ⟨rfl, rfl⟩ := trodVars_none hV
  clear hA0 hval0
  rw [Tryz.params4] at hA hval
  obtain ⟨v0, vs0, d0, ds0, p0, q0, hargs, hd0, _, tr0, r0⟩ := trodAll_cons hA
  obtain ⟨v1, vs1, d1, ds1, p1, q1, rfl, hd1, _, tr1, r1⟩ := trodAll_cons r0
  obtain ⟨v2, vs2, d2, ds2, p2, q2, rfl, hd2, _, tr2, r2⟩ := trodAll_cons r1
  obtain ⟨rfl, hdn, _⟩ := trodAll_nil r2
  obtain rfl : args = #[v0, v1, v2] := by cases args; simp_all
  have hds : ds = [d0, d1, d2] := by rw [hd0, hd1, hd2, hdn]
  obtain ⟨la, ln, lk, rfl⟩ := ok_slice Tryz.underlying25 (hval 0 25 v0 rfl rfl)
  obtain ⟨fu0, ht0⟩ := tr0
  obtain ⟨la2, l, lc, hlv, hl⟩ := reads_votes (Reads.of (by simpa [Value.cells] using ht0))
  injection hlv with hl1 hl2 hl3
  subst hl1 hl2 hl3
  obtain ⟨cs1, rfl, _⟩ := open_agg Tryz.underlying27 celltypes27 cellsof27 (hval 1 27 v1 rfl rfl)
  obtain ⟨fu1, ht1⟩ := tr1
  obtain ⟨x, rfl, hx⟩ := reads_vote (Reads.of (by simpa [Value.cells] using ht1))
  obtain ⟨cs2, rfl, _⟩ := open_agg Tryz.underlying27 celltypes27 cellsof27 (hval 2 27 v2 rfl rfl)
  obtain ⟨fu2, ht2⟩ := tr2
  obtain ⟨y, rfl, hy⟩ := reads_vote (Reads.of (by simpa [Value.cells] using ht2))
  refine (law4 _ l _ x y W hl.1 (fun v hv => (hl.2 v hv).1) hx.1 hy.1).mono fun e W' ⟨he, hb⟩ => ⟨_, he, post_law (tb := 4) law_laidOut ?_ rfl (by kernel_rfl) Tryz.underlying4 ?_ hW hb⟩
  · rw [Tryz.params4]; intro t ht; simp only [List.mem_cons, List.not_mem_nil, or_false] at ht; rcases ht with rfl | rfl | rfl <;> exact ⟨by kernel_rfl, of_decide_eq_true (by kernel_rfl)⟩
  · rw [hds]; rfl
theorem changeOrder_inPlace : (Rows.changeOrderRow.inPlace == Tryz.prog.inPlace 4) = true := by kernel_rfl
theorem changeOrder_unfollowed : (Rows.changeOrderRow.unfollowed == Tryz.prog.unfollowed 4) = true := by kernel_rfl
theorem changeOrder_recurses : (Rows.changeOrderRow.recurses == Tryz.prog.recurses 4) = true := by kernel_rfl
theorem changeOrder_varsNamed : (Rows.changeOrderRow.named == Tryz.prog.varsNamed 4) = true := by kernel_rfl
theorem changeOrder_closed : joinedFacts Tryz.prog 4 Tryz.f4 Rows.changeOrderSpec Rows.changeOrderRow = true := by
  unfold joinedFacts
  rw [changeOrder_inPlace, changeOrder_unfollowed, changeOrder_recurses, changeOrder_varsNamed]
  kernel_rfl
theorem changeOrder_holds : Rows.ChangeOrderSaid :=
  OpenClaim.holds_of_wide 4 Tryz.f4 rfl rfl rfl rfl rfl rfl rfl ⟨rfl, rfl, rfl, rfl, rfl⟩ rfl rfl rfl rfl rfl (by kernel_rfl) Tryz.func4 changeOrder_closed
    (of_decide_eq_true (by kernel_rfl)) (by unfold Func.isWrapper; rw [if_neg (of_decide_eq_false (by kernel_rfl))]; exact ⟨rfl, rfl⟩)
    (fun os started H enc _ => changeOrder_lifted os started H enc)
end Go.Proofs.YtcjbepaclbhjaaaGreat
