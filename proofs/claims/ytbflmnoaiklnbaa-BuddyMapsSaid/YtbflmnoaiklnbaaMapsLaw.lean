/-
  Proved: the law BuddyMaps (tumuluslaw04) answers true for every input and leaves its arguments as they read; no condition.
-/
import Derived.Test.YtbflmnoaiklnbaaFrame
import Derived.Test.YtbflmnoaiklnbaaOpen
import Derived.Test.YtbflmnoaiklnbaaML
set_option linter.unusedSimpArgs false
set_option linter.unusedVariables false
namespace Go.Proofs.Ytbflmnoaiklnbaa
open Go.RowKit Go.ChangeShapes Go.WideShapes Go.ChangeAt Go.Deep
theorem own_knob : ownKnob Try.prog.godebug = none := by kernel_rfl
theorem law_laidOut : laidOutB Try.prog = true := by kernel_rfl

theorem dec_bl {H : Type} {enc : TypeId × Value → H} {w : World} {base : Nat} {spare : Nat → Bool} {held : Bool} {m : Nat} {cs : List Value} {y : DataW H × List MemPlace} (h : DataW.trod enc Try.prog w base spare held m 44 cs = some y) : ∃ x : Bl, cs = blV x := by
  obtain ⟨hl, hz⟩ := dec_ints Try.underlying44 (by kernel_rfl) (by kernel_rfl) (fun i f hf => by
    match i, hf with
    | 0, hf => cases hf; exact Try.underlying3
    | 1, hf => cases hf; exact Try.underlying3) h
  obtain ⟨p, hp⟩ := hz 0 (by decide)
  obtain ⟨o, ho⟩ := hz 1 (by decide)
  refine ⟨⟨p, o⟩, ?_⟩
  match cs, hl with
  | [a, b], _ =>
    simp at hp ho
    rw [hp, ho]; rfl

set_option maxRecDepth 100000 in
set_option maxHeartbeats 4000000 in
theorem buddyMaps_lifted (os : Os) (started : os.Started) (H : Type) (enc : TypeId × Value → H) :
    ReturnsInHanded {} Try.checked os 4 .any (Rows.buddyMapsSpec.pre6 enc Try.prog Try.f4 Rows.buddyMapsRow.domain false) (Rows.buddyMapsSpec.post enc Try.prog Try.f4 false true false false) := by
  refine returnsInHanded_of_change (C := Try.checked) own_knob started (by kernel_rfl) Try.func4
    (ChangeSpec.witness6 (enc := enc) (C := Try.checked) false ⟨#[], #[.int .i64 0, .int .i64 0, .slice none 0 0], []⟩ 8 (by kernel_rfl) (by kernel_rfl) (by kernel_rfl) (by kernel_rfl)) ?_
  intro W base args ds gs before hval0 hW _ _
  have hval : ∀ (j : Nat) t v, Try.f4.params[j]? = some t → args[j]? = some v → Value.okWide Try.prog W .any base t v := hval0
  have hW' := hW
  obtain ⟨p, q, hA0, hV, _, _, _⟩ := hW'
  have hA : DataW.TrodAll enc Try.prog W 0 (fun _ => true) true Try.f4.params.toList args.toList ds p := hA0
  obtain ⟨rfl, rfl⟩ := trodVars_none hV
  clear hA0 hval0
  rw [Try.params4] at hA hval
  obtain ⟨v0, vs0, d0, ds0, p0, q0, hargs, hd0, _, tr0, r0⟩ := trodAll_cons hA
  obtain ⟨v1, vs1, d1, ds1, p1, q1, rfl, hd1, _, tr1, r1⟩ := trodAll_cons r0
  obtain ⟨v2, vs2, d2, ds2, p2, q2, rfl, hd2, _, tr2, r2⟩ := trodAll_cons r1
  obtain ⟨rfl, hdn, _⟩ := trodAll_nil r2
  obtain rfl : args = #[v0, v1, v2] := by cases args; simp_all
  have hds : ds = [d0, d1, d2] := by rw [hd0, hd1, hd2, hdn]
  obtain ⟨a, rfl, b0⟩ := ok_int Try.underlying3 (hval 0 3 v0 rfl rfl)
  obtain ⟨b, rfl, b1⟩ := ok_int Try.underlying3 (hval 1 3 v1 rfl rfl)
  obtain ⟨fa, fn, fk, rfl⟩ := ok_slice Try.underlying24 (hval 2 24 v2 rfl rfl)
  obtain ⟨f, hf, rof⟩ := slice_rows blV 2 (by decide) blV_len Try.underlying24 (by kernel_rfl) (fun _ _ _ h => dec_bl h) tr2
  subst hf
  refine (law4 a b f fa fk W rof).mono fun e W' ⟨he, hb⟩ => ⟨_, he, post_law (tb := 4) law_laidOut ?_ rfl (by kernel_rfl) Try.underlying4 ?_ hW hb⟩
  · rw [Try.params4]; intro t ht; simp only [List.mem_cons, List.not_mem_nil, or_false] at ht; rcases ht with rfl | rfl | rfl <;> exact ⟨by kernel_rfl, of_decide_eq_true (by kernel_rfl)⟩
  · rw [hds]; rfl

/-- BuddyMaps: whatever the input, the law answers true, and each argument reads as it did. -/
theorem buddyMaps_holds : Rows.BuddyMapsSaid :=
  OpenClaim.holds_of_wide 4 Try.f4 rfl rfl rfl rfl rfl rfl rfl ⟨rfl, rfl, rfl, rfl, rfl⟩ rfl rfl rfl rfl rfl (by kernel_rfl) Try.func4 (by kernel_rfl)
    (of_decide_eq_true (by kernel_rfl)) (by unfold Func.isWrapper; rw [if_neg (of_decide_eq_false (by kernel_rfl))]; exact ⟨rfl, rfl⟩)
    (fun os started H enc _ => buddyMaps_lifted os started H enc)
end Go.Proofs.Ytbflmnoaiklnbaa
