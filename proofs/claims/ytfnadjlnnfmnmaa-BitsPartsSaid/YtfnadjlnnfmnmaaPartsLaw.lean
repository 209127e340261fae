/-
  Proved: the law BitsParts (tumuluslaw03) answers true for every input and leaves its arguments as they read; no condition.
-/
import Derived.Test.YtfnadjlnnfmnmaaFrame
import Derived.Test.YtfnadjlnnfmnmaaOpen
import Derived.Test.YtfnadjlnnfmnmaaNParts
set_option linter.unusedSimpArgs false
set_option linter.unusedVariables false
namespace Go.Proofs.Ytfnadjlnnfmnmaa
open Go.RowKit Go.ChangeShapes Go.WideShapes Go.ChangeAt
theorem own_knob : ownKnob Try.prog.godebug = none := by kernel_rfl
theorem law_laidOut : laidOutB Try.prog = true := by kernel_rfl


def byF (x : Fin 256) : List Value := [.int .u8 ((x.val : Nat) : Int)]
theorem byF_len (x : Fin 256) : (byF x).length = 1 := rfl
theorem dec_by {H : Type} {enc : TypeId × Value → H} {w : World} {base : Nat} {spare : Nat → Bool} {held : Bool} {m : Nat} {cs : List Value} {y : DataW H × List MemPlace} (h : DataW.trod enc Try.prog w base spare held m 5 cs = some y) : ∃ x : Fin 256, cs = byF x := by
  obtain ⟨n, rfl, _, hw⟩ := DataW.trod_int Try.underlying5 h
  simp only [Lit.wf, Bool.and_eq_true, decide_eq_true_eq] at hw
  have h1 : (0 : Int) ≤ n := hw.1
  have h2 : n ≤ 255 := hw.2
  refine ⟨⟨n.toNat, by omega⟩, ?_⟩
  simp only [byF]
  rw [Int.toNat_of_nonneg (by omega)]
theorem byF_map (l : List (Fin 256)) : l.flatMap byF = (l.map (·.val)).flatMap byV := by
  induction l with
  | nil => rfl
  | cons x l ih => simp [List.flatMap_cons, ih, byF, byV]
theorem parts9F (n at_ : Int) (l : List (Fin 256)) (a : Option Addr) (c : Nat) (w : World) (ha : RowIs w a (l.flatMap byF)) :
    Calls Try.prog 9 #[.int .i64 n, .slice a l.length c, .int .i64 at_] w fun e w' => e = .returned (.bool true) ∧ Below w.heap.size w w' := by
  have := parts9 n at_ (l.map (·.val)) (fun x hx => by obtain ⟨y, _, rfl⟩ := List.mem_map.1 hx; exact y.isLt) a c w (by rw [← byF_map]; exact ha)
  rw [List.length_map] at this; exact this
theorem byF_lt (l : List (Fin 256)) : ∀ x ∈ l.map (·.val), x < 256 := by
  intro x hx
  obtain ⟨y, _, rfl⟩ := List.mem_map.1 hx
  exact y.isLt

set_option maxRecDepth 100000 in
set_option maxHeartbeats 4000000 in
theorem bitsParts_lifted (os : Os) (started : os.Started) (H : Type) (enc : TypeId × Value → H) :
    ReturnsInHanded {} Try.checked os 9 .any (Rows.bitsPartsSpec.pre6 enc Try.prog Try.f9 Rows.bitsPartsRow.domain false) (Rows.bitsPartsSpec.post enc Try.prog Try.f9 false true false false) := by
  refine returnsInHanded_of_change (C := Try.checked) own_knob started (by kernel_rfl) Try.func9
    (ChangeSpec.witness6 (enc := enc) (C := Try.checked) false ⟨#[], #[.int .i64 0, .slice none 0 0, .int .i64 0], []⟩ 8 (by kernel_rfl) (by kernel_rfl) (by kernel_rfl) (by kernel_rfl)) ?_
  intro W base args ds gs before hval0 hW _ _
  have hval : ∀ (j : Nat) t v, Try.f9.params[j]? = some t → args[j]? = some v → Value.okWide Try.prog W .any base t v := hval0
  have hW' := hW
  obtain ⟨p, q, hA0, hV, _, _, _⟩ := hW'
  have hA : DataW.TrodAll enc Try.prog W 0 (fun _ => true) true Try.f9.params.toList args.toList ds p := hA0
  obtain ⟨rfl, rfl⟩ := trodVars_none hV
  clear hA0 hval0
  rw [Try.params9] at hA hval
  obtain ⟨v0, vs0, d0, ds0, p0, q0, hargs, hd0, _, tr0, r0⟩ := trodAll_cons hA
  obtain ⟨v1, vs1, d1, ds1, p1, q1, rfl, hd1, _, tr1, r1⟩ := trodAll_cons r0
  obtain ⟨v2, vs2, d2, ds2, p2, q2, rfl, hd2, _, tr2, r2⟩ := trodAll_cons r1
  obtain ⟨rfl, hdn, _⟩ := trodAll_nil r2
  obtain rfl : args = #[v0, v1, v2] := by cases args; simp_all
  have hds : ds = [d0, d1, d2] := by rw [hd0, hd1, hd2, hdn]
  obtain ⟨n, rfl, b0⟩ := ok_int Try.underlying3 (hval 0 3 v0 rfl rfl)
  obtain ⟨ya, yn, yk, rfl⟩ := ok_slice Try.underlying40 (hval 1 40 v1 rfl rfl)
  obtain ⟨y, hy, roy⟩ := slice_rows byF 1 (by decide) byF_len Try.underlying40 (by kernel_rfl) (fun _ _ _ h => dec_by h) tr1
  subst hy
  obtain ⟨x, rfl, b2⟩ := ok_int Try.underlying3 (hval 2 3 v2 rfl rfl)
  refine (parts9F n x y ya yk W roy).mono fun e W' ⟨he, hb⟩ => ⟨_, he, post_law (tb := 4) law_laidOut ?_ rfl (by kernel_rfl) Try.underlying4 ?_ hW hb⟩
  · rw [Try.params9]; intro t ht; simp only [List.mem_cons, List.not_mem_nil, or_false] at ht; rcases ht with rfl | rfl | rfl <;> exact ⟨by kernel_rfl, of_decide_eq_true (by kernel_rfl)⟩
  · rw [hds]; rfl

/-- BitsParts: whatever the input, the law answers true, and each argument reads as it did. -/
theorem bitsParts_holds : Rows.BitsPartsSaid :=
  OpenClaim.holds_of_wide 9 Try.f9 rfl rfl rfl rfl rfl rfl rfl ⟨rfl, rfl, rfl, rfl, rfl⟩ rfl rfl rfl rfl rfl (by kernel_rfl) Try.func9 (by kernel_rfl)
    (of_decide_eq_true (by kernel_rfl)) (by unfold Func.isWrapper; rw [if_neg (of_decide_eq_false (by kernel_rfl))]; exact ⟨rfl, rfl⟩)
    (fun os started H enc _ => bitsParts_lifted os started H enc)
end Go.Proofs.Ytfnadjlnnfmnmaa
