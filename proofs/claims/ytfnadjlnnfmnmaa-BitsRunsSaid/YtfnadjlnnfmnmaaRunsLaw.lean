/-
  Proved: the law BitsRuns (tumuluslaw03) answers true for every input and leaves its arguments as they read; no condition.
-/
import Derived.Test.YtfnadjlnnfmnmaaFrame
import Derived.Test.YtfnadjlnnfmnmaaDec
import Derived.Test.YtfnadjlnnfmnmaaNRuns
set_option linter.unusedSimpArgs false
set_option linter.unusedVariables false
namespace Go.Proofs.Ytfnadjlnnfmnmaa
open Go.RowKit Go.ChangeShapes Go.WideShapes Go.ChangeAt
theorem own_knob : ownKnob Try.prog.godebug = none := by kernel_rfl
theorem law_laidOut : laidOutB Try.prog = true := by kernel_rfl


abbrev ScB := { x : Sc // x.n ≤ 9223372036854775807 }
def scF (x : ScB) : List Value := scV x.val
theorem scF_len (x : ScB) : (scF x).length = 4 := rfl
theorem dec_sc {H : Type} {enc : TypeId × Value → H} {w : World} {base : Nat} {spare : Nat → Bool} {held : Bool} {m : Nat} {cs : List Value} {y : DataW H × List MemPlace} (h : DataW.trod enc Try.prog w base spare held m 23 cs = some y) : ∃ x : ScB, cs = scF x := by
  obtain ⟨hl, hz⟩ := dec_fields Try.underlying23 (by kernel_rfl) (by kernel_rfl) h
  obtain ⟨m0, v0, y0, c0, t0⟩ := hz 0 _ rfl
  obtain ⟨m1, v1, y1, c1, t1⟩ := hz 1 _ rfl
  obtain ⟨m2, v2, y2, c2, t2⟩ := hz 2 _ rfl
  obtain ⟨m3, v3, y3, c3, t3⟩ := hz 3 _ rfl
  obtain ⟨k, hk, _, _⟩ := DataW.trod_int Try.underlying3 t0
  obtain ⟨a, ha, _, _⟩ := DataW.trod_int Try.underlying3 t1
  obtain ⟨n, hn, _, hw⟩ := DataW.trod_int Try.underlying3 t2
  obtain ⟨o, ho, _⟩ := DataW.trod_bool Try.underlying4 t3
  injection hk with hk _; injection ha with ha _; injection hn with hn _; injection ho with ho _
  subst hk ha hn ho
  simp only [Lit.wf, Bool.and_eq_true, decide_eq_true_eq] at hw
  have hn63 : n ≤ 9223372036854775807 := hw.2
  refine ⟨⟨⟨k, a, n, o⟩, hn63⟩, ?_⟩
  match cs, hl with
  | [x0, x1, x2, x3], _ =>
    simp at c0 c1 c2 c3
    subst c0 c1 c2 c3
    rfl
theorem scF_map (l : List ScB) : l.flatMap scF = (l.map (·.val)).flatMap scV := by
  induction l with
  | nil => rfl
  | cons x l ih => simp [List.flatMap_cons, ih, scF]
theorem runs4F (n : Int) (l : List ScB) (a : Option Addr) (c : Nat) (w : World) (ha : RowIs w a (l.flatMap scF)) :
    Calls Try.prog 4 #[.int .i64 n, .slice a l.length c] w fun e w' => e = .returned (.bool true) ∧ Below w.heap.size w w' := by
  by_cases hbig : 60 < l.length
  · exact runs4_big n _ a c hbig w
  by_cases h : n < 0 ∨ 4096 < n
  · exact runs4_no n h _ a c (by omega) w
  obtain ⟨k, rfl⟩ := Int.eq_ofNat_of_zero_le (show 0 ≤ n by omega)
  have := runs4_yes k (by omega) (l.map (·.val)) (by rw [List.length_map]; omega) (fun x hx => by obtain ⟨y, _, rfl⟩ := List.mem_map.1 hx; exact y.2) a c w (by rw [← scF_map]; exact ha)
  rw [List.length_map] at this; exact this

set_option maxRecDepth 100000 in
set_option maxHeartbeats 4000000 in
theorem bitsRuns_lifted (os : Os) (started : os.Started) (H : Type) (enc : TypeId × Value → H) :
    ReturnsInHanded {} Try.checked os 4 .any (Rows.bitsRunsSpec.pre6 enc Try.prog Try.f4 Rows.bitsRunsRow.domain false) (Rows.bitsRunsSpec.post enc Try.prog Try.f4 false true false false) := by
  refine returnsInHanded_of_change (C := Try.checked) own_knob started (by kernel_rfl) Try.func4
    (ChangeSpec.witness6 (enc := enc) (C := Try.checked) false ⟨#[], #[.int .i64 0, .slice none 0 0], []⟩ 8 (by kernel_rfl) (by kernel_rfl) (by kernel_rfl) (by kernel_rfl)) ?_
  intro W base args ds gs before hval0 hW _ _
  have hval : ∀ (j : Nat) t v, Try.f4.params[j]? = some t → args[j]? = some v → Value.okWide Try.prog W .any base t v := hval0
  have hW' := hW
  obtain ⟨p, q, hA0, hV, _, _, _⟩ := hW'
  have hA : DataW.TrodAll enc Try.prog W 0 (fun _ => true) true Try.f4.params.toList args.toList ds p := hA0
  obtain ⟨rfl, rfl⟩ := trodVars_none hV
  clear hA0 hval0
  rw [Try.params4] at hA hval
  obtain ⟨v0, vs0, d0, ds0, p0, q0, hargs, hd0, _, tr0, r0⟩ := trodAll_cons hA
  obtain ⟨v1, vs1, d1, ds1, p1, q1, rfl, hd1, _, tr1, r1⟩ := trodAll_cons r0
  obtain ⟨rfl, hdn, _⟩ := trodAll_nil r1
  obtain rfl : args = #[v0, v1] := by cases args; simp_all
  have hds : ds = [d0, d1] := by rw [hd0, hd1, hdn]
  obtain ⟨n, rfl, b0⟩ := ok_int Try.underlying3 (hval 0 3 v0 rfl rfl)
  obtain ⟨ya, yn, yk, rfl⟩ := ok_slice Try.underlying33 (hval 1 33 v1 rfl rfl)
  obtain ⟨y, hy, roy⟩ := slice_rows scF 4 (by decide) scF_len Try.underlying33 (by kernel_rfl) (fun _ _ _ h => dec_sc h) tr1
  subst hy
  refine (runs4F n y ya yk W roy).mono fun e W' ⟨he, hb⟩ => ⟨_, he, post_law (tb := 4) law_laidOut ?_ rfl (by kernel_rfl) Try.underlying4 ?_ hW hb⟩
  · rw [Try.params4]; intro t ht; simp only [List.mem_cons, List.not_mem_nil, or_false] at ht; rcases ht with rfl | rfl <;> exact ⟨by kernel_rfl, of_decide_eq_true (by kernel_rfl)⟩
  · rw [hds]; rfl

/-- BitsRuns: whatever the input, the law answers true, and each argument reads as it did. -/
theorem bitsRuns_holds : Rows.BitsRunsSaid :=
  OpenClaim.holds_of_wide 4 Try.f4 rfl rfl rfl rfl rfl rfl rfl ⟨rfl, rfl, rfl, rfl, rfl⟩ rfl rfl rfl rfl rfl (by kernel_rfl) Try.func4 (by kernel_rfl)
    (of_decide_eq_true (by kernel_rfl)) (by unfold Func.isWrapper; rw [if_neg (of_decide_eq_false (by kernel_rfl))]; exact ⟨rfl, rfl⟩)
    (fun os started H enc _ => bitsRuns_lifted os started H enc)
end Go.Proofs.Ytfnadjlnnfmnmaa
