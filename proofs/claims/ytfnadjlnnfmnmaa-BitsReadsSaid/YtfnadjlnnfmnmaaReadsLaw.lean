/-
  Proved: the law BitsReads (tumuluslaw03) answers true for every input and leaves its arguments as they read; no condition.
-/
import Derived.Test.YtfnadjlnnfmnmaaFrame
import Derived.Test.YtfnadjlnnfmnmaaOpen
import Derived.Test.YtfnadjlnnfmnmaaNReads2
set_option linter.unusedSimpArgs false
set_option linter.unusedVariables false
namespace Go.Proofs.Ytfnadjlnnfmnmaa
open Go.RowKit Go.ChangeShapes Go.WideShapes Go.ChangeAt
theorem own_knob : ownKnob Try.prog.godebug = none := by kernel_rfl
theorem law_laidOut : laidOutB Try.prog = true := by kernel_rfl


def byF (x : Fin 256) : List Value := [.int .u8 ((x.val : Nat) : Int)]
theorem byF_len (x : Fin 256) : (byF x).length = 1 := rfl
theorem dec_by {H : Type} {enc : TypeId × Value → H} {w : World} {base : Nat} {spare : Nat → Bool} {held : Bool} {m : Nat} {cs : List Value} {y : DataW H × List MemPlace} (h : DataW.trod enc Try.prog w base spare held m 5 cs = some y) : ∃ x : Fin 256, cs = byF x := by
  obtain ⟨n, rfl, _, hw⟩ := DataW.trod_int Try.underlying5 h
  simp only [Lit.wf, Bool.and_eq_true, decide_eq_true_eq] at hw
  have h1 : (0 : Int) ≤ n := hw.1
  have h2 : n ≤ 255 := hw.2
  refine ⟨⟨n.toNat, by omega⟩, ?_⟩
  simp only [byF]
  rw [Int.toNat_of_nonneg (by omega)]
theorem byF_map (l : List (Fin 256)) : l.flatMap byF = (l.map (·.val)).flatMap byV := by
  induction l with
  | nil => rfl
  | cons x l ih => simp [List.flatMap_cons, ih, byF, byV]
theorem reads7 (n : Int) (bs : List Nat) (hbs : ∀ x ∈ bs, x < 256) (a : Option Addr) (c : Nat) (w : World) (ha : RowIs w a (bs.flatMap byV)) :
    Calls Try.prog 7 #[.int .i64 n, .slice a bs.length c] w fun e w' => e = .returned (.bool true) ∧ Below w.heap.size w w' := by
  by_cases hbig : 5000 < bs.length
  · exact reads7_big n _ a c hbig w
  have hl : bs.length ≤ 5000 := by omega
  by_cases h : n < 0 ∨ 4096 < n
  · exact reads7_no n bs hl a c w ha (fun w' g cap _ => read23_no n h _ _ cap w') (fun w' _ => rread25_no n a _ c (by omega) w')
  obtain ⟨k, rfl⟩ := Int.eq_ofNat_of_zero_le (show 0 ≤ n by omega)
  have hk : k ≤ 4096 := by omega
  by_cases hlen : bs.length = bN k
  · by_cases hD : byL (cutB bs k) (bN k) = bs
    · refine reads7_yes k hk bs hl hD a c w ha (fun w' g cap hr => ?_) (fun w' hr => ?_)
      · rw [hlen]
        refine (read23 k hk bs hbs hlen _ cap w' hr).mono fun e w'' h => ?_
        rcases h with ⟨_, h⟩ | ⟨h, _⟩
        · exact h
        · exact absurd hD h
      · rw [hlen]
        refine (rread25 k hk bs hbs hlen a c w' hr).mono fun e w'' h => ?_
        rcases h with ⟨_, h⟩ | ⟨h, _⟩
        · exact h
        · exact absurd hD h
    · refine reads7_no k bs hl a c w ha (fun w' g cap hr => ?_) (fun w' hr => ?_)
      · rw [hlen]
        refine (read23 k hk bs hbs hlen _ cap w' hr).mono fun e w'' h => ?_
        rcases h with ⟨h, _⟩ | ⟨_, h⟩
        · exact absurd h hD
        · exact h
      · rw [hlen]
        refine (rread25 k hk bs hbs hlen a c w' hr).mono fun e w'' h => ?_
        rcases h with ⟨h, _⟩ | ⟨_, h⟩
        · exact absurd h hD
        · exact h
  · exact reads7_no k bs hl a c w ha (fun w' g cap _ => read23_len k hk _ _ cap hlen w') (fun w' _ => rread25_no k a _ c (by unfold bN at hlen; omega) w')
theorem reads7F (n : Int) (l : List (Fin 256)) (a : Option Addr) (c : Nat) (w : World) (ha : RowIs w a (l.flatMap byF)) :
    Calls Try.prog 7 #[.int .i64 n, .slice a l.length c] w fun e w' => e = .returned (.bool true) ∧ Below w.heap.size w w' := by
  have := reads7 n (l.map (·.val)) (fun x hx => by obtain ⟨y, _, rfl⟩ := List.mem_map.1 hx; exact y.isLt) a c w (by rw [← byF_map]; exact ha)
  rw [List.length_map] at this; exact this

set_option maxRecDepth 100000 in
set_option maxHeartbeats 4000000 in
theorem bitsReads_lifted (os : Os) (started : os.Started) (H : Type) (enc : TypeId × Value → H) :
    ReturnsInHanded {} Try.checked os 7 .any (Rows.bitsReadsSpec.pre6 enc Try.prog Try.f7 Rows.bitsReadsRow.domain false) (Rows.bitsReadsSpec.post enc Try.prog Try.f7 false true false false) := by
  refine returnsInHanded_of_change (C := Try.checked) own_knob started (by kernel_rfl) Try.func7
    (ChangeSpec.witness6 (enc := enc) (C := Try.checked) false ⟨#[], #[.int .i64 0, .slice none 0 0], []⟩ 8 (by kernel_rfl) (by kernel_rfl) (by kernel_rfl) (by kernel_rfl)) ?_
  intro W base args ds gs before hval0 hW _ _
  have hval : ∀ (j : Nat) t v, Try.f7.params[j]? = some t → args[j]? = some v → Value.okWide Try.prog W .any base t v := hval0
  have hW' := hW
  obtain ⟨p, q, hA0, hV, _, _, _⟩ := hW'
  have hA : DataW.TrodAll enc Try.prog W 0 (fun _ => true) true Try.f7.params.toList args.toList ds p := hA0
  obtain ⟨rfl, rfl⟩ := trodVars_none hV
  clear hA0 hval0
  rw [Try.params7] at hA hval
  obtain ⟨v0, vs0, d0, ds0, p0, q0, hargs, hd0, _, tr0, r0⟩ := trodAll_cons hA
  obtain ⟨v1, vs1, d1, ds1, p1, q1, rfl, hd1, _, tr1, r1⟩ := trodAll_cons r0
  obtain ⟨rfl, hdn, _⟩ := trodAll_nil r1
  obtain rfl : args = #[v0, v1] := by cases args; simp_all
  have hds : ds = [d0, d1] := by rw [hd0, hd1, hdn]
  obtain ⟨n, rfl, b0⟩ := ok_int Try.underlying3 (hval 0 3 v0 rfl rfl)
  obtain ⟨ya, yn, yk, rfl⟩ := ok_slice Try.underlying40 (hval 1 40 v1 rfl rfl)
  obtain ⟨y, hy, roy⟩ := slice_rows byF 1 (by decide) byF_len Try.underlying40 (by kernel_rfl) (fun _ _ _ h => dec_by h) tr1
  subst hy
  refine (reads7F n y ya yk W roy).mono fun e W' ⟨he, hb⟩ => ⟨_, he, post_law (tb := 4) law_laidOut ?_ rfl (by kernel_rfl) Try.underlying4 ?_ hW hb⟩
  · rw [Try.params7]; intro t ht; simp only [List.mem_cons, List.not_mem_nil, or_false] at ht; rcases ht with rfl | rfl <;> exact ⟨by kernel_rfl, of_decide_eq_true (by kernel_rfl)⟩
  · rw [hds]; rfl

/-- BitsReads: whatever the input, the law answers true, and each argument reads as it did. -/
theorem bitsReads_holds : Rows.BitsReadsSaid :=
  OpenClaim.holds_of_wide 7 Try.f7 rfl rfl rfl rfl rfl rfl rfl ⟨rfl, rfl, rfl, rfl, rfl⟩ rfl rfl rfl rfl rfl (by kernel_rfl) Try.func7 (by kernel_rfl)
    (of_decide_eq_true (by kernel_rfl)) (by unfold Func.isWrapper; rw [if_neg (of_decide_eq_false (by kernel_rfl))]; exact ⟨rfl, rfl⟩)
    (fun os started H enc _ => bitsReads_lifted os started H enc)
end Go.Proofs.Ytfnadjlnnfmnmaa
