/-
  Proved: the law BitsRun (tumuluslaw03) answers true for every input and leaves its arguments as they read; no condition.
-/
import Derived.Test.YtfnadjlnnfmnmaaFrame
import Derived.Test.YtfnadjlnnfmnmaaOpen
import Derived.Test.YtfnadjlnnfmnmaaNRunL2
import Derived.Test.YtfnadjlnnfmnmaaNRunL3
set_option linter.unusedSimpArgs false
set_option linter.unusedVariables false
namespace Go.Proofs.Ytfnadjlnnfmnmaa
open Go.RowKit Go.ChangeShapes Go.WideShapes Go.ChangeAt
theorem own_knob : ownKnob Try.prog.godebug = none := by kernel_rfl
theorem law_laidOut : laidOutB Try.prog = true := by kernel_rfl


def byF (x : Fin 256) : List Value := [.int .u8 ((x.val : Nat) : Int)]
theorem byF_len (x : Fin 256) : (byF x).length = 1 := rfl
theorem dec_by {H : Type} {enc : TypeId × Value → H} {w : World} {base : Nat} {spare : Nat → Bool} {held : Bool} {m : Nat} {cs : List Value} {y : DataW H × List MemPlace} (h : DataW.trod enc Try.prog w base spare held m 5 cs = some y) : ∃ x : Fin 256, cs = byF x := by
  obtain ⟨n, rfl, _, hw⟩ := DataW.trod_int Try.underlying5 h
  simp only [Lit.wf, Bool.and_eq_true, decide_eq_true_eq] at hw
  have h1 : (0 : Int) ≤ n := hw.1
  have h2 : n ≤ 255 := hw.2
  refine ⟨⟨n.toNat, by omega⟩, ?_⟩
  simp only [byF]
  rw [Int.toNat_of_nonneg (by omega)]
theorem byF_map (l : List (Fin 256)) : l.flatMap byF = (l.map (·.val)).flatMap byV := by
  induction l with
  | nil => rfl
  | cons x l ih => simp [List.flatMap_cons, ih, byF, byV]
theorem exists_min {P : Nat → Prop} : ∀ b, P b → ∃ b, P b ∧ ∀ b', b' < b → ¬ P b' := by
  intro b
  induction b using Nat.strongRecOn with
  | _ b ih =>
    intro hb
    by_cases h : ∃ b', b' < b ∧ P b'
    · obtain ⟨b', hlt, hb'⟩ := h
      exact ih b' hlt hb'
    · exact ⟨b, hb, fun b' hlt hb' => h ⟨b', hlt, hb'⟩⟩
theorem run8_f (k : Nat) (hk : k ≤ 4096) (a m : Int) (f : Nat → Bool) (A : Option Addr) (l c : Nat) (on : Bool) (h1 : l ≤ 600) (h2 : m ≤ 5000) (w : World) (K : Calls Try.prog 23 #[.int .i64 k, .slice A l c] w (ReadOk w k f)) :
    Calls Try.prog 8 #[.int .i64 k, .slice A l c, .int .i64 a, .int .i64 m, .bool on] w fun e w' => e = .returned (.bool true) ∧ Below w.heap.size w w' := by
  by_cases hm : m < 1
  · exact run8_low k hk a m f A l c on h1 hm w K
  obtain ⟨mm, rfl⟩ := Int.eq_ofNat_of_zero_le (show 0 ≤ m by omega)
  have has : (a < 0 ∧ a.toNat = 0) ∨ (0 ≤ a ∧ a = a.toNat) := by omega
  by_cases he : ∃ b, a.toNat ≤ b ∧ b + mm ≤ k ∧ AllOn f b mm on
  · obtain ⟨b0, hb0⟩ := he
    obtain ⟨b, ⟨e1, e2, e3⟩, hno⟩ := exists_min (P := fun b => a.toNat ≤ b ∧ b + mm ≤ k ∧ AllOn f b mm on) b0 hb0
    exact run8_some k hk a a.toNat has mm (by omega) (by omega) f A l c on h1 b e1 e2 e3 (fun b' hs hb ha => hno b' hb ⟨hs, by omega, ha⟩) w K
  · exact run8_none k hk a a.toNat has mm (by omega) (by omega) f A l c on h1 (fun b hs hb ha => he ⟨b, hs, hb, ha⟩) w K
theorem run8 (n a m : Int) (bs : List Nat) (hbs : ∀ x ∈ bs, x < 256) (A : Option Addr) (c : Nat) (on : Bool) (w : World) (ha : RowIs w A (bs.flatMap byV)) :
    Calls Try.prog 8 #[.int .i64 n, .slice A bs.length c, .int .i64 a, .int .i64 m, .bool on] w fun e w' => e = .returned (.bool true) ∧ Below w.heap.size w w' := by
  by_cases hbig : 600 < bs.length ∨ 5000 < m
  · exact run8_big n a m A _ c on hbig w
  have h1 : bs.length ≤ 600 := by omega
  have h2 : m ≤ 5000 := by omega
  by_cases h : n < 0 ∨ 4096 < n
  · exact run8_no n a m A _ c on h1 h2 w (read23_no n h A _ c w)
  obtain ⟨k, rfl⟩ := Int.eq_ofNat_of_zero_le (show 0 ≤ n by omega)
  have hk : k ≤ 4096 := by omega
  by_cases hl : bs.length = bN k
  · have K := read23 k hk bs hbs hl A c w ha
    by_cases hD : byL (cutB bs k) (bN k) = bs
    · have K1 : Calls Try.prog 23 #[.int .i64 k, .slice A (bN k) c] w (ReadOk w k (cutB bs k)) := by
        refine K.mono fun e w' h => ?_
        rcases h with ⟨_, h⟩ | ⟨h, _⟩
        · exact h
        · exact absurd hD h
      rw [← hl] at K1
      exact run8_f k hk a m (cutB bs k) A _ c on h1 h2 w K1
    · have K1 : Calls Try.prog 23 #[.int .i64 k, .slice A (bN k) c] w fun e w' => e = .returned (.tuple #[.pointer none, .int .i64 1]) ∧ Below w.heap.size w w' := by
        refine K.mono fun e w' h => ?_
        rcases h with ⟨h, _⟩ | ⟨_, h⟩
        · exact absurd h hD
        · exact h
      rw [← hl] at K1
      exact run8_no k a m A _ c on h1 h2 w K1
  · exact run8_no k a m A _ c on h1 h2 w (read23_len k hk A _ c hl w)
theorem run8F (n a m : Int) (l : List (Fin 256)) (A : Option Addr) (c : Nat) (on : Bool) (w : World) (ha : RowIs w A (l.flatMap byF)) :
    Calls Try.prog 8 #[.int .i64 n, .slice A l.length c, .int .i64 a, .int .i64 m, .bool on] w fun e w' => e = .returned (.bool true) ∧ Below w.heap.size w w' := by
  have := run8 n a m (l.map (·.val)) (fun x hx => by obtain ⟨y, _, rfl⟩ := List.mem_map.1 hx; exact y.isLt) A c on w (by rw [← byF_map]; exact ha)
  rw [List.length_map] at this; exact this

set_option maxRecDepth 100000 in
set_option maxHeartbeats 4000000 in
theorem bitsRun_lifted (os : Os) (started : os.Started) (H : Type) (enc : TypeId × Value → H) :
    ReturnsInHanded {} Try.checked os 8 .any (Rows.bitsRunSpec.pre6 enc Try.prog Try.f8 Rows.bitsRunRow.domain false) (Rows.bitsRunSpec.post enc Try.prog Try.f8 false true false false) := by
  refine returnsInHanded_of_change (C := Try.checked) own_knob started (by kernel_rfl) Try.func8
    (ChangeSpec.witness6 (enc := enc) (C := Try.checked) false ⟨#[], #[.int .i64 0, .slice none 0 0, .int .i64 0, .int .i64 0, .bool false], []⟩ 8 (by kernel_rfl) (by kernel_rfl) (by kernel_rfl) (by kernel_rfl)) ?_
  intro W base args ds gs before hval0 hW _ _
  have hval : ∀ (j : Nat) t v, Try.f8.params[j]? = some t → args[j]? = some v → Value.okWide Try.prog W .any base t v := hval0
  have hW' := hW
  obtain ⟨p, q, hA0, hV, _, _, _⟩ := hW'
  have hA : DataW.TrodAll enc Try.prog W 0 (fun _ => true) true Try.f8.params.toList args.toList ds p := hA0
  obtain ⟨rfl, rfl⟩ := trodVars_none hV
  clear hA0 hval0
  rw [Try.params8] at hA hval
  obtain ⟨v0, vs0, d0, ds0, p0, q0, hargs, hd0, _, tr0, r0⟩ := trodAll_cons hA
  obtain ⟨v1, vs1, d1, ds1, p1, q1, rfl, hd1, _, tr1, r1⟩ := trodAll_cons r0
  obtain ⟨v2, vs2, d2, ds2, p2, q2, rfl, hd2, _, tr2, r2⟩ := trodAll_cons r1
  obtain ⟨v3, vs3, d3, ds3, p3, q3, rfl, hd3, _, tr3, r3⟩ := trodAll_cons r2
  obtain ⟨v4, vs4, d4, ds4, p4, q4, rfl, hd4, _, tr4, r4⟩ := trodAll_cons r3
  obtain ⟨rfl, hdn, _⟩ := trodAll_nil r4
  obtain rfl : args = #[v0, v1, v2, v3, v4] := by cases args; simp_all
  have hds : ds = [d0, d1, d2, d3, d4] := by rw [hd0, hd1, hd2, hd3, hd4, hdn]
  obtain ⟨n, rfl, b0⟩ := ok_int Try.underlying3 (hval 0 3 v0 rfl rfl)
  obtain ⟨ya, yn, yk, rfl⟩ := ok_slice Try.underlying40 (hval 1 40 v1 rfl rfl)
  obtain ⟨y, hy, roy⟩ := slice_rows byF 1 (by decide) byF_len Try.underlying40 (by kernel_rfl) (fun _ _ _ h => dec_by h) tr1
  subst hy
  obtain ⟨x, rfl, b2⟩ := ok_int Try.underlying3 (hval 2 3 v2 rfl rfl)
  obtain ⟨m, rfl, b3⟩ := ok_int Try.underlying3 (hval 3 3 v3 rfl rfl)
  obtain ⟨o, rfl⟩ := ok_bool Try.underlying4 (hval 4 4 v4 rfl rfl)
  refine (run8F n x m y ya yk o W roy).mono fun e W' ⟨he, hb⟩ => ⟨_, he, post_law (tb := 4) law_laidOut ?_ rfl (by kernel_rfl) Try.underlying4 ?_ hW hb⟩
  · rw [Try.params8]; intro t ht; simp only [List.mem_cons, List.not_mem_nil, or_false] at ht; rcases ht with rfl | rfl | rfl | rfl | rfl <;> exact ⟨by kernel_rfl, of_decide_eq_true (by kernel_rfl)⟩
  · rw [hds]; rfl

/-- BitsRun: whatever the input, the law answers true, and each argument reads as it did. -/
theorem bitsRun_holds : Rows.BitsRunSaid :=
  OpenClaim.holds_of_wide 8 Try.f8 rfl rfl rfl rfl rfl rfl rfl ⟨rfl, rfl, rfl, rfl, rfl⟩ rfl rfl rfl rfl rfl (by kernel_rfl) Try.func8 (by kernel_rfl)
    (of_decide_eq_true (by kernel_rfl)) (by unfold Func.isWrapper; rw [if_neg (of_decide_eq_false (by kernel_rfl))]; exact ⟨rfl, rfl⟩)
    (fun os started H enc _ => bitsRun_lifted os started H enc)
end Go.Proofs.Ytfnadjlnnfmnmaa
