import Derived.Test.YtpgljcapgakanaaGreatGaQA
import Derived.Test.YtpgljcapgakanaaGreatGaHDW
import Derived.Test.YtpgljcapgakanaaGreatGaHOP
import Derived.Test.YtpgljcapgakanaaGreatGaXG
/-
  Proved: the law ImageGoes (tumuluslaw06) answers true for every input and leaves its arguments as they read; no condition.
-/
set_option linter.unusedSimpArgs false
set_option linter.unusedVariables false
namespace Go.Proofs.YtpgljcapgakanaaGreat
open Go.RowKit Go.ChangeShapes Go.WideShapes Go.ChangeAt
theorem own_knob : ownKnob Tryz.prog.godebug = none := by kernel_rfl
theorem law_laidOut : laidOutB Tryz.prog = true := by kernel_rfl
theorem celltypes26 : Tryz.prog.cellTypes Tryz.prog.depth 26 = some [3, 22, 3, 3, 3, 3, 3, 24] := by kernel_rfl
theorem cellsof26 : Tryz.prog.cellsOf 26 = [3, 22, 3, 3, 3, 3, 3, 24].length := by kernel_rfl
set_option maxRecDepth 100000 in
set_option maxHeartbeats 4000000 in
theorem imageGoes_lifted (os : Os) (started : os.Started) (H : Type) (enc : TypeId × Value → H) :
    ReturnsInHanded {} Tryz.checked os 10 .any (Rows.imageGoesSpec.pre6 enc Tryz.prog Tryz.f10 Rows.imageGoesRow.domain false) (Rows.imageGoesSpec.post enc Tryz.prog Tryz.f10 false true false false) := by
  refine returnsInHanded_of_change (C := Tryz.checked) own_knob started (by kernel_rfl) Tryz.func10
    (ChangeSpec.witness6 (enc := enc) (C := Tryz.checked) false ⟨#[], #[.agg #[.int .i64 0, .slice none 0 0, .int .i64 0, .int .i64 0, .int .i64 0, .int .i64 0, .int .i64 0, .slice none 0 0], .slice none 0 0], []⟩ 8 (by kernel_rfl) (by kernel_rfl) (by kernel_rfl) (by kernel_rfl)) ?_
  intro W base args ds gs before hval0 hW _ _
  have hval : ∀ (j : Nat) t v, Tryz.f10.params[j]? = some t → args[j]? = some v → Value.okWide Tryz.prog W .any base t v := hval0
  have hW' := hW
  obtain ⟨p, q, hA0, hV, _, _, _⟩ := hW'
  have hA : DataW.TrodAll enc Tryz.prog W 0 (fun _ => true) true Tryz.f10.params.toList args.toList ds p := hA0
  obtain ⟨rfl, rfl⟩ := trodVars_none hV
  clear hA0 hval0
  rw [Tryz.params10] at hA hval
  obtain ⟨v0, vs0, d0, ds0, p0, q0, hargs, hd0, _, tr0, r0⟩ := trodAll_cons hA
  obtain ⟨v1, vs1, d1, ds1, p1, q1, rfl, hd1, _, tr1, r1⟩ := trodAll_cons r0
  obtain ⟨rfl, hdn, _⟩ := trodAll_nil r1
  obtain rfl : args = #[v0, v1] := by cases args; simp_all
  have hds : ds = [d0, d1] := by rw [hd0, hd1, hdn]
  obtain ⟨cs0, rfl, _⟩ := open_agg Tryz.underlying26 celltypes26 cellsof26 (hval 0 26 v0 rfl rfl)
  obtain ⟨fu0, ht0⟩ := tr0
  obtain ⟨h, rfl, hh⟩ := reads_heapW (Reads.of (by simpa [Value.cells] using ht0))
  obtain ⟨la, ln, lk, rfl⟩ := ok_slice Tryz.underlying83 (hval 1 83 v1 rfl rfl)
  obtain ⟨fu1, ht1⟩ := tr1
  obtain ⟨la2, l, lc, hlv, hl⟩ := reads_opsD (Reads.of (by simpa [Value.cells] using ht1))
  injection hlv with hl1 hl2 hl3
  subst hl1 hl2 hl3
  refine (law10 h _ l _ W hh hl).mono fun e W' ⟨he, hb⟩ => ⟨_, he, post_law (tb := 4) law_laidOut ?_ rfl (by kernel_rfl) Tryz.underlying4 ?_ hW hb⟩
  · rw [Tryz.params10]; intro t ht; simp only [List.mem_cons, List.not_mem_nil, or_false] at ht; rcases ht with rfl | rfl <;> exact ⟨by kernel_rfl, of_decide_eq_true (by kernel_rfl)⟩
  · rw [hds]; rfl
theorem imageGoes_holds : Rows.ImageGoesSaid :=
  OpenClaim.holds_of_wide 10 Tryz.f10 rfl rfl rfl rfl rfl rfl rfl ⟨rfl, rfl, rfl, rfl, rfl⟩ rfl rfl rfl rfl rfl (by kernel_rfl) Tryz.func10 (by kernel_rfl)
    (of_decide_eq_true (by kernel_rfl)) (by unfold Func.isWrapper; rw [if_neg (of_decide_eq_false (by kernel_rfl))]; exact ⟨rfl, rfl⟩)
    (fun os started H enc _ => imageGoes_lifted os started H enc)
end Go.Proofs.YtpgljcapgakanaaGreat
