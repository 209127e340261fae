/- A struct of one-cell fields, field by field. No program in sight. -/
import Derived.Test.YtfnadjlnnfmnmaaOpen
set_option linter.unusedSimpArgs false
set_option linter.unusedVariables false
namespace Go.Proofs.Ytfnadjlnnfmnmaa
open Go.RowKit Go.ChangeShapes Go.WideShapes Go.ChangeAt Go.Deep
section
variable {H : Type} {enc : TypeId × Value → H} {P : Program} {w : World} {base : Nat} {spare : Nat → Bool} {held : Bool}
theorem dec_fields {e : TypeId} {fs : Array Field} {m : Nat} {cs : List Value} {y : DataW H × List MemPlace} (he : P.underlying e = some (.struct fs)) (hone : oneCellFields P fs = true) (hC : P.cellsOf e = fs.size)
    (h : DataW.trod enc P w base spare held m e cs = some y) :
    cs.length = fs.size ∧ ∀ (i : Nat) (f : Field), fs[i]? = some f → ∃ m' v y', cs[i]? = some v ∧ DataW.trod enc P w base spare held m' f.type [v] = some y' := by
  obtain ⟨ys, n', _, _, hlen, hyl, hf⟩ := DataW.trod_struct he h
  rw [hC] at hlen
  refine ⟨hlen, fun i f hfi => ?_⟩
  have hi : i < fs.size := (Array.getElem?_eq_some_iff.1 hfi).1
  obtain ⟨ho, hk⟩ := hone_of hone i _ hfi
  have h1 := hf i _ hfi
  have htk : (cs.drop i).take 1 = [cs[i]'(by omega)] := by rw [List.drop_eq_getElem_cons (by omega)]; rfl
  rw [ho, hk, htk, List.getElem?_eq_getElem (by omega)] at h1
  exact ⟨_, _, _, List.getElem?_eq_getElem _, h1⟩
end
end Go.Proofs.Ytfnadjlnnfmnmaa
