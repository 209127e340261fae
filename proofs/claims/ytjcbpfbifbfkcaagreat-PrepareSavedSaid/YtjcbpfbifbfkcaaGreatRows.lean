/-
  No cell of these rows narrows 'for every input' (looked for: loops, veiled, ifaces, maps, wideKeys, modest, calm, conditions, laid).
  DERIVED. THE GIVEN ROWS OF THIS SEAT. 11 by the template 'for every input the law returns true; each argument reads behind the call as it read before'; 0 by the template 'total and deterministic' (their statements: YtjcbpfbifbfkcaaGreatTotals.lean).
  GIVEN WITH THE SEED: the statements are not yours to turn. If you find one false, say at which input.
  Laid BY PROGRAM, IN A SANDBOX (cutbox-rows.mjs): the forced cells as the released guide's own fill.sh prints them over the translation 06cc5e023d123d4a… (all of the seat's roots in one cut). By AI agents, Wed Nov 11 2026. No macro, syntax, notation, axiom, sorry.
-/
import Derived.Test.YtjcbpfbifbfkcaaGreatChecked
import GoSem.Claim
import GoSem.ClaimJoined
import GoSem.ClaimMapViews
import Derived.JoinedTies
import Derived.KernelRfl
namespace Go.Proofs.YtjcbpfbifbfkcaaGreat
/- THE CELL 'sum', in the pinned program and in every row, IS THE sha256 OF THE DUMP (.gsa) THAT YtjcbpfbifbfkcaaGreatProg.lean LOADS. Nothing in Lean hashes anything: it is a label: what it is worth is what the hold of that sum in a sandbox is worth. -/
noncomputable def Tryz.pinned : Pinned := { name := "ytjcbpfbifbfkcaagreat", sum := "06cc5e023d123d4ad44711dc826cc39ba1b776c7dd6589ef0d6e586e52f31154", checked := Tryz.checked }
namespace Rows
def none {H : Type} : Left H := { results := [], args := [] }

/-- 'tumuluslaw17.ChangeOrder': WHATEVER THE INPUT: true; the input reads as it did. -/
def changeOrderSpec : ChangeSpec := { name := "changeOrder", fn := fun _ => fun
  | [d1, d2, d3] => { results := [.lit (.bool true)], args := [d1, d2, d3] }
  | _ => none }
def changeOrderRow : OpenClaim := { program := "ytjcbpfbifbfkcaagreat", sum := "06cc5e023d123d4ad44711dc826cc39ba1b776c7dd6589ef0d6e586e52f31154", func := "tumulus/tumuluslaw17.ChangeOrder", spec := "changeOrder", inPlace := ["slices.overlaps[tumulus/api.Vote]", "slices.overlaps[tumulus/api.Block]"], unfollowed := true, recurses := true, apart := false }
def ChangeOrderSaid : Prop := changeOrderRow.holds Tryz.pinned (OpenSpec.ofChange changeOrderSpec)

/-- ITS FALSE NEIGHBOUR: 'it returns false'. Refute it at one input. -/
def changeOrderWrong : ChangeSpec := { name := "changeOrder", fn := fun _ => fun
  | [d1, d2, d3] => { results := [.lit (.bool false)], args := [d1, d2, d3] }
  | _ => none }
def ChangeOrderWrongFalsely : Prop := changeOrderRow.holds Tryz.pinned (OpenSpec.ofChange changeOrderWrong)

/-- 'tumuluslaw15.OplogRight': WHATEVER THE INPUT: true; the input reads as it did. -/
def oplogRightSpec : ChangeSpec := { name := "oplogRight", fn := fun _ => fun
  | [d1, d2] => { results := [.lit (.bool true)], args := [d1, d2] }
  | _ => none }
def oplogRightRow : OpenClaim := { program := "ytjcbpfbifbfkcaagreat", sum := "06cc5e023d123d4ad44711dc826cc39ba1b776c7dd6589ef0d6e586e52f31154", func := "tumulus/tumuluslaw15.OplogRight", spec := "oplogRight", inPlace := ["slices.overlaps[tumulus/api.Block]"], unfollowed := true, recurses := true, apart := false }
def OplogRightSaid : Prop := oplogRightRow.holds Tryz.pinned (OpenSpec.ofChange oplogRightSpec)

/-- ITS FALSE NEIGHBOUR: 'it returns false'. Refute it at one input. -/
def oplogRightWrong : ChangeSpec := { name := "oplogRight", fn := fun _ => fun
  | [d1, d2] => { results := [.lit (.bool false)], args := [d1, d2] }
  | _ => none }
def OplogRightWrongFalsely : Prop := oplogRightRow.holds Tryz.pinned (OpenSpec.ofChange oplogRightWrong)

/-- 'tumuluslaw16.PrepareSaved': WHATEVER THE INPUT: true; the input reads as it did. -/
def prepareSavedSpec : ChangeSpec := { name := "prepareSaved", fn := fun _ => fun
  | [d1, d2, d3] => { results := [.lit (.bool true)], args := [d1, d2, d3] }
  | _ => none }
def prepareSavedRow : OpenClaim := { program := "ytjcbpfbifbfkcaagreat", sum := "06cc5e023d123d4ad44711dc826cc39ba1b776c7dd6589ef0d6e586e52f31154", func := "tumulus/tumuluslaw16.PrepareSaved", spec := "prepareSaved", inPlace := ["slices.overlaps[tumulus/api.Block]"], unfollowed := true, recurses := true, apart := false }
def PrepareSavedSaid : Prop := prepareSavedRow.holds Tryz.pinned (OpenSpec.ofChange prepareSavedSpec)

/-- ITS FALSE NEIGHBOUR: 'it returns false'. Refute it at one input. -/
def prepareSavedWrong : ChangeSpec := { name := "prepareSaved", fn := fun _ => fun
  | [d1, d2, d3] => { results := [.lit (.bool false)], args := [d1, d2, d3] }
  | _ => none }
def PrepareSavedWrongFalsely : Prop := prepareSavedRow.holds Tryz.pinned (OpenSpec.ofChange prepareSavedWrong)

/-- 'tumuluslaw17.ChangeSaved': WHATEVER THE INPUT: true; the input reads as it did. -/
def changeSavedSpec : ChangeSpec := { name := "changeSaved", fn := fun _ => fun
  | [d1, d2, d3, d4, d5] => { results := [.lit (.bool true)], args := [d1, d2, d3, d4, d5] }
  | _ => none }
def changeSavedRow : OpenClaim := { program := "ytjcbpfbifbfkcaagreat", sum := "06cc5e023d123d4ad44711dc826cc39ba1b776c7dd6589ef0d6e586e52f31154", func := "tumulus/tumuluslaw17.ChangeSaved", spec := "changeSaved", inPlace := ["slices.overlaps[tumulus/api.Block]"], unfollowed := true, recurses := true, apart := false }
def ChangeSavedSaid : Prop := changeSavedRow.holds Tryz.pinned (OpenSpec.ofChange changeSavedSpec)

/-- ITS FALSE NEIGHBOUR: 'it returns false'. Refute it at one input. -/
def changeSavedWrong : ChangeSpec := { name := "changeSaved", fn := fun _ => fun
  | [d1, d2, d3, d4, d5] => { results := [.lit (.bool false)], args := [d1, d2, d3, d4, d5] }
  | _ => none }
def ChangeSavedWrongFalsely : Prop := changeSavedRow.holds Tryz.pinned (OpenSpec.ofChange changeSavedWrong)

/-- 'tumuluslaw17.ChangeKeeps': WHATEVER THE INPUT: true; the input reads as it did. -/
def changeKeepsSpec : ChangeSpec := { name := "changeKeeps", fn := fun _ => fun
  | [d1, d2, d3, d4, d5, d6, d7] => { results := [.lit (.bool true)], args := [d1, d2, d3, d4, d5, d6, d7] }
  | _ => none }
def changeKeepsRow : OpenClaim := { program := "ytjcbpfbifbfkcaagreat", sum := "06cc5e023d123d4ad44711dc826cc39ba1b776c7dd6589ef0d6e586e52f31154", func := "tumulus/tumuluslaw17.ChangeKeeps", spec := "changeKeeps", inPlace := ["slices.overlaps[tumulus/api.Vote]", "slices.overlaps[tumulus/api.Block]"], unfollowed := true, recurses := true, apart := false }
def ChangeKeepsSaid : Prop := changeKeepsRow.holds Tryz.pinned (OpenSpec.ofChange changeKeepsSpec)

/-- ITS FALSE NEIGHBOUR: 'it returns false'. Refute it at one input. -/
def changeKeepsWrong : ChangeSpec := { name := "changeKeeps", fn := fun _ => fun
  | [d1, d2, d3, d4, d5, d6, d7] => { results := [.lit (.bool false)], args := [d1, d2, d3, d4, d5, d6, d7] }
  | _ => none }
def ChangeKeepsWrongFalsely : Prop := changeKeepsRow.holds Tryz.pinned (OpenSpec.ofChange changeKeepsWrong)

/-- 'tumuluslaw06.ImageApart': WHATEVER THE INPUT: true; the input reads as it did. -/
def imageApartSpec : ChangeSpec := { name := "imageApart", fn := fun _ => fun
  | [d1, d2, d3, d4] => { results := [.lit (.bool true)], args := [d1, d2, d3, d4] }
  | _ => none }
def imageApartRow : OpenClaim := { program := "ytjcbpfbifbfkcaagreat", sum := "06cc5e023d123d4ad44711dc826cc39ba1b776c7dd6589ef0d6e586e52f31154", func := "tumulus/tumuluslaw06.ImageApart", spec := "imageApart", inPlace := ["slices.overlaps[tumulus/api.Block]"], unfollowed := true, recurses := true, apart := false }
def ImageApartSaid : Prop := imageApartRow.holds Tryz.pinned (OpenSpec.ofChange imageApartSpec)

/-- ITS FALSE NEIGHBOUR: 'it returns false'. Refute it at one input. -/
def imageApartWrong : ChangeSpec := { name := "imageApart", fn := fun _ => fun
  | [d1, d2, d3, d4] => { results := [.lit (.bool false)], args := [d1, d2, d3, d4] }
  | _ => none }
def ImageApartWrongFalsely : Prop := imageApartRow.holds Tryz.pinned (OpenSpec.ofChange imageApartWrong)

/-- 'tumuluslaw15.OplogStates': WHATEVER THE INPUT: true; the input reads as it did. -/
def oplogStatesSpec : ChangeSpec := { name := "oplogStates", fn := fun _ => fun
  | [d1, d2] => { results := [.lit (.bool true)], args := [d1, d2] }
  | _ => none }
def oplogStatesRow : OpenClaim := { program := "ytjcbpfbifbfkcaagreat", sum := "06cc5e023d123d4ad44711dc826cc39ba1b776c7dd6589ef0d6e586e52f31154", func := "tumulus/tumuluslaw15.OplogStates", spec := "oplogStates", inPlace := ["slices.overlaps[tumulus/api.Block]", "slices.overlaps[tumulus/api.Row]"], unfollowed := true, recurses := true, apart := false }
def OplogStatesSaid : Prop := oplogStatesRow.holds Tryz.pinned (OpenSpec.ofChange oplogStatesSpec)

/-- ITS FALSE NEIGHBOUR: 'it returns false'. Refute it at one input. -/
def oplogStatesWrong : ChangeSpec := { name := "oplogStates", fn := fun _ => fun
  | [d1, d2] => { results := [.lit (.bool false)], args := [d1, d2] }
  | _ => none }
def OplogStatesWrongFalsely : Prop := oplogStatesRow.holds Tryz.pinned (OpenSpec.ofChange oplogStatesWrong)

/-- 'tumuluslaw15.OplogCuts': WHATEVER THE INPUT: true; the input reads as it did. -/
def oplogCutsSpec : ChangeSpec := { name := "oplogCuts", fn := fun _ => fun
  | [d1, d2, d3] => { results := [.lit (.bool true)], args := [d1, d2, d3] }
  | _ => none }
def oplogCutsRow : OpenClaim := { program := "ytjcbpfbifbfkcaagreat", sum := "06cc5e023d123d4ad44711dc826cc39ba1b776c7dd6589ef0d6e586e52f31154", func := "tumulus/tumuluslaw15.OplogCuts", spec := "oplogCuts", inPlace := ["slices.overlaps[tumulus/api.Block]", "slices.overlaps[tumulus/api.Row]"], unfollowed := true, recurses := true, apart := false }
def OplogCutsSaid : Prop := oplogCutsRow.holds Tryz.pinned (OpenSpec.ofChange oplogCutsSpec)

/-- ITS FALSE NEIGHBOUR: 'it returns false'. Refute it at one input. -/
def oplogCutsWrong : ChangeSpec := { name := "oplogCuts", fn := fun _ => fun
  | [d1, d2, d3] => { results := [.lit (.bool false)], args := [d1, d2, d3] }
  | _ => none }
def OplogCutsWrongFalsely : Prop := oplogCutsRow.holds Tryz.pinned (OpenSpec.ofChange oplogCutsWrong)

/-- 'tumuluslaw15.OplogSteps': WHATEVER THE INPUT: true; the input reads as it did. -/
def oplogStepsSpec : ChangeSpec := { name := "oplogSteps", fn := fun _ => fun
  | [d1, d2] => { results := [.lit (.bool true)], args := [d1, d2] }
  | _ => none }
def oplogStepsRow : OpenClaim := { program := "ytjcbpfbifbfkcaagreat", sum := "06cc5e023d123d4ad44711dc826cc39ba1b776c7dd6589ef0d6e586e52f31154", func := "tumulus/tumuluslaw15.OplogSteps", spec := "oplogSteps", inPlace := ["slices.overlaps[tumulus/api.Block]", "slices.overlaps[tumulus/api.Row]"], unfollowed := true, recurses := true, apart := false }
def OplogStepsSaid : Prop := oplogStepsRow.holds Tryz.pinned (OpenSpec.ofChange oplogStepsSpec)

/-- ITS FALSE NEIGHBOUR: 'it returns false'. Refute it at one input. -/
def oplogStepsWrong : ChangeSpec := { name := "oplogSteps", fn := fun _ => fun
  | [d1, d2] => { results := [.lit (.bool false)], args := [d1, d2] }
  | _ => none }
def OplogStepsWrongFalsely : Prop := oplogStepsRow.holds Tryz.pinned (OpenSpec.ofChange oplogStepsWrong)

/-- 'tumuluslaw16.PrepareTwice': WHATEVER THE INPUT: true; the input reads as it did. -/
def prepareTwiceSpec : ChangeSpec := { name := "prepareTwice", fn := fun _ => fun
  | [d1, d2, d3, d4] => { results := [.lit (.bool true)], args := [d1, d2, d3, d4] }
  | _ => none }
def prepareTwiceRow : OpenClaim := { program := "ytjcbpfbifbfkcaagreat", sum := "06cc5e023d123d4ad44711dc826cc39ba1b776c7dd6589ef0d6e586e52f31154", func := "tumulus/tumuluslaw16.PrepareTwice", spec := "prepareTwice", inPlace := ["slices.overlaps[tumulus/api.Block]", "slices.overlaps[tumulus/api.Row]"], unfollowed := true, recurses := true, apart := false }
def PrepareTwiceSaid : Prop := prepareTwiceRow.holds Tryz.pinned (OpenSpec.ofChange prepareTwiceSpec)

/-- ITS FALSE NEIGHBOUR: 'it returns false'. Refute it at one input. -/
def prepareTwiceWrong : ChangeSpec := { name := "prepareTwice", fn := fun _ => fun
  | [d1, d2, d3, d4] => { results := [.lit (.bool false)], args := [d1, d2, d3, d4] }
  | _ => none }
def PrepareTwiceWrongFalsely : Prop := prepareTwiceRow.holds Tryz.pinned (OpenSpec.ofChange prepareTwiceWrong)

/-- 'tumuluslaw16.PrepareParts': WHATEVER THE INPUT: true; the input reads as it did. -/
def preparePartsSpec : ChangeSpec := { name := "prepareParts", fn := fun _ => fun
  | [d1, d2, d3, d4, d5] => { results := [.lit (.bool true)], args := [d1, d2, d3, d4, d5] }
  | _ => none }
def preparePartsRow : OpenClaim := { program := "ytjcbpfbifbfkcaagreat", sum := "06cc5e023d123d4ad44711dc826cc39ba1b776c7dd6589ef0d6e586e52f31154", func := "tumulus/tumuluslaw16.PrepareParts", spec := "prepareParts", inPlace := ["slices.overlaps[tumulus/api.Block]", "slices.overlaps[tumulus/api.Row]"], unfollowed := true, recurses := true, apart := false }
def PreparePartsSaid : Prop := preparePartsRow.holds Tryz.pinned (OpenSpec.ofChange preparePartsSpec)

/-- ITS FALSE NEIGHBOUR: 'it returns false'. Refute it at one input. -/
def preparePartsWrong : ChangeSpec := { name := "prepareParts", fn := fun _ => fun
  | [d1, d2, d3, d4, d5] => { results := [.lit (.bool false)], args := [d1, d2, d3, d4, d5] }
  | _ => none }
def PreparePartsWrongFalsely : Prop := preparePartsRow.holds Tryz.pinned (OpenSpec.ofChange preparePartsWrong)

/- THE SECOND FORM. 'bulk': how many values and letters a reading holds, each counted each time it is reached (what is shared counts as often as it is met; a slice's spare places count too). A statement '..UptoSaid' is the law's where the arguments, and the package variables that the reading takes, are together of bulk at most 1048576: NARROWER than '..Said'. Prove '..Said' where nothing that the law and all that it calls make is longer than what came in: it says more and counts as full. Else prove '..UptoSaid'. A law counts once. -/
mutual
def uptoBulk {H : Type} : DataW H → Nat
  | .lit (.string bytes) => bytes.length + 1
  | .lit _ => 1
  | .nil => 1
  | .ptr d => uptoBulk d + 1
  | .slice elems spare => uptoBulkAll elems + uptoBulkAll spare + 1
  | .agg parts => uptoBulkAll parts + 1
  | .iface _ d => uptoBulk d + 1
  | .map entries => uptoBulkEntries entries + 1
  | .held _ => 1
def uptoBulkAll {H : Type} : List (DataW H) → Nat
  | [] => 0
  | d :: r => uptoBulk d + uptoBulkAll r
def uptoBulkEntries {H : Type} : List (Lit × DataW H) → Nat
  | [] => 0
  | x :: r => uptoBulkEntry x + uptoBulkEntries r
def uptoBulkEntry {H : Type} : Lit × DataW H → Nat
  | (.string bytes, d) => bytes.length + uptoBulk d + 1
  | (_, d) => uptoBulk d + 1
 end
def uptoSmall : (H : Type) → List (DataW H) → Bool := fun _ ds => decide (uptoBulkAll ds ≤ 1048576)
def OpenSpec.upto (s : _root_.Go.ChangeSpec) : _root_.Go.OpenSpec := { _root_.Go.OpenSpec.ofChange s with cond := some uptoSmall }

/-- 'tumuluslaw17.ChangeOrder', WHERE WHAT IT READS IS OF BULK AT MOST 1048576: true; the input reads as it did. -/
def changeOrderUptoRow : OpenClaim := { program := "ytjcbpfbifbfkcaagreat", sum := "06cc5e023d123d4ad44711dc826cc39ba1b776c7dd6589ef0d6e586e52f31154", func := "tumulus/tumuluslaw17.ChangeOrder", spec := "changeOrder", inPlace := ["slices.overlaps[tumulus/api.Vote]", "slices.overlaps[tumulus/api.Block]"], unfollowed := true, recurses := true, apart := false, narrowed := true }
def ChangeOrderUptoSaid : Prop := changeOrderUptoRow.holds Tryz.pinned (OpenSpec.upto changeOrderSpec)

/-- 'tumuluslaw15.OplogRight', WHERE WHAT IT READS IS OF BULK AT MOST 1048576: true; the input reads as it did. -/
def oplogRightUptoRow : OpenClaim := { program := "ytjcbpfbifbfkcaagreat", sum := "06cc5e023d123d4ad44711dc826cc39ba1b776c7dd6589ef0d6e586e52f31154", func := "tumulus/tumuluslaw15.OplogRight", spec := "oplogRight", inPlace := ["slices.overlaps[tumulus/api.Block]"], unfollowed := true, recurses := true, apart := false, narrowed := true }
def OplogRightUptoSaid : Prop := oplogRightUptoRow.holds Tryz.pinned (OpenSpec.upto oplogRightSpec)

/-- 'tumuluslaw16.PrepareSaved', WHERE WHAT IT READS IS OF BULK AT MOST 1048576: true; the input reads as it did. -/
def prepareSavedUptoRow : OpenClaim := { program := "ytjcbpfbifbfkcaagreat", sum := "06cc5e023d123d4ad44711dc826cc39ba1b776c7dd6589ef0d6e586e52f31154", func := "tumulus/tumuluslaw16.PrepareSaved", spec := "prepareSaved", inPlace := ["slices.overlaps[tumulus/api.Block]"], unfollowed := true, recurses := true, apart := false, narrowed := true }
def PrepareSavedUptoSaid : Prop := prepareSavedUptoRow.holds Tryz.pinned (OpenSpec.upto prepareSavedSpec)

/-- 'tumuluslaw17.ChangeSaved', WHERE WHAT IT READS IS OF BULK AT MOST 1048576: true; the input reads as it did. -/
def changeSavedUptoRow : OpenClaim := { program := "ytjcbpfbifbfkcaagreat", sum := "06cc5e023d123d4ad44711dc826cc39ba1b776c7dd6589ef0d6e586e52f31154", func := "tumulus/tumuluslaw17.ChangeSaved", spec := "changeSaved", inPlace := ["slices.overlaps[tumulus/api.Block]"], unfollowed := true, recurses := true, apart := false, narrowed := true }
def ChangeSavedUptoSaid : Prop := changeSavedUptoRow.holds Tryz.pinned (OpenSpec.upto changeSavedSpec)

/-- 'tumuluslaw17.ChangeKeeps', WHERE WHAT IT READS IS OF BULK AT MOST 1048576: true; the input reads as it did. -/
def changeKeepsUptoRow : OpenClaim := { program := "ytjcbpfbifbfkcaagreat", sum := "06cc5e023d123d4ad44711dc826cc39ba1b776c7dd6589ef0d6e586e52f31154", func := "tumulus/tumuluslaw17.ChangeKeeps", spec := "changeKeeps", inPlace := ["slices.overlaps[tumulus/api.Vote]", "slices.overlaps[tumulus/api.Block]"], unfollowed := true, recurses := true, apart := false, narrowed := true }
def ChangeKeepsUptoSaid : Prop := changeKeepsUptoRow.holds Tryz.pinned (OpenSpec.upto changeKeepsSpec)

/-- 'tumuluslaw06.ImageApart', WHERE WHAT IT READS IS OF BULK AT MOST 1048576: true; the input reads as it did. -/
def imageApartUptoRow : OpenClaim := { program := "ytjcbpfbifbfkcaagreat", sum := "06cc5e023d123d4ad44711dc826cc39ba1b776c7dd6589ef0d6e586e52f31154", func := "tumulus/tumuluslaw06.ImageApart", spec := "imageApart", inPlace := ["slices.overlaps[tumulus/api.Block]"], unfollowed := true, recurses := true, apart := false, narrowed := true }
def ImageApartUptoSaid : Prop := imageApartUptoRow.holds Tryz.pinned (OpenSpec.upto imageApartSpec)

/-- 'tumuluslaw15.OplogStates', WHERE WHAT IT READS IS OF BULK AT MOST 1048576: true; the input reads as it did. -/
def oplogStatesUptoRow : OpenClaim := { program := "ytjcbpfbifbfkcaagreat", sum := "06cc5e023d123d4ad44711dc826cc39ba1b776c7dd6589ef0d6e586e52f31154", func := "tumulus/tumuluslaw15.OplogStates", spec := "oplogStates", inPlace := ["slices.overlaps[tumulus/api.Block]", "slices.overlaps[tumulus/api.Row]"], unfollowed := true, recurses := true, apart := false, narrowed := true }
def OplogStatesUptoSaid : Prop := oplogStatesUptoRow.holds Tryz.pinned (OpenSpec.upto oplogStatesSpec)

/-- 'tumuluslaw15.OplogCuts', WHERE WHAT IT READS IS OF BULK AT MOST 1048576: true; the input reads as it did. -/
def oplogCutsUptoRow : OpenClaim := { program := "ytjcbpfbifbfkcaagreat", sum := "06cc5e023d123d4ad44711dc826cc39ba1b776c7dd6589ef0d6e586e52f31154", func := "tumulus/tumuluslaw15.OplogCuts", spec := "oplogCuts", inPlace := ["slices.overlaps[tumulus/api.Block]", "slices.overlaps[tumulus/api.Row]"], unfollowed := true, recurses := true, apart := false, narrowed := true }
def OplogCutsUptoSaid : Prop := oplogCutsUptoRow.holds Tryz.pinned (OpenSpec.upto oplogCutsSpec)

/-- 'tumuluslaw15.OplogSteps', WHERE WHAT IT READS IS OF BULK AT MOST 1048576: true; the input reads as it did. -/
def oplogStepsUptoRow : OpenClaim := { program := "ytjcbpfbifbfkcaagreat", sum := "06cc5e023d123d4ad44711dc826cc39ba1b776c7dd6589ef0d6e586e52f31154", func := "tumulus/tumuluslaw15.OplogSteps", spec := "oplogSteps", inPlace := ["slices.overlaps[tumulus/api.Block]", "slices.overlaps[tumulus/api.Row]"], unfollowed := true, recurses := true, apart := false, narrowed := true }
def OplogStepsUptoSaid : Prop := oplogStepsUptoRow.holds Tryz.pinned (OpenSpec.upto oplogStepsSpec)

/-- 'tumuluslaw16.PrepareTwice', WHERE WHAT IT READS IS OF BULK AT MOST 1048576: true; the input reads as it did. -/
def prepareTwiceUptoRow : OpenClaim := { program := "ytjcbpfbifbfkcaagreat", sum := "06cc5e023d123d4ad44711dc826cc39ba1b776c7dd6589ef0d6e586e52f31154", func := "tumulus/tumuluslaw16.PrepareTwice", spec := "prepareTwice", inPlace := ["slices.overlaps[tumulus/api.Block]", "slices.overlaps[tumulus/api.Row]"], unfollowed := true, recurses := true, apart := false, narrowed := true }
def PrepareTwiceUptoSaid : Prop := prepareTwiceUptoRow.holds Tryz.pinned (OpenSpec.upto prepareTwiceSpec)

/-- 'tumuluslaw16.PrepareParts', WHERE WHAT IT READS IS OF BULK AT MOST 1048576: true; the input reads as it did. -/
def preparePartsUptoRow : OpenClaim := { program := "ytjcbpfbifbfkcaagreat", sum := "06cc5e023d123d4ad44711dc826cc39ba1b776c7dd6589ef0d6e586e52f31154", func := "tumulus/tumuluslaw16.PrepareParts", spec := "prepareParts", inPlace := ["slices.overlaps[tumulus/api.Block]", "slices.overlaps[tumulus/api.Row]"], unfollowed := true, recurses := true, apart := false, narrowed := true }
def PreparePartsUptoSaid : Prop := preparePartsUptoRow.holds Tryz.pinned (OpenSpec.upto preparePartsSpec)

end Rows
end Go.Proofs.YtjcbpfbifbfkcaaGreat
