/-
  No cell of these rows narrows 'for every input' (looked for: loops, veiled, ifaces, maps, wideKeys, modest, calm, conditions, laid).
  DERIVED. THE GIVEN ROWS OF THIS SEAT. 5 by the template 'for every input the law returns true; each argument reads behind the call as it read before'; 0 by the template 'total and deterministic' (their statements: YtppdjlgjcdmiaaaGreatTotals.lean).
  GIVEN WITH THE SEED: the statements are not yours to turn. If you find one false, say at which input.
  Laid BY PROGRAM, IN A SANDBOX (cutbox-rows.mjs): the forced cells as the released guide's own fill.sh prints them over the translation 24f32edd015c7e1f… (all of the seat's roots in one cut). By AI agents, Wed Nov 11 2026. No macro, syntax, notation, axiom, sorry.
-/
import Derived.Test.YtppdjlgjcdmiaaaGreatChecked
import GoSem.Claim
import GoSem.ClaimJoined
import GoSem.ClaimMapViews
import Derived.JoinedTies
import Derived.KernelRfl
namespace Go.Proofs.YtppdjlgjcdmiaaaGreat
/- THE CELL 'sum', in the pinned program and in every row, IS THE sha256 OF THE DUMP (.gsa) THAT YtppdjlgjcdmiaaaGreatProg.lean LOADS. Nothing in Lean hashes anything: it is a label: what it is worth is what the hold of that sum in a sandbox is worth. -/
noncomputable def Tryz.pinned : Pinned := { name := "ytppdjlgjcdmiaaagreat", sum := "24f32edd015c7e1fa5f13db173cc3b0e3b51bf8a7356f12c6690b746fb89f550", checked := Tryz.checked }
namespace Rows
def none {H : Type} : Left H := { results := [], args := [] }

/-- 'tumuluslaw05.HeapDoes': WHATEVER THE INPUT: true; the input reads as it did. -/
def heapDoesSpec : ChangeSpec := { name := "heapDoes", fn := fun _ => fun
  | [d1, d2] => { results := [.lit (.bool true)], args := [d1, d2] }
  | _ => none }
def heapDoesRow : OpenClaim := { program := "ytppdjlgjcdmiaaagreat", sum := "24f32edd015c7e1fa5f13db173cc3b0e3b51bf8a7356f12c6690b746fb89f550", func := "tumulus/tumuluslaw05.HeapDoes", spec := "heapDoes", inPlace := ["slices.overlaps[tumulus/api.Block]"], unfollowed := true, recurses := true, apart := false }
def HeapDoesSaid : Prop := heapDoesRow.holds Tryz.pinned (OpenSpec.ofChange heapDoesSpec)

/-- ITS FALSE NEIGHBOUR: 'it returns false'. Refute it at one input. -/
def heapDoesWrong : ChangeSpec := { name := "heapDoes", fn := fun _ => fun
  | [d1, d2] => { results := [.lit (.bool false)], args := [d1, d2] }
  | _ => none }
def HeapDoesWrongFalsely : Prop := heapDoesRow.holds Tryz.pinned (OpenSpec.ofChange heapDoesWrong)

/-- 'tumuluslaw14.TableApplies': WHATEVER THE INPUT: true; the input reads as it did. -/
def tableAppliesSpec : ChangeSpec := { name := "tableApplies", fn := fun _ => fun
  | [d1, d2] => { results := [.lit (.bool true)], args := [d1, d2] }
  | _ => none }
def tableAppliesRow : OpenClaim := { program := "ytppdjlgjcdmiaaagreat", sum := "24f32edd015c7e1fa5f13db173cc3b0e3b51bf8a7356f12c6690b746fb89f550", func := "tumulus/tumuluslaw14.TableApplies", spec := "tableApplies", inPlace := ["slices.overlaps[tumulus/api.Block]", "slices.overlaps[tumulus/api.Row]"], unfollowed := true, recurses := true, apart := false }
def TableAppliesSaid : Prop := tableAppliesRow.holds Tryz.pinned (OpenSpec.ofChange tableAppliesSpec)

/-- ITS FALSE NEIGHBOUR: 'it returns false'. Refute it at one input. -/
def tableAppliesWrong : ChangeSpec := { name := "tableApplies", fn := fun _ => fun
  | [d1, d2] => { results := [.lit (.bool false)], args := [d1, d2] }
  | _ => none }
def TableAppliesWrongFalsely : Prop := tableAppliesRow.holds Tryz.pinned (OpenSpec.ofChange tableAppliesWrong)

/-- 'tumuluslaw14.TableOnce': WHATEVER THE INPUT: true; the input reads as it did. -/
def tableOnceSpec : ChangeSpec := { name := "tableOnce", fn := fun _ => fun
  | [d1, d2, d3, d4, d5] => { results := [.lit (.bool true)], args := [d1, d2, d3, d4, d5] }
  | _ => none }
def tableOnceRow : OpenClaim := { program := "ytppdjlgjcdmiaaagreat", sum := "24f32edd015c7e1fa5f13db173cc3b0e3b51bf8a7356f12c6690b746fb89f550", func := "tumulus/tumuluslaw14.TableOnce", spec := "tableOnce", inPlace := ["slices.overlaps[tumulus/api.Block]", "slices.overlaps[tumulus/api.Row]"], unfollowed := true, recurses := true, apart := false }
def TableOnceSaid : Prop := tableOnceRow.holds Tryz.pinned (OpenSpec.ofChange tableOnceSpec)

/-- ITS FALSE NEIGHBOUR: 'it returns false'. Refute it at one input. -/
def tableOnceWrong : ChangeSpec := { name := "tableOnce", fn := fun _ => fun
  | [d1, d2, d3, d4, d5] => { results := [.lit (.bool false)], args := [d1, d2, d3, d4, d5] }
  | _ => none }
def TableOnceWrongFalsely : Prop := tableOnceRow.holds Tryz.pinned (OpenSpec.ofChange tableOnceWrong)

/-- 'tumuluslaw14.TableHeap': WHATEVER THE INPUT: true; the input reads as it did. -/
def tableHeapSpec : ChangeSpec := { name := "tableHeap", fn := fun _ => fun
  | [d1, d2, d3] => { results := [.lit (.bool true)], args := [d1, d2, d3] }
  | _ => none }
def tableHeapRow : OpenClaim := { program := "ytppdjlgjcdmiaaagreat", sum := "24f32edd015c7e1fa5f13db173cc3b0e3b51bf8a7356f12c6690b746fb89f550", func := "tumulus/tumuluslaw14.TableHeap", spec := "tableHeap", inPlace := ["slices.overlaps[tumulus/api.Block]", "slices.overlaps[tumulus/api.Row]"], unfollowed := true, recurses := true, apart := false }
def TableHeapSaid : Prop := tableHeapRow.holds Tryz.pinned (OpenSpec.ofChange tableHeapSpec)

/-- ITS FALSE NEIGHBOUR: 'it returns false'. Refute it at one input. -/
def tableHeapWrong : ChangeSpec := { name := "tableHeap", fn := fun _ => fun
  | [d1, d2, d3] => { results := [.lit (.bool false)], args := [d1, d2, d3] }
  | _ => none }
def TableHeapWrongFalsely : Prop := tableHeapRow.holds Tryz.pinned (OpenSpec.ofChange tableHeapWrong)

/-- 'tumuluslaw14.TableMany': WHATEVER THE INPUT: true; the input reads as it did. -/
def tableManySpec : ChangeSpec := { name := "tableMany", fn := fun _ => fun
  | [d1, d2] => { results := [.lit (.bool true)], args := [d1, d2] }
  | _ => none }
def tableManyRow : OpenClaim := { program := "ytppdjlgjcdmiaaagreat", sum := "24f32edd015c7e1fa5f13db173cc3b0e3b51bf8a7356f12c6690b746fb89f550", func := "tumulus/tumuluslaw14.TableMany", spec := "tableMany", inPlace := ["slices.overlaps[tumulus/api.Block]", "slices.overlaps[tumulus/api.Row]"], unfollowed := true, recurses := true, apart := false }
def TableManySaid : Prop := tableManyRow.holds Tryz.pinned (OpenSpec.ofChange tableManySpec)

/-- ITS FALSE NEIGHBOUR: 'it returns false'. Refute it at one input. -/
def tableManyWrong : ChangeSpec := { name := "tableMany", fn := fun _ => fun
  | [d1, d2] => { results := [.lit (.bool false)], args := [d1, d2] }
  | _ => none }
def TableManyWrongFalsely : Prop := tableManyRow.holds Tryz.pinned (OpenSpec.ofChange tableManyWrong)

/- THE SECOND FORM. 'bulk': how many values and letters a reading holds, each counted each time it is reached (what is shared counts as often as it is met; a slice's spare places count too). A statement '..UptoSaid' is the law's where the arguments, and the package variables that the reading takes, are together of bulk at most 1048576: NARROWER than '..Said'. Prove '..Said' where nothing that the law and all that it calls make is longer than what came in: it says more and counts as full. Else prove '..UptoSaid'. A law counts once. -/
mutual
def uptoBulk {H : Type} : DataW H → Nat
  | .lit (.string bytes) => bytes.length + 1
  | .lit _ => 1
  | .nil => 1
  | .ptr d => uptoBulk d + 1
  | .slice elems spare => uptoBulkAll elems + uptoBulkAll spare + 1
  | .agg parts => uptoBulkAll parts + 1
  | .iface _ d => uptoBulk d + 1
  | .map entries => uptoBulkEntries entries + 1
  | .held _ => 1
def uptoBulkAll {H : Type} : List (DataW H) → Nat
  | [] => 0
  | d :: r => uptoBulk d + uptoBulkAll r
def uptoBulkEntries {H : Type} : List (Lit × DataW H) → Nat
  | [] => 0
  | x :: r => uptoBulkEntry x + uptoBulkEntries r
def uptoBulkEntry {H : Type} : Lit × DataW H → Nat
  | (.string bytes, d) => bytes.length + uptoBulk d + 1
  | (_, d) => uptoBulk d + 1
 end
def uptoSmall : (H : Type) → List (DataW H) → Bool := fun _ ds => decide (uptoBulkAll ds ≤ 1048576)
def OpenSpec.upto (s : _root_.Go.ChangeSpec) : _root_.Go.OpenSpec := { _root_.Go.OpenSpec.ofChange s with cond := some uptoSmall }

/-- 'tumuluslaw05.HeapDoes', WHERE WHAT IT READS IS OF BULK AT MOST 1048576: true; the input reads as it did. -/
def heapDoesUptoRow : OpenClaim := { program := "ytppdjlgjcdmiaaagreat", sum := "24f32edd015c7e1fa5f13db173cc3b0e3b51bf8a7356f12c6690b746fb89f550", func := "tumulus/tumuluslaw05.HeapDoes", spec := "heapDoes", inPlace := ["slices.overlaps[tumulus/api.Block]"], unfollowed := true, recurses := true, apart := false, narrowed := true }
def HeapDoesUptoSaid : Prop := heapDoesUptoRow.holds Tryz.pinned (OpenSpec.upto heapDoesSpec)

/-- 'tumuluslaw14.TableApplies', WHERE WHAT IT READS IS OF BULK AT MOST 1048576: true; the input reads as it did. -/
def tableAppliesUptoRow : OpenClaim := { program := "ytppdjlgjcdmiaaagreat", sum := "24f32edd015c7e1fa5f13db173cc3b0e3b51bf8a7356f12c6690b746fb89f550", func := "tumulus/tumuluslaw14.TableApplies", spec := "tableApplies", inPlace := ["slices.overlaps[tumulus/api.Block]", "slices.overlaps[tumulus/api.Row]"], unfollowed := true, recurses := true, apart := false, narrowed := true }
def TableAppliesUptoSaid : Prop := tableAppliesUptoRow.holds Tryz.pinned (OpenSpec.upto tableAppliesSpec)

/-- 'tumuluslaw14.TableOnce', WHERE WHAT IT READS IS OF BULK AT MOST 1048576: true; the input reads as it did. -/
def tableOnceUptoRow : OpenClaim := { program := "ytppdjlgjcdmiaaagreat", sum := "24f32edd015c7e1fa5f13db173cc3b0e3b51bf8a7356f12c6690b746fb89f550", func := "tumulus/tumuluslaw14.TableOnce", spec := "tableOnce", inPlace := ["slices.overlaps[tumulus/api.Block]", "slices.overlaps[tumulus/api.Row]"], unfollowed := true, recurses := true, apart := false, narrowed := true }
def TableOnceUptoSaid : Prop := tableOnceUptoRow.holds Tryz.pinned (OpenSpec.upto tableOnceSpec)

/-- 'tumuluslaw14.TableHeap', WHERE WHAT IT READS IS OF BULK AT MOST 1048576: true; the input reads as it did. -/
def tableHeapUptoRow : OpenClaim := { program := "ytppdjlgjcdmiaaagreat", sum := "24f32edd015c7e1fa5f13db173cc3b0e3b51bf8a7356f12c6690b746fb89f550", func := "tumulus/tumuluslaw14.TableHeap", spec := "tableHeap", inPlace := ["slices.overlaps[tumulus/api.Block]", "slices.overlaps[tumulus/api.Row]"], unfollowed := true, recurses := true, apart := false, narrowed := true }
def TableHeapUptoSaid : Prop := tableHeapUptoRow.holds Tryz.pinned (OpenSpec.upto tableHeapSpec)

/-- 'tumuluslaw14.TableMany', WHERE WHAT IT READS IS OF BULK AT MOST 1048576: true; the input reads as it did. -/
def tableManyUptoRow : OpenClaim := { program := "ytppdjlgjcdmiaaagreat", sum := "24f32edd015c7e1fa5f13db173cc3b0e3b51bf8a7356f12c6690b746fb89f550", func := "tumulus/tumuluslaw14.TableMany", spec := "tableMany", inPlace := ["slices.overlaps[tumulus/api.Block]", "slices.overlaps[tumulus/api.Row]"], unfollowed := true, recurses := true, apart := false, narrowed := true }
def TableManyUptoSaid : Prop := tableManyUptoRow.holds Tryz.pinned (OpenSpec.upto tableManySpec)

end Rows
end Go.Proofs.YtppdjlgjcdmiaaaGreat
