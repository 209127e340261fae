/-
  No cell of these rows narrows 'for every input' (looked for: loops, veiled, ifaces, maps, wideKeys, modest, calm, conditions, laid).
  DERIVED. THE GIVEN ROWS OF THIS SEAT. 10 by the template 'for every input the law returns true; each argument reads behind the call as it read before'; 0 by the template 'total and deterministic' (their statements: YtaafajaadfgaoaaGreatTotals.lean).
  GIVEN WITH THE SEED: the statements are not yours to turn. If you find one false, say at which input.
  Laid BY PROGRAM, IN A SANDBOX (cutbox-rows.mjs): the forced cells as the released guide's own fill.sh prints them over the translation a1b19476261db9a5… (all of the seat's roots in one cut). By AI agents, Wed Nov 11 2026. No macro, syntax, notation, axiom, sorry.
-/
import Derived.Test.YtaafajaadfgaoaaGreatChecked
import GoSem.Claim
import GoSem.ClaimJoined
import GoSem.ClaimMapViews
import Derived.JoinedTies
import Derived.KernelRfl
namespace Go.Proofs.YtaafajaadfgaoaaGreat
/- THE CELL 'sum', in the pinned program and in every row, IS THE sha256 OF THE DUMP (.gsa) THAT YtaafajaadfgaoaaGreatProg.lean LOADS. Nothing in Lean hashes anything: it is a label: what it is worth is what the hold of that sum in a sandbox is worth. -/
noncomputable def Tryz.pinned : Pinned := { name := "ytaafajaadfgaoaagreat", sum := "a1b19476261db9a5c976436eab14cfd8dc0a0a22f715ce045d7cd1358f39ca0a", checked := Tryz.checked }
namespace Rows
def none {H : Type} : Left H := { results := [], args := [] }

/-- 'tumuluslaw17.ChangeSaved': WHATEVER THE INPUT: true; the input reads as it did. -/
def changeSavedSpec : ChangeSpec := { name := "changeSaved", fn := fun _ => fun
  | [d1, d2, d3, d4, d5] => { results := [.lit (.bool true)], args := [d1, d2, d3, d4, d5] }
  | _ => none }
def changeSavedRow : OpenClaim := { program := "ytaafajaadfgaoaagreat", sum := "a1b19476261db9a5c976436eab14cfd8dc0a0a22f715ce045d7cd1358f39ca0a", func := "tumulus/tumuluslaw17.ChangeSaved", spec := "changeSaved", inPlace := ["slices.overlaps[tumulus/api.Block]"], unfollowed := true, recurses := true, apart := false }
def ChangeSavedSaid : Prop := changeSavedRow.holds Tryz.pinned (OpenSpec.ofChange changeSavedSpec)

/-- ITS FALSE NEIGHBOUR: 'it returns false'. Refute it at one input. -/
def changeSavedWrong : ChangeSpec := { name := "changeSaved", fn := fun _ => fun
  | [d1, d2, d3, d4, d5] => { results := [.lit (.bool false)], args := [d1, d2, d3, d4, d5] }
  | _ => none }
def ChangeSavedWrongFalsely : Prop := changeSavedRow.holds Tryz.pinned (OpenSpec.ofChange changeSavedWrong)

/-- 'tumuluslaw06.ImageApart': WHATEVER THE INPUT: true; the input reads as it did. -/
def imageApartSpec : ChangeSpec := { name := "imageApart", fn := fun _ => fun
  | [d1, d2, d3, d4] => { results := [.lit (.bool true)], args := [d1, d2, d3, d4] }
  | _ => none }
def imageApartRow : OpenClaim := { program := "ytaafajaadfgaoaagreat", sum := "a1b19476261db9a5c976436eab14cfd8dc0a0a22f715ce045d7cd1358f39ca0a", func := "tumulus/tumuluslaw06.ImageApart", spec := "imageApart", inPlace := ["slices.overlaps[tumulus/api.Block]"], unfollowed := true, recurses := true, apart := false }
def ImageApartSaid : Prop := imageApartRow.holds Tryz.pinned (OpenSpec.ofChange imageApartSpec)

/-- ITS FALSE NEIGHBOUR: 'it returns false'. Refute it at one input. -/
def imageApartWrong : ChangeSpec := { name := "imageApart", fn := fun _ => fun
  | [d1, d2, d3, d4] => { results := [.lit (.bool false)], args := [d1, d2, d3, d4] }
  | _ => none }
def ImageApartWrongFalsely : Prop := imageApartRow.holds Tryz.pinned (OpenSpec.ofChange imageApartWrong)

/-- 'tumuluslaw15.OplogCuts': WHATEVER THE INPUT: true; the input reads as it did. -/
def oplogCutsSpec : ChangeSpec := { name := "oplogCuts", fn := fun _ => fun
  | [d1, d2, d3] => { results := [.lit (.bool true)], args := [d1, d2, d3] }
  | _ => none }
def oplogCutsRow : OpenClaim := { program := "ytaafajaadfgaoaagreat", sum := "a1b19476261db9a5c976436eab14cfd8dc0a0a22f715ce045d7cd1358f39ca0a", func := "tumulus/tumuluslaw15.OplogCuts", spec := "oplogCuts", inPlace := ["slices.overlaps[tumulus/api.Block]", "slices.overlaps[tumulus/api.Row]"], unfollowed := true, recurses := true, apart := false }
def OplogCutsSaid : Prop := oplogCutsRow.holds Tryz.pinned (OpenSpec.ofChange oplogCutsSpec)

/-- ITS FALSE NEIGHBOUR: 'it returns false'. Refute it at one input. -/
def oplogCutsWrong : ChangeSpec := { name := "oplogCuts", fn := fun _ => fun
  | [d1, d2, d3] => { results := [.lit (.bool false)], args := [d1, d2, d3] }
  | _ => none }
def OplogCutsWrongFalsely : Prop := oplogCutsRow.holds Tryz.pinned (OpenSpec.ofChange oplogCutsWrong)

/-- 'tumuluslaw15.OplogStates': WHATEVER THE INPUT: true; the input reads as it did. -/
def oplogStatesSpec : ChangeSpec := { name := "oplogStates", fn := fun _ => fun
  | [d1, d2] => { results := [.lit (.bool true)], args := [d1, d2] }
  | _ => none }
def oplogStatesRow : OpenClaim := { program := "ytaafajaadfgaoaagreat", sum := "a1b19476261db9a5c976436eab14cfd8dc0a0a22f715ce045d7cd1358f39ca0a", func := "tumulus/tumuluslaw15.OplogStates", spec := "oplogStates", inPlace := ["slices.overlaps[tumulus/api.Block]", "slices.overlaps[tumulus/api.Row]"], unfollowed := true, recurses := true, apart := false }
def OplogStatesSaid : Prop := oplogStatesRow.holds Tryz.pinned (OpenSpec.ofChange oplogStatesSpec)

/-- ITS FALSE NEIGHBOUR: 'it returns false'. Refute it at one input. -/
def oplogStatesWrong : ChangeSpec := { name := "oplogStates", fn := fun _ => fun
  | [d1, d2] => { results := [.lit (.bool false)], args := [d1, d2] }
  | _ => none }
def OplogStatesWrongFalsely : Prop := oplogStatesRow.holds Tryz.pinned (OpenSpec.ofChange oplogStatesWrong)

/-- 'tumuluslaw06.ImageStates': WHATEVER THE INPUT: true; the input reads as it did. -/
def imageStatesSpec : ChangeSpec := { name := "imageStates", fn := fun _ => fun
  | [d] => { results := [.lit (.bool true)], args := [d] }
  | _ => none }
def imageStatesRow : OpenClaim := { program := "ytaafajaadfgaoaagreat", sum := "a1b19476261db9a5c976436eab14cfd8dc0a0a22f715ce045d7cd1358f39ca0a", func := "tumulus/tumuluslaw06.ImageStates", spec := "imageStates", inPlace := ["slices.overlaps[tumulus/api.Block]"], unfollowed := true, recurses := true, apart := false }
def ImageStatesSaid : Prop := imageStatesRow.holds Tryz.pinned (OpenSpec.ofChange imageStatesSpec)

/-- ITS FALSE NEIGHBOUR: 'it returns false'. Refute it at one input. -/
def imageStatesWrong : ChangeSpec := { name := "imageStates", fn := fun _ => fun
  | [d] => { results := [.lit (.bool false)], args := [d] }
  | _ => none }
def ImageStatesWrongFalsely : Prop := imageStatesRow.holds Tryz.pinned (OpenSpec.ofChange imageStatesWrong)

/-- 'tumuluslaw06.ImageReads': WHATEVER THE INPUT: true; the input reads as it did. -/
def imageReadsSpec : ChangeSpec := { name := "imageReads", fn := fun _ => fun
  | [d] => { results := [.lit (.bool true)], args := [d] }
  | _ => none }
def imageReadsRow : OpenClaim := { program := "ytaafajaadfgaoaagreat", sum := "a1b19476261db9a5c976436eab14cfd8dc0a0a22f715ce045d7cd1358f39ca0a", func := "tumulus/tumuluslaw06.ImageReads", spec := "imageReads", inPlace := ["slices.overlaps[tumulus/api.Block]"], unfollowed := true, recurses := true, apart := false }
def ImageReadsSaid : Prop := imageReadsRow.holds Tryz.pinned (OpenSpec.ofChange imageReadsSpec)

/-- ITS FALSE NEIGHBOUR: 'it returns false'. Refute it at one input. -/
def imageReadsWrong : ChangeSpec := { name := "imageReads", fn := fun _ => fun
  | [d] => { results := [.lit (.bool false)], args := [d] }
  | _ => none }
def ImageReadsWrongFalsely : Prop := imageReadsRow.holds Tryz.pinned (OpenSpec.ofChange imageReadsWrong)

/-- 'tumuluslaw14.TableApplies': WHATEVER THE INPUT: true; the input reads as it did. -/
def tableAppliesSpec : ChangeSpec := { name := "tableApplies", fn := fun _ => fun
  | [d1, d2] => { results := [.lit (.bool true)], args := [d1, d2] }
  | _ => none }
def tableAppliesRow : OpenClaim := { program := "ytaafajaadfgaoaagreat", sum := "a1b19476261db9a5c976436eab14cfd8dc0a0a22f715ce045d7cd1358f39ca0a", func := "tumulus/tumuluslaw14.TableApplies", spec := "tableApplies", inPlace := ["slices.overlaps[tumulus/api.Block]", "slices.overlaps[tumulus/api.Row]"], unfollowed := true, recurses := true, apart := false }
def TableAppliesSaid : Prop := tableAppliesRow.holds Tryz.pinned (OpenSpec.ofChange tableAppliesSpec)

/-- ITS FALSE NEIGHBOUR: 'it returns false'. Refute it at one input. -/
def tableAppliesWrong : ChangeSpec := { name := "tableApplies", fn := fun _ => fun
  | [d1, d2] => { results := [.lit (.bool false)], args := [d1, d2] }
  | _ => none }
def TableAppliesWrongFalsely : Prop := tableAppliesRow.holds Tryz.pinned (OpenSpec.ofChange tableAppliesWrong)

/-- 'tumuluslaw15.OplogFolds': WHATEVER THE INPUT: true; the input reads as it did. -/
def oplogFoldsSpec : ChangeSpec := { name := "oplogFolds", fn := fun _ => fun
  | [d1, d2] => { results := [.lit (.bool true)], args := [d1, d2] }
  | _ => none }
def oplogFoldsRow : OpenClaim := { program := "ytaafajaadfgaoaagreat", sum := "a1b19476261db9a5c976436eab14cfd8dc0a0a22f715ce045d7cd1358f39ca0a", func := "tumulus/tumuluslaw15.OplogFolds", spec := "oplogFolds", inPlace := ["slices.overlaps[tumulus/api.Block]"], unfollowed := true, recurses := true, apart := false }
def OplogFoldsSaid : Prop := oplogFoldsRow.holds Tryz.pinned (OpenSpec.ofChange oplogFoldsSpec)

/-- ITS FALSE NEIGHBOUR: 'it returns false'. Refute it at one input. -/
def oplogFoldsWrong : ChangeSpec := { name := "oplogFolds", fn := fun _ => fun
  | [d1, d2] => { results := [.lit (.bool false)], args := [d1, d2] }
  | _ => none }
def OplogFoldsWrongFalsely : Prop := oplogFoldsRow.holds Tryz.pinned (OpenSpec.ofChange oplogFoldsWrong)

/-- 'tumuluslaw16.PrepareJoins': WHATEVER THE INPUT: true; the input reads as it did. -/
def prepareJoinsSpec : ChangeSpec := { name := "prepareJoins", fn := fun _ => fun
  | [d1, d2, d3, d4, d5, d6] => { results := [.lit (.bool true)], args := [d1, d2, d3, d4, d5, d6] }
  | _ => none }
def prepareJoinsRow : OpenClaim := { program := "ytaafajaadfgaoaagreat", sum := "a1b19476261db9a5c976436eab14cfd8dc0a0a22f715ce045d7cd1358f39ca0a", func := "tumulus/tumuluslaw16.PrepareJoins", spec := "prepareJoins", inPlace := ["slices.overlaps[tumulus/api.Block]"], unfollowed := true, recurses := true, apart := false }
def PrepareJoinsSaid : Prop := prepareJoinsRow.holds Tryz.pinned (OpenSpec.ofChange prepareJoinsSpec)

/-- ITS FALSE NEIGHBOUR: 'it returns false'. Refute it at one input. -/
def prepareJoinsWrong : ChangeSpec := { name := "prepareJoins", fn := fun _ => fun
  | [d1, d2, d3, d4, d5, d6] => { results := [.lit (.bool false)], args := [d1, d2, d3, d4, d5, d6] }
  | _ => none }
def PrepareJoinsWrongFalsely : Prop := prepareJoinsRow.holds Tryz.pinned (OpenSpec.ofChange prepareJoinsWrong)

/-- 'tumuluslaw17.ChangeAdopts': WHATEVER THE INPUT: true; the input reads as it did. -/
def changeAdoptsSpec : ChangeSpec := { name := "changeAdopts", fn := fun _ => fun
  | [d1, d2, d3, d4, d5] => { results := [.lit (.bool true)], args := [d1, d2, d3, d4, d5] }
  | _ => none }
def changeAdoptsRow : OpenClaim := { program := "ytaafajaadfgaoaagreat", sum := "a1b19476261db9a5c976436eab14cfd8dc0a0a22f715ce045d7cd1358f39ca0a", func := "tumulus/tumuluslaw17.ChangeAdopts", spec := "changeAdopts", inPlace := ["slices.overlaps[tumulus/api.Block]"], unfollowed := true, recurses := true, apart := false }
def ChangeAdoptsSaid : Prop := changeAdoptsRow.holds Tryz.pinned (OpenSpec.ofChange changeAdoptsSpec)

/-- ITS FALSE NEIGHBOUR: 'it returns false'. Refute it at one input. -/
def changeAdoptsWrong : ChangeSpec := { name := "changeAdopts", fn := fun _ => fun
  | [d1, d2, d3, d4, d5] => { results := [.lit (.bool false)], args := [d1, d2, d3, d4, d5] }
  | _ => none }
def ChangeAdoptsWrongFalsely : Prop := changeAdoptsRow.holds Tryz.pinned (OpenSpec.ofChange changeAdoptsWrong)

/- THE SECOND FORM. 'bulk': how many values and letters a reading holds, each counted each time it is reached (what is shared counts as often as it is met; a slice's spare places count too). A statement '..UptoSaid' is the law's where the arguments, and the package variables that the reading takes, are together of bulk at most 1048576: NARROWER than '..Said'. Prove '..Said' where nothing that the law and all that it calls make is longer than what came in: it says more and counts as full. Else prove '..UptoSaid'. A law counts once. -/
mutual
def uptoBulk {H : Type} : DataW H → Nat
  | .lit (.string bytes) => bytes.length + 1
  | .lit _ => 1
  | .nil => 1
  | .ptr d => uptoBulk d + 1
  | .slice elems spare => uptoBulkAll elems + uptoBulkAll spare + 1
  | .agg parts => uptoBulkAll parts + 1
  | .iface _ d => uptoBulk d + 1
  | .map entries => uptoBulkEntries entries + 1
  | .held _ => 1
def uptoBulkAll {H : Type} : List (DataW H) → Nat
  | [] => 0
  | d :: r => uptoBulk d + uptoBulkAll r
def uptoBulkEntries {H : Type} : List (Lit × DataW H) → Nat
  | [] => 0
  | x :: r => uptoBulkEntry x + uptoBulkEntries r
def uptoBulkEntry {H : Type} : Lit × DataW H → Nat
  | (.string bytes, d) => bytes.length + uptoBulk d + 1
  | (_, d) => uptoBulk d + 1
 end
def uptoSmall : (H : Type) → List (DataW H) → Bool := fun _ ds => decide (uptoBulkAll ds ≤ 1048576)
def OpenSpec.upto (s : _root_.Go.ChangeSpec) : _root_.Go.OpenSpec := { _root_.Go.OpenSpec.ofChange s with cond := some uptoSmall }

/-- 'tumuluslaw17.ChangeSaved', WHERE WHAT IT READS IS OF BULK AT MOST 1048576: true; the input reads as it did. -/
def changeSavedUptoRow : OpenClaim := { program := "ytaafajaadfgaoaagreat", sum := "a1b19476261db9a5c976436eab14cfd8dc0a0a22f715ce045d7cd1358f39ca0a", func := "tumulus/tumuluslaw17.ChangeSaved", spec := "changeSaved", inPlace := ["slices.overlaps[tumulus/api.Block]"], unfollowed := true, recurses := true, apart := false, narrowed := true }
def ChangeSavedUptoSaid : Prop := changeSavedUptoRow.holds Tryz.pinned (OpenSpec.upto changeSavedSpec)

/-- 'tumuluslaw06.ImageApart', WHERE WHAT IT READS IS OF BULK AT MOST 1048576: true; the input reads as it did. -/
def imageApartUptoRow : OpenClaim := { program := "ytaafajaadfgaoaagreat", sum := "a1b19476261db9a5c976436eab14cfd8dc0a0a22f715ce045d7cd1358f39ca0a", func := "tumulus/tumuluslaw06.ImageApart", spec := "imageApart", inPlace := ["slices.overlaps[tumulus/api.Block]"], unfollowed := true, recurses := true, apart := false, narrowed := true }
def ImageApartUptoSaid : Prop := imageApartUptoRow.holds Tryz.pinned (OpenSpec.upto imageApartSpec)

/-- 'tumuluslaw15.OplogCuts', WHERE WHAT IT READS IS OF BULK AT MOST 1048576: true; the input reads as it did. -/
def oplogCutsUptoRow : OpenClaim := { program := "ytaafajaadfgaoaagreat", sum := "a1b19476261db9a5c976436eab14cfd8dc0a0a22f715ce045d7cd1358f39ca0a", func := "tumulus/tumuluslaw15.OplogCuts", spec := "oplogCuts", inPlace := ["slices.overlaps[tumulus/api.Block]", "slices.overlaps[tumulus/api.Row]"], unfollowed := true, recurses := true, apart := false, narrowed := true }
def OplogCutsUptoSaid : Prop := oplogCutsUptoRow.holds Tryz.pinned (OpenSpec.upto oplogCutsSpec)

/-- 'tumuluslaw15.OplogStates', WHERE WHAT IT READS IS OF BULK AT MOST 1048576: true; the input reads as it did. -/
def oplogStatesUptoRow : OpenClaim := { program := "ytaafajaadfgaoaagreat", sum := "a1b19476261db9a5c976436eab14cfd8dc0a0a22f715ce045d7cd1358f39ca0a", func := "tumulus/tumuluslaw15.OplogStates", spec := "oplogStates", inPlace := ["slices.overlaps[tumulus/api.Block]", "slices.overlaps[tumulus/api.Row]"], unfollowed := true, recurses := true, apart := false, narrowed := true }
def OplogStatesUptoSaid : Prop := oplogStatesUptoRow.holds Tryz.pinned (OpenSpec.upto oplogStatesSpec)

/-- 'tumuluslaw06.ImageStates', WHERE WHAT IT READS IS OF BULK AT MOST 1048576: true; the input reads as it did. -/
def imageStatesUptoRow : OpenClaim := { program := "ytaafajaadfgaoaagreat", sum := "a1b19476261db9a5c976436eab14cfd8dc0a0a22f715ce045d7cd1358f39ca0a", func := "tumulus/tumuluslaw06.ImageStates", spec := "imageStates", inPlace := ["slices.overlaps[tumulus/api.Block]"], unfollowed := true, recurses := true, apart := false, narrowed := true }
def ImageStatesUptoSaid : Prop := imageStatesUptoRow.holds Tryz.pinned (OpenSpec.upto imageStatesSpec)

/-- 'tumuluslaw06.ImageReads', WHERE WHAT IT READS IS OF BULK AT MOST 1048576: true; the input reads as it did. -/
def imageReadsUptoRow : OpenClaim := { program := "ytaafajaadfgaoaagreat", sum := "a1b19476261db9a5c976436eab14cfd8dc0a0a22f715ce045d7cd1358f39ca0a", func := "tumulus/tumuluslaw06.ImageReads", spec := "imageReads", inPlace := ["slices.overlaps[tumulus/api.Block]"], unfollowed := true, recurses := true, apart := false, narrowed := true }
def ImageReadsUptoSaid : Prop := imageReadsUptoRow.holds Tryz.pinned (OpenSpec.upto imageReadsSpec)

/-- 'tumuluslaw14.TableApplies', WHERE WHAT IT READS IS OF BULK AT MOST 1048576: true; the input reads as it did. -/
def tableAppliesUptoRow : OpenClaim := { program := "ytaafajaadfgaoaagreat", sum := "a1b19476261db9a5c976436eab14cfd8dc0a0a22f715ce045d7cd1358f39ca0a", func := "tumulus/tumuluslaw14.TableApplies", spec := "tableApplies", inPlace := ["slices.overlaps[tumulus/api.Block]", "slices.overlaps[tumulus/api.Row]"], unfollowed := true, recurses := true, apart := false, narrowed := true }
def TableAppliesUptoSaid : Prop := tableAppliesUptoRow.holds Tryz.pinned (OpenSpec.upto tableAppliesSpec)

/-- 'tumuluslaw15.OplogFolds', WHERE WHAT IT READS IS OF BULK AT MOST 1048576: true; the input reads as it did. -/
def oplogFoldsUptoRow : OpenClaim := { program := "ytaafajaadfgaoaagreat", sum := "a1b19476261db9a5c976436eab14cfd8dc0a0a22f715ce045d7cd1358f39ca0a", func := "tumulus/tumuluslaw15.OplogFolds", spec := "oplogFolds", inPlace := ["slices.overlaps[tumulus/api.Block]"], unfollowed := true, recurses := true, apart := false, narrowed := true }
def OplogFoldsUptoSaid : Prop := oplogFoldsUptoRow.holds Tryz.pinned (OpenSpec.upto oplogFoldsSpec)

/-- 'tumuluslaw16.PrepareJoins', WHERE WHAT IT READS IS OF BULK AT MOST 1048576: true; the input reads as it did. -/
def prepareJoinsUptoRow : OpenClaim := { program := "ytaafajaadfgaoaagreat", sum := "a1b19476261db9a5c976436eab14cfd8dc0a0a22f715ce045d7cd1358f39ca0a", func := "tumulus/tumuluslaw16.PrepareJoins", spec := "prepareJoins", inPlace := ["slices.overlaps[tumulus/api.Block]"], unfollowed := true, recurses := true, apart := false, narrowed := true }
def PrepareJoinsUptoSaid : Prop := prepareJoinsUptoRow.holds Tryz.pinned (OpenSpec.upto prepareJoinsSpec)

/-- 'tumuluslaw17.ChangeAdopts', WHERE WHAT IT READS IS OF BULK AT MOST 1048576: true; the input reads as it did. -/
def changeAdoptsUptoRow : OpenClaim := { program := "ytaafajaadfgaoaagreat", sum := "a1b19476261db9a5c976436eab14cfd8dc0a0a22f715ce045d7cd1358f39ca0a", func := "tumulus/tumuluslaw17.ChangeAdopts", spec := "changeAdopts", inPlace := ["slices.overlaps[tumulus/api.Block]"], unfollowed := true, recurses := true, apart := false, narrowed := true }
def ChangeAdoptsUptoSaid : Prop := changeAdoptsUptoRow.holds Tryz.pinned (OpenSpec.upto changeAdoptsSpec)

end Rows
end Go.Proofs.YtaafajaadfgaoaaGreat
