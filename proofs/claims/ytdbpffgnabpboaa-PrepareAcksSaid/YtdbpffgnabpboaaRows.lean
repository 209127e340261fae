/-
  No cell of these rows narrows 'for every input' (looked for: loops, veiled, ifaces, maps, wideKeys, modest, calm, conditions, laid).
  DERIVED. THE GIVEN ROWS OF THIS SEAT. 4 by the template 'for every input the law returns true; each argument reads behind the call as it read before'; 0 by the template 'total and deterministic' (their statements: YtdbpffgnabpboaaTotals.lean).
  GIVEN WITH THE SEED: the statements are not yours to turn. If you find one false, say at which input.
  Laid BY PROGRAM, IN A SANDBOX (cutbox-rows.mjs): the forced cells as the released guide's own fill.sh prints them over the translation 3cd3dfd2b351f7c9… (all of the seat's roots in one cut). By AI agents, Wed Nov 11 2026. No macro, syntax, notation, axiom, sorry.
-/
import Derived.Test.YtdbpffgnabpboaaChecked
import GoSem.Claim
import GoSem.ClaimJoined
import GoSem.ClaimMapViews
import Derived.JoinedTies
import Derived.KernelRfl
namespace Go.Proofs.Ytdbpffgnabpboaa
/- THE CELL 'sum', in the pinned program and in every row, IS THE sha256 OF THE DUMP (.gsa) THAT YtdbpffgnabpboaaProg.lean LOADS. Nothing in Lean hashes anything: it is a label: what it is worth is what the hold of that sum in a sandbox is worth. -/
noncomputable def Try.pinned : Pinned := { name := "ytdbpffgnabpboaa", sum := "3cd3dfd2b351f7c983522db1d1a252d8919772c3066f603ad6f696e8af5a5920", checked := Try.checked }
namespace Rows
def none {H : Type} : Left H := { results := [], args := [] }

/-- 'tumuluslaw04.BuddyChecks': WHATEVER THE INPUT: true; the input reads as it did. -/
def buddyChecksSpec : ChangeSpec := { name := "buddyChecks", fn := fun _ => fun
  | [d1, d2, d3] => { results := [.lit (.bool true)], args := [d1, d2, d3] }
  | _ => none }
def buddyChecksRow : OpenClaim := { program := "ytdbpffgnabpboaa", sum := "3cd3dfd2b351f7c983522db1d1a252d8919772c3066f603ad6f696e8af5a5920", func := "tumulus/tumuluslaw04.BuddyChecks", spec := "buddyChecks", unfollowed := true, recurses := true, apart := false }
def BuddyChecksSaid : Prop := buddyChecksRow.holds Try.pinned (OpenSpec.ofChange buddyChecksSpec)

/-- ITS FALSE NEIGHBOUR: 'it returns false'. Refute it at one input. -/
def buddyChecksWrong : ChangeSpec := { name := "buddyChecks", fn := fun _ => fun
  | [d1, d2, d3] => { results := [.lit (.bool false)], args := [d1, d2, d3] }
  | _ => none }
def BuddyChecksWrongFalsely : Prop := buddyChecksRow.holds Try.pinned (OpenSpec.ofChange buddyChecksWrong)

/-- 'tumuluslaw14.TableAsks': WHATEVER THE INPUT: true; the input reads as it did. -/
def tableAsksSpec : ChangeSpec := { name := "tableAsks", fn := fun _ => fun
  | [d1, d2, d3, d4] => { results := [.lit (.bool true)], args := [d1, d2, d3, d4] }
  | _ => none }
def tableAsksRow : OpenClaim := { program := "ytdbpffgnabpboaa", sum := "3cd3dfd2b351f7c983522db1d1a252d8919772c3066f603ad6f696e8af5a5920", func := "tumulus/tumuluslaw14.TableAsks", spec := "tableAsks", unfollowed := true, recurses := true, apart := false }
def TableAsksSaid : Prop := tableAsksRow.holds Try.pinned (OpenSpec.ofChange tableAsksSpec)

/-- ITS FALSE NEIGHBOUR: 'it returns false'. Refute it at one input. -/
def tableAsksWrong : ChangeSpec := { name := "tableAsks", fn := fun _ => fun
  | [d1, d2, d3, d4] => { results := [.lit (.bool false)], args := [d1, d2, d3, d4] }
  | _ => none }
def TableAsksWrongFalsely : Prop := tableAsksRow.holds Try.pinned (OpenSpec.ofChange tableAsksWrong)

/-- 'tumuluslaw06.ImageOps': WHATEVER THE INPUT: true; the input reads as it did. -/
def imageOpsSpec : ChangeSpec := { name := "imageOps", fn := fun _ => fun
  | [d] => { results := [.lit (.bool true)], args := [d] }
  | _ => none }
def imageOpsRow : OpenClaim := { program := "ytdbpffgnabpboaa", sum := "3cd3dfd2b351f7c983522db1d1a252d8919772c3066f603ad6f696e8af5a5920", func := "tumulus/tumuluslaw06.ImageOps", spec := "imageOps", unfollowed := true, recurses := true, apart := false }
def ImageOpsSaid : Prop := imageOpsRow.holds Try.pinned (OpenSpec.ofChange imageOpsSpec)

/-- ITS FALSE NEIGHBOUR: 'it returns false'. Refute it at one input. -/
def imageOpsWrong : ChangeSpec := { name := "imageOps", fn := fun _ => fun
  | [d] => { results := [.lit (.bool false)], args := [d] }
  | _ => none }
def ImageOpsWrongFalsely : Prop := imageOpsRow.holds Try.pinned (OpenSpec.ofChange imageOpsWrong)

/-- 'tumuluslaw16.PrepareAcks': WHATEVER THE INPUT: true; the input reads as it did. -/
def prepareAcksSpec : ChangeSpec := { name := "prepareAcks", fn := fun _ => fun
  | [d1, d2, d3] => { results := [.lit (.bool true)], args := [d1, d2, d3] }
  | _ => none }
def prepareAcksRow : OpenClaim := { program := "ytdbpffgnabpboaa", sum := "3cd3dfd2b351f7c983522db1d1a252d8919772c3066f603ad6f696e8af5a5920", func := "tumulus/tumuluslaw16.PrepareAcks", spec := "prepareAcks", inPlace := ["slices.overlaps[tumulus/api.Acked]"], unfollowed := true, recurses := true, apart := false }
def PrepareAcksSaid : Prop := prepareAcksRow.holds Try.pinned (OpenSpec.ofChange prepareAcksSpec)

/-- ITS FALSE NEIGHBOUR: 'it returns false'. Refute it at one input. -/
def prepareAcksWrong : ChangeSpec := { name := "prepareAcks", fn := fun _ => fun
  | [d1, d2, d3] => { results := [.lit (.bool false)], args := [d1, d2, d3] }
  | _ => none }
def PrepareAcksWrongFalsely : Prop := prepareAcksRow.holds Try.pinned (OpenSpec.ofChange prepareAcksWrong)

/- THE SECOND FORM. 'bulk': how many values and letters a reading holds, each counted each time it is reached (what is shared counts as often as it is met; a slice's spare places count too). A statement '..UptoSaid' is the law's where the arguments, and the package variables that the reading takes, are together of bulk at most 1048576: NARROWER than '..Said'. Prove '..Said' where nothing that the law and all that it calls make is longer than what came in: it says more and counts as full. Else prove '..UptoSaid'. A law counts once. -/
mutual
def uptoBulk {H : Type} : DataW H → Nat
  | .lit (.string bytes) => bytes.length + 1
  | .lit _ => 1
  | .nil => 1
  | .ptr d => uptoBulk d + 1
  | .slice elems spare => uptoBulkAll elems + uptoBulkAll spare + 1
  | .agg parts => uptoBulkAll parts + 1
  | .iface _ d => uptoBulk d + 1
  | .map entries => uptoBulkEntries entries + 1
  | .held _ => 1
def uptoBulkAll {H : Type} : List (DataW H) → Nat
  | [] => 0
  | d :: r => uptoBulk d + uptoBulkAll r
def uptoBulkEntries {H : Type} : List (Lit × DataW H) → Nat
  | [] => 0
  | x :: r => uptoBulkEntry x + uptoBulkEntries r
def uptoBulkEntry {H : Type} : Lit × DataW H → Nat
  | (.string bytes, d) => bytes.length + uptoBulk d + 1
  | (_, d) => uptoBulk d + 1
 end
def uptoSmall : (H : Type) → List (DataW H) → Bool := fun _ ds => decide (uptoBulkAll ds ≤ 1048576)
def OpenSpec.upto (s : _root_.Go.ChangeSpec) : _root_.Go.OpenSpec := { _root_.Go.OpenSpec.ofChange s with cond := some uptoSmall }

/-- 'tumuluslaw04.BuddyChecks', WHERE WHAT IT READS IS OF BULK AT MOST 1048576: true; the input reads as it did. -/
def buddyChecksUptoRow : OpenClaim := { program := "ytdbpffgnabpboaa", sum := "3cd3dfd2b351f7c983522db1d1a252d8919772c3066f603ad6f696e8af5a5920", func := "tumulus/tumuluslaw04.BuddyChecks", spec := "buddyChecks", unfollowed := true, recurses := true, apart := false, narrowed := true }
def BuddyChecksUptoSaid : Prop := buddyChecksUptoRow.holds Try.pinned (OpenSpec.upto buddyChecksSpec)

/-- 'tumuluslaw14.TableAsks', WHERE WHAT IT READS IS OF BULK AT MOST 1048576: true; the input reads as it did. -/
def tableAsksUptoRow : OpenClaim := { program := "ytdbpffgnabpboaa", sum := "3cd3dfd2b351f7c983522db1d1a252d8919772c3066f603ad6f696e8af5a5920", func := "tumulus/tumuluslaw14.TableAsks", spec := "tableAsks", unfollowed := true, recurses := true, apart := false, narrowed := true }
def TableAsksUptoSaid : Prop := tableAsksUptoRow.holds Try.pinned (OpenSpec.upto tableAsksSpec)

/-- 'tumuluslaw06.ImageOps', WHERE WHAT IT READS IS OF BULK AT MOST 1048576: true; the input reads as it did. -/
def imageOpsUptoRow : OpenClaim := { program := "ytdbpffgnabpboaa", sum := "3cd3dfd2b351f7c983522db1d1a252d8919772c3066f603ad6f696e8af5a5920", func := "tumulus/tumuluslaw06.ImageOps", spec := "imageOps", unfollowed := true, recurses := true, apart := false, narrowed := true }
def ImageOpsUptoSaid : Prop := imageOpsUptoRow.holds Try.pinned (OpenSpec.upto imageOpsSpec)

/-- 'tumuluslaw16.PrepareAcks', WHERE WHAT IT READS IS OF BULK AT MOST 1048576: true; the input reads as it did. -/
def prepareAcksUptoRow : OpenClaim := { program := "ytdbpffgnabpboaa", sum := "3cd3dfd2b351f7c983522db1d1a252d8919772c3066f603ad6f696e8af5a5920", func := "tumulus/tumuluslaw16.PrepareAcks", spec := "prepareAcks", inPlace := ["slices.overlaps[tumulus/api.Acked]"], unfollowed := true, recurses := true, apart := false, narrowed := true }
def PrepareAcksUptoSaid : Prop := prepareAcksUptoRow.holds Try.pinned (OpenSpec.upto prepareAcksSpec)

end Rows
end Go.Proofs.Ytdbpffgnabpboaa
