/-
  No cell of these rows narrows 'for every input' (looked for: loops, veiled, ifaces, maps, wideKeys, modest, calm, conditions, laid).
  DERIVED. THE GIVEN ROWS OF THIS SEAT. 9 by the template 'for every input the law returns true; each argument reads behind the call as it read before'; 0 by the template 'total and deterministic' (their statements: YtbflmnoaiklnbaaTotals.lean).
  GIVEN WITH THE SEED: the statements are not yours to turn. If you find one false, say at which input.
  Laid BY PROGRAM, IN A SANDBOX (cutbox-rows.mjs): the forced cells as the released guide's own fill.sh prints them over the translation c22e4fbb35885d61… (all of the seat's roots in one cut). By AI agents, Wed Nov 11 2026. No macro, syntax, notation, axiom, sorry.
-/
import Derived.Test.YtbflmnoaiklnbaaChecked
import GoSem.Claim
import GoSem.ClaimJoined
import GoSem.ClaimMapViews
import Derived.JoinedTies
import Derived.KernelRfl
namespace Go.Proofs.Ytbflmnoaiklnbaa
/- THE CELL 'sum', in the pinned program and in every row, IS THE sha256 OF THE DUMP (.gsa) THAT YtbflmnoaiklnbaaProg.lean LOADS. Nothing in Lean hashes anything: it is a label: what it is worth is what the hold of that sum in a sandbox is worth. -/
noncomputable def Try.pinned : Pinned := { name := "ytbflmnoaiklnbaa", sum := "c22e4fbb35885d61aec28e069d788382dee86b1d3417921619d0598dcc0f5add", checked := Try.checked }
namespace Rows
def none {H : Type} : Left H := { results := [], args := [] }

/-- 'tumuluslaw06.ImageHeaps': WHATEVER THE INPUT: true; the input reads as it did. -/
def imageHeapsSpec : ChangeSpec := { name := "imageHeaps", fn := fun _ => fun
  | [d] => { results := [.lit (.bool true)], args := [d] }
  | _ => none }
def imageHeapsRow : OpenClaim := { program := "ytbflmnoaiklnbaa", sum := "c22e4fbb35885d61aec28e069d788382dee86b1d3417921619d0598dcc0f5add", func := "tumulus/tumuluslaw06.ImageHeaps", spec := "imageHeaps", inPlace := ["slices.overlaps[tumulus/api.Block]"], unfollowed := true, recurses := true, apart := false }
def ImageHeapsSaid : Prop := imageHeapsRow.holds Try.pinned (OpenSpec.ofChange imageHeapsSpec)

/-- ITS FALSE NEIGHBOUR: 'it returns false'. Refute it at one input. -/
def imageHeapsWrong : ChangeSpec := { name := "imageHeaps", fn := fun _ => fun
  | [d] => { results := [.lit (.bool false)], args := [d] }
  | _ => none }
def ImageHeapsWrongFalsely : Prop := imageHeapsRow.holds Try.pinned (OpenSpec.ofChange imageHeapsWrong)

/-- 'tumuluslaw04.BuddyMaps': WHATEVER THE INPUT: true; the input reads as it did. -/
def buddyMapsSpec : ChangeSpec := { name := "buddyMaps", fn := fun _ => fun
  | [d1, d2, d3] => { results := [.lit (.bool true)], args := [d1, d2, d3] }
  | _ => none }
def buddyMapsRow : OpenClaim := { program := "ytbflmnoaiklnbaa", sum := "c22e4fbb35885d61aec28e069d788382dee86b1d3417921619d0598dcc0f5add", func := "tumulus/tumuluslaw04.BuddyMaps", spec := "buddyMaps", inPlace := ["slices.overlaps[tumulus/api.Block]"], unfollowed := true, recurses := true, apart := false }
def BuddyMapsSaid : Prop := buddyMapsRow.holds Try.pinned (OpenSpec.ofChange buddyMapsSpec)

/-- ITS FALSE NEIGHBOUR: 'it returns false'. Refute it at one input. -/
def buddyMapsWrong : ChangeSpec := { name := "buddyMaps", fn := fun _ => fun
  | [d1, d2, d3] => { results := [.lit (.bool false)], args := [d1, d2, d3] }
  | _ => none }
def BuddyMapsWrongFalsely : Prop := buddyMapsRow.holds Try.pinned (OpenSpec.ofChange buddyMapsWrong)

/-- 'tumuluslaw06.ImageMore': WHATEVER THE INPUT: true; the input reads as it did. -/
def imageMoreSpec : ChangeSpec := { name := "imageMore", fn := fun _ => fun
  | [d1, d2] => { results := [.lit (.bool true)], args := [d1, d2] }
  | _ => none }
def imageMoreRow : OpenClaim := { program := "ytbflmnoaiklnbaa", sum := "c22e4fbb35885d61aec28e069d788382dee86b1d3417921619d0598dcc0f5add", func := "tumulus/tumuluslaw06.ImageMore", spec := "imageMore", inPlace := ["slices.overlaps[tumulus/api.Block]"], unfollowed := true, recurses := true, apart := false }
def ImageMoreSaid : Prop := imageMoreRow.holds Try.pinned (OpenSpec.ofChange imageMoreSpec)

/-- ITS FALSE NEIGHBOUR: 'it returns false'. Refute it at one input. -/
def imageMoreWrong : ChangeSpec := { name := "imageMore", fn := fun _ => fun
  | [d1, d2] => { results := [.lit (.bool false)], args := [d1, d2] }
  | _ => none }
def ImageMoreWrongFalsely : Prop := imageMoreRow.holds Try.pinned (OpenSpec.ofChange imageMoreWrong)

/-- 'tumuluslaw05.HeapKeeps': WHATEVER THE INPUT: true; the input reads as it did. -/
def heapKeepsSpec : ChangeSpec := { name := "heapKeeps", fn := fun _ => fun
  | [d1, d2] => { results := [.lit (.bool true)], args := [d1, d2] }
  | _ => none }
def heapKeepsRow : OpenClaim := { program := "ytbflmnoaiklnbaa", sum := "c22e4fbb35885d61aec28e069d788382dee86b1d3417921619d0598dcc0f5add", func := "tumulus/tumuluslaw05.HeapKeeps", spec := "heapKeeps", inPlace := ["slices.overlaps[tumulus/api.Block]"], unfollowed := true, recurses := true, apart := false }
def HeapKeepsSaid : Prop := heapKeepsRow.holds Try.pinned (OpenSpec.ofChange heapKeepsSpec)

/-- ITS FALSE NEIGHBOUR: 'it returns false'. Refute it at one input. -/
def heapKeepsWrong : ChangeSpec := { name := "heapKeeps", fn := fun _ => fun
  | [d1, d2] => { results := [.lit (.bool false)], args := [d1, d2] }
  | _ => none }
def HeapKeepsWrongFalsely : Prop := heapKeepsRow.holds Try.pinned (OpenSpec.ofChange heapKeepsWrong)

/-- 'tumuluslaw05.HeapWords': WHATEVER THE INPUT: true; the input reads as it did. -/
def heapWordsSpec : ChangeSpec := { name := "heapWords", fn := fun _ => fun
  | [d1, d2, d3, d4, d5, d6] => { results := [.lit (.bool true)], args := [d1, d2, d3, d4, d5, d6] }
  | _ => none }
def heapWordsRow : OpenClaim := { program := "ytbflmnoaiklnbaa", sum := "c22e4fbb35885d61aec28e069d788382dee86b1d3417921619d0598dcc0f5add", func := "tumulus/tumuluslaw05.HeapWords", spec := "heapWords", inPlace := ["slices.overlaps[tumulus/api.Block]"], unfollowed := true, recurses := true, apart := false }
def HeapWordsSaid : Prop := heapWordsRow.holds Try.pinned (OpenSpec.ofChange heapWordsSpec)

/-- ITS FALSE NEIGHBOUR: 'it returns false'. Refute it at one input. -/
def heapWordsWrong : ChangeSpec := { name := "heapWords", fn := fun _ => fun
  | [d1, d2, d3, d4, d5, d6] => { results := [.lit (.bool false)], args := [d1, d2, d3, d4, d5, d6] }
  | _ => none }
def HeapWordsWrongFalsely : Prop := heapWordsRow.holds Try.pinned (OpenSpec.ofChange heapWordsWrong)

/-- 'tumuluslaw05.HeapSpace': WHATEVER THE INPUT: true; the input reads as it did. -/
def heapSpaceSpec : ChangeSpec := { name := "heapSpace", fn := fun _ => fun
  | [d1, d2, d3] => { results := [.lit (.bool true)], args := [d1, d2, d3] }
  | _ => none }
def heapSpaceRow : OpenClaim := { program := "ytbflmnoaiklnbaa", sum := "c22e4fbb35885d61aec28e069d788382dee86b1d3417921619d0598dcc0f5add", func := "tumulus/tumuluslaw05.HeapSpace", spec := "heapSpace", inPlace := ["slices.overlaps[tumulus/api.Block]"], unfollowed := true, recurses := true, apart := false }
def HeapSpaceSaid : Prop := heapSpaceRow.holds Try.pinned (OpenSpec.ofChange heapSpaceSpec)

/-- ITS FALSE NEIGHBOUR: 'it returns false'. Refute it at one input. -/
def heapSpaceWrong : ChangeSpec := { name := "heapSpace", fn := fun _ => fun
  | [d1, d2, d3] => { results := [.lit (.bool false)], args := [d1, d2, d3] }
  | _ => none }
def HeapSpaceWrongFalsely : Prop := heapSpaceRow.holds Try.pinned (OpenSpec.ofChange heapSpaceWrong)

/-- 'tumuluslaw05.HeapFreed': WHATEVER THE INPUT: true; the input reads as it did. -/
def heapFreedSpec : ChangeSpec := { name := "heapFreed", fn := fun _ => fun
  | [d1, d2] => { results := [.lit (.bool true)], args := [d1, d2] }
  | _ => none }
def heapFreedRow : OpenClaim := { program := "ytbflmnoaiklnbaa", sum := "c22e4fbb35885d61aec28e069d788382dee86b1d3417921619d0598dcc0f5add", func := "tumulus/tumuluslaw05.HeapFreed", spec := "heapFreed", inPlace := ["slices.overlaps[tumulus/api.Block]"], unfollowed := true, recurses := true, apart := false }
def HeapFreedSaid : Prop := heapFreedRow.holds Try.pinned (OpenSpec.ofChange heapFreedSpec)

/-- ITS FALSE NEIGHBOUR: 'it returns false'. Refute it at one input. -/
def heapFreedWrong : ChangeSpec := { name := "heapFreed", fn := fun _ => fun
  | [d1, d2] => { results := [.lit (.bool false)], args := [d1, d2] }
  | _ => none }
def HeapFreedWrongFalsely : Prop := heapFreedRow.holds Try.pinned (OpenSpec.ofChange heapFreedWrong)

/-- 'tumuluslaw05.HeapFills': WHATEVER THE INPUT: true; the input reads as it did. -/
def heapFillsSpec : ChangeSpec := { name := "heapFills", fn := fun _ => fun
  | [d] => { results := [.lit (.bool true)], args := [d] }
  | _ => none }
def heapFillsRow : OpenClaim := { program := "ytbflmnoaiklnbaa", sum := "c22e4fbb35885d61aec28e069d788382dee86b1d3417921619d0598dcc0f5add", func := "tumulus/tumuluslaw05.HeapFills", spec := "heapFills", inPlace := ["slices.overlaps[tumulus/api.Block]"], unfollowed := true, recurses := true, apart := false }
def HeapFillsSaid : Prop := heapFillsRow.holds Try.pinned (OpenSpec.ofChange heapFillsSpec)

/-- ITS FALSE NEIGHBOUR: 'it returns false'. Refute it at one input. -/
def heapFillsWrong : ChangeSpec := { name := "heapFills", fn := fun _ => fun
  | [d] => { results := [.lit (.bool false)], args := [d] }
  | _ => none }
def HeapFillsWrongFalsely : Prop := heapFillsRow.holds Try.pinned (OpenSpec.ofChange heapFillsWrong)

/-- 'tumuluslaw05.HeapLinks': WHATEVER THE INPUT: true; the input reads as it did. -/
def heapLinksSpec : ChangeSpec := { name := "heapLinks", fn := fun _ => fun
  | [d1, d2, d3, d4, d5, d6] => { results := [.lit (.bool true)], args := [d1, d2, d3, d4, d5, d6] }
  | _ => none }
def heapLinksRow : OpenClaim := { program := "ytbflmnoaiklnbaa", sum := "c22e4fbb35885d61aec28e069d788382dee86b1d3417921619d0598dcc0f5add", func := "tumulus/tumuluslaw05.HeapLinks", spec := "heapLinks", inPlace := ["slices.overlaps[tumulus/api.Block]"], unfollowed := true, recurses := true, apart := false }
def HeapLinksSaid : Prop := heapLinksRow.holds Try.pinned (OpenSpec.ofChange heapLinksSpec)

/-- ITS FALSE NEIGHBOUR: 'it returns false'. Refute it at one input. -/
def heapLinksWrong : ChangeSpec := { name := "heapLinks", fn := fun _ => fun
  | [d1, d2, d3, d4, d5, d6] => { results := [.lit (.bool false)], args := [d1, d2, d3, d4, d5, d6] }
  | _ => none }
def HeapLinksWrongFalsely : Prop := heapLinksRow.holds Try.pinned (OpenSpec.ofChange heapLinksWrong)

/- THE SECOND FORM. 'bulk': how many values and letters a reading holds, each counted each time it is reached (what is shared counts as often as it is met; a slice's spare places count too). A statement '..UptoSaid' is the law's where the arguments, and the package variables that the reading takes, are together of bulk at most 1048576: NARROWER than '..Said'. Prove '..Said' where nothing that the law and all that it calls make is longer than what came in: it says more and counts as full. Else prove '..UptoSaid'. A law counts once. -/
mutual
def uptoBulk {H : Type} : DataW H → Nat
  | .lit (.string bytes) => bytes.length + 1
  | .lit _ => 1
  | .nil => 1
  | .ptr d => uptoBulk d + 1
  | .slice elems spare => uptoBulkAll elems + uptoBulkAll spare + 1
  | .agg parts => uptoBulkAll parts + 1
  | .iface _ d => uptoBulk d + 1
  | .map entries => uptoBulkEntries entries + 1
  | .held _ => 1
def uptoBulkAll {H : Type} : List (DataW H) → Nat
  | [] => 0
  | d :: r => uptoBulk d + uptoBulkAll r
def uptoBulkEntries {H : Type} : List (Lit × DataW H) → Nat
  | [] => 0
  | x :: r => uptoBulkEntry x + uptoBulkEntries r
def uptoBulkEntry {H : Type} : Lit × DataW H → Nat
  | (.string bytes, d) => bytes.length + uptoBulk d + 1
  | (_, d) => uptoBulk d + 1
 end
def uptoSmall : (H : Type) → List (DataW H) → Bool := fun _ ds => decide (uptoBulkAll ds ≤ 1048576)
def OpenSpec.upto (s : _root_.Go.ChangeSpec) : _root_.Go.OpenSpec := { _root_.Go.OpenSpec.ofChange s with cond := some uptoSmall }

/-- 'tumuluslaw06.ImageHeaps', WHERE WHAT IT READS IS OF BULK AT MOST 1048576: true; the input reads as it did. -/
def imageHeapsUptoRow : OpenClaim := { program := "ytbflmnoaiklnbaa", sum := "c22e4fbb35885d61aec28e069d788382dee86b1d3417921619d0598dcc0f5add", func := "tumulus/tumuluslaw06.ImageHeaps", spec := "imageHeaps", inPlace := ["slices.overlaps[tumulus/api.Block]"], unfollowed := true, recurses := true, apart := false, narrowed := true }
def ImageHeapsUptoSaid : Prop := imageHeapsUptoRow.holds Try.pinned (OpenSpec.upto imageHeapsSpec)

/-- 'tumuluslaw04.BuddyMaps', WHERE WHAT IT READS IS OF BULK AT MOST 1048576: true; the input reads as it did. -/
def buddyMapsUptoRow : OpenClaim := { program := "ytbflmnoaiklnbaa", sum := "c22e4fbb35885d61aec28e069d788382dee86b1d3417921619d0598dcc0f5add", func := "tumulus/tumuluslaw04.BuddyMaps", spec := "buddyMaps", inPlace := ["slices.overlaps[tumulus/api.Block]"], unfollowed := true, recurses := true, apart := false, narrowed := true }
def BuddyMapsUptoSaid : Prop := buddyMapsUptoRow.holds Try.pinned (OpenSpec.upto buddyMapsSpec)

/-- 'tumuluslaw06.ImageMore', WHERE WHAT IT READS IS OF BULK AT MOST 1048576: true; the input reads as it did. -/
def imageMoreUptoRow : OpenClaim := { program := "ytbflmnoaiklnbaa", sum := "c22e4fbb35885d61aec28e069d788382dee86b1d3417921619d0598dcc0f5add", func := "tumulus/tumuluslaw06.ImageMore", spec := "imageMore", inPlace := ["slices.overlaps[tumulus/api.Block]"], unfollowed := true, recurses := true, apart := false, narrowed := true }
def ImageMoreUptoSaid : Prop := imageMoreUptoRow.holds Try.pinned (OpenSpec.upto imageMoreSpec)

/-- 'tumuluslaw05.HeapKeeps', WHERE WHAT IT READS IS OF BULK AT MOST 1048576: true; the input reads as it did. -/
def heapKeepsUptoRow : OpenClaim := { program := "ytbflmnoaiklnbaa", sum := "c22e4fbb35885d61aec28e069d788382dee86b1d3417921619d0598dcc0f5add", func := "tumulus/tumuluslaw05.HeapKeeps", spec := "heapKeeps", inPlace := ["slices.overlaps[tumulus/api.Block]"], unfollowed := true, recurses := true, apart := false, narrowed := true }
def HeapKeepsUptoSaid : Prop := heapKeepsUptoRow.holds Try.pinned (OpenSpec.upto heapKeepsSpec)

/-- 'tumuluslaw05.HeapWords', WHERE WHAT IT READS IS OF BULK AT MOST 1048576: true; the input reads as it did. -/
def heapWordsUptoRow : OpenClaim := { program := "ytbflmnoaiklnbaa", sum := "c22e4fbb35885d61aec28e069d788382dee86b1d3417921619d0598dcc0f5add", func := "tumulus/tumuluslaw05.HeapWords", spec := "heapWords", inPlace := ["slices.overlaps[tumulus/api.Block]"], unfollowed := true, recurses := true, apart := false, narrowed := true }
def HeapWordsUptoSaid : Prop := heapWordsUptoRow.holds Try.pinned (OpenSpec.upto heapWordsSpec)

/-- 'tumuluslaw05.HeapSpace', WHERE WHAT IT READS IS OF BULK AT MOST 1048576: true; the input reads as it did. -/
def heapSpaceUptoRow : OpenClaim := { program := "ytbflmnoaiklnbaa", sum := "c22e4fbb35885d61aec28e069d788382dee86b1d3417921619d0598dcc0f5add", func := "tumulus/tumuluslaw05.HeapSpace", spec := "heapSpace", inPlace := ["slices.overlaps[tumulus/api.Block]"], unfollowed := true, recurses := true, apart := false, narrowed := true }
def HeapSpaceUptoSaid : Prop := heapSpaceUptoRow.holds Try.pinned (OpenSpec.upto heapSpaceSpec)

/-- 'tumuluslaw05.HeapFreed', WHERE WHAT IT READS IS OF BULK AT MOST 1048576: true; the input reads as it did. -/
def heapFreedUptoRow : OpenClaim := { program := "ytbflmnoaiklnbaa", sum := "c22e4fbb35885d61aec28e069d788382dee86b1d3417921619d0598dcc0f5add", func := "tumulus/tumuluslaw05.HeapFreed", spec := "heapFreed", inPlace := ["slices.overlaps[tumulus/api.Block]"], unfollowed := true, recurses := true, apart := false, narrowed := true }
def HeapFreedUptoSaid : Prop := heapFreedUptoRow.holds Try.pinned (OpenSpec.upto heapFreedSpec)

/-- 'tumuluslaw05.HeapFills', WHERE WHAT IT READS IS OF BULK AT MOST 1048576: true; the input reads as it did. -/
def heapFillsUptoRow : OpenClaim := { program := "ytbflmnoaiklnbaa", sum := "c22e4fbb35885d61aec28e069d788382dee86b1d3417921619d0598dcc0f5add", func := "tumulus/tumuluslaw05.HeapFills", spec := "heapFills", inPlace := ["slices.overlaps[tumulus/api.Block]"], unfollowed := true, recurses := true, apart := false, narrowed := true }
def HeapFillsUptoSaid : Prop := heapFillsUptoRow.holds Try.pinned (OpenSpec.upto heapFillsSpec)

/-- 'tumuluslaw05.HeapLinks', WHERE WHAT IT READS IS OF BULK AT MOST 1048576: true; the input reads as it did. -/
def heapLinksUptoRow : OpenClaim := { program := "ytbflmnoaiklnbaa", sum := "c22e4fbb35885d61aec28e069d788382dee86b1d3417921619d0598dcc0f5add", func := "tumulus/tumuluslaw05.HeapLinks", spec := "heapLinks", inPlace := ["slices.overlaps[tumulus/api.Block]"], unfollowed := true, recurses := true, apart := false, narrowed := true }
def HeapLinksUptoSaid : Prop := heapLinksUptoRow.holds Try.pinned (OpenSpec.upto heapLinksSpec)

end Rows
end Go.Proofs.Ytbflmnoaiklnbaa
