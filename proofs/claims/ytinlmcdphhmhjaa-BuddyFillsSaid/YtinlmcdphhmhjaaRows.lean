/-
  No cell of these rows narrows 'for every input' (looked for: loops, veiled, ifaces, maps, wideKeys, modest, calm, conditions, laid).
  DERIVED. THE GIVEN ROWS OF THIS SEAT. 6 by the template 'for every input the law returns true; each argument reads behind the call as it read before'; 0 by the template 'total and deterministic' (their statements: YtinlmcdphhmhjaaTotals.lean).
  GIVEN WITH THE SEED: the statements are not yours to turn. If you find one false, say at which input.
  Laid BY PROGRAM, IN A SANDBOX (cutbox-rows.mjs): the forced cells as the released guide's own fill.sh prints them over the translation dff15d4678a7dd10… (all of the seat's roots in one cut). By AI agents, Wed Nov 11 2026. No macro, syntax, notation, axiom, sorry.
-/
import Derived.Test.YtinlmcdphhmhjaaChecked
import GoSem.Claim
import GoSem.ClaimJoined
import GoSem.ClaimMapViews
import Derived.JoinedTies
import Derived.KernelRfl
namespace Go.Proofs.Ytinlmcdphhmhjaa
/- THE CELL 'sum', in the pinned program and in every row, IS THE sha256 OF THE DUMP (.gsa) THAT YtinlmcdphhmhjaaProg.lean LOADS. Nothing in Lean hashes anything: it is a label: what it is worth is what the hold of that sum in a sandbox is worth. -/
noncomputable def Try.pinned : Pinned := { name := "ytinlmcdphhmhjaa", sum := "dff15d4678a7dd10164ba940b594f1dc1ed724f4655e49addb005039c0809740", checked := Try.checked }
namespace Rows
def none {H : Type} : Left H := { results := [], args := [] }

/-- 'tumuluslaw05.HeapChecks': WHATEVER THE INPUT: true; the input reads as it did. -/
def heapChecksSpec : ChangeSpec := { name := "heapChecks", fn := fun _ => fun
  | [d1, d2, d3, d4] => { results := [.lit (.bool true)], args := [d1, d2, d3, d4] }
  | _ => none }
def heapChecksRow : OpenClaim := { program := "ytinlmcdphhmhjaa", sum := "dff15d4678a7dd10164ba940b594f1dc1ed724f4655e49addb005039c0809740", func := "tumulus/tumuluslaw05.HeapChecks", spec := "heapChecks", unfollowed := true, recurses := true, apart := false }
def HeapChecksSaid : Prop := heapChecksRow.holds Try.pinned (OpenSpec.ofChange heapChecksSpec)

/-- ITS FALSE NEIGHBOUR: 'it returns false'. Refute it at one input. -/
def heapChecksWrong : ChangeSpec := { name := "heapChecks", fn := fun _ => fun
  | [d1, d2, d3, d4] => { results := [.lit (.bool false)], args := [d1, d2, d3, d4] }
  | _ => none }
def HeapChecksWrongFalsely : Prop := heapChecksRow.holds Try.pinned (OpenSpec.ofChange heapChecksWrong)

/-- 'tumuluslaw04.BuddyTakes': WHATEVER THE INPUT: true; the input reads as it did. -/
def buddyTakesSpec : ChangeSpec := { name := "buddyTakes", fn := fun _ => fun
  | [d1, d2, d3] => { results := [.lit (.bool true)], args := [d1, d2, d3] }
  | _ => none }
def buddyTakesRow : OpenClaim := { program := "ytinlmcdphhmhjaa", sum := "dff15d4678a7dd10164ba940b594f1dc1ed724f4655e49addb005039c0809740", func := "tumulus/tumuluslaw04.BuddyTakes", spec := "buddyTakes", inPlace := ["slices.overlaps[tumulus/api.Block]"], unfollowed := true, recurses := true, apart := false }
def BuddyTakesSaid : Prop := buddyTakesRow.holds Try.pinned (OpenSpec.ofChange buddyTakesSpec)

/-- ITS FALSE NEIGHBOUR: 'it returns false'. Refute it at one input. -/
def buddyTakesWrong : ChangeSpec := { name := "buddyTakes", fn := fun _ => fun
  | [d1, d2, d3] => { results := [.lit (.bool false)], args := [d1, d2, d3] }
  | _ => none }
def BuddyTakesWrongFalsely : Prop := buddyTakesRow.holds Try.pinned (OpenSpec.ofChange buddyTakesWrong)

/-- 'tumuluslaw04.BuddyGives': WHATEVER THE INPUT: true; the input reads as it did. -/
def buddyGivesSpec : ChangeSpec := { name := "buddyGives", fn := fun _ => fun
  | [d1, d2, d3] => { results := [.lit (.bool true)], args := [d1, d2, d3] }
  | _ => none }
def buddyGivesRow : OpenClaim := { program := "ytinlmcdphhmhjaa", sum := "dff15d4678a7dd10164ba940b594f1dc1ed724f4655e49addb005039c0809740", func := "tumulus/tumuluslaw04.BuddyGives", spec := "buddyGives", inPlace := ["slices.overlaps[tumulus/api.Block]"], unfollowed := true, recurses := true, apart := false }
def BuddyGivesSaid : Prop := buddyGivesRow.holds Try.pinned (OpenSpec.ofChange buddyGivesSpec)

/-- ITS FALSE NEIGHBOUR: 'it returns false'. Refute it at one input. -/
def buddyGivesWrong : ChangeSpec := { name := "buddyGives", fn := fun _ => fun
  | [d1, d2, d3] => { results := [.lit (.bool false)], args := [d1, d2, d3] }
  | _ => none }
def BuddyGivesWrongFalsely : Prop := buddyGivesRow.holds Try.pinned (OpenSpec.ofChange buddyGivesWrong)

/-- 'tumuluslaw04.BuddyBack': WHATEVER THE INPUT: true; the input reads as it did. -/
def buddyBackSpec : ChangeSpec := { name := "buddyBack", fn := fun _ => fun
  | [d1, d2, d3] => { results := [.lit (.bool true)], args := [d1, d2, d3] }
  | _ => none }
def buddyBackRow : OpenClaim := { program := "ytinlmcdphhmhjaa", sum := "dff15d4678a7dd10164ba940b594f1dc1ed724f4655e49addb005039c0809740", func := "tumulus/tumuluslaw04.BuddyBack", spec := "buddyBack", inPlace := ["slices.overlaps[tumulus/api.Block]"], unfollowed := true, recurses := true, apart := false }
def BuddyBackSaid : Prop := buddyBackRow.holds Try.pinned (OpenSpec.ofChange buddyBackSpec)

/-- ITS FALSE NEIGHBOUR: 'it returns false'. Refute it at one input. -/
def buddyBackWrong : ChangeSpec := { name := "buddyBack", fn := fun _ => fun
  | [d1, d2, d3] => { results := [.lit (.bool false)], args := [d1, d2, d3] }
  | _ => none }
def BuddyBackWrongFalsely : Prop := buddyBackRow.holds Try.pinned (OpenSpec.ofChange buddyBackWrong)

/-- 'tumuluslaw04.BuddyTwo': WHATEVER THE INPUT: true; the input reads as it did. -/
def buddyTwoSpec : ChangeSpec := { name := "buddyTwo", fn := fun _ => fun
  | [d1, d2, d3, d4] => { results := [.lit (.bool true)], args := [d1, d2, d3, d4] }
  | _ => none }
def buddyTwoRow : OpenClaim := { program := "ytinlmcdphhmhjaa", sum := "dff15d4678a7dd10164ba940b594f1dc1ed724f4655e49addb005039c0809740", func := "tumulus/tumuluslaw04.BuddyTwo", spec := "buddyTwo", inPlace := ["slices.overlaps[tumulus/api.Block]"], unfollowed := true, recurses := true, apart := false }
def BuddyTwoSaid : Prop := buddyTwoRow.holds Try.pinned (OpenSpec.ofChange buddyTwoSpec)

/-- ITS FALSE NEIGHBOUR: 'it returns false'. Refute it at one input. -/
def buddyTwoWrong : ChangeSpec := { name := "buddyTwo", fn := fun _ => fun
  | [d1, d2, d3, d4] => { results := [.lit (.bool false)], args := [d1, d2, d3, d4] }
  | _ => none }
def BuddyTwoWrongFalsely : Prop := buddyTwoRow.holds Try.pinned (OpenSpec.ofChange buddyTwoWrong)

/-- 'tumuluslaw04.BuddyFills': WHATEVER THE INPUT: true; the input reads as it did. -/
def buddyFillsSpec : ChangeSpec := { name := "buddyFills", fn := fun _ => fun
  | [d1, d2, d3, d4] => { results := [.lit (.bool true)], args := [d1, d2, d3, d4] }
  | _ => none }
def buddyFillsRow : OpenClaim := { program := "ytinlmcdphhmhjaa", sum := "dff15d4678a7dd10164ba940b594f1dc1ed724f4655e49addb005039c0809740", func := "tumulus/tumuluslaw04.BuddyFills", spec := "buddyFills", inPlace := ["slices.overlaps[tumulus/api.Block]"], unfollowed := true, recurses := true, apart := false }
def BuddyFillsSaid : Prop := buddyFillsRow.holds Try.pinned (OpenSpec.ofChange buddyFillsSpec)

/-- ITS FALSE NEIGHBOUR: 'it returns false'. Refute it at one input. -/
def buddyFillsWrong : ChangeSpec := { name := "buddyFills", fn := fun _ => fun
  | [d1, d2, d3, d4] => { results := [.lit (.bool false)], args := [d1, d2, d3, d4] }
  | _ => none }
def BuddyFillsWrongFalsely : Prop := buddyFillsRow.holds Try.pinned (OpenSpec.ofChange buddyFillsWrong)

/- THE SECOND FORM. 'bulk': how many values and letters a reading holds, each counted each time it is reached (what is shared counts as often as it is met; a slice's spare places count too). A statement '..UptoSaid' is the law's where the arguments, and the package variables that the reading takes, are together of bulk at most 1048576: NARROWER than '..Said'. Prove '..Said' where nothing that the law and all that it calls make is longer than what came in: it says more and counts as full. Else prove '..UptoSaid'. A law counts once. -/
mutual
def uptoBulk {H : Type} : DataW H → Nat
  | .lit (.string bytes) => bytes.length + 1
  | .lit _ => 1
  | .nil => 1
  | .ptr d => uptoBulk d + 1
  | .slice elems spare => uptoBulkAll elems + uptoBulkAll spare + 1
  | .agg parts => uptoBulkAll parts + 1
  | .iface _ d => uptoBulk d + 1
  | .map entries => uptoBulkEntries entries + 1
  | .held _ => 1
def uptoBulkAll {H : Type} : List (DataW H) → Nat
  | [] => 0
  | d :: r => uptoBulk d + uptoBulkAll r
def uptoBulkEntries {H : Type} : List (Lit × DataW H) → Nat
  | [] => 0
  | x :: r => uptoBulkEntry x + uptoBulkEntries r
def uptoBulkEntry {H : Type} : Lit × DataW H → Nat
  | (.string bytes, d) => bytes.length + uptoBulk d + 1
  | (_, d) => uptoBulk d + 1
 end
def uptoSmall : (H : Type) → List (DataW H) → Bool := fun _ ds => decide (uptoBulkAll ds ≤ 1048576)
def OpenSpec.upto (s : _root_.Go.ChangeSpec) : _root_.Go.OpenSpec := { _root_.Go.OpenSpec.ofChange s with cond := some uptoSmall }

/-- 'tumuluslaw05.HeapChecks', WHERE WHAT IT READS IS OF BULK AT MOST 1048576: true; the input reads as it did. -/
def heapChecksUptoRow : OpenClaim := { program := "ytinlmcdphhmhjaa", sum := "dff15d4678a7dd10164ba940b594f1dc1ed724f4655e49addb005039c0809740", func := "tumulus/tumuluslaw05.HeapChecks", spec := "heapChecks", unfollowed := true, recurses := true, apart := false, narrowed := true }
def HeapChecksUptoSaid : Prop := heapChecksUptoRow.holds Try.pinned (OpenSpec.upto heapChecksSpec)

/-- 'tumuluslaw04.BuddyTakes', WHERE WHAT IT READS IS OF BULK AT MOST 1048576: true; the input reads as it did. -/
def buddyTakesUptoRow : OpenClaim := { program := "ytinlmcdphhmhjaa", sum := "dff15d4678a7dd10164ba940b594f1dc1ed724f4655e49addb005039c0809740", func := "tumulus/tumuluslaw04.BuddyTakes", spec := "buddyTakes", inPlace := ["slices.overlaps[tumulus/api.Block]"], unfollowed := true, recurses := true, apart := false, narrowed := true }
def BuddyTakesUptoSaid : Prop := buddyTakesUptoRow.holds Try.pinned (OpenSpec.upto buddyTakesSpec)

/-- 'tumuluslaw04.BuddyGives', WHERE WHAT IT READS IS OF BULK AT MOST 1048576: true; the input reads as it did. -/
def buddyGivesUptoRow : OpenClaim := { program := "ytinlmcdphhmhjaa", sum := "dff15d4678a7dd10164ba940b594f1dc1ed724f4655e49addb005039c0809740", func := "tumulus/tumuluslaw04.BuddyGives", spec := "buddyGives", inPlace := ["slices.overlaps[tumulus/api.Block]"], unfollowed := true, recurses := true, apart := false, narrowed := true }
def BuddyGivesUptoSaid : Prop := buddyGivesUptoRow.holds Try.pinned (OpenSpec.upto buddyGivesSpec)

/-- 'tumuluslaw04.BuddyBack', WHERE WHAT IT READS IS OF BULK AT MOST 1048576: true; the input reads as it did. -/
def buddyBackUptoRow : OpenClaim := { program := "ytinlmcdphhmhjaa", sum := "dff15d4678a7dd10164ba940b594f1dc1ed724f4655e49addb005039c0809740", func := "tumulus/tumuluslaw04.BuddyBack", spec := "buddyBack", inPlace := ["slices.overlaps[tumulus/api.Block]"], unfollowed := true, recurses := true, apart := false, narrowed := true }
def BuddyBackUptoSaid : Prop := buddyBackUptoRow.holds Try.pinned (OpenSpec.upto buddyBackSpec)

/-- 'tumuluslaw04.BuddyTwo', WHERE WHAT IT READS IS OF BULK AT MOST 1048576: true; the input reads as it did. -/
def buddyTwoUptoRow : OpenClaim := { program := "ytinlmcdphhmhjaa", sum := "dff15d4678a7dd10164ba940b594f1dc1ed724f4655e49addb005039c0809740", func := "tumulus/tumuluslaw04.BuddyTwo", spec := "buddyTwo", inPlace := ["slices.overlaps[tumulus/api.Block]"], unfollowed := true, recurses := true, apart := false, narrowed := true }
def BuddyTwoUptoSaid : Prop := buddyTwoUptoRow.holds Try.pinned (OpenSpec.upto buddyTwoSpec)

/-- 'tumuluslaw04.BuddyFills', WHERE WHAT IT READS IS OF BULK AT MOST 1048576: true; the input reads as it did. -/
def buddyFillsUptoRow : OpenClaim := { program := "ytinlmcdphhmhjaa", sum := "dff15d4678a7dd10164ba940b594f1dc1ed724f4655e49addb005039c0809740", func := "tumulus/tumuluslaw04.BuddyFills", spec := "buddyFills", inPlace := ["slices.overlaps[tumulus/api.Block]"], unfollowed := true, recurses := true, apart := false, narrowed := true }
def BuddyFillsUptoSaid : Prop := buddyFillsUptoRow.holds Try.pinned (OpenSpec.upto buddyFillsSpec)

end Rows
end Go.Proofs.Ytinlmcdphhmhjaa
