/-
  No cell of these rows narrows 'for every input' (looked for: loops, veiled, ifaces, maps, wideKeys, modest, calm, conditions, laid).
  DERIVED. THE GIVEN ROWS OF THIS SEAT. 4 by the template 'for every input the law returns true; each argument reads behind the call as it read before'; 0 by the template 'total and deterministic' (their statements: YtcjbepaclbhjaaaGreatTotals.lean).
  GIVEN WITH THE SEED: the statements are not yours to turn. If you find one false, say at which input.
  Laid BY PROGRAM, IN A SANDBOX (cutbox-rows.mjs): the forced cells as the released guide's own fill.sh prints them over the translation 009d20df651b447f… (all of the seat's roots in one cut). By AI agents, Wed Nov 11 2026. No macro, syntax, notation, axiom, sorry.
-/
import Derived.Test.YtcjbepaclbhjaaaGreatChecked
import GoSem.Claim
import GoSem.ClaimJoined
import GoSem.ClaimMapViews
import Derived.JoinedTies
import Derived.KernelRfl
namespace Go.Proofs.YtcjbepaclbhjaaaGreat
/- THE CELL 'sum', in the pinned program and in every row, IS THE sha256 OF THE DUMP (.gsa) THAT YtcjbepaclbhjaaaGreatProg.lean LOADS. Nothing in Lean hashes anything: it is a label: what it is worth is what the hold of that sum in a sandbox is worth. -/
noncomputable def Tryz.pinned : Pinned := { name := "ytcjbepaclbhjaaagreat", sum := "009d20df651b447f920b35ef924e45ad818d9ecff1daf695377a37056d61694f", checked := Tryz.checked }
namespace Rows
def none {H : Type} : Left H := { results := [], args := [] }

/-- 'tumuluslaw17.ChangeVotes': WHATEVER THE INPUT: true; the input reads as it did. -/
def changeVotesSpec : ChangeSpec := { name := "changeVotes", fn := fun _ => fun
  | [d1, d2, d3, d4, d5] => { results := [.lit (.bool true)], args := [d1, d2, d3, d4, d5] }
  | _ => none }
def changeVotesRow : OpenClaim := { program := "ytcjbepaclbhjaaagreat", sum := "009d20df651b447f920b35ef924e45ad818d9ecff1daf695377a37056d61694f", func := "tumulus/tumuluslaw17.ChangeVotes", spec := "changeVotes", inPlace := ["slices.overlaps[tumulus/api.Block]", "slices.overlaps[tumulus/api.Vote]"], unfollowed := true, recurses := true, apart := false }
def ChangeVotesSaid : Prop := changeVotesRow.holds Tryz.pinned (OpenSpec.ofChange changeVotesSpec)

/-- ITS FALSE NEIGHBOUR: 'it returns false'. Refute it at one input. -/
def changeVotesWrong : ChangeSpec := { name := "changeVotes", fn := fun _ => fun
  | [d1, d2, d3, d4, d5] => { results := [.lit (.bool false)], args := [d1, d2, d3, d4, d5] }
  | _ => none }
def ChangeVotesWrongFalsely : Prop := changeVotesRow.holds Tryz.pinned (OpenSpec.ofChange changeVotesWrong)

/-- 'tumuluslaw17.ChangeOrder': WHATEVER THE INPUT: true; the input reads as it did. -/
def changeOrderSpec : ChangeSpec := { name := "changeOrder", fn := fun _ => fun
  | [d1, d2, d3] => { results := [.lit (.bool true)], args := [d1, d2, d3] }
  | _ => none }
def changeOrderRow : OpenClaim := { program := "ytcjbepaclbhjaaagreat", sum := "009d20df651b447f920b35ef924e45ad818d9ecff1daf695377a37056d61694f", func := "tumulus/tumuluslaw17.ChangeOrder", spec := "changeOrder", inPlace := ["slices.overlaps[tumulus/api.Vote]", "slices.overlaps[tumulus/api.Block]"], unfollowed := true, recurses := true, apart := false }
def ChangeOrderSaid : Prop := changeOrderRow.holds Tryz.pinned (OpenSpec.ofChange changeOrderSpec)

/-- ITS FALSE NEIGHBOUR: 'it returns false'. Refute it at one input. -/
def changeOrderWrong : ChangeSpec := { name := "changeOrder", fn := fun _ => fun
  | [d1, d2, d3] => { results := [.lit (.bool false)], args := [d1, d2, d3] }
  | _ => none }
def ChangeOrderWrongFalsely : Prop := changeOrderRow.holds Tryz.pinned (OpenSpec.ofChange changeOrderWrong)

/-- 'tumuluslaw17.ChangeKeeps': WHATEVER THE INPUT: true; the input reads as it did. -/
def changeKeepsSpec : ChangeSpec := { name := "changeKeeps", fn := fun _ => fun
  | [d1, d2, d3, d4, d5, d6, d7] => { results := [.lit (.bool true)], args := [d1, d2, d3, d4, d5, d6, d7] }
  | _ => none }
def changeKeepsRow : OpenClaim := { program := "ytcjbepaclbhjaaagreat", sum := "009d20df651b447f920b35ef924e45ad818d9ecff1daf695377a37056d61694f", func := "tumulus/tumuluslaw17.ChangeKeeps", spec := "changeKeeps", inPlace := ["slices.overlaps[tumulus/api.Vote]", "slices.overlaps[tumulus/api.Block]"], unfollowed := true, recurses := true, apart := false }
def ChangeKeepsSaid : Prop := changeKeepsRow.holds Tryz.pinned (OpenSpec.ofChange changeKeepsSpec)

/-- ITS FALSE NEIGHBOUR: 'it returns false'. Refute it at one input. -/
def changeKeepsWrong : ChangeSpec := { name := "changeKeeps", fn := fun _ => fun
  | [d1, d2, d3, d4, d5, d6, d7] => { results := [.lit (.bool false)], args := [d1, d2, d3, d4, d5, d6, d7] }
  | _ => none }
def ChangeKeepsWrongFalsely : Prop := changeKeepsRow.holds Tryz.pinned (OpenSpec.ofChange changeKeepsWrong)

/-- 'tumuluslaw17.ChangeChooses': WHATEVER THE INPUT: true; the input reads as it did. -/
def changeChoosesSpec : ChangeSpec := { name := "changeChooses", fn := fun _ => fun
  | [d1, d2, d3, d4, d5] => { results := [.lit (.bool true)], args := [d1, d2, d3, d4, d5] }
  | _ => none }
def changeChoosesRow : OpenClaim := { program := "ytcjbepaclbhjaaagreat", sum := "009d20df651b447f920b35ef924e45ad818d9ecff1daf695377a37056d61694f", func := "tumulus/tumuluslaw17.ChangeChooses", spec := "changeChooses", inPlace := ["slices.overlaps[tumulus/api.Block]"], unfollowed := true, recurses := true, apart := false }
def ChangeChoosesSaid : Prop := changeChoosesRow.holds Tryz.pinned (OpenSpec.ofChange changeChoosesSpec)

/-- ITS FALSE NEIGHBOUR: 'it returns false'. Refute it at one input. -/
def changeChoosesWrong : ChangeSpec := { name := "changeChooses", fn := fun _ => fun
  | [d1, d2, d3, d4, d5] => { results := [.lit (.bool false)], args := [d1, d2, d3, d4, d5] }
  | _ => none }
def ChangeChoosesWrongFalsely : Prop := changeChoosesRow.holds Tryz.pinned (OpenSpec.ofChange changeChoosesWrong)

/- THE SECOND FORM. 'bulk': how many values and letters a reading holds, each counted each time it is reached (what is shared counts as often as it is met; a slice's spare places count too). A statement '..UptoSaid' is the law's where the arguments, and the package variables that the reading takes, are together of bulk at most 1048576: NARROWER than '..Said'. Prove '..Said' where nothing that the law and all that it calls make is longer than what came in: it says more and counts as full. Else prove '..UptoSaid'. A law counts once. -/
mutual
def uptoBulk {H : Type} : DataW H → Nat
  | .lit (.string bytes) => bytes.length + 1
  | .lit _ => 1
  | .nil => 1
  | .ptr d => uptoBulk d + 1
  | .slice elems spare => uptoBulkAll elems + uptoBulkAll spare + 1
  | .agg parts => uptoBulkAll parts + 1
  | .iface _ d => uptoBulk d + 1
  | .map entries => uptoBulkEntries entries + 1
  | .held _ => 1
def uptoBulkAll {H : Type} : List (DataW H) → Nat
  | [] => 0
  | d :: r => uptoBulk d + uptoBulkAll r
def uptoBulkEntries {H : Type} : List (Lit × DataW H) → Nat
  | [] => 0
  | x :: r => uptoBulkEntry x + uptoBulkEntries r
def uptoBulkEntry {H : Type} : Lit × DataW H → Nat
  | (.string bytes, d) => bytes.length + uptoBulk d + 1
  | (_, d) => uptoBulk d + 1
 end
def uptoSmall : (H : Type) → List (DataW H) → Bool := fun _ ds => decide (uptoBulkAll ds ≤ 1048576)
def OpenSpec.upto (s : _root_.Go.ChangeSpec) : _root_.Go.OpenSpec := { _root_.Go.OpenSpec.ofChange s with cond := some uptoSmall }

/-- 'tumuluslaw17.ChangeVotes', WHERE WHAT IT READS IS OF BULK AT MOST 1048576: true; the input reads as it did. -/
def changeVotesUptoRow : OpenClaim := { program := "ytcjbepaclbhjaaagreat", sum := "009d20df651b447f920b35ef924e45ad818d9ecff1daf695377a37056d61694f", func := "tumulus/tumuluslaw17.ChangeVotes", spec := "changeVotes", inPlace := ["slices.overlaps[tumulus/api.Block]", "slices.overlaps[tumulus/api.Vote]"], unfollowed := true, recurses := true, apart := false, narrowed := true }
def ChangeVotesUptoSaid : Prop := changeVotesUptoRow.holds Tryz.pinned (OpenSpec.upto changeVotesSpec)

/-- 'tumuluslaw17.ChangeOrder', WHERE WHAT IT READS IS OF BULK AT MOST 1048576: true; the input reads as it did. -/
def changeOrderUptoRow : OpenClaim := { program := "ytcjbepaclbhjaaagreat", sum := "009d20df651b447f920b35ef924e45ad818d9ecff1daf695377a37056d61694f", func := "tumulus/tumuluslaw17.ChangeOrder", spec := "changeOrder", inPlace := ["slices.overlaps[tumulus/api.Vote]", "slices.overlaps[tumulus/api.Block]"], unfollowed := true, recurses := true, apart := false, narrowed := true }
def ChangeOrderUptoSaid : Prop := changeOrderUptoRow.holds Tryz.pinned (OpenSpec.upto changeOrderSpec)

/-- 'tumuluslaw17.ChangeKeeps', WHERE WHAT IT READS IS OF BULK AT MOST 1048576: true; the input reads as it did. -/
def changeKeepsUptoRow : OpenClaim := { program := "ytcjbepaclbhjaaagreat", sum := "009d20df651b447f920b35ef924e45ad818d9ecff1daf695377a37056d61694f", func := "tumulus/tumuluslaw17.ChangeKeeps", spec := "changeKeeps", inPlace := ["slices.overlaps[tumulus/api.Vote]", "slices.overlaps[tumulus/api.Block]"], unfollowed := true, recurses := true, apart := false, narrowed := true }
def ChangeKeepsUptoSaid : Prop := changeKeepsUptoRow.holds Tryz.pinned (OpenSpec.upto changeKeepsSpec)

/-- 'tumuluslaw17.ChangeChooses', WHERE WHAT IT READS IS OF BULK AT MOST 1048576: true; the input reads as it did. -/
def changeChoosesUptoRow : OpenClaim := { program := "ytcjbepaclbhjaaagreat", sum := "009d20df651b447f920b35ef924e45ad818d9ecff1daf695377a37056d61694f", func := "tumulus/tumuluslaw17.ChangeChooses", spec := "changeChooses", inPlace := ["slices.overlaps[tumulus/api.Block]"], unfollowed := true, recurses := true, apart := false, narrowed := true }
def ChangeChoosesUptoSaid : Prop := changeChoosesUptoRow.holds Tryz.pinned (OpenSpec.upto changeChoosesSpec)

end Rows
end Go.Proofs.YtcjbepaclbhjaaaGreat
