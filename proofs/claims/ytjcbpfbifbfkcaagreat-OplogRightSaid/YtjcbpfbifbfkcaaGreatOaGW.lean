import Derived.Test.YtjcbpfbifbfkcaaGreatOaQE
import Derived.Test.YtjcbpfbifbfkcaaGreatOaQB
import Derived.Test.YtjcbpfbifbfkcaaGreatOaQA
/- The walk of buddy.Give. -/
set_option linter.unusedSimpArgs false
set_option linter.unusedVariables false
namespace Go.Proofs.YtjcbpfbifbfkcaaGreat
open Go.RowKit
theorem RowIs.box {w : World} {b : Nat} {q r : Int} (h : RowIs w (some ⟨b, 0, none⟩) [.int .i64 q, .int .i64 r]) : BoxIs w b q r := fun j v hj => by
  obtain ⟨b', off', he, hc⟩ := h j v hj
  injection he with he; injection he with e1 e2; subst e1; subst e2; exact hc
theorem IndexP.no {l : List Bl} {v : Bl} {r : Int} (h : IndexP l v r) (hn : v ∉ l) : r = -1 := by
  rcases h with ⟨h, _⟩ | ⟨j, _, hj⟩
  · exact h
  · exact absurd (List.mem_of_getElem? hj) hn
def GiveRel (od : Int) (fs : List Bl) (b0 : Bl) (k : Nat) (l : List Bl) (b : Bl) : Prop := GiveAt od l b ∧ giveF od (od - b0.o).toNat fs b0 = giveF od k l b ∧ l.length ≤ 600 ∧ k = (od - b.o).toNat
theorem GiveRel.done {od : Int} {fs : List Bl} {b0 b : Bl} {k : Nat} {l : List Bl} (h : GiveRel od fs b0 k l b) (hn : ¬ (b.o < od ∧ twinP b ∈ l)) {i : Nat} (hi : AtB l b.p i) : l.take i ++ b :: l.drop i = givenL od fs b0 := by
  rw [withL_at hi h.1.ne]
  unfold givenL
  rw [h.2.1, giveF_no hn]
def RowAt (w : World) (M : List Blk) (a : Option Addr) (xs : List Value) : Prop := ∀ (w1 : World) (L : List Blk), Hp w.heap.size w w1 L → (∀ p ∈ M, p ∈ L) → RowIs w1 a xs
theorem RowAt.at {w w1 : World} {M L : List Blk} {a : Option Addr} {xs : List Value} (h : RowAt w M a xs) (hp : Hp w.heap.size w w1 L) (hm : ∀ p ∈ M, p ∈ L) : RowIs w1 a xs := h w1 L hp hm
end Go.Proofs.YtjcbpfbifbfkcaaGreat
