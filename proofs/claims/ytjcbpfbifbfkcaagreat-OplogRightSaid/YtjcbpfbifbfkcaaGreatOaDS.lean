import Derived.Test.YtjcbpfbifbfkcaaGreatOaQG
import Derived.Test.YtjcbpfbifbfkcaaGreatOaQC
/- What an operation makes of a heap: the plain answer, and that it leaves a right heap right. No program in sight. -/
set_option linter.unusedSimpArgs false
set_option linter.unusedVariables false
namespace Go.Proofs.YtjcbpfbifbfkcaaGreat
def mkOb (h p o : Int) (ws ls : List Int) : Ob := ⟨h, p, o, none, ws, 0, none, ls, 0⟩
def sigO (o : Ob) : Int × Int × Int × Nat × Nat := (o.h, o.p, o.o, o.ws.length, o.ls.length)
def Like (l k : List Ob) : Prop := l.map sigO = k.map sigO
theorem Like.get {l k : List Ob} (h : Like l k) {i : Nat} {b : Ob} (hb : k[i]? = some b) : ∃ a, l[i]? = some a ∧ sigO a = sigO b := by
  have h1 : (k.map sigO)[i]? = some (sigO b) := by rw [List.getElem?_map, hb]; rfl
  rw [← h, List.getElem?_map] at h1
  cases ha : l[i]? with
  | none => rw [ha] at h1; cases h1
  | some a => rw [ha] at h1; injection h1 with h1; exact ⟨a, rfl, h1⟩
theorem Like.mem {l k : List Ob} (h : Like l k) {b : Ob} (hb : b ∈ k) : ∃ a ∈ l, sigO a = sigO b := by
  obtain ⟨i, hi, rfl⟩ := List.getElem_of_mem hb
  obtain ⟨a, ha, hs⟩ := h.get (List.getElem?_eq_getElem hi)
  exact ⟨a, List.mem_of_getElem? ha, hs⟩
theorem Like.symm {l k : List Ob} (h : Like l k) : Like k l := Eq.symm h
theorem Like.rise {l k : List Ob} {nx : Int} (h : Like l k) (hr : HRise nx l) : HRise nx k := fun i o ho => by
  obtain ⟨a, ha, hs⟩ := h.get ho
  obtain ⟨h1, h2, h3⟩ := hr i a ha
  unfold sigO at hs
  injection hs with hs
  rw [← hs]
  refine ⟨h1, h2, fun j q hj hq => ?_⟩
  obtain ⟨b, hb, hs2⟩ := h.get hq
  unfold sigO at hs2
  injection hs2 with hs2
  rw [← hs2]
  exact h3 j b hj hb
theorem Like.len {l k : List Ob} (h : Like l k) : l.length = k.length := by
  have := congrArg List.length (show l.map sigO = k.map sigO from h)
  simpa using this
theorem Like.need {l k : List Ob} {od : Int} (h : Like l k) (hn : HNeed od l) : HNeed od k := fun o ho => by
  obtain ⟨a, ha, hs⟩ := h.mem ho
  obtain ⟨h1, h2⟩ := hn a ha
  unfold sigO at hs
  injection hs with s1 s2
  injection s2 with s2 s3
  injection s3 with s3 s4
  injection s4 with s4 s5
  unfold obBl at h2 ⊢
  rw [← s2, ← s3, ← s4, ← s5]
  exact ⟨h1, h2⟩
theorem Like.set {l : List Ob} {i : Nat} {a b : Ob} (ha : l[i]? = some a) (h : sigO a = sigO b) : Like l (l.set i b) := by
  unfold Like
  rw [List.map_set, ← h, set_same (by rw [List.getElem?_map, ha]; rfl)]
theorem needI_ok {a b : Int} (h : 0 ≤ needI a b) : 0 ≤ a ∧ a ≤ 32 ∧ 0 ≤ b ∧ b ≤ 16 := by
  unfold needI at h
  split at h
  · rename_i h'; exact h'
  · omega
end Go.Proofs.YtjcbpfbifbfkcaaGreat
