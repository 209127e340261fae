/- What is taken: the plain law. No program in sight. -/
import Derived.Test.YtbflmnoaiklnbaaTHS
import Derived.Test.YtbflmnoaiklnbaaBCheck
import Derived.Test.YtbflmnoaiklnbaaBRoom
set_option linter.unusedSimpArgs false
set_option linter.unusedVariables false
namespace Go.Proofs.Ytbflmnoaiklnbaa
/-- The halves that come off. -/
def hv (p o : Int) : Nat → List Bl
  | 0 => []
  | n + 1 => hv p o n ++ [⟨p + pw (o - n - 1), o - n - 1⟩]
theorem hv_len (p o : Int) : ∀ n, (hv p o n).length = n
  | 0 => rfl
  | n + 1 => by rw [hv, List.length_append, hv_len p o n]; rfl
structure LeastT (want : Int) (fs : List Bl) (b : Bl) : Prop where
  mem : b ∈ fs
  great : want ≤ b.o
  least : ∀ y ∈ fs, want ≤ y.o → ¬ LtB y b
structure TakenP (want : Int) (fs : List Bl) (b : Bl) (s : List Bl) : Prop where
  perm : (b :: s).Perm (fs ++ hv b.p b.o (b.o - want).toNat)
  sort : s.Pairwise fun x y => x.p ≤ y.p
def greats (want : Int) (l : List Bl) : List Bl := l.filter fun b => decide (want ≤ b.o)
def smalls (want : Int) (l : List Bl) : List Bl := l.filter fun b => !decide (want ≤ b.o)
theorem gs_perm (want : Int) (l : List Bl) : (greats want l ++ smalls want l).Perm l := List.filter_append_perm _ l
theorem great_pos {want : Int} {l : List Bl} (h : greatB l want = true) : 0 < (greats want l).length := by
  unfold greatB at h
  obtain ⟨x, hx, hw⟩ := List.any_eq_true.1 h
  exact List.length_pos_of_mem (List.mem_filter.2 ⟨hx, hw⟩)
theorem least_of {want : Int} {fs l : List Bl} (hp : l.Perm (greats want fs)) (hh : HeapF l l.length 0) (hl : 0 < l.length) : LeastT want fs (gB l 0) := by
  have hm : gB l 0 ∈ greats want fs := hp.mem_iff.1 (List.mem_of_getElem? (gB_get hl))
  obtain ⟨h1, h2⟩ := List.mem_filter.1 hm
  refine ⟨h1, by simpa using h2, fun y hy hw => ?_⟩
  have hy2 : y ∈ l := hp.mem_iff.2 (List.mem_filter.2 ⟨hy, by simpa using hw⟩)
  obtain ⟨k, hk, rfl⟩ := List.getElem_of_mem hy2
  have := hh.root k hk
  rw [gB_some (List.getElem?_eq_getElem hk)] at this
  exact this
/-- The queue's blocks while it splits. -/
def Splits (want : Int) (fs : List Bl) (b : Bl) (i : Nat) (l : List Bl) : Prop := (b :: l).Perm (greats want fs ++ hv b.p b.o i)
theorem Splits.start {want : Int} {fs l l' : List Bl} (hp : l.Perm (greats want fs)) (h : (l' ++ [gB l 0]).Perm l) : Splits want fs (gB l 0) 0 l' := by
  unfold Splits
  rw [hv, List.append_nil]
  exact (List.perm_append_comm (l₁ := [gB l 0])).trans (h.trans hp)
theorem Splits.step {want : Int} {fs l l' : List Bl} {b : Bl} {i : Nat} (h : Splits want fs b i l) (hp : l'.Perm (l ++ [⟨b.p + pw (b.o - i - 1), b.o - i - 1⟩])) : Splits want fs b (i + 1) l' := by
  unfold Splits at *
  rw [hv, ← List.append_assoc]
  exact (hp.cons b).trans (h.append_right [_])
theorem Splits.len {want : Int} {fs l : List Bl} {b : Bl} {i : Nat} (h : Splits want fs b i l) : l.length + 1 = (greats want fs).length + i := by
  have := h.length_eq
  rw [List.length_append, hv_len, List.length_cons] at this
  exact this
theorem Splits.done {want : Int} {fs l s : List Bl} {b : Bl} (h : Splits want fs b (b.o - want).toNat l) (hs : s.Perm (l ++ smalls want fs)) (hso : s.Pairwise fun x y => x.p ≤ y.p) : TakenP want fs b s := by
  refine ⟨?_, hso⟩
  refine (hs.cons b).trans ?_
  rw [← List.cons_append]
  refine (h.append_right _).trans ?_
  rw [List.append_assoc]
  refine (List.perm_append_comm.append_left _).trans ?_
  rw [← List.append_assoc]
  exact (gs_perm want fs).append_right _
theorem greats_le (want : Int) (l : List Bl) : (greats want l).length ≤ l.length := List.length_filter_le _ _
theorem smalls_le (want : Int) (l : List Bl) : (smalls want l).length ≤ l.length := List.length_filter_le _ _
theorem greats_snoc {want : Int} {l : List Bl} {j : Nat} {y : Bl} (h : l[j]? = some y) (hy : want ≤ y.o) : greats want (l.take (j + 1)) = greats want (l.take j) ++ [y] ∧ smalls want (l.take (j + 1)) = smalls want (l.take j) := by
  rw [List.take_add_one, h]; simp [greats, smalls, hy]
theorem smalls_snoc {want : Int} {l : List Bl} {j : Nat} {y : Bl} (h : l[j]? = some y) (hy : ¬ want ≤ y.o) : smalls want (l.take (j + 1)) = smalls want (l.take j) ++ [y] ∧ greats want (l.take (j + 1)) = greats want (l.take j) := by
  rw [List.take_add_one, h]; simp [greats, smalls, hy]
end Go.Proofs.Ytbflmnoaiklnbaa
