/- Blocks by order and place; rows with one element exchanged: the plain law. No program in sight. -/
import Derived.Test.YtbflmnoaiklnbaaBSmall
import Derived.Test.YtbflmnoaiklnbaaIns
set_option linter.unusedSimpArgs false
set_option linter.unusedVariables false
namespace Go.Proofs.Ytbflmnoaiklnbaa
open Go.RowKit
theorem flat_drop {α : Type} {f : α → List Value} (c : Nat) (hf : ∀ x, (f x).length = c) (l : List α) : ∀ i : Nat, (l.flatMap f).drop (i * c) = (l.drop i).flatMap f := by
  induction l with
  | nil => intro i; simp
  | cons x l ih =>
    intro i
    cases i with
    | zero => simp
    | succ i =>
      rw [List.flatMap_cons, List.drop_succ_cons, ← ih i, List.drop_append, hf, show (i + 1) * c - c = i * c by rw [Nat.add_mul]; omega,
        List.drop_eq_nil_of_le (by rw [hf, Nat.add_mul]; omega), List.nil_append]
theorem flat_at {α : Type} {f : α → List Value} (c : Nat) (hf : ∀ x, (f x).length = c) {l : List α} {i : Nat} {x : α} (h : l[i]? = some x) : ((l.flatMap f).drop (i * c)).take c = f x := by
  obtain ⟨hi, rfl⟩ := List.getElem?_eq_some_iff.1 h
  rw [flat_drop c hf, List.drop_eq_getElem_cons hi, List.flatMap_cons, List.take_append_of_le_length (by rw [hf]; omega), List.take_of_length_le (by rw [hf]; omega)]
theorem spl_midB (l1 l2 l3 vs : List Value) (h : l2.length = vs.length) : spl (l1 ++ (l2 ++ l3)) l1.length vs = l1 ++ (vs ++ l3) := by
  induction vs generalizing l1 l2 with
  | nil => have : l2 = [] := List.eq_nil_of_length_eq_zero (by simpa using h); subst this; rfl
  | cons v vs ih =>
    cases l2 with
    | nil => simp at h
    | cons y l2 =>
      have e : (l1 ++ (y :: l2 ++ l3)).set l1.length v = l1 ++ [v] ++ (l2 ++ l3) := by
        rw [List.cons_append, List.set_append_right _ _ (Nat.le_refl _), Nat.sub_self, List.set_cons_zero, List.append_assoc]; rfl
      show spl ((l1 ++ (y :: l2 ++ l3)).set l1.length v) (l1.length + 1) vs = _
      rw [e, show l1.length + 1 = (l1 ++ [v]).length by simp, ih (l1 ++ [v]) l2 (by simpa using h)]
      simp
theorem flat_spl {α : Type} {f : α → List Value} (c : Nat) (hf : ∀ x, (f x).length = c) {l : List α} {i : Nat} {y : α} (h : i < l.length) : spl (l.flatMap f) (i * c) (f y) = (l.set i y).flatMap f := by
  have e1 : l = l.take i ++ (l[i] :: l.drop (i + 1)) := by rw [← List.drop_eq_getElem_cons h, List.take_append_drop]
  have e2 : l.set i y = l.take i ++ (y :: l.drop (i + 1)) := by
    rw [List.set_eq_take_append_cons_drop, if_pos h]
  have e3 : ((l.take i).flatMap f).length = i * c := by rw [flat_len f c hf, List.length_take, Nat.min_eq_left (by omega)]
  rw [e2, List.flatMap_append, List.flatMap_cons]
  have e4 : l.flatMap f = (l.take i).flatMap f ++ (f l[i] ++ (l.drop (i + 1)).flatMap f) := by
    rw [← List.flatMap_cons, ← List.flatMap_append, ← e1]
  rw [e4, ← e3, spl_midB _ _ _ _ (by rw [hf, hf])]
/-- Which block is taken first. -/
def lessB (a b : Bl) : Bool := decide (a.o < b.o ∨ (a.o = b.o ∧ a.p < b.p))
def orI (a b : Int) : Int := if a = 0 then b else a
theorem less_or (a b : Bl) : decide (orI (cmpI a.o b.o) (cmpI a.p b.p) < 0) = lessB a b := by
  unfold orI lessB cmpI
  rw [decide_eq_decide]
  (repeat' split) <;> omega
def swapL (l : List Bl) (i k : Nat) (x y : Bl) : List Bl := (l.set i y).set k x
theorem swapL_perm {l : List Bl} {i k : Nat} {x y : Bl} (hx : l[i]? = some x) (hy : l[k]? = some y) : (swapL l i k x y).Perm l := by
  obtain ⟨hi, rfl⟩ := List.getElem?_eq_some_iff.1 hx
  obtain ⟨hk, rfl⟩ := List.getElem?_eq_some_iff.1 hy
  unfold swapL
  exact List.set_set_perm hi hk
theorem swapL_len (l : List Bl) (i k : Nat) (x y : Bl) : (swapL l i k x y).length = l.length := by simp [swapL]
theorem swapL_get {l : List Bl} {i k j : Nat} {x y : Bl} (hx : l[i]? = some x) (hy : l[k]? = some y) : (swapL l i k x y)[j]? = if j = k then some x else if j = i then some y else l[j]? := by
  have hi := (List.getElem?_eq_some_iff.1 hx).1
  have hk := (List.getElem?_eq_some_iff.1 hy).1
  unfold swapL
  rw [List.getElem?_set, List.getElem?_set]
  simp only [List.length_set]
  by_cases h1 : k = j
  · subst h1; simp [hk]
  · rw [if_neg h1, if_neg (Ne.symm h1)]
    by_cases h2 : i = j
    · subst h2; simp [hi]
    · rw [if_neg h2, if_neg (Ne.symm h2)]
end Go.Proofs.Ytbflmnoaiklnbaa
