/- A row of blocks as a heap: the plain law. No program in sight. -/
import Derived.Test.YtbflmnoaiklnbaaTS
set_option linter.unusedSimpArgs false
set_option linter.unusedVariables false
namespace Go.Proofs.Ytbflmnoaiklnbaa
def LtB (a b : Bl) : Prop := a.o < b.o ∨ (a.o = b.o ∧ a.p < b.p)
theorem lessB_iff {a b : Bl} : lessB a b = true ↔ LtB a b := by simp [lessB, LtB]
theorem lessB_no {a b : Bl} : lessB a b = false ↔ ¬ LtB a b := by rw [← lessB_iff]; simp
theorem LtB.asymm {a b : Bl} (h : LtB a b) : ¬ LtB b a := by unfold LtB at *; omega
theorem LtB.ntrans {a b c : Bl} (h1 : ¬ LtB b a) (h2 : ¬ LtB c b) : ¬ LtB c a := by unfold LtB at *; omega
def gB (l : List Bl) (k : Nat) : Bl := l.getD k ⟨0, 0⟩
theorem gB_some {l : List Bl} {k : Nat} {x : Bl} (h : l[k]? = some x) : gB l k = x := by simp [gB, h]
theorem gB_get {l : List Bl} {k : Nat} (h : k < l.length) : l[k]? = some (gB l k) := by simp [gB, h]
theorem gB_swap {l : List Bl} {i k : Nat} (hi : i < l.length) (hk : k < l.length) (j : Nat) : gB (swapL l i k (gB l i) (gB l k)) j = if j = k then gB l i else if j = i then gB l k else gB l j := by
  have h := swapL_get (j := j) (gB_get hi) (gB_get hk)
  have e : ∀ (m : List Bl) q, gB m q = (m[q]?).getD ⟨0, 0⟩ := fun m q => List.getD_eq_getElem?_getD ..
  rw [e, h]
  split
  · rfl
  · split
    · rfl
    · rw [e]
/-- From place i0 on no child goes ahead of its parent. -/
def HeapF (l : List Bl) (n i0 : Nat) : Prop := ∀ k c, i0 ≤ k → (c = 2 * k + 1 ∨ c = 2 * k + 2) → c < n → ¬ LtB (gB l c) (gB l k)
/-- The same, but for place j, which sinks. -/
def HeapD (l : List Bl) (n i0 j : Nat) : Prop :=
  (∀ k c, i0 ≤ k → k ≠ j → (c = 2 * k + 1 ∨ c = 2 * k + 2) → c < n → ¬ LtB (gB l c) (gB l k)) ∧
  (∀ p c, i0 ≤ p → (j = 2 * p + 1 ∨ j = 2 * p + 2) → (c = 2 * j + 1 ∨ c = 2 * j + 2) → c < n → ¬ LtB (gB l c) (gB l p))
theorem HeapD.start {l : List Bl} {n i0 : Nat} (h : HeapF l n (i0 + 1)) : HeapD l n i0 i0 :=
  ⟨fun k c hk hne hc hn => h k c (by omega) hc hn, fun p c hp hj _ _ => by omega⟩
theorem HeapD.leaf {l : List Bl} {n i0 j : Nat} (h : HeapD l n i0 j) (hn : n ≤ 2 * j + 1) : HeapF l n i0 := fun k c hk hc hcn => by
  by_cases hkj : k = j
  · subst hkj; omega
  · exact h.1 k c hk hkj hc hcn
/-- Child m of j is the one that goes ahead. -/
def LeastC (l : List Bl) (n j m : Nat) : Prop := (m = 2 * j + 1 ∨ m = 2 * j + 2) ∧ m < n ∧ ∀ c, (c = 2 * j + 1 ∨ c = 2 * j + 2) → c < n → ¬ LtB (gB l c) (gB l m)
theorem HeapD.stop {l : List Bl} {n i0 j m : Nat} (h : HeapD l n i0 j) (hm : LeastC l n j m) (hl : ¬ LtB (gB l m) (gB l j)) : HeapF l n i0 := fun k c hk hc hcn => by
  by_cases hkj : k = j
  · subst hkj; exact LtB.ntrans hl (hm.2.2 c hc hcn)
  · exact h.1 k c hk hkj hc hcn
theorem HeapD.sink {l : List Bl} {n i0 j m : Nat} (h : HeapD l n i0 j) (hij : i0 ≤ j) (hm : LeastC l n j m) (hl : LtB (gB l m) (gB l j)) (hn : n ≤ l.length) : HeapD (swapL l j m (gB l j) (gB l m)) n i0 m := by
  obtain ⟨m1, m2, m3⟩ := hm
  have hj : j < l.length := by omega
  have hml : m < l.length := by omega
  constructor
  · intro k c hk hkm hc hcn
    rw [gB_swap hj hml, gB_swap hj hml, if_neg hkm]
    by_cases hkj : k = j
    · subst hkj
      rw [if_pos rfl]
      by_cases hcm : c = m
      · subst hcm; rw [if_pos rfl]; exact hl.asymm
      · rw [if_neg hcm, if_neg (by omega)]; exact m3 c hc hcn
    · rw [if_neg hkj]
      by_cases hcm : c = m
      · subst hcm; omega
      · rw [if_neg hcm]
        by_cases hcj : c = j
        · subst hcj; rw [if_pos rfl]; exact h.2 k m hk hc m1 m2
        · rw [if_neg hcj]; exact h.1 k c hk hkj hc hcn
  · intro p c hp hmp hc hcn
    have hpj : p = j := by omega
    subst hpj
    rw [gB_swap hj hml, gB_swap hj hml, if_neg (by omega), if_neg (by omega), if_neg (by omega), if_pos rfl]
    exact h.1 m c (by omega) (by omega) hc hcn
/-- What stands ahead. -/
theorem HeapF.root {l : List Bl} {n : Nat} (h : HeapF l n 0) : ∀ k, k < n → ¬ LtB (gB l k) (gB l 0) := by
  intro k
  induction k using Nat.strongRecOn with
  | ind k ih =>
    intro hk
    rcases Nat.eq_zero_or_pos k with h0 | h0
    · subst h0; exact fun h => h.asymm h
    · have h1 := ih ((k - 1) / 2) (by omega) (by omega)
      exact LtB.ntrans h1 (h ((k - 1) / 2) k (by omega) (by omega) hk)
theorem HeapF.high {l : List Bl} {n i0 : Nat} (h : n ≤ 2 * i0 + 1) : HeapF l n i0 := fun k c hk hc hcn => by omega
structure Downs (l l' : List Bl) (n i0 j : Nat) : Prop where
  perm : l'.Perm l
  same : ∀ q, n ≤ q → gB l' q = gB l q
  heap : HeapF l n (i0 + 1) → HeapD l' n i0 j
structure Downed (l l' : List Bl) (n i0 : Nat) : Prop where
  perm : l'.Perm l
  same : ∀ q, n ≤ q → gB l' q = gB l q
  heap : HeapF l n (i0 + 1) → HeapF l' n i0
theorem Downs.start (l : List Bl) (n i0 : Nat) : Downs l l n i0 i0 := ⟨List.Perm.refl _, fun _ _ => rfl, HeapD.start⟩
theorem Downs.leaf {l l' : List Bl} {n i0 j : Nat} (h : Downs l l' n i0 j) (hn : n ≤ 2 * j + 1) : Downed l l' n i0 := ⟨h.perm, h.same, fun hh => (h.heap hh).leaf hn⟩
theorem Downs.stop {l l' : List Bl} {n i0 j m : Nat} (h : Downs l l' n i0 j) (hm : LeastC l' n j m) (hl : ¬ LtB (gB l' m) (gB l' j)) : Downed l l' n i0 := ⟨h.perm, h.same, fun hh => (h.heap hh).stop hm hl⟩
theorem Downs.sink {l l' : List Bl} {n i0 j m : Nat} (h : Downs l l' n i0 j) (hij : i0 ≤ j) (hm : LeastC l' n j m) (hl : LtB (gB l' m) (gB l' j)) (hn : n ≤ l'.length) : Downs l (swapL l' j m (gB l' j) (gB l' m)) n i0 m := by
  have hj : j < l'.length := by have := hm.1; have := hm.2.1; omega
  have hml : m < l'.length := by have := hm.2.1; omega
  refine ⟨(swapL_perm (gB_get hj) (gB_get hml)).trans h.perm, fun q hq => ?_, fun hh => (h.heap hh).sink hij hm hl hn⟩
  have := hm.1; have := hm.2.1
  rw [gB_swap hj hml, if_neg (by omega), if_neg (by omega)]
  exact h.same q hq
theorem least_one {l : List Bl} {n j : Nat} (h1 : 2 * j + 1 < n) (h2 : ¬ 2 * j + 2 < n) : LeastC l n j (2 * j + 1) := ⟨.inl rfl, h1, fun c hc hcn => by
  have : c = 2 * j + 1 := by omega
  subst this; exact fun h => h.asymm h⟩
theorem least_left {l : List Bl} {n j : Nat} (h1 : 2 * j + 1 < n) (h : ¬ LtB (gB l (2 * j + 2)) (gB l (2 * j + 1))) : LeastC l n j (2 * j + 1) := ⟨.inl rfl, h1, fun c hc hcn => by
  rcases hc with rfl | rfl
  · exact fun h => h.asymm h
  · exact h⟩
theorem least_right {l : List Bl} {n j : Nat} (h2 : 2 * j + 2 < n) (h : LtB (gB l (2 * j + 2)) (gB l (2 * j + 1))) : LeastC l n j (2 * j + 2) := ⟨.inr rfl, h2, fun c hc hcn => by
  rcases hc with rfl | rfl
  · exact h.asymm
  · exact fun h => h.asymm h⟩
end Go.Proofs.Ytbflmnoaiklnbaa
