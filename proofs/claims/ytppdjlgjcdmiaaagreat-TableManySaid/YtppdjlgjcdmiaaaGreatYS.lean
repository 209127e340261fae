/- What an entry makes of a state: the plain law. No program in sight. -/
import Derived.Test.YtppdjlgjcdmiaaaGreatDV
import Derived.Test.YtppdjlgjcdmiaaaGreatHFind
import Derived.Test.YtppdjlgjcdmiaaaGreatYB
set_option linter.unusedSimpArgs false
set_option linter.unusedVariables false
namespace Go.Proofs.YtppdjlgjcdmiaaaGreat
def rowOk (last : Int) (x : Rw) : Bool := decide (last < x.c ∧ x.c ≤ 4 ∧ 1 ≤ x.s ∧ x.s ≤ 1000000 ∧ 0 ≤ x.e ∧ x.e ≤ 65535)
def rowsOk : Int → List Rw → Bool
  | _, [] => true
  | last, x :: r => rowOk last x && rowsOk x.c r
noncomputable def stB (x : Sv) : Bool := hrightB x.hv && rowsOk 0 x.rs
def putRow : List Rw → Rw → List Rw
  | [], x => [x]
  | y :: r, x => if y.c < x.c then y :: putRow r x else if y.c = x.c then x :: r else x :: y :: r
def applyC (x : Sv) (c s : Int) (o : Opd) : Sv × Int × Int :=
  if s < (findR x.rs c).1.s then (x, 130, 0) else if c = 0 ∨ (findR x.rs c).1.s = s then (x, (findR x.rs c).1.e, (findR x.rs c).1.v) else
    ({ x with hv := (doC x.hv o).1, rs := putRow x.rs ⟨c, s, (doC x.hv o).2.1, (doC x.hv o).2.2⟩ }, (doC x.hv o).2.1, (doC x.hv o).2.2)
theorem rowsOk_cons {last : Int} {x : Rw} {r : List Rw} : rowsOk last (x :: r) = true ↔ rowOk last x = true ∧ rowsOk x.c r = true := by simp [rowsOk]
theorem rowOk_iff {last : Int} {x : Rw} : rowOk last x = true ↔ last < x.c ∧ x.c ≤ 4 ∧ 1 ≤ x.s ∧ x.s ≤ 1000000 ∧ 0 ≤ x.e ∧ x.e ≤ 65535 := by simp [rowOk]
theorem rowsOk_mem : ∀ {l : List Rw} {last : Int}, rowsOk last l = true → ∀ x ∈ l, rowOk last x = true
  | [], _, _, x, hx => by cases hx
  | y :: r, last, h, x, hx => by
    obtain ⟨h1, h2⟩ := rowsOk_cons.1 h
    rcases List.mem_cons.1 hx with rfl | hx
    · exact h1
    · have h3 := rowOk_iff.1 h1
      have h4 := rowOk_iff.1 (rowsOk_mem h2 x hx)
      exact rowOk_iff.2 ⟨by omega, h4.2⟩
theorem rowsOk_len : ∀ {l : List Rw} {last : Int}, rowsOk last l = true → last ≤ 4 → (l.length : Int) ≤ 4 - last
  | [], _, _, h => by simp; omega
  | y :: r, last, h, _ => by
    obtain ⟨h1, h2⟩ := rowsOk_cons.1 h
    have h3 := rowOk_iff.1 h1
    have := rowsOk_len h2 h3.2.1
    simp only [List.length_cons]; omega
theorem rowsOk_sorted : ∀ {l : List Rw} {last : Int}, rowsOk last l = true → SortedR l
  | [], _, _, i, j, x, y, _, hx, _ => by simp at hx
  | z :: r, last, h, i, j, x, y, hij, hx, hy => by
    obtain ⟨h1, h2⟩ := rowsOk_cons.1 h
    cases j with
    | zero => omega
    | succ j =>
      rw [List.getElem?_cons_succ] at hy
      cases i with
      | zero =>
        simp at hx; subst hx
        have := rowOk_iff.1 (rowsOk_mem h2 y (List.mem_of_getElem? hy))
        omega
      | succ i =>
        rw [List.getElem?_cons_succ] at hx
        exact rowsOk_sorted h2 i j x y (by omega) hx hy
theorem put_ok {x : Rw} : ∀ {l : List Rw} {last : Int}, rowsOk last l = true → rowOk last x = true → rowsOk last (putRow l x) = true
  | [], last, _, h => by unfold putRow; exact rowsOk_cons.2 ⟨h, rfl⟩
  | y :: r, last, h, hx => by
    obtain ⟨h1, h2⟩ := rowsOk_cons.1 h
    have hx' := rowOk_iff.1 hx
    have h1' := rowOk_iff.1 h1
    unfold putRow
    split
    · rename_i hlt
      exact rowsOk_cons.2 ⟨h1, put_ok h2 (rowOk_iff.2 ⟨hlt, hx'.2⟩)⟩
    · split
      · rename_i heq
        exact rowsOk_cons.2 ⟨hx, by rw [← heq]; exact h2⟩
      · exact rowsOk_cons.2 ⟨hx, rowsOk_cons.2 ⟨rowOk_iff.2 ⟨by omega, h1'.2⟩, h2⟩⟩
theorem find_cons (y : Rw) (r : List Rw) (c : Int) : findR (y :: r) c = if y.c = c then (y, true) else findR r c := by
  unfold findR
  rw [List.find?_cons]
  by_cases h : y.c = c <;> simp [h]
theorem find_nil (c : Int) : findR [] c = (⟨0, 0, 0, 0⟩, false) := rfl
theorem find_low : ∀ {l : List Rw} {last : Int}, rowsOk last l = true → ∀ c, c ≤ last → findR l c = (⟨0, 0, 0, 0⟩, false)
  | [], _, _, c, _ => rfl
  | y :: r, last, h, c, hc => by
    obtain ⟨h1, h2⟩ := rowsOk_cons.1 h
    have := rowOk_iff.1 h1
    rw [find_cons, if_neg (by omega)]
    exact find_low h2 c (by omega)
theorem find_put {x : Rw} : ∀ {l : List Rw} {last : Int}, rowsOk last l = true → ∀ c, findR (putRow l x) c = if x.c = c then (x, true) else findR l c
  | [], last, _, c => by unfold putRow; rw [find_cons]
  | y :: r, last, h, c => by
    obtain ⟨h1, h2⟩ := rowsOk_cons.1 h
    unfold putRow
    split
    · rename_i hlt
      rw [find_cons, find_cons, find_put h2 c]
      by_cases hy : y.c = c
      · rw [if_pos hy, if_pos hy, if_neg (by omega)]
      · rw [if_neg hy, if_neg hy]
    · split
      · rename_i heq
        rw [find_cons, find_cons]
        by_cases hx : x.c = c
        · rw [if_pos hx, if_pos hx]
        · rw [if_neg hx, if_neg hx, if_neg (by omega)]
      · rw [find_cons]
theorem find_code {l : List Rw} {last : Int} (h : rowsOk last l = true) (c : Int) : 0 ≤ (findR l c).1.s ∧ (findR l c).1.s ≤ 1000000 ∧ ((findR l c).2 = true → 1 ≤ (findR l c).1.s) := by
  rcases find_ways l c with ⟨j, x, hj, hx, hno⟩ | hno
  · rw [find_at hj hx hno]
    have := rowOk_iff.1 (rowsOk_mem h x (List.mem_of_getElem? hj))
    exact ⟨by simp only; omega, by simp only; omega, fun _ => by simp only; omega⟩
  · rw [find_no hno]; exact ⟨by simp, by simp, fun h => by cases h⟩
theorem put_has {x : Rw} : ∀ {l : List Rw} {last : Int}, rowsOk last l = true → ∀ {k : Nat}, AtR l x.c k → putRow l x = if hasBR l x.c k = true then l.set k x else l.take k ++ x :: l.drop k
  | [], _, _, k, hk => by
    obtain ⟨h1, _⟩ := hk
    have : k = 0 := by simpa using h1
    subst this
    simp [putRow, hasBR]
  | y :: r, last, h, k, hk => by
    obtain ⟨h1, h2⟩ := rowsOk_cons.1 h
    obtain ⟨k1, k2, k3⟩ := hk
    unfold putRow
    cases k with
    | zero =>
      have := k3 0 y rfl (Nat.le_refl _)
      rw [if_neg (by omega)]
      by_cases he : y.c = x.c
      · rw [if_pos he, if_pos (by simp [hasBR, he])]; rfl
      · rw [if_neg he, if_neg (by simp [hasBR, he])]; rfl
    | succ k =>
      have := k2 0 y rfl (by omega)
      rw [if_pos this]
      have hk' : AtR r x.c k := ⟨by simpa using k1, fun j z hz hj => k2 (j + 1) z (by simpa using hz) (by omega), fun j z hz hj => k3 (j + 1) z (by simpa using hz) (by omega)⟩
      rw [put_has h2 hk']
      have hb : hasBR (y :: r) x.c (k + 1) = hasBR r x.c k := by simp [hasBR]
      rw [hb]
      split <;> simp
theorem at_find {l : List Rw} {c : Int} {k : Nat} (hs : SortedR l) (hk : AtR l c k) : hasBR l c k = (findR l c).2 := by
  obtain ⟨k1, k2, k3⟩ := hk
  rcases find_ways l c with ⟨j, x, hj, hx, hno⟩ | hno
  · rw [find_at hj hx hno]
    have hjl := (List.getElem?_eq_some_iff.1 hj).1
    have h1 : k ≤ j := Nat.le_of_not_lt fun h => by have := k2 j x hj h; omega
    have h2 : ¬ k < j := fun h => by
      have hk' := List.getElem?_eq_getElem (l := l) (i := k) (by omega)
      have a := k3 k _ hk' (Nat.le_refl _)
      have b := hs k j _ _ h hk' hj
      omega
    obtain rfl : k = j := by omega
    simp [hasBR, hj, hx]
  · rw [find_no hno]
    unfold hasBR
    split
    · rename_i y hy
      simpa using hno k y hy
    · rfl
theorem doC_code (x : Hv) (o : Opd) : 0 ≤ (doC x o).2.1 ∧ (doC x o).2.1 ≤ 54 := by
  unfold doC
  split
  · unfold allocC
    split
    · simp
    · split
      · simp
      · split <;> simp
  · split
    · unfold atC
      split
      · simp
      · split
        · simp
        · split
          · simp
          · split
            · simp
            · split
              · simp
              · split
                · split <;> simp
                · simp
    · split
      · unfold topC
        split
        · simp
        · split
          · simp
          · split <;> simp
      · simp
structure StR (x : Sv) : Prop where
  hv : HRight x.hv
  rows : rowsOk 0 x.rs = true
theorem st_of {x : Sv} (h : stB x = true) : StR x := by
  unfold stB at h
  rw [Bool.and_eq_true] at h
  exact ⟨hright_of h.1, h.2⟩
theorem st_yes {x : Sv} (h : StR x) : stB x = true := by unfold stB; rw [hright_yes h.hv, h.rows]; rfl
theorem StR.small {x : Sv} (h : StR x) : x.Small := ⟨h.hv.small, by have := rowsOk_len h.rows (by decide); omega⟩
theorem stB_sm {x y : Sv} (h : x.Sm y) : stB x = stB y := by unfold stB; rw [hright_sm h.1, h.2]
theorem apply_right {x : Sv} (hx : StR x) {c s : Int} (o : Opd) (hc : c = 0 ∨ (1 ≤ c ∧ c ≤ 4 ∧ 1 ≤ s ∧ s ≤ 1000000)) : StR (applyC x c s o).1 := by
  unfold applyC
  split
  · exact hx
  · split
    · exact hx
    · rename_i h1 h2
      have hc0 : c ≠ 0 := fun h => h2 (.inl h)
      have hcd := doC_code x.hv o
      refine ⟨doC_right hx.hv o, put_ok hx.rows (rowOk_iff.2 ⟨?_, ?_, ?_, ?_, ?_, ?_⟩)⟩ <;> simp only <;> omega
theorem applyC_sm {x y : Sv} (h : x.Sm y) (c s : Int) (o : Opd) : (applyC x c s o).2 = (applyC y c s o).2 ∧ (applyC x c s o).1.Sm (applyC y c s o).1 := by
  obtain ⟨h1, h2⟩ := h
  have hd := doC_sm h1 o
  unfold applyC
  rw [h2]
  split
  · exact ⟨rfl, h1, h2⟩
  · split
    · exact ⟨rfl, h1, h2⟩
    · refine ⟨by simp only; rw [hd.1], hd.2, ?_⟩
      simp only; rw [hd.1]
end Go.Proofs.YtppdjlgjcdmiaaaGreat
