/- The words of free blocks as a map of bits: the plain law. No program in sight. -/
import Derived.Test.YtbflmnoaiklnbaaMB
import Derived.Test.YtbflmnoaiklnbaaCB
set_option linter.unusedSimpArgs false
set_option linter.unusedVariables false
namespace Go.Proofs.Ytbflmnoaiklnbaa
/-- The bits that blocks have. -/
def bitB (l : List Bl) : Nat → Bool := fun i => l.any fun b => decide (b.p ≤ i ∧ i < b.p + pw b.o)
theorem bitB_iff {l : List Bl} {i : Nat} : bitB l i = true ↔ cov l i := by
  unfold bitB cov InW
  rw [List.any_eq_true]
  constructor
  · rintro ⟨b, hb, h⟩; exact ⟨b, hb, of_decide_eq_true h⟩
  · rintro ⟨b, hb, h⟩; exact ⟨b, hb, decide_eq_true h⟩
theorem bitB_nil : bitB [] = noBit := by funext i; rfl
theorem bitB_snoc (l : List Bl) (a m : Nat) (o : Int) (hm : pw o = (m : Int)) : bitB (l ++ [⟨a, o⟩]) = upd (bitB l) a (a + m) true := by
  funext i
  unfold bitB upd
  rw [List.any_append]
  simp only [List.any_cons, List.any_nil, Bool.or_false, hm]
  by_cases h : a ≤ i ∧ i < a + m
  · rw [if_pos h, decide_eq_true (by omega)]; simp
  · rw [if_neg h, decide_eq_false (by omega)]; simp
theorem cb_one {f : Nat → Bool} {a : Nat} (hf : f a = false) : ∀ n, cb (upd f a (a + 1) true) n = cb f n + (if a < n then 1 else 0)
  | 0 => rfl
  | n + 1 => by
    simp only [cb]
    rw [cb_one hf n]
    by_cases h1 : a = n
    · subst h1
      have e : upd f a (a + 1) true a = true := by unfold upd; rw [if_pos (by omega)]
      rw [e, hf, if_neg (by omega), if_pos (by omega)]; simp
    · have e : upd f a (a + 1) true n = f n := by unfold upd; rw [if_neg (by omega)]
      rw [e]
      by_cases h2 : a < n
      · rw [if_pos h2, if_pos (by omega)]; omega
      · rw [if_neg h2, if_neg (by omega)]; omega
theorem cb_upd {f : Nat → Bool} {a n : Nat} : ∀ m, a + m ≤ n → (∀ i, a ≤ i → i < a + m → f i = false) → cb (upd f a (a + m) true) n = cb f n + m
  | 0, _, _ => by rw [Nat.add_zero, upd_zero]; rfl
  | m + 1, hn, hf => by
    have ih := cb_upd (f := f) (a := a) (n := n) m (by omega) (fun i h1 h2 => hf i h1 (by omega))
    have e : upd f a (a + (m + 1)) true = upd (upd f a (a + m) true) (a + m) (a + m + 1) true := upd_succ f a (a + m) true (by omega)
    have h0 : upd f a (a + m) true (a + m) = false := by unfold upd; rw [if_neg (by omega)]; exact hf _ (by omega) (by omega)
    rw [e, cb_one h0 n, ih, if_pos (show a + m < n by omega)]; omega
theorem cb_off {f : Nat → Bool} {a n m : Nat} (hn : a + m ≤ n) (hf : ∀ i, a ≤ i → i < a + m → f i = true) : cb (upd f a (a + m) false) n + m = cb f n := by
  have e : upd (upd f a (a + m) false) a (a + m) true = f := by
    funext i; unfold upd
    by_cases h : a ≤ i ∧ i < a + m
    · rw [if_pos h]; exact (hf i h.1 h.2).symm
    · rw [if_neg h, if_neg h]
  have := cb_upd (f := upd f a (a + m) false) (a := a) (n := n) m hn (fun i h1 h2 => by unfold upd; rw [if_pos ⟨h1, h2⟩])
  rw [e] at this
  omega
/-- A block as two numbers that are not below nothing. -/
theorem may_nat {od : Int} {b : Bl} (h : MayP od b) : ∃ a m n : Nat, b.p = a ∧ pw b.o = m ∧ pw od = n ∧ a + m ≤ n ∧ 0 < m := by
  have h1 := pw_pos b.o
  have h2 := pw_pos od
  have h3 := h.2.2.1
  have h4 := h.2.2.2.1
  refine ⟨b.p.toNat, (pw b.o).toNat, (pw od).toNat, ?_, ?_, ?_, ?_, ?_⟩ <;> omega
theorem run_here {f : Nat → Bool} {N a m : Nat} {r : Int} (h : RunI f N a m true r) (hm : 0 < m) (hn : a + m ≤ N) (ha : ∀ i, a ≤ i → i < a + m → f i = true) : r = a := by
  rcases h with ⟨h1, _⟩ | ⟨_, h2⟩
  · omega
  · rw [Int.toNat_natCast, Int.toNat_natCast] at h2
    exact h2.eq (.inr ⟨a, rfl, Nat.le_refl _, hn, fun j hj => ha _ (by omega) (by omega), fun b' h3 h4 => by omega⟩)
/-- Where the free blocks are put: so many of them are. -/
structure MapIn (od : Int) (fs : List Bl) (N j : Nat) (f : Nat → Bool) : Prop where
  eq : f = bitB (fs.take j)
  out : ∀ i, N ≤ i → f i = false
  cnt : (cb f N : Int) = sumB (fs.take j)
theorem cov_lt {od : Int} {l : List Bl} (h : ∀ b ∈ l, MayP od b) {w : Int} (hw : cov l w) : w < pw od := by
  obtain ⟨x, hx, h1⟩ := hw
  have h2 := (h x hx).2.2.2.1
  unfold InW at h1
  omega
theorem bitB_out {od : Int} {l : List Bl} {N : Nat} (h : ∀ b ∈ l, MayP od b) (hN : pw od = (N : Int)) : ∀ i, N ≤ i → bitB l i = false := fun i hi => by
  cases hq : bitB l i with
  | false => rfl
  | true => have := cov_lt h (bitB_iff.1 hq); omega
theorem MapIn.start {od : Int} {fs : List Bl} (N : Nat) : MapIn od fs N 0 noBit := by
  refine ⟨by rw [List.take_zero, bitB_nil], fun _ _ => rfl, ?_⟩
  have : ∀ n, cb noBit n = 0 := fun n => by induction n with
    | zero => rfl
    | succ n ih => simp only [cb]; rw [ih]; rfl
  rw [this, List.take_zero]; rfl
theorem MapIn.step {od : Int} {fs : List Bl} {N j : Nat} {f : Nat → Bool} {b : Bl} (h : MapIn od fs N j f) (hc : Can od fs) (hN : pw od = (N : Int)) (hj : fs[j]? = some b) :
    ∃ a m : Nat, b.p = a ∧ pw b.o = m ∧ a + m ≤ N ∧ 0 < m ∧ MapIn od fs N (j + 1) (upd f a (a + m) true) := by
  have hb := List.mem_of_getElem? hj
  obtain ⟨a, m, n, e1, e2, e3, e4, e5⟩ := may_nat (hc.may b hb)
  have hn : n = N := by omega
  subst hn
  obtain ⟨p, o⟩ := b
  simp only at e1 e2
  subst e1
  have et : fs.take (j + 1) = fs.take j ++ [⟨a, o⟩] := by rw [List.take_add_one, hj]; rfl
  refine ⟨a, m, rfl, e2, e4, e5, ?_, fun i hi => ?_, ?_⟩
  · rw [et, bitB_snoc _ a m o e2, h.eq]
  · unfold upd; rw [if_neg (by omega)]; exact h.out i hi
  · rw [cb_upd m e4, et, sumB_append]
    · have := h.cnt
      simp only [sumB_cons, e2] at *
      have e0 : sumB [] = 0 := rfl
      omega
    · intro i h1 h2
      rw [h.eq]
      cases hq : bitB (fs.take j) i with
      | false => rfl
      | true =>
        obtain ⟨x, hx, h3⟩ := bitB_iff.1 hq
        have hd := hc.disj
        have hlt := (List.getElem?_eq_some_iff.1 hj).1
        have e6 : fs = fs.take j ++ (⟨a, o⟩ :: fs.drop (j + 1)) := by
          conv => lhs; rw [← List.take_append_drop j fs]
          congr 1
          rw [List.drop_eq_getElem_cons hlt]
          congr 1
          exact (List.getElem?_eq_some_iff.1 hj).2
        unfold Disj at hd
        rw [e6, List.pairwise_append] at hd
        have := hd.2.2 x hx ⟨a, o⟩ (by simp)
        unfold InW at h3
        simp only at this
        omega
/-- All of them are put. -/
theorem MapIn.done {od : Int} {fs : List Bl} {N j : Nat} {f : Nat → Bool} (h : MapIn od fs N j f) (hj : fs.length ≤ j) : f = bitB fs ∧ (∀ i, N ≤ i → f i = false) ∧ (cb f N : Int) = sumB fs := by
  have := h.eq
  have h3 := h.cnt
  rw [List.take_of_length_le hj] at this h3
  exact ⟨this, h.out, h3⟩
/-- What was taken, off. -/
structure MapOff (od : Int) (s : List Bl) (N : Nat) (g : Nat → Bool) : Prop where
  out : ∀ i, N ≤ i → g i = false
  cnt : (cb g N : Int) = sumB s
  on_ : ∀ x ∈ s, ∃ a m : Nat, x.p = a ∧ pw x.o = m ∧ a + m ≤ N ∧ 0 < m ∧ ∀ i, a ≤ i → i < a + m → g i = true
theorem map_off {od : Int} {fs s : List Bl} {p want : Int} {N : Nat} (hc : Can od fs) (hi : Inv od fs p s want) (hN : pw od = (N : Int)) (hn : (cb (bitB fs) N : Int) = sumB fs) :
    ∃ a m : Nat, p = a ∧ pw want = m ∧ a + m ≤ N ∧ 0 < m ∧ (∀ i, a ≤ i → i < a + m → bitB fs i = true) ∧ MapOff od s N (upd (bitB fs) a (a + m) false) := by
  obtain ⟨a, m, n, e1, e2, e3, e4, e5⟩ := may_nat hi.here
  have hnN : n = N := by omega
  subst hnN
  simp only at e1 e2
  subst e1
  have hon : ∀ i : Nat, a ≤ i → i < a + m → bitB fs i = true := fun i h1 h2 => bitB_iff.2 ((hi.cov i).2 (.inr (by unfold InW; simp only; omega)))
  refine ⟨a, m, rfl, e2, e4, e5, hon, fun i hi2 => ?_, ?_, fun x hx => ?_⟩
  · unfold upd; rw [if_neg (by omega)]; exact bitB_out hc.may hN i hi2
  · have h1 := cb_off (f := bitB fs) e4 hon
    have h2 := hi.sum
    omega
  · obtain ⟨c, k, n', q1, q2, q3, q4, q5⟩ := may_nat (hi.may x hx)
    have hnn : n' = n := by omega
    subst hnn
    refine ⟨c, k, q1, q2, q4, q5, fun i h1 h2 => ?_⟩
    have hw : InW x (i : Int) := by unfold InW; omega
    have h3 := hi.lv.2 x hx
    unfold upd
    rw [if_neg ?_]
    · exact bitB_iff.2 ((hi.cov i).2 (.inl ⟨x, hx, hw⟩))
    · rintro ⟨h4, h5⟩; omega
end Go.Proofs.Ytbflmnoaiklnbaa
