import Derived.Test.YtcjbepaclbhjaaaTjMB
import Derived.Test.YtcjbepaclbhjaaaTjQG
/- The words of free blocks as a map of bits: the plain law. No program in sight. -/
set_option linter.unusedSimpArgs false
set_option linter.unusedVariables false
namespace Go.Proofs.Ytcjbepaclbhjaaa
def bitB (l : List Bl) : Nat → Bool := fun i => l.any fun b => decide (b.p ≤ i ∧ i < b.p + pw b.o)
theorem bitB_iff {l : List Bl} {i : Nat} : bitB l i = true ↔ cov l i := by
  unfold bitB cov InW
  rw [List.any_eq_true]
  constructor
  · rintro ⟨b, hb, h⟩; exact ⟨b, hb, of_decide_eq_true h⟩
  · rintro ⟨b, hb, h⟩; exact ⟨b, hb, decide_eq_true h⟩
theorem bitB_nil : bitB [] = noBit := by funext i; rfl
theorem bitB_snoc (l : List Bl) (a m : Nat) (o : Int) (hm : pw o = (m : Int)) : bitB (l ++ [⟨a, o⟩]) = upd (bitB l) a (a + m) true := by
  funext i
  unfold bitB upd
  rw [List.any_append]
  simp only [List.any_cons, List.any_nil, Bool.or_false, hm]
  by_cases h : a ≤ i ∧ i < a + m
  · rw [if_pos h, decide_eq_true (by omega)]; simp
  · rw [if_neg h, decide_eq_false (by omega)]; simp
theorem cb_one {f : Nat → Bool} {a : Nat} (hf : f a = false) : ∀ n, cb (upd f a (a + 1) true) n = cb f n + (if a < n then 1 else 0)
  | 0 => rfl
  | n + 1 => by
    simp only [cb]
    rw [cb_one hf n]
    by_cases h1 : a = n
    · subst h1
      have e : upd f a (a + 1) true a = true := by unfold upd; rw [if_pos (by omega)]
      rw [e, hf, if_neg (by omega), if_pos (by omega)]; simp
    · have e : upd f a (a + 1) true n = f n := by unfold upd; rw [if_neg (by omega)]
      rw [e]
      by_cases h2 : a < n
      · rw [if_pos h2, if_pos (by omega)]; omega
      · rw [if_neg h2, if_neg (by omega)]; omega
theorem cb_upd {f : Nat → Bool} {a n : Nat} : ∀ m, a + m ≤ n → (∀ i, a ≤ i → i < a + m → f i = false) → cb (upd f a (a + m) true) n = cb f n + m
  | 0, _, _ => by rw [Nat.add_zero, upd_zero]; rfl
  | m + 1, hn, hf => by
    have ih := cb_upd (f := f) (a := a) (n := n) m (by omega) (fun i h1 h2 => hf i h1 (by omega))
    have e : upd f a (a + (m + 1)) true = upd (upd f a (a + m) true) (a + m) (a + m + 1) true := upd_succ f a (a + m) true (by omega)
    have h0 : upd f a (a + m) true (a + m) = false := by unfold upd; rw [if_neg (by omega)]; exact hf _ (by omega) (by omega)
    rw [e, cb_one h0 n, ih, if_pos (show a + m < n by omega)]; omega
theorem may_nat {od : Int} {b : Bl} (h : MayP od b) : ∃ a m n : Nat, b.p = a ∧ pw b.o = m ∧ pw od = n ∧ a + m ≤ n ∧ 0 < m := by
  have h1 := pw_pos b.o
  have h2 := pw_pos od
  have h3 := h.2.2.1
  have h4 := h.2.2.2.1
  refine ⟨b.p.toNat, (pw b.o).toNat, (pw od).toNat, ?_, ?_, ?_, ?_, ?_⟩ <;> omega
structure MapIn (od : Int) (fs : List Bl) (N j : Nat) (f : Nat → Bool) : Prop where
  eq : f = bitB (fs.take j)
  out : ∀ i, N ≤ i → f i = false
  cnt : (cb f N : Int) = sumB (fs.take j)
theorem MapIn.start {od : Int} {fs : List Bl} (N : Nat) : MapIn od fs N 0 noBit := by
  refine ⟨by rw [List.take_zero, bitB_nil], fun _ _ => rfl, ?_⟩
  have : ∀ n, cb noBit n = 0 := fun n => by induction n with
    | zero => rfl
    | succ n ih => simp only [cb]; rw [ih]; rfl
  rw [this, List.take_zero]; rfl
theorem MapIn.step {od : Int} {fs : List Bl} {N j : Nat} {f : Nat → Bool} {b : Bl} (h : MapIn od fs N j f) (hc : Can od fs) (hN : pw od = (N : Int)) (hj : fs[j]? = some b) :
    ∃ a m : Nat, b.p = a ∧ pw b.o = m ∧ a + m ≤ N ∧ 0 < m ∧ MapIn od fs N (j + 1) (upd f a (a + m) true) := by
  have hb := List.mem_of_getElem? hj
  obtain ⟨a, m, n, e1, e2, e3, e4, e5⟩ := may_nat (hc.may b hb)
  have hn : n = N := by omega
  subst hn
  obtain ⟨p, o⟩ := b
  simp only at e1 e2
  subst e1
  have et : fs.take (j + 1) = fs.take j ++ [⟨a, o⟩] := by rw [List.take_add_one, hj]; rfl
  refine ⟨a, m, rfl, e2, e4, e5, ?_, fun i hi => ?_, ?_⟩
  · rw [et, bitB_snoc _ a m o e2, h.eq]
  · unfold upd; rw [if_neg (by omega)]; exact h.out i hi
  · rw [cb_upd m e4, et, sumB_append]
    · have := h.cnt
      simp only [sumB_cons, e2] at *
      have e0 : sumB [] = 0 := rfl
      omega
    · intro i h1 h2
      rw [h.eq]
      cases hq : bitB (fs.take j) i with
      | false => rfl
      | true =>
        obtain ⟨x, hx, h3⟩ := bitB_iff.1 hq
        have hd := hc.disj
        have hlt := (List.getElem?_eq_some_iff.1 hj).1
        have e6 : fs = fs.take j ++ (⟨a, o⟩ :: fs.drop (j + 1)) := by
          conv => lhs; rw [← List.take_append_drop j fs]
          congr 1
          rw [List.drop_eq_getElem_cons hlt]
          congr 1
          exact (List.getElem?_eq_some_iff.1 hj).2
        unfold Disj at hd
        rw [e6, List.pairwise_append] at hd
        have := hd.2.2 x hx ⟨a, o⟩ (by simp)
        unfold InW at h3
        simp only at this
        omega
theorem MapIn.done {od : Int} {fs : List Bl} {N j : Nat} {f : Nat → Bool} (h : MapIn od fs N j f) (hj : fs.length ≤ j) : f = bitB fs ∧ (∀ i, N ≤ i → f i = false) ∧ (cb f N : Int) = sumB fs := by
  have := h.eq
  have h3 := h.cnt
  rw [List.take_of_length_le hj] at this h3
  exact ⟨this, h.out, h3⟩
end Go.Proofs.Ytcjbepaclbhjaaa
