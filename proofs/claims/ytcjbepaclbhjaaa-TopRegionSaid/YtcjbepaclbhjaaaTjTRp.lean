import Derived.Test.YtcjbepaclbhjaaaTjMS
import Derived.Test.YtcjbepaclbhjaaaTjDS
/- Objects and free blocks as a map of bits: the plain law of TopRegion. No program in sight. -/
set_option linter.unusedSimpArgs false
set_option linter.unusedVariables false
namespace Go.Proofs.Ytcjbepaclbhjaaa
open Go.RowKit
theorem apart_off {l : List Bl} (h : Apart l) {j : Nat} {b : Bl} (hj : l[j]? = some b) : ∀ x ∈ l.take j, x.p + pw x.o ≤ b.p ∨ b.p + pw b.o ≤ x.p := by
  intro x hx
  have hlt := (List.getElem?_eq_some_iff.1 hj).1
  have e6 : l = l.take j ++ (b :: l.drop (j + 1)) := by
    conv => lhs; rw [← List.take_append_drop j l]
    congr 1
    rw [List.drop_eq_getElem_cons hlt]
    congr 1
    exact (List.getElem?_eq_some_iff.1 hj).2
  unfold Apart at h
  rw [e6, List.pairwise_append] at h
  have := h.2.2 x hx b (by simp)
  unfold MeetP at this
  omega
theorem map_step {od : Int} {l : List Bl} {N j : Nat} {f : Nat → Bool} {b : Bl} (h : MapIn od l N j f) (hm : ∀ x ∈ l, MayP od x) (ha : Apart l) (hN : pw od = (N : Int)) (hj : l[j]? = some b) :
    ∃ a m : Nat, b.p = a ∧ pw b.o = m ∧ a + m ≤ N ∧ 0 < m ∧ (∀ i, a ≤ i → i < a + m → f i = false) ∧ MapIn od l N (j + 1) (upd f a (a + m) true) := by
  have hb := List.mem_of_getElem? hj
  obtain ⟨a, m, n, e1, e2, e3, e4, e5⟩ := may_nat (hm b hb)
  have hn : n = N := by omega
  subst hn
  have hoff := apart_off ha hj
  obtain ⟨p, o⟩ := b
  simp only at e1 e2 hoff
  subst e1
  have et : l.take (j + 1) = l.take j ++ [⟨a, o⟩] := by rw [List.take_add_one, hj]; rfl
  have hz : ∀ i, a ≤ i → i < a + m → f i = false := by
    intro i h1 h2
    rw [h.eq]
    cases hq : bitB (l.take j) i with
    | false => rfl
    | true =>
      obtain ⟨x, hx, h3⟩ := bitB_iff.1 hq
      have := hoff x hx
      unfold InW at h3
      omega
  refine ⟨a, m, rfl, e2, e4, e5, hz, ?_, fun i hi => ?_, ?_⟩
  · rw [et, bitB_snoc _ a m o e2, h.eq]
  · unfold upd; rw [if_neg (by omega)]; exact h.out i hi
  · rw [cb_upd m e4 hz, et, sumB_append]
    have := h.cnt
    simp only [sumB_cons, e2] at *
    have e0 : sumB [] = 0 := rfl
    omega
theorem run_off {f : Nat → Bool} {N a m : Nat} {r : Int} (h : RunI f N a m false r) (hm : 0 < m) (hn : a + m ≤ N) (ha : ∀ i, a ≤ i → i < a + m → f i = false) : r = a := by
  rcases h with ⟨h1, _⟩ | ⟨_, h2⟩
  · omega
  · rw [Int.toNat_natCast, Int.toNat_natCast] at h2
    exact h2.eq (.inr ⟨a, rfl, Nat.le_refl _, hn, fun j hj => ha _ (by omega) (by omega), fun b' h3 h4 => by omega⟩)
def regBl (x : Hv) : List Bl := x.os.map obBl ++ x.fs
theorem reg_perm (x : Hv) : (regBl x).Perm (allBl x) := List.perm_append_comm
theorem reg_apart {x : Hv} (h : HRight x) : Apart (regBl x) := by
  have := h.apart
  unfold Apart at *
  exact ((reg_perm x).pairwise_iff (fun {a b} hab hba => hab hba.symm)).2 this
theorem reg_may {x : Hv} (h : HRight x) : ∀ b ∈ regBl x, MayP x.od b := by
  intro b hb
  unfold regBl at hb
  rcases List.mem_append.1 hb with hb | hb
  · obtain ⟨o, ho, rfl⟩ := List.mem_map.1 hb
    exact (h.need o ho).2
  · exact (right_can h.free).2.2.may b hb
theorem reg_words {x : Hv} (h : HRight x) : sumB (regBl x) = pw x.od := by rw [sumB_perm (reg_perm x)]; exact h.words
theorem room_of {od : Int} {os : List Ob} (h : HNeed od os) {o : Ob} (ho : o ∈ os) : 1 + (o.ws.length : Int) + (o.ls.length : Int) ≤ pw o.o := by
  obtain ⟨h1, h2⟩ := h o ho
  have h0 := h2.1
  unfold obBl at h0
  simp only at h0
  unfold needI at h1
  split at h1
  · rename_i hc
    rw [← h1]
    unfold needN
    (repeat' split) <;> simp [pw] <;> omega
  · omega
theorem reg_ob {x : Hv} {j : Nat} {o : Ob} (hj : x.os[j]? = some o) : (regBl x)[j]? = some ⟨o.p, o.o⟩ := by
  have hlt := (List.getElem?_eq_some_iff.1 hj).1
  unfold regBl
  rw [List.getElem?_append_left (by simpa using hlt), List.getElem?_map, hj]; rfl
theorem reg_fs {x : Hv} {j : Nat} {b : Bl} (hj : x.fs[j]? = some b) : (regBl x)[x.os.length + j]? = some b := by
  unfold regBl
  rw [List.getElem?_append_right (by simp)]
  simpa using hj
end Go.Proofs.Ytcjbepaclbhjaaa
