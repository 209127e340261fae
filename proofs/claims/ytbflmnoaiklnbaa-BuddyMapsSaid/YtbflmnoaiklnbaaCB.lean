/- What is left behind a taking, and what comes of giving it back: the plain law. No program in sight. -/
import Derived.Test.YtbflmnoaiklnbaaCT
set_option linter.unusedSimpArgs false
set_option linter.unusedVariables false
namespace Go.Proofs.Ytbflmnoaiklnbaa
structure Inv (od : Int) (fs : List Bl) (p : Int) (l : List Bl) (o : Int) : Prop where
  lv : Leaves p o l
  may : ∀ x ∈ l, MayP od x
  alone : ∀ x ∈ l, ∀ y ∈ l, y.o < od → twinP y ≠ x
  cov : ∀ w, cov fs w ↔ cov l w ∨ InW ⟨p, o⟩ w
  sum : sumB l + pw o = sumB fs
  here : MayP od ⟨p, o⟩
theorem half_may {od p o : Int} (h8 : od ≤ 8) (h1 : 1 ≤ o) (h : MayP od ⟨p, o⟩) : MayP od ⟨p, o - 1⟩ ∧ MayP od ⟨p + pw (o - 1), o - 1⟩ ∧ twinP ⟨p + pw (o - 1), o - 1⟩ = ⟨p, o - 1⟩ := by
  have hs := pw_succ (o := o - 1) (by omega)
  rw [show o - 1 + 1 = o by omega] at hs
  have hp := pw_pos (o - 1)
  obtain ⟨a1, a2, a3, a4, a5⟩ := h
  simp only at a1 a2 a3 a4 a5
  rw [hs] at a4 a5
  have e1 : p % pw (o - 1) = 0 := Int.emod_eq_zero_of_dvd (Int.dvd_trans ⟨2, by omega⟩ (Int.dvd_of_emod_eq_zero a5))
  refine ⟨⟨by simp only; omega, by simp only; omega, a3, by simp only; omega, e1⟩, ⟨by simp only; omega, by simp only; omega, by simp only; omega, by simp only; omega, by simp only; rw [Int.add_emod_right]; exact e1⟩, ?_⟩
  unfold twinP
  simp only
  rw [if_neg]
  · congr 1; omega
  · generalize o - 1 = m at a5
    have hm : m = o - 1 ∨ True := .inr trivial
    intro hc
    have h2 : (p + pw m) % (2 * pw m) = 0 := hc
    have hd1 := Int.dvd_of_emod_eq_zero a5
    have hd2 := Int.dvd_of_emod_eq_zero h2
    have hd3 : 2 * pw m ∣ pw m := (Int.dvd_add_right hd1).1 hd2
    have hpm := pw_pos m
    have := Int.le_of_dvd (by omega) hd3
    omega
theorem sum_withL (l : List Bl) (b : Bl) : sumB (withL l b) = pw b.o + sumB l := by rw [sumB_perm (withL_perm l b), sumB_cons]
theorem Inv.step {od : Int} {fs : List Bl} {p : Int} {l : List Bl} {o : Int} (h8 : od ≤ 8) (h : Inv od fs p l o) (h1 : 1 ≤ o) : Inv od fs p (withL l ⟨p + pw (o - 1), o - 1⟩) (o - 1) := by
  have hs := pw_succ (o := o - 1) (by omega)
  rw [show o - 1 + 1 = o by omega] at hs
  have hp := pw_pos (o - 1)
  obtain ⟨m1, m2, ht⟩ := half_may h8 h1 h.here
  have hmem : ∀ x, x ∈ withL l ⟨p + pw (o - 1), o - 1⟩ ↔ x = ⟨p + pw (o - 1), o - 1⟩ ∨ x ∈ l := fun x => by rw [(withL_perm l _).mem_iff, List.mem_cons]
  have hno : (⟨p, o - 1⟩ : Bl) ∉ l := fun hm => by
    have := h.lv.2 _ hm
    simp only at this
    have := pw_pos o
    omega
  refine ⟨h.lv.step h1, fun x hx => ?_, fun x hx y hy ho htw => ?_, fun w => ?_, ?_, m1⟩
  · rcases (hmem x).1 hx with e | hx'
    · rw [e]; exact m2
    · exact h.may x hx'
  · rcases (hmem y).1 hy with e | hy'
    · rw [e, ht] at htw
      rcases (hmem x).1 hx with e2 | hx'
      · rw [e2] at htw; injection htw with q1 q2; omega
      · exact hno (by rw [htw]; exact hx')
    · rcases (hmem x).1 hx with e2 | hx'
      · rw [e2] at htw
        have := twin_twin (h.may y hy') h8 ho
        rw [htw, ht] at this
        exact hno (by rw [this]; exact hy')
      · exact h.alone x hx' y hy' ho htw
  · rw [h.cov w, cov_withL]
    have e : InW ⟨p, o⟩ w ↔ InW ⟨p + pw (o - 1), o - 1⟩ w ∨ InW ⟨p, o - 1⟩ w := by
      unfold InW; simp only; rw [hs]; omega
    rw [e]
    exact or_assoc.symm
  · rw [sum_withL]; have := h.sum; simp only; omega
theorem Inv.split {od : Int} {fs : List Bl} {p : Int} (h8 : od ≤ 8) : ∀ (n : Nat) {l : List Bl} {o : Int}, Inv od fs p l o → n ≤ o → Inv od fs p (splitL l p o n) (o - n)
  | 0, l, o, h, _ => by rw [splitL]; simpa using h
  | n + 1, l, o, h, hn => by
    have := Inv.split h8 n (h.step h8 (by omega)) (by omega)
    rw [splitL, show o - ((n + 1 : Nat) : Int) = o - 1 - n by omega]
    exact this
theorem Inv.start {od : Int} {fs : List Bl} {b : Bl} (hc : Can od fs) (hb : b ∈ fs) : Inv od fs b.p (without fs b) b.o := by
  refine ⟨without_leaves hc.disj hb, fun x hx => hc.may x (mem_without.1 hx).1, fun x hx y hy => hc.alone x (mem_without.1 hx).1 y (mem_without.1 hy).1, fun w => cov_without hb w, ?_, hc.may b hb⟩
  have := sumB_perm (without_perm hc.disj.sorted.nodup hb)
  rw [sumB_cons] at this
  omega
theorem taken_inv {od : Int} {fs : List Bl} {b : Bl} {want : Int} (h8 : od ≤ 8) (hc : Can od fs) (hb : b ∈ fs) (h0 : 0 ≤ want) (hw : want ≤ b.o) : Inv od fs b.p (takenL fs b want) want := by
  have h := (Inv.start hc hb).split h8 (b.o - want).toNat (by omega)
  rw [show b.o - ((b.o - want).toNat : Int) = want by omega] at h
  exact h
theorem Inv.can {od : Int} {fs : List Bl} {p : Int} {l : List Bl} {o : Int} (h : Inv od fs p l o) : Can od l := ⟨h.lv.1, h.may, h.alone⟩
theorem back_eq {od : Int} {fs : List Bl} {b : Bl} {want : Int} (hr : rightB od fs = true) (hb : b ∈ fs) (h0 : 0 ≤ want) (hw : want ≤ b.o) :
    rightB od (takenL fs b want) = true ∧ mayB od b.p want = true ∧ meetsB (takenL fs b want) b.p want = false ∧ givenL od (takenL fs b want) ⟨b.p, want⟩ = fs ∧ sumB (takenL fs b want) + pw want = sumB fs := by
  obtain ⟨h3, h8, hc⟩ := right_can hr
  have h := taken_inv h8 hc hb h0 hw
  have hn : ∀ x ∈ takenL fs b want, ¬ MeetP x ⟨b.p, want⟩ := fun x hx hm => by
    have := h.lv.2 x hx
    unfold MeetP at hm
    simp only at hm
    omega
  have ha : GiveAt od (takenL fs b want) ⟨b.p, want⟩ := ⟨h.lv.1, h.here, hn⟩
  obtain ⟨cg, vg⟩ := given_can h8 h.can ha
  refine ⟨can_right h3 h8 h.can, by simp [mayB, h.here], ?_, Can.uniq h8 cg hc (fun w => by rw [vg w, h.cov w]), h.sum⟩
  cases hq : meetsB (takenL fs b want) b.p want with
  | false => rfl
  | true =>
    obtain ⟨x, hx, hm⟩ := List.any_eq_true.1 hq
    exact absurd (by obtain ⟨p, o⟩ := x; simpa [meetB, MeetP] using hm) (hn x hx)
end Go.Proofs.Ytbflmnoaiklnbaa
