/- Free blocks without twins are told by the words that they cover: the plain law. No program in sight. -/
import Derived.Test.YtbflmnoaiklnbaaRTS
import Derived.Test.YtbflmnoaiklnbaaGW
set_option linter.unusedSimpArgs false
set_option linter.unusedVariables false
namespace Go.Proofs.Ytbflmnoaiklnbaa
def InW (x : Bl) (w : Int) : Prop := x.p ≤ w ∧ w < x.p + pw x.o
def cov (l : List Bl) (w : Int) : Prop := ∃ x ∈ l, InW x w
structure Can (od : Int) (l : List Bl) : Prop where
  disj : Disj l
  may : ∀ x ∈ l, MayP od x
  alone : ∀ x ∈ l, ∀ y ∈ l, y.o < od → twinP y ≠ x
theorem twin_twin {od : Int} {b : Bl} (h : MayP od b) (h8 : od ≤ 8) (ho : b.o < od) : twinP (twinP b) = b := by
  have hc := twin_cases h h8 ho
  obtain ⟨h1, h2, h3, h4, h5⟩ := h
  obtain ⟨p, o⟩ := b
  simp only at *
  rcases hc with ⟨ht, h6, _⟩ | ⟨ht, h6, h7⟩
  · rw [ht]
    unfold twinP
    simp only
    rw [if_neg]
    · congr 1; omega
    · rcases pw_cases h1 (by omega) with rfl | rfl | rfl | rfl | rfl | rfl | rfl | rfl | rfl
      all_goals
        simp only [pw, Int.reduceToNat, Int.reducePow, Int.reduceMul] at h6 ⊢
        omega
  · rw [ht]
    unfold twinP
    simp only
    rw [if_pos h7]
    congr 1; omega
theorem twin_o (b : Bl) : (twinP b).o = b.o := by unfold twinP; split <;> rfl
theorem twin_ne (b : Bl) : twinP b ≠ b := by
  have := pw_pos b.o
  unfold twinP
  obtain ⟨p, o⟩ := b
  split <;> (intro h; injection h with h1 h2; simp only at *; omega)
theorem Good.can {od : Int} {l : List Bl} (h8 : od ≤ 8) (h : Good od l) : Can od l := by
  have hm : ∀ x ∈ l, MayP od x := fun x hx => by
    obtain ⟨i, hi, rfl⟩ := List.getElem_of_mem hx
    exact (h i _ (List.getElem?_eq_getElem hi)).1
  refine ⟨h.disj, hm, fun x hx y hy ho ht => ?_⟩
  have hmy := hm y hy
  obtain ⟨i, hi, hyi⟩ := List.getElem_of_mem hy
  obtain ⟨k, hk, hxk⟩ := List.getElem_of_mem hx
  rcases Nat.lt_trichotomy k i with hlt | heq | hgt
  · exact ((h i y (by rw [List.getElem?_eq_getElem hi, hyi])).2 k x hlt (by rw [List.getElem?_eq_getElem hk, hxk])).2 ⟨ho, ht⟩
  · subst heq
    rw [hyi] at hxk
    subst hxk
    exact twin_ne _ ht
  · refine ((h k x (by rw [List.getElem?_eq_getElem hk, hxk])).2 i y hgt (by rw [List.getElem?_eq_getElem hi, hyi])).2 ⟨?_, ?_⟩
    · rw [← ht, twin_o]; exact ho
    · rw [← ht]; exact twin_twin hmy h8 ho
theorem Can.good {od : Int} {l : List Bl} (h : Can od l) : Good od l := by
  intro i y hy
  have hyl := List.mem_of_getElem? hy
  refine ⟨h.may y hyl, fun k x hk hx => ⟨?_, fun ⟨ho, ht⟩ => h.alone x (List.mem_of_getElem? hx) y hyl ho ht⟩⟩
  have hd := h.disj
  unfold Disj at hd
  rw [List.pairwise_iff_getElem] at hd
  obtain ⟨hi, rfl⟩ := List.getElem?_eq_some_iff.1 hy
  obtain ⟨hkk, rfl⟩ := List.getElem?_eq_some_iff.1 hx
  exact hd k i hkk hi hk
/-- Blocks that meet lie one in the other. -/
theorem nested {od : Int} {x y : Bl} (h8 : od ≤ 8) (hx : MayP od x) (hy : MayP od y) (ho : x.o ≤ y.o) (hm : MeetP x y) : y.p ≤ x.p ∧ x.p + pw x.o ≤ y.p + pw y.o := by
  have hd := pw_dvd hx.1 ho (by have := hy.2.1; omega)
  have ha := pw_pos x.o
  obtain ⟨i, hi⟩ := Int.dvd_of_emod_eq_zero hx.2.2.2.2
  obtain ⟨q, hq⟩ := Int.dvd_of_emod_eq_zero hd
  obtain ⟨j', hj'⟩ := Int.dvd_of_emod_eq_zero hy.2.2.2.2
  obtain ⟨j, hj⟩ : ∃ j, y.p = pw x.o * j := ⟨q * j', by rw [hj', hq, Int.mul_assoc]⟩
  obtain ⟨m1, m2⟩ := hm
  rw [hi, hj, hq] at m1
  rw [hi, hj] at m2
  have e1 : pw x.o * i < pw x.o * (j + q) := by rw [Int.mul_add]; exact m1
  have e2 : pw x.o * j < pw x.o * (i + 1) := by rw [Int.mul_add, Int.mul_one]; exact m2
  have f1 : i < j + q := Int.lt_of_mul_lt_mul_left e1 (by omega)
  have f2 : j < i + 1 := Int.lt_of_mul_lt_mul_left e2 (by omega)
  have g1 : pw x.o * j ≤ pw x.o * i := Int.mul_le_mul_of_nonneg_left (by omega) (by omega)
  have g2 : pw x.o * (i + 1) ≤ pw x.o * (j + q) := Int.mul_le_mul_of_nonneg_left (by omega) (by omega)
  rw [Int.mul_add, Int.mul_one] at g2
  rw [Int.mul_add] at g2
  rw [hi, hj, hq]
  exact ⟨g1, g2⟩
theorem meet_of {x y : Bl} {w : Int} (hx : InW x w) (hy : InW y w) : MeetP x y := ⟨by have := hx.1; have := hy.2; omega, by have := hy.1; have := hx.2; omega⟩
theorem pw_inj {a b : Int} (ha : 0 ≤ a) (hb : 0 ≤ b) (ha8 : a ≤ 8) (hb8 : b ≤ 8) (h : pw a = pw b) : a = b := by
  rcases pw_cases ha ha8 with rfl | rfl | rfl | rfl | rfl | rfl | rfl | rfl | rfl <;>
  rcases pw_cases hb hb8 with rfl | rfl | rfl | rfl | rfl | rfl | rfl | rfl | rfl <;> first | rfl | (exact absurd h (by decide))
/-- What is covered whole lies in one block. -/
theorem cover_one {od : Int} {l : List Bl} (h8 : od ≤ 8) (hl : Can od l) : ∀ (n : Nat) (y : Bl), y.o = n → MayP od y → (∀ w, InW y w → cov l w) → ∃ z ∈ l, y.o ≤ z.o ∧ z.p ≤ y.p ∧ y.p + pw y.o ≤ z.p + pw z.o := by
  intro n
  induction n with
  | zero =>
    intro y hy hm hc
    have hp := pw_pos y.o
    obtain ⟨z, hz, hw⟩ := hc y.p ⟨Int.le_refl _, by omega⟩
    have ho : y.o ≤ z.o := by have := (hl.may z hz).1; omega
    exact ⟨z, hz, ho, nested h8 hm (hl.may z hz) ho (meet_of (w := y.p) ⟨Int.le_refl _, by omega⟩ hw)⟩
  | succ n ih =>
    intro y hy hm hc
    obtain ⟨p, o⟩ := y
    simp only at hy
    have hs := pw_succ (o := (n : Int)) (by omega)
    have hp := pw_pos (n : Int)
    have hon : o = (n : Int) + 1 := by rw [hy]; push_cast; rfl
    obtain ⟨a1, a2, a3, a4, a5⟩ := hm
    simp only at a1 a2 a3 a4 a5 hc ⊢
    rw [hon] at a2 a4 a5 hc ⊢
    rw [hs] at a4 a5
    have m1 : MayP od ⟨p, n⟩ := ⟨by simp only; omega, by simp only; omega, a3, by simp only; omega, by simp only; exact Int.emod_eq_zero_of_dvd (Int.dvd_trans ⟨2, by omega⟩ (Int.dvd_of_emod_eq_zero a5))⟩
    have m2 : MayP od ⟨p + pw n, n⟩ := ⟨by simp only; omega, by simp only; omega, by simp only; omega, by simp only; omega, by simp only; rw [Int.add_emod_right]; exact m1.2.2.2.2⟩
    obtain ⟨z1, hz1, o1, c1, d1⟩ := ih ⟨p, n⟩ rfl m1 (fun w hw => hc w ⟨hw.1, by have := hw.2; simp only at this ⊢; rw [hs]; omega⟩)
    obtain ⟨z2, hz2, o2, c2, d2⟩ := ih ⟨p + pw n, n⟩ rfl m2 (fun w hw => hc w ⟨by have := hw.1; simp only at this ⊢; omega, by have := hw.2; simp only at this ⊢; rw [hs]; omega⟩)
    simp only at o1 c1 d1 o2 c2 d2
    have hmy : MayP od ⟨p, (n : Int) + 1⟩ := ⟨by simp only; omega, a2, a3, by simp only; rw [hs]; exact a4, by simp only; rw [hs]; exact a5⟩
    by_cases b1 : (n : Int) + 1 ≤ z1.o
    · exact ⟨z1, hz1, b1, nested h8 hmy (hl.may z1 hz1) b1 ⟨by simp only; omega, by simp only; rw [hs]; omega⟩⟩
    · by_cases b2 : (n : Int) + 1 ≤ z2.o
      · exact ⟨z2, hz2, b2, nested h8 hmy (hl.may z2 hz2) b2 ⟨by simp only; omega, by simp only; rw [hs]; omega⟩⟩
      · exfalso
        have e1 : z1 = ⟨p, n⟩ := by
          obtain ⟨q, r⟩ := z1
          simp only at *
          have : r = n := by omega
          subst this
          have : q = p := by omega
          rw [this]
        have e2 : z2 = ⟨p + pw n, n⟩ := by
          obtain ⟨q, r⟩ := z2
          simp only at *
          have : r = n := by omega
          subst this
          have : q = p + pw n := by omega
          rw [this]
        refine hl.alone z2 hz2 z1 hz1 (by rw [e1]; simp only; omega) ?_
        rw [e1, e2]
        unfold twinP
        simp only
        rw [if_pos a5]
theorem mem_of_cov {od : Int} {l k : List Bl} (h8 : od ≤ 8) (hl : Can od l) (hk : Can od k) (h : ∀ w, cov l w ↔ cov k w) : ∀ x ∈ l, x ∈ k := by
  intro x hx
  have hmx := hl.may x hx
  obtain ⟨z, hz, o1, c1, d1⟩ := cover_one h8 hk x.o.toNat x (by have := hmx.1; omega) hmx (fun w hw => (h w).1 ⟨x, hx, hw⟩)
  have hmz := hk.may z hz
  obtain ⟨u, hu, o2, c2, d2⟩ := cover_one h8 hl z.o.toNat z (by have := hmz.1; omega) hmz (fun w hw => (h w).2 ⟨z, hz, hw⟩)
  have hpx := pw_pos x.o
  have hux : x = u := Classical.byContradiction fun hne => hl.disj.apart hx hu hne ⟨by omega, by omega⟩
  subst hux
  have e1 : z.o = x.o := by omega
  have e2 : z.p = x.p := by omega
  obtain ⟨p, o⟩ := z
  obtain ⟨q, r⟩ := x
  simp only at e1 e2
  rw [e1, e2] at hz
  exact hz
theorem sorted_ext : ∀ {l k : List Bl}, Disj l → Disj k → (∀ x, x ∈ l ↔ x ∈ k) → l = k
  | [], [], _, _, _ => rfl
  | [], y :: k, _, _, h => absurd ((h y).2 (by simp)) (by simp)
  | x :: l, [], _, _, h => absurd ((h x).1 (by simp)) (by simp)
  | x :: l, y :: k, hl, hk, h => by
    obtain ⟨l1, l2⟩ := List.pairwise_cons.1 hl
    obtain ⟨k1, k2⟩ := List.pairwise_cons.1 hk
    have px := pw_pos x.o
    have py := pw_pos y.o
    have hxy : x = y := by
      rcases List.mem_cons.1 ((h x).1 (by simp)) with h1 | h1
      · exact h1
      · rcases List.mem_cons.1 ((h y).2 (by simp)) with h2 | h2
        · exact h2.symm
        · have := k1 x h1
          have := l1 y h2
          omega
    subst hxy
    have hnl : x ∉ l := fun hm => by have := l1 x hm; omega
    have hnk : x ∉ k := fun hm => by have := k1 x hm; omega
    rw [sorted_ext l2 k2 (fun z => ⟨fun hz => ?_, fun hz => ?_⟩)]
    · rcases List.mem_cons.1 ((h z).1 (List.mem_cons_of_mem _ hz)) with h1 | h1
      · subst h1; exact absurd hz hnl
      · exact h1
    · rcases List.mem_cons.1 ((h z).2 (List.mem_cons_of_mem _ hz)) with h1 | h1
      · subst h1; exact absurd hz hnk
      · exact h1
theorem Can.uniq {od : Int} {l k : List Bl} (h8 : od ≤ 8) (hl : Can od l) (hk : Can od k) (h : ∀ w, cov l w ↔ cov k w) : l = k :=
  sorted_ext hl.disj hk.disj (fun x => ⟨mem_of_cov h8 hl hk h x, mem_of_cov h8 hk hl (fun w => (h w).symm) x⟩)
end Go.Proofs.Ytbflmnoaiklnbaa
