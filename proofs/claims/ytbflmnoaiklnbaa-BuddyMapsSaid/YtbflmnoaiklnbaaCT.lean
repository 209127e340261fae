/- What is taken and given, by the words that are free: the plain law. No program in sight. -/
import Derived.Test.YtbflmnoaiklnbaaCS
set_option linter.unusedSimpArgs false
set_option linter.unusedVariables false
namespace Go.Proofs.Ytbflmnoaiklnbaa
theorem mem_without {l : List Bl} {v x : Bl} : x ∈ without l v ↔ x ∈ l ∧ x ≠ v := by unfold without; rw [List.mem_filter]; simp
theorem cov_without {l : List Bl} {t : Bl} (ht : t ∈ l) (w : Int) : cov l w ↔ cov (without l t) w ∨ InW t w := by
  constructor
  · rintro ⟨x, hx, hw⟩
    by_cases h : x = t
    · subst h; exact .inr hw
    · exact .inl ⟨x, mem_without.2 ⟨hx, h⟩, hw⟩
  · rintro (⟨x, hx, hw⟩ | hw)
    · exact ⟨x, (mem_without.1 hx).1, hw⟩
    · exact ⟨t, ht, hw⟩
theorem cov_withL {l : List Bl} {b : Bl} (w : Int) : cov (withL l b) w ↔ cov l w ∨ InW b w := by
  constructor
  · rintro ⟨x, hx, hw⟩
    rcases List.mem_cons.1 ((withL_perm l b).mem_iff.1 hx) with rfl | hx
    · exact .inr hw
    · exact .inl ⟨x, hx, hw⟩
  · rintro (⟨x, hx, hw⟩ | hw)
    · exact ⟨x, (withL_perm l b).mem_iff.2 (List.mem_cons_of_mem _ hx), hw⟩
    · exact ⟨b, (withL_perm l b).mem_iff.2 (by simp), hw⟩
theorem merge_cov {od : Int} {b : Bl} (h : MayP od b) (h8 : od ≤ 8) (ho : b.o < od) (w : Int) : InW (mergeB b) w ↔ InW b w ∨ InW (twinP b) w := by
  have hp := pw_pos b.o
  have hs := pw_succ h.1
  unfold InW mergeB
  simp only
  rw [hs]
  rcases twin_cases h h8 ho with ⟨ht, _⟩ | ⟨ht, _⟩
  · rw [ht]; simp only; omega
  · rw [ht]; simp only; omega
/-- What giving back ends in. -/
structure GiveEnd (od : Int) (fs : List Bl) (b : Bl) (l : List Bl) (c : Bl) : Prop where
  at_ : GiveAt od l c
  sub : l.Sublist fs
  stop : ¬ (c.o < od ∧ twinP c ∈ l)
  cov : ∀ w, cov l w ∨ InW c w ↔ cov fs w ∨ InW b w
theorem giveF_end {od : Int} (h8 : od ≤ 8) : ∀ (n : Nat) {l : List Bl} {b : Bl}, GiveAt od l b → n = (od - b.o).toNat → GiveEnd od l b (giveF od n l b).1 (giveF od n l b).2
  | 0, l, b, h, hn => ⟨h, List.Sublist.refl _, fun hh => by have h1 : b.o < od := hh.1; omega, fun w => Iff.rfl⟩
  | n + 1, l, b, h, hn => by
    unfold giveF
    split
    · rename_i hc
      have ih := giveF_end h8 n (h.step h8 hc.1 hc.2) (by unfold mergeB; simp only; omega)
      refine ⟨ih.at_, ih.sub.trans (without_sub _ _), ih.stop, fun w => ?_⟩
      rw [ih.cov w, merge_cov h.may h8 hc.1 w, cov_without hc.2 w]
      constructor
      · rintro (h1 | h1 | h1)
        · exact .inl (.inl h1)
        · exact .inr h1
        · exact .inl (.inr h1)
      · rintro ((h1 | h1) | h1)
        · exact .inl h1
        · exact .inr (.inr h1)
        · exact .inr (.inl h1)
    · rename_i hc
      exact ⟨h, List.Sublist.refl _, hc, fun w => Iff.rfl⟩
theorem apart_le {x b : Bl} (h : ¬ MeetP x b) : x.p + pw x.o ≤ b.p ∨ b.p + pw b.o ≤ x.p := by unfold MeetP at h; omega
theorem given_can {od : Int} {fs : List Bl} {b : Bl} (h8 : od ≤ 8) (hc : Can od fs) (hb : GiveAt od fs b) : Can od (givenL od fs b) ∧ ∀ w, cov (givenL od fs b) w ↔ cov fs w ∨ InW b w := by
  have h := giveF_end h8 (od - b.o).toNat hb rfl
  unfold givenL
  generalize (giveF od (od - b.o).toNat fs b).1 = l at h
  generalize (giveF od (od - b.o).toNat fs b).2 = c at h
  have hmem : ∀ x, x ∈ withL l c ↔ x = c ∨ x ∈ l := fun x => by rw [(withL_perm l c).mem_iff, List.mem_cons]
  refine ⟨⟨withL_disj h.at_.disj (fun x hx => apart_le (h.at_.free x hx)), fun x hx => ?_, fun x hx y hy ho ht => ?_⟩, fun w => by rw [cov_withL, h.cov w]⟩
  · rcases (hmem x).1 hx with e | hx'
    · rw [e]; exact h.at_.may
    · exact hc.may x (h.sub.subset hx')
  · rcases (hmem y).1 hy with e | hy'
    · rcases (hmem x).1 hx with e2 | hx'
      · rw [e, e2] at ht; exact twin_ne _ ht
      · rw [e] at ho ht; exact h.stop ⟨ho, by rw [ht]; exact hx'⟩
    · rcases (hmem x).1 hx with e2 | hx'
      · rw [e2] at ht
        refine h.stop ⟨?_, ?_⟩
        · rw [← ht, twin_o]; exact ho
        · rw [← ht, twin_twin (hc.may y (h.sub.subset hy')) h8 ho]; exact hy'
      · exact hc.alone x (h.sub.subset hx') y (h.sub.subset hy') ho ht
theorem meet_cov {l : List Bl} {b : Bl} : (∃ x ∈ l, MeetP x b) ↔ ∃ w, cov l w ∧ InW b w := by
  constructor
  · rintro ⟨x, hx, m1, m2⟩
    have h1 := pw_pos x.o
    have h2 := pw_pos b.o
    rcases Int.le_total x.p b.p with h | h
    · exact ⟨b.p, ⟨x, hx, h, m2⟩, Int.le_refl _, by omega⟩
    · exact ⟨x.p, ⟨x, hx, Int.le_refl _, by omega⟩, h, m1⟩
  · rintro ⟨w, ⟨x, hx, hw⟩, hb⟩
    exact ⟨x, hx, meet_of hw hb⟩
theorem meets_iff {l : List Bl} {q r : Int} : meetsB l q r = true ↔ ∃ w, cov l w ∧ InW ⟨q, r⟩ w := by
  rw [← meet_cov]
  unfold meetsB
  rw [List.any_eq_true]
  constructor
  · rintro ⟨x, hx, hm⟩
    exact ⟨x, hx, by obtain ⟨p, o⟩ := x; simpa [meetB, MeetP] using hm⟩
  · rintro ⟨x, hx, hm⟩
    exact ⟨x, hx, by obtain ⟨p, o⟩ := x; simpa [meetB, MeetP] using hm⟩
theorem giveAt_of {od : Int} {fs : List Bl} {q r : Int} (hc : Can od fs) (hm : mayB od q r = true) (hn : meetsB fs q r = false) : GiveAt od fs ⟨q, r⟩ := by
  refine ⟨hc.disj, mayB_may hm, fun x hx hmm => ?_⟩
  have : meetsB fs q r = true := List.any_eq_true.2 ⟨x, hx, by obtain ⟨p, o⟩ := x; simpa [meetB, MeetP] using hmm⟩
  rw [hn] at this; cases this
/-- A right row. -/
theorem right_can {od : Int} {fs : List Bl} (h : rightB od fs = true) : 3 ≤ od ∧ od ≤ 8 ∧ Can od fs := by
  unfold rightB regionB at h
  simp only [Bool.and_eq_true, decide_eq_true_eq] at h
  exact ⟨h.1.1, h.1.2, h.2.can h.1.2⟩
theorem can_right {od : Int} {fs : List Bl} (h3 : 3 ≤ od) (h8 : od ≤ 8) (h : Can od fs) : rightB od fs = true := rightB_yes (by simp [regionB, h3, h8]) h.good
/-- Two blocks that are given back, in either order. -/
theorem two_eq {od : Int} {fs : List Bl} {a b : Bl} (hr : rightB od fs = true) (ma : mayB od a.p a.o = true) (mb : mayB od b.p b.o = true) (na : meetsB fs a.p a.o = false) (nb : meetsB fs b.p b.o = false) :
    rightB od (givenL od fs a) = true ∧ rightB od (givenL od fs b) = true ∧ meetsB (givenL od fs a) b.p b.o = meetsB (givenL od fs b) a.p a.o ∧
    (meetsB (givenL od fs a) b.p b.o = false → givenL od (givenL od fs a) b = givenL od (givenL od fs b) a ∧ rightB od (givenL od (givenL od fs a) b) = true) := by
  obtain ⟨h3, h8, hc⟩ := right_can hr
  obtain ⟨ca, va⟩ := given_can h8 hc (giveAt_of hc ma na)
  obtain ⟨cb, vb⟩ := given_can h8 hc (giveAt_of hc mb nb)
  have key : ∀ (x y : Bl) (vx : ∀ w, cov (givenL od fs x) w ↔ cov fs w ∨ InW x w) (ny : meetsB fs y.p y.o = false), meetsB (givenL od fs x) y.p y.o = true ↔ ∃ w, InW x w ∧ InW y w := fun x y vx ny => by
    rw [meets_iff]
    constructor
    · rintro ⟨w, h1, h2⟩
      rcases (vx w).1 h1 with h1 | h1
      · have := meets_iff.2 ⟨w, h1, h2⟩
        rw [ny] at this; cases this
      · exact ⟨w, h1, h2⟩
    · rintro ⟨w, h1, h2⟩
      exact ⟨w, (vx w).2 (.inr h1), h2⟩
  have he : meetsB (givenL od fs a) b.p b.o = meetsB (givenL od fs b) a.p a.o := by
    rw [Bool.eq_iff_iff, key a b va nb, key b a vb na]
    exact ⟨fun ⟨w, h1, h2⟩ => ⟨w, h2, h1⟩, fun ⟨w, h1, h2⟩ => ⟨w, h2, h1⟩⟩
  refine ⟨can_right h3 h8 ca, can_right h3 h8 cb, he, fun hn => ?_⟩
  obtain ⟨cab, vab⟩ := given_can h8 ca (giveAt_of ca mb hn)
  obtain ⟨cba, vba⟩ := given_can h8 cb (giveAt_of cb ma (he ▸ hn))
  refine ⟨Can.uniq h8 cab cba (fun w => ?_), can_right h3 h8 cab⟩
  rw [vab w, vba w, va w, vb w]
  constructor
  · rintro ((h | h) | h)
    · exact .inl (.inl h)
    · exact .inr h
    · exact .inl (.inr h)
  · rintro ((h | h) | h)
    · exact .inl (.inl h)
    · exact .inr h
    · exact .inl (.inr h)
end Go.Proofs.Ytbflmnoaiklnbaa
