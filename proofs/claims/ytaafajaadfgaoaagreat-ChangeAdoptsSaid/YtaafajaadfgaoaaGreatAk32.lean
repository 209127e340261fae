/- Parts of the proof. -/
import Derived.Test.YtaafajaadfgaoaaGreatAk15
/- What the document leaves of a region is what the program leaves: the plain law. No program in sight. -/
set_option linter.unusedSimpArgs false
set_option linter.unusedVariables false
namespace Go.Proofs.YtaafajaadfgaoaaGreat
def meetsO (os : List Ob) (b : Bl) : Bool := os.any fun x => meetB b.p b.o x.p x.o
def clearB (od : Int) (os : List Ob) (b : Bl) : Bool := !meetsO os b && mayB od b.p b.o
def pickO (od : Int) (os : List Ob) (p : Int) : Nat → Nat
  | 0 => 0
  | k + 1 => if clearB od os ⟨p, ((k + 1 : Nat) : Int)⟩ = true then k + 1 else pickO od os p k
def frL (od : Int) (os : List Ob) : Nat → Int → List Bl
  | 0, _ => []
  | n + 1, p => if p < pw od then (if clearB od os ⟨p, (pickO od os p od.toNat : Nat)⟩ = true then [⟨p, (pickO od os p od.toNat : Nat)⟩] else []) ++ frL od os n (p + pw (pickO od os p od.toNat : Nat)) else []
theorem pick_facts (od : Int) (os : List Ob) (p : Int) : ∀ K : Nat, pickO od os p K ≤ K ∧ (∀ j : Nat, pickO od os p K < j → j ≤ K → clearB od os ⟨p, (j : Int)⟩ = false) ∧ (0 < pickO od os p K → clearB od os ⟨p, (pickO od os p K : Nat)⟩ = true)
  | 0 => ⟨Nat.le_refl _, fun j h1 h2 => by unfold pickO at h1; omega, fun h => by unfold pickO at h; omega⟩
  | K + 1 => by
    obtain ⟨h1, h2, h3⟩ := pick_facts od os p K
    unfold pickO
    split
    · rename_i hc
      exact ⟨Nat.le_refl _, fun j g1 g2 => by omega, fun _ => hc⟩
    · rename_i hc
      refine ⟨by omega, fun j g1 g2 => ?_, h3⟩
      by_cases hj : j = K + 1
      · subst hj; simpa using hc
      · exact h2 j g1 (by omega)
theorem meetsO_iff {os : List Ob} {b : Bl} : meetsO os b = true ↔ ∃ w, InW b w ∧ hasW os w := by
  unfold meetsO
  rw [List.any_eq_true]
  constructor
  · rintro ⟨x, hx, hm⟩
    unfold meetB at hm
    simp only [Bool.and_eq_true, decide_eq_true_eq] at hm
    obtain ⟨h1, h2⟩ := hm
    have p1 := pw_pos x.o
    have p2 := pw_pos b.o
    by_cases h : x.p ≤ b.p
    · exact ⟨b.p, ⟨Int.le_refl _, by omega⟩, x, hx, by simp only [obBl]; exact h, by simp only [obBl]; omega⟩
    · exact ⟨x.p, ⟨by omega, by omega⟩, x, hx, by simp only [obBl]; omega, by simp only [obBl]; omega⟩
  · rintro ⟨w, ⟨h1, h2⟩, x, hx, h3, h4⟩
    simp only [obBl] at h3 h4
    refine ⟨x, hx, ?_⟩
    unfold meetB
    simp only [Bool.and_eq_true, decide_eq_true_eq]
    omega
theorem clearB_iff {od : Int} {os : List Ob} {b : Bl} : clearB od os b = true ↔ MayP od b ∧ ∀ w, InW b w → ¬ hasW os w := by
  unfold clearB
  rw [Bool.and_eq_true, Bool.not_eq_true', ← Bool.not_eq_true, meetsO_iff]
  constructor
  · rintro ⟨h1, h2⟩
    exact ⟨mayB_may h2, fun w hw hh => h1 ⟨w, hw, hh⟩⟩
  · rintro ⟨h1, h2⟩
    exact ⟨fun ⟨w, hw, hh⟩ => h2 w hw hh, by unfold mayB; exact decide_eq_true h1⟩
theorem fr_facts {od : Int} {os : List Ob} (h3 : 0 ≤ od) : ∀ (n : Nat) (p : Int), 0 ≤ p → pw od ≤ p + n →
    (∀ b ∈ frL od os n p, MayP od b ∧ p ≤ b.p ∧ ∀ k : Nat, b.o < k → (k : Int) ≤ od → clearB od os ⟨b.p, (k : Int)⟩ = false) ∧ Disj (frL od os n p) ∧ (∀ w, cov (frL od os n p) w ↔ p ≤ w ∧ w < pw od ∧ ¬ hasW os w)
  | 0, p, h0, hn => by
    refine ⟨fun b hb => (by cases hb), List.Pairwise.nil, fun w => ⟨fun ⟨x, hx, _⟩ => (by cases hx), fun ⟨h1, h2, _⟩ => ?_⟩⟩
    omega
  | n + 1, p, h0, hn => by
    by_cases hp : ¬ p < pw od
    · unfold frL
      rw [if_neg hp]
      refine ⟨fun b hb => (by cases hb), List.Pairwise.nil, fun w => ⟨fun ⟨x, hx, _⟩ => (by cases hx), fun ⟨h1, h2, _⟩ => ?_⟩⟩
      omega
    replace hp := Decidable.not_not.1 hp
    obtain ⟨k1, k2, k3⟩ := pick_facts od os p od.toNat
    unfold frL
    rw [if_pos hp]
    generalize pickO od os p od.toNat = k at k1 k2 k3 ⊢
    have hpk := pw_pos (k : Int)
    obtain ⟨r1, r2, r3⟩ := fr_facts h3 n (p + pw (k : Int)) (by omega) (by omega)
    by_cases hc : clearB od os ⟨p, (k : Int)⟩ = true
    · rw [if_pos hc]
      obtain ⟨c1, c2⟩ := clearB_iff.1 hc
      refine ⟨fun b hb => ?_, ?_, fun w => ?_⟩
      · rcases List.mem_append.1 hb with hb | hb
        · obtain rfl := List.mem_singleton.1 hb
          exact ⟨c1, Int.le_refl _, fun j g1 g2 => k2 j (by simp only at g1; omega) (by omega)⟩
        · obtain ⟨a1, a2, a3⟩ := r1 b hb
          exact ⟨a1, by omega, a3⟩
      · refine List.pairwise_append.2 ⟨List.pairwise_singleton _ _, r2, fun a ha b hb => ?_⟩
        obtain rfl := List.mem_singleton.1 ha
        exact (r1 b hb).2.1
      · have hend : p + pw (k : Int) ≤ pw od := by have := c1.2.2.2.1; simp only at this; omega
        have hsplit : cov ([⟨p, (k : Int)⟩] ++ frL od os n (p + pw (k : Int))) w ↔ InW ⟨p, (k : Int)⟩ w ∨ cov (frL od os n (p + pw (k : Int))) w := by
          constructor
          · rintro ⟨x, hx, hw⟩
            rcases List.mem_append.1 hx with hx | hx
            · obtain rfl := List.mem_singleton.1 hx; exact .inl hw
            · exact .inr ⟨x, hx, hw⟩
          · rintro (hw | ⟨x, hx, hw⟩)
            · exact ⟨_, List.mem_append_left _ (List.mem_singleton.2 rfl), hw⟩
            · exact ⟨x, List.mem_append_right _ hx, hw⟩
        rw [hsplit, r3]
        constructor
        · rintro (hw | ⟨g1, g2, g3⟩)
          · have := c2 w hw
            unfold InW at hw
            simp only at hw
            exact ⟨hw.1, by omega, this⟩
          · exact ⟨by omega, g2, g3⟩
        · rintro ⟨g1, g2, g3⟩
          by_cases g : w < p + pw (k : Int)
          · exact .inl ⟨g1, g⟩
          · exact .inr ⟨by omega, g2, g3⟩
    · rw [if_neg hc, List.nil_append]
      have hk0 : k = 0 := by
        rcases Nat.eq_zero_or_pos k with h | h
        · exact h
        · exact absurd (k3 h) hc
      subst hk0
      have p0 : pw ((0 : Nat) : Int) = 1 := by decide
      rw [p0] at r1 r2 r3 ⊢
      have hmay : MayP od ⟨p, ((0 : Nat) : Int)⟩ := ⟨by simp, by simpa using h3, h0, by simp only [p0]; omega, by simp only [p0]; omega⟩
      have hasp : hasW os p := Classical.byContradiction fun hno => hc (clearB_iff.2 ⟨hmay, fun w hw => by
        unfold InW at hw
        simp only [p0] at hw
        rw [show w = p by omega]; exact hno⟩)
      refine ⟨fun b hb => ?_, r2, fun w => ?_⟩
      · obtain ⟨a1, a2, a3⟩ := r1 b hb
        exact ⟨a1, by omega, a3⟩
      · rw [r3]
        constructor
        · rintro ⟨g1, g2, g3⟩; exact ⟨by omega, g2, g3⟩
        · rintro ⟨g1, g2, g3⟩
          refine ⟨?_, g2, g3⟩
          by_cases hw : w = p
          · subst hw; exact absurd hasp g3
          · omega
theorem fr_can {od : Int} {os : List Ob} (h3 : 0 ≤ od) (h8 : od ≤ 8) (n : Nat) (hn : pw od ≤ n) : Can od (frL od os n 0) := by
  obtain ⟨f1, f2, f3⟩ := fr_facts (os := os) h3 n 0 (Int.le_refl _) (by omega)
  refine ⟨f2, fun x hx => (f1 x hx).1, fun x hx y hy ho ht => ?_⟩
  have hmy := (f1 y hy).1
  have hmx := (f1 x hx).1
  have hmm := merge_may hmy h8 ho
  have hpy := pw_pos y.o
  have hs := pw_succ (o := y.o) hmy.1
  have hc := twin_cases hmy h8 ho
  rw [ht] at hc
  have hxo : x.o = y.o := by rw [← ht, twin_o]
  have hpar : (mergeB y).p = min y.p x.p := by unfold mergeB; rw [ht]
  have hpo : (mergeB y).o = y.o + 1 := rfl
  have hfree : ∀ w, InW (mergeB y) w → ¬ hasW os w := fun w hw => by
    unfold InW at hw
    rw [hpar, hpo, hs] at hw
    have hcw : cov (frL od os n 0) w := by
      rcases hc with ⟨e, _, _⟩ | ⟨e, _, _⟩
      · have e' : x.p = y.p + pw y.o := by rw [e]
        by_cases g : w < y.p + pw y.o
        · exact ⟨y, hy, by unfold InW; omega⟩
        · exact ⟨x, hx, by unfold InW; rw [hxo]; omega⟩
      · have e' : x.p = y.p - pw y.o := by rw [e]
        by_cases g : w < y.p
        · exact ⟨x, hx, by unfold InW; rw [hxo]; omega⟩
        · exact ⟨y, hy, by unfold InW; omega⟩
    exact ((f3 w).1 hcw).2.2
  have hcl := clearB_iff.2 ⟨hmm, hfree⟩
  obtain ⟨m, hm⟩ : ∃ m : Nat, y.o + 1 = (m : Int) := ⟨(y.o + 1).toNat, by have := hmy.1; omega⟩
  have hmb : mergeB y = ⟨min y.p x.p, (m : Int)⟩ := by
    rw [← hm, ← hpar, ← hpo]
  rw [hmb] at hcl
  rcases hc with ⟨e, _, _⟩ | ⟨e, _, _⟩
  · have e' : x.p = y.p + pw y.o := by rw [e]
    have := (f1 y hy).2.2 m (by omega) (by omega)
    rw [show min y.p x.p = y.p by omega] at hcl
    rw [hcl] at this; cases this
  · have e' : x.p = y.p - pw y.o := by rw [e]
    have := (f1 x hx).2.2 m (by omega) (by omega)
    rw [show min y.p x.p = x.p by omega] at hcl
    rw [hcl] at this; cases this
theorem fr_left {od : Int} {os : List Ob} (h3 : 0 ≤ od) (h8 : od ≤ 8) (n : Nat) (hn : pw od ≤ n) : frL od os n 0 = lfN (pw od) os od.toNat 0 := by
  have hnn : ((od.toNat : Nat) : Int) = od := by omega
  have h0 : AtK od od.toNat 0 := ⟨by omega, Int.le_refl _, by rw [hnn]; omega, by simp⟩
  refine Can.uniq h8 (fr_can h3 h8 n hn) (lf_can h3 h8) (fun w => ?_)
  rw [(lf_facts (os := os) od.toNat 0 h0).2.2 w, (fr_facts (os := os) h3 n 0 (Int.le_refl _) (by omega)).2.2 w]
  unfold InW
  simp only [hnn]
  constructor
  · rintro ⟨a, b, c⟩; exact ⟨⟨a, by omega⟩, c⟩
  · rintro ⟨⟨a, b⟩, c⟩; exact ⟨a, by omega, c⟩
theorem fr_step {od : Int} {os : List Ob} {n : Nat} {p : Int} {res ou : List Bl} (hp : p < pw od) (h : ou ++ frL od os (n + 1) p = res) :
    ou ++ (if clearB od os ⟨p, (pickO od os p od.toNat : Nat)⟩ = true then [⟨p, (pickO od os p od.toNat : Nat)⟩] else []) ++ frL od os n (p + pw (pickO od os p od.toNat : Nat)) = res := by
  unfold frL at h
  rw [if_pos hp] at h
  rw [List.append_assoc]; exact h
theorem fr_end {od : Int} {os : List Ob} {n : Nat} {p : Int} {res ou : List Bl} (hp : ¬ p < pw od) (h : ou ++ frL od os n p = res) : ou = res := by
  cases n with
  | zero => simpa [frL] using h
  | succ n => unfold frL at h; rw [if_neg hp, List.append_nil] at h; exact h
end Go.Proofs.YtaafajaadfgaoaaGreat
