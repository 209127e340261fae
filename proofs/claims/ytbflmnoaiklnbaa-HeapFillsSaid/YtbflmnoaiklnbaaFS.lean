/- As many blocks of one word as words are free: the plain law. No program in sight. -/
import Derived.Test.YtbflmnoaiklnbaaQG
import Derived.Test.YtbflmnoaiklnbaaQD
set_option linter.unusedSimpArgs false
set_option linter.unusedVariables false
namespace Go.Proofs.Ytbflmnoaiklnbaa
structure FillAt (od : Int) (fs got l : List Bl) : Prop where
  can : Can od l
  covs : ∀ w, cov fs w ↔ cov l w ∨ ∃ b ∈ got, InW b w
  zero : ∀ b ∈ got, b.o = 0 ∧ MayP od b
  fresh : ∀ b ∈ got, ¬ cov l b.p
  nodup : got.Nodup
  sum : sumB l + (got.length : Int) = sumB fs
theorem FillAt.start {od : Int} {fs : List Bl} (h : Can od fs) : FillAt od fs [] fs := ⟨h, fun w => by simp, by simp, by simp, List.nodup_nil, by simp⟩
theorem FillAt.step {od : Int} {fs got l : List Bl} {b : Bl} (h8 : od ≤ 8) (h : FillAt od fs got l) (hb : b ∈ l) : FillAt od fs (got ++ [⟨b.p, 0⟩]) (takenL l b 0) := by
  have hm := h.can.may b hb
  have hi := taken_inv h8 h.can hb (Int.le_refl 0) hm.1
  have hsub : ∀ w, cov (takenL l b 0) w → cov l w := fun w hw => (hi.cov w).2 (.inl hw)
  have hnew : ¬ cov (takenL l b 0) b.p := fun ⟨x, hx, h1, h2⟩ => by
    have := hi.lv.2 x hx
    have := pw_pos 0
    omega
  refine ⟨hi.can, fun w => ?_, fun c hc => ?_, fun c hc => ?_, ?_, ?_⟩
  · rw [h.covs w, hi.cov w]
    constructor
    · rintro ((h1 | h1) | ⟨c, hc, h1⟩)
      · exact .inl h1
      · exact .inr ⟨_, List.mem_append_right _ (by simp), h1⟩
      · exact .inr ⟨c, List.mem_append_left _ hc, h1⟩
    · rintro (h1 | ⟨c, hc, h1⟩)
      · exact .inl (.inl h1)
      · rcases List.mem_append.1 hc with hc | hc
        · exact .inr ⟨c, hc, h1⟩
        · simp at hc; subst hc; exact .inl (.inr h1)
  · rcases List.mem_append.1 hc with hc | hc
    · exact h.zero c hc
    · simp at hc; subst hc; exact ⟨rfl, hi.here⟩
  · rcases List.mem_append.1 hc with hc | hc
    · exact fun hh => h.fresh c hc (hsub _ hh)
    · simp at hc; subst hc; exact hnew
  · rw [List.nodup_append]
    refine ⟨h.nodup, by simp, fun c hc d hd he => ?_⟩
    simp at hd
    subst hd
    subst he
    exact h.fresh _ hc ⟨b, hb, Int.le_refl _, by show b.p < b.p + pw b.o; have := pw_pos b.o; omega⟩
  · have := hi.sum
    have h2 := h.sum
    rw [pw_low (Int.le_refl 0)] at this
    rw [List.length_append]
    simp
    omega
theorem sum_pos {l : List Bl} (h : l ≠ []) : 0 < sumB l := by
  cases l with
  | nil => exact absurd rfl h
  | cons x r => rw [sumB_cons]; have := pw_pos x.o; have := sumB_nonneg r; omega
theorem great_zero {od : Int} {l : List Bl} (hc : Can od l) (h : l ≠ []) : greatB l 0 = true := by
  cases l with
  | nil => exact absurd rfl h
  | cons x r => unfold greatB; rw [List.any_cons]; simp [(hc.may x (by simp)).1]
structure BackAt (od : Int) (got : List Bl) (g : Nat → Nat) (j : Nat) (l : List Bl) : Prop where
  can : Can od l
  covs : ∀ w, cov l w ↔ ∃ i, i < j ∧ InW (gB got (g i)) w
theorem BackAt.start (od : Int) (got : List Bl) (g : Nat → Nat) : BackAt od got g 0 [] := ⟨⟨List.Pairwise.nil, by simp, by simp⟩, fun w => ⟨fun ⟨x, hx, _⟩ => (by cases hx), fun ⟨i, hi, _⟩ => (by omega)⟩⟩
theorem in_zero {b : Bl} (h : b.o = 0) {w : Int} : InW b w ↔ w = b.p := by
  unfold InW
  rw [h, pw_low (Int.le_refl 0)]
  omega
theorem BackAt.ok {od : Int} {got l : List Bl} {g : Nat → Nat} {j n : Nat} (h : BackAt od got g j l) (hn : got.length = n) (hz : ∀ b ∈ got, b.o = 0 ∧ MayP od b) (hd : got.Nodup) (hj : j < n) (hg : ∀ i, i < n → g i < n) (hinj : ∀ i k, i < n → k < n → g i = g k → i = k) :
    mayB od (gB got (g j)).p 0 = true ∧ meetsB l (gB got (g j)).p 0 = false ∧ gB got (g j) = ⟨(gB got (g j)).p, 0⟩ := by
  have hget : ∀ i, i < n → gB got (g i) ∈ got := fun i hi => List.mem_of_getElem? (gB_get (by rw [hn]; exact hg i hi))
  obtain ⟨z1, z2⟩ := hz _ (hget j hj)
  have e : gB got (g j) = ⟨(gB got (g j)).p, 0⟩ := by
    generalize gB got (g j) = b at z1
    obtain ⟨p, o⟩ := b
    simp only at z1
    rw [z1]
  refine ⟨by rw [e] at z2; simp [mayB, z2], ?_, e⟩
  cases hq : meetsB l (gB got (g j)).p 0 with
  | false => rfl
  | true =>
    obtain ⟨w, h1, h2⟩ := meets_iff.1 hq
    rw [in_zero rfl] at h2
    obtain ⟨i, hi, h3⟩ := (h.covs w).1 h1
    have zi := (hz _ (hget i (by omega))).1
    rw [in_zero zi] at h3
    have e2 : gB got (g i) = gB got (g j) := by
      rw [e]
      generalize gB got (g i) = b at zi h3
      obtain ⟨p, o⟩ := b
      simp only at zi h3 h2
      rw [zi, ← h3, h2]
    have hgi := hg i (by omega)
    have hgj := hg j hj
    have g1 := gB_get (l := got) (k := g i) (by omega)
    have g2 := gB_get (l := got) (k := g j) (by omega)
    rw [e2, ← g2] at g1
    have := (List.getElem?_inj (by omega) hd).1 g1
    have := hinj i j (by omega) hj this
    omega
theorem BackAt.step {od : Int} {got l : List Bl} {g : Nat → Nat} {j : Nat} {p : Int} (h8 : od ≤ 8) (h : BackAt od got g j l) (hm : mayB od p 0 = true) (hn : meetsB l p 0 = false) (he : gB got (g j) = ⟨p, 0⟩) : BackAt od got g (j + 1) (givenL od l ⟨p, 0⟩) := by
  obtain ⟨c, v⟩ := given_can h8 h.can (giveAt_of h.can hm hn)
  refine ⟨c, fun w => ?_⟩
  rw [v w, h.covs w]
  constructor
  · rintro (⟨i, hi, h1⟩ | h1)
    · exact ⟨i, by omega, h1⟩
    · exact ⟨j, by omega, by rw [he]; exact h1⟩
  · rintro ⟨i, hi, h1⟩
    by_cases hij : i = j
    · subst hij; rw [he] at h1; exact .inr h1
    · exact .inl ⟨i, by omega, h1⟩
theorem fills_eq {od : Int} {fs got l : List Bl} {g : Nat → Nat} {n : Nat} (h8 : od ≤ 8) (hf : Can od fs) (hx : FillAt od fs got []) (hb : BackAt od got g n l) (hn : got.length = n) (hg : ∀ i, i < n → g i < n) (hs : ∀ k, k < n → ∃ i, i < n ∧ g i = k) : l = fs := by
  refine Can.uniq h8 hb.can hf (fun w => ?_)
  rw [hb.covs w, hx.covs w]
  constructor
  · rintro ⟨i, hi, h1⟩
    exact .inr ⟨_, List.mem_of_getElem? (gB_get (by rw [hn]; exact hg i hi)), h1⟩
  · rintro (⟨x, hx, _⟩ | ⟨b, hb, h1⟩)
    · cases hx
    · obtain ⟨k, hk, rfl⟩ := List.getElem_of_mem hb
      obtain ⟨i, hi, he⟩ := hs k (by omega)
      exact ⟨i, hi, by rw [he, gB_some (List.getElem?_eq_getElem hk)]; exact h1⟩
def ring1 (f n i : Nat) : Nat := if f + i < n then f + i else f + i - n
def ring2 (f n i : Nat) : Nat := if i ≤ f then f - i else f + n - i
theorem ring1_facts {f n : Nat} (hf : f < n) : (∀ i, i < n → ring1 f n i < n) ∧ (∀ i k, i < n → k < n → ring1 f n i = ring1 f n k → i = k) ∧ (∀ k, k < n → ∃ i, i < n ∧ ring1 f n i = k) := by
  refine ⟨fun i hi => ?_, fun i k hi hk h => ?_, fun k hk => ⟨if f ≤ k then k - f else k + n - f, ?_, ?_⟩⟩
  all_goals (unfold ring1 at *; (repeat' split) <;> (repeat' split at h) <;> omega)
theorem ring2_facts {f n : Nat} (hf : f < n) : (∀ i, i < n → ring2 f n i < n) ∧ (∀ i k, i < n → k < n → ring2 f n i = ring2 f n k → i = k) ∧ (∀ k, k < n → ∃ i, i < n ∧ ring2 f n i = k) := by
  refine ⟨fun i hi => ?_, fun i k hi hk h => ?_, fun k hk => ⟨if k ≤ f then f - k else f + n - k, ?_, ?_⟩⟩
  all_goals (unfold ring2 at *; (repeat' split) <;> (repeat' split at h) <;> omega)
theorem ring1_val {f n i : Nat} (hf : f < n) (hi : i < n) : (((f + i * 1 : Nat) : Int)).tmod (n : Int) = (ring1 f n i : Nat) := by
  rw [Int.tmod_eq_emod_of_nonneg (by omega)]
  norm_cast
  unfold ring1
  rw [Nat.mul_one]
  split
  · exact Nat.mod_eq_of_lt (by assumption)
  · rw [Nat.mod_eq_sub_mod (by omega), Nat.mod_eq_of_lt (by omega)]
theorem ring2_val {f n i : Nat} (hf : f < n) (hi : i < n) : (((f + i * (n - 1) : Nat) : Int)).tmod (n : Int) = (ring2 f n i : Nat) := by
  rw [Int.tmod_eq_emod_of_nonneg (by omega)]
  norm_cast
  unfold ring2
  rcases Nat.eq_zero_or_pos i with h0 | h0
  · subst h0
    rw [Nat.zero_mul, Nat.add_zero, if_pos (Nat.zero_le _), Nat.sub_zero]
    exact Nat.mod_eq_of_lt hf
  · have e : f + i * (n - 1) = (f + n - i) + n * (i - 1) := by
      obtain ⟨m, rfl⟩ : ∃ m, n = m + 1 := ⟨n - 1, by omega⟩
      obtain ⟨k, rfl⟩ : ∃ k, i = k + 1 := ⟨i - 1, by omega⟩
      simp only [Nat.add_sub_cancel]
      rw [Nat.add_mul, Nat.add_mul, Nat.one_mul, Nat.one_mul, Nat.mul_comm m k]
      omega
    rw [e, Nat.add_mul_mod_self_left]
    split
    · rw [Nat.mod_eq_sub_mod (by omega), Nat.mod_eq_of_lt (by omega)]; omega
    · exact Nat.mod_eq_of_lt (by omega)
end Go.Proofs.Ytbflmnoaiklnbaa
