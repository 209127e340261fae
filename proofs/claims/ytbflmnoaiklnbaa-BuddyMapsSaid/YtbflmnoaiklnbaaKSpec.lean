/- When a heap is right: the plain law. No program in sight. -/
import Derived.Test.YtbflmnoaiklnbaaHSpec
set_option linter.unusedSimpArgs false
set_option linter.unusedVariables false
namespace Go.Proofs.Ytbflmnoaiklnbaa

/-- The least order with room for n words and one more. -/
def needN (n : Int) : Int := if n < 1 then 0 else if n < 2 then 1 else if n < 4 then 2 else if n < 8 then 3 else if n < 16 then 4 else if n < 32 then 5 else 6
def needI (w l : Int) : Int := if 0 ≤ w ∧ w ≤ 32 ∧ 0 ≤ l ∧ l ≤ 16 then needN (w + l) else -1
theorem needN_is {n k : Int} (h0 : 0 ≤ k) (h6 : k ≤ 6) (hn : n < 64) (hlow : k = 0 ∨ pw (k - 1) ≤ n) (hup : n < pw k) : needN n = k := by
  have hc : k = 0 ∨ k = 1 ∨ k = 2 ∨ k = 3 ∨ k = 4 ∨ k = 5 ∨ k = 6 := by omega
  unfold needN
  rcases hc with rfl | rfl | rfl | rfl | rfl | rfl | rfl
  all_goals simp [pw] at hlow hup
  all_goals (repeat' split)
  all_goals omega
theorem needI_range (w l : Int) : -1 ≤ needI w l ∧ needI w l ≤ 6 := by
  unfold needI needN
  (repeat' split) <;> omega

/-- May a link lead there? -/
def leadsP (os : List Ob) (to : Int) : Prop := to = 0 ∨ ∃ o ∈ os, o.h = to
open Classical in
noncomputable def leadsB (os : List Ob) (to : Int) : Bool := decide (leadsP os to)
def obBl (o : Ob) : Bl := ⟨o.p, o.o⟩
def allBl (x : Hv) : List Bl := x.fs ++ x.os.map obBl
def MeetP (a b : Bl) : Prop := a.p < b.p + pw b.o ∧ b.p < a.p + pw a.o
instance (a b : Bl) : Decidable (MeetP a b) := by unfold MeetP; infer_instance
theorem MeetP.symm {a b : Bl} (h : MeetP a b) : MeetP b a := ⟨h.2, h.1⟩
def sumB (l : List Bl) : Int := (l.map fun b => pw b.o).sum
theorem sumB_cons (b : Bl) (l : List Bl) : sumB (b :: l) = pw b.o + sumB l := by simp [sumB]
theorem sumB_nil : sumB [] = 0 := rfl
theorem sumB_append (l k : List Bl) : sumB (l ++ k) = sumB l + sumB k := by simp [sumB]
theorem sumB_perm {l k : List Bl} (h : l.Perm k) : sumB l = sumB k := by
  induction h with
  | nil => rfl
  | cons x _ ih => rw [sumB_cons, sumB_cons, ih]
  | swap x y l => simp only [sumB_cons]; omega
  | trans _ _ h1 h2 => rw [h1, h2]
theorem sumB_nonneg (l : List Bl) : 0 ≤ sumB l := by
  induction l with
  | nil => simp [sumB]
  | cons b l ih => rw [sumB_cons]; have := pw_pos b.o; omega

def HRise (nx : Int) (os : List Ob) : Prop := ∀ (i : Nat) o, os[i]? = some o → 1 ≤ o.h ∧ o.h < nx ∧ ∀ (k : Nat) q, k < i → os[k]? = some q → q.h < o.h
def HNeed (od : Int) (os : List Ob) : Prop := ∀ o ∈ os, needI o.ws.length o.ls.length = o.o ∧ MayP od (obBl o)
def Apart (l : List Bl) : Prop := l.Pairwise fun a b => ¬ MeetP a b
def HLinks (os : List Ob) : Prop := ∀ o ∈ os, ∀ t ∈ o.ls, leadsP os t
def tops (x : Hv) : List Int := [x.t0, x.t1, x.t2, x.t3]
structure HRight (x : Hv) : Prop where
  free : rightB x.od x.fs = true
  lo : 1 ≤ x.nx
  hi : x.nx ≤ 1000001
  len : x.os.length ≤ 256
  rise : HRise x.nx x.os
  need : HNeed x.od x.os
  apart : Apart (allBl x)
  links : HLinks x.os
  tops : ∀ t ∈ tops x, leadsP x.os t
  words : sumB (allBl x) = pw x.od
open Classical in
noncomputable def hrightB (x : Hv) : Bool := decide (HRight x)

/-- Block behind block, from a on, up to E. -/
def Tl (E : Int) : Int → List Bl → Prop
  | a, [] => a = E
  | a, b :: r => b.p = a ∧ Tl E (a + pw b.o) r

theorem Tl.facts {E : Int} : ∀ {l : List Bl} {a : Int}, Tl E a l → a ≤ E ∧ (∀ b ∈ l, a ≤ b.p ∧ b.p + pw b.o ≤ E) ∧ Apart l ∧ sumB l = E - a := by
  intro l
  induction l with
  | nil => intro a h; simp [Tl] at h; subst h; exact ⟨Int.le_refl _, by simp, List.Pairwise.nil, by simp [sumB]⟩
  | cons b r ih =>
    intro a h
    obtain ⟨rfl, h2⟩ := h
    obtain ⟨h3, h4, h5, h6⟩ := ih h2
    have h7 := pw_pos b.o
    refine ⟨by omega, ?_, List.pairwise_cons.2 ⟨fun c hc hm => ?_, h5⟩, by rw [sumB_cons]; omega⟩
    · intro c hc
      rcases List.mem_cons.1 hc with rfl | hc
      · exact ⟨Int.le_refl _, h3⟩
      · have := h4 c hc; exact ⟨by omega, this.2⟩
    · have := (h4 c hc).1
      have := hm.2
      omega
theorem sum_le {E : Int} : ∀ {l : List Bl} {a : Int}, a ≤ E → l.Pairwise (fun x y => x.p ≤ y.p) → Apart l → (∀ b ∈ l, a ≤ b.p ∧ b.p + pw b.o ≤ E) → sumB l ≤ E - a := by
  intro l
  induction l with
  | nil => intro a h _ _ _; simp [sumB]; omega
  | cons b r ih =>
    intro a h hs ha hb
    rw [sumB_cons]
    obtain ⟨s1, s2⟩ := List.pairwise_cons.1 hs
    obtain ⟨a1, a2⟩ := List.pairwise_cons.1 ha
    have hbb := hb b (by simp)
    have := ih (a := b.p + pw b.o) hbb.2 s2 a2 (fun c hc => by
      have h1 := s1 c hc
      have h2 := a1 c hc
      have h3 := pw_pos c.o
      have h4 := (hb c (by simp [hc])).2
      refine ⟨?_, h4⟩
      by_cases h5 : c.p < b.p + pw b.o
      · exact absurd ⟨by omega, h5⟩ h2
      · omega)
    omega
theorem Tl.of {E : Int} : ∀ {l : List Bl} {a : Int}, l.Pairwise (fun x y => x.p ≤ y.p) → Apart l → (∀ b ∈ l, a ≤ b.p ∧ b.p + pw b.o ≤ E) → sumB l = E - a → Tl E a l := by
  intro l
  induction l with
  | nil => intro a _ _ _ h; simp [sumB] at h; simp [Tl]; omega
  | cons b r ih =>
    intro a hs ha hb hsum
    rw [sumB_cons] at hsum
    obtain ⟨s1, s2⟩ := List.pairwise_cons.1 hs
    obtain ⟨a1, a2⟩ := List.pairwise_cons.1 ha
    have hbb := hb b (by simp)
    have hr : ∀ c ∈ r, b.p + pw b.o ≤ c.p ∧ c.p + pw c.o ≤ E := fun c hc => by
      have h1 := s1 c hc
      have h2 := a1 c hc
      have h3 := pw_pos c.o
      have h4 := (hb c (by simp [hc])).2
      refine ⟨?_, h4⟩
      by_cases h5 : c.p < b.p + pw b.o
      · exact absurd ⟨by omega, h5⟩ h2
      · omega
    have h6 := sum_le hbb.2 s2 a2 hr
    have h7 : b.p = a := by omega
    exact ⟨h7, ih s2 a2 (fun c hc => by have := hr c hc; exact ⟨by omega, this.2⟩) (by omega)⟩

theorem Apart.perm {l k : List Bl} (h : l.Perm k) : Apart l ↔ Apart k := h.pairwise_iff (fun hab hba => hab hba.symm)

/-- The objects' blocks as the program asks them. -/
def HNeed' (od : Int) (os : List Ob) : Prop := ∀ o ∈ os, needI o.ws.length o.ls.length = o.o ∧ 0 ≤ o.o ∧ o.o ≤ od ∧ 0 ≤ o.p ∧ o.p ≤ pw od ∧ o.p % pw o.o = 0
theorem HNeed.weak {od : Int} {os : List Ob} (h : HNeed od os) : HNeed' od os := fun o ho => by
  obtain ⟨h1, h2, h3, h4, h5, h6⟩ := h o ho
  simp only [obBl] at h2 h3 h4 h5 h6
  have := pw_pos o.o
  exact ⟨h1, h2, h3, h4, by omega, h6⟩
theorem tile_iff {od : Int} {os : List Ob} {fs s : List Bl} (hf : Good od fs) (hs : s.Perm (fs ++ os.map obBl)) (hso : s.Pairwise fun x y => x.p ≤ y.p) (hn : HNeed' od os) :
    Tl (pw od) 0 s ↔ HNeed od os ∧ Apart (fs ++ os.map obBl) ∧ sumB (fs ++ os.map obBl) = pw od := by
  constructor
  · intro h
    obtain ⟨_, h2, h3, h4⟩ := h.facts
    refine ⟨fun o ho => ?_, (Apart.perm hs).1 h3, by rw [← sumB_perm hs, h4]; omega⟩
    obtain ⟨n1, n2, n3, n4, _, n6⟩ := hn o ho
    have := h2 (obBl o) (hs.mem_iff.2 (List.mem_append_right _ (List.mem_map_of_mem ho)))
    simp only [obBl] at this
    exact ⟨n1, n2, n3, n4, by simp only [obBl]; omega, n6⟩
  · rintro ⟨h1, h2, h3⟩
    refine Tl.of hso ((Apart.perm hs).2 h2) (fun b hb => ?_) (by rw [sumB_perm hs, h3]; omega)
    rcases List.mem_append.1 (hs.mem_iff.1 hb) with hb | hb
    · obtain ⟨i, hi, rfl⟩ := List.getElem_of_mem hb
      have hm := (hf i _ (List.getElem?_eq_getElem hi)).1
      exact ⟨hm.2.2.1, hm.end_le⟩
    · obtain ⟨o, ho, rfl⟩ := List.mem_map.1 hb
      have hm := (h1 o ho).2
      exact ⟨hm.2.2.1, hm.end_le⟩
theorem HRise.step {nx : Int} {os : List Ob} (h : HRise nx os) : ∀ (i j : Nat) a b, i < j → os[i]? = some a → os[j]? = some b → a.h < b.h :=
  fun i j a b hij ha hb => (h j b hb).2.2 i a hij ha
end Go.Proofs.Ytbflmnoaiklnbaa
