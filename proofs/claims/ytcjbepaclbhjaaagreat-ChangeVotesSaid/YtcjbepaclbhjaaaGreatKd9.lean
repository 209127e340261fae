/- Parts of the proof. -/
import Derived.Test.YtcjbepaclbhjaaaGreatKd1
import Derived.Test.YtcjbepaclbhjaaaGreatKd2
import Derived.Test.YtcjbepaclbhjaaaGreatKd0
import Derived.Test.YtcjbepaclbhjaaaGreatKd8
import Derived.Test.YtcjbepaclbhjaaaGreatKd3
open List renaming set_cons_zero → zSet, set_cons_succ → sSet
/- Texts merged: buddy:GM buddy:GS buddy:GI buddy:GD. -/
set_option linter.unusedSimpArgs false
set_option linter.unusedVariables false
namespace Go.Proofs.YtcjbepaclbhjaaaGreat
open Go.RowKit
def BoxIs (w : World) (b : Nat) (q r : Int) : Prop := ∀ (j : Nat) v, [Value.int .i64 q, .int .i64 r][j]? = some v → w.cell? ⟨b, 0 + j, none⟩ = some v
theorem BoxIs.below {w w' : World} {b : Nat} {q r : Int} (h : BoxIs w b q r) (hb : b < w.heap.size) (hw : Below w.heap.size w w') : BoxIs w' b q r := fun j v hj => (hw.cell (p := ⟨b, 0 + j, none⟩) hb).trans (h j v hj)
def IndexP (l : List Bl) (v : Bl) (r : Int) : Prop := (r = -1 ∧ v ∉ l) ∨ ∃ j : Nat, r = j ∧ l[j]? = some v
end Go.Proofs.YtcjbepaclbhjaaaGreat
namespace Go.Proofs.YtcjbepaclbhjaaaGreat
def Disj (l : List Bl) : Prop := l.Pairwise fun x y => x.p + pw x.o ≤ y.p
theorem Good.disj {od : Int} {l : List Bl} (h : Good od l) : Disj l := by
  unfold Disj
  rw [List.pairwise_iff_getElem]
  intro i j hi hj hij
  exact ((h j _ (List.getElem?_eq_getElem hj)).2 i _ hij (List.getElem?_eq_getElem hi)).1
theorem Disj.sorted {l : List Bl} (h : Disj l) : SortedB l := by
  intro i j x y hij hx hy
  unfold Disj at h
  rw [List.pairwise_iff_getElem] at h
  obtain ⟨hi, rfl⟩ := List.getElem?_eq_some_iff.1 hx
  obtain ⟨hj, rfl⟩ := List.getElem?_eq_some_iff.1 hy
  have := h i j hi hj hij
  have := pw_pos l[i].o
  omega
theorem Disj.apart {l : List Bl} (h : Disj l) {x y : Bl} (hx : x ∈ l) (hy : y ∈ l) (hne : x ≠ y) : ¬ MeetP x y := by
  obtain ⟨i, hi, rfl⟩ := List.getElem_of_mem hx
  obtain ⟨j, hj, rfl⟩ := List.getElem_of_mem hy
  unfold Disj at h
  rw [List.pairwise_iff_getElem] at h
  rintro ⟨m1, m2⟩
  rcases Nat.lt_trichotomy i j with hij | hij | hij
  · have := h i j hi hj hij; omega
  · subst hij; exact hne rfl
  · have := h j i hj hi hij; omega
theorem Disj.sub {l k : List Bl} (h : Disj l) (hs : k.Sublist l) : Disj k := List.Pairwise.sublist hs h
def without (l : List Bl) (v : Bl) : List Bl := l.filter fun x => decide (x ≠ v)
theorem without_sub (l : List Bl) (v : Bl) : (without l v).Sublist l := List.filter_sublist
theorem SortedB.nodup {l : List Bl} (h : SortedB l) : l.Nodup := by
  unfold List.Nodup
  rw [List.pairwise_iff_getElem]
  intro i j hi hj hij he
  have := h i j _ _ hij (List.getElem?_eq_getElem hi) (List.getElem?_eq_getElem hj)
  rw [he] at this; omega
theorem erase_without {l : List Bl} {v : Bl} {j : Nat} (hn : l.Nodup) (hj : l[j]? = some v) : l.eraseIdx j = without l v := by
  induction l generalizing j with
  | nil => simp at hj
  | cons x l ih =>
    obtain ⟨h1, h2⟩ := List.nodup_cons.1 hn
    cases j with
    | zero =>
      simp at hj; subst hj
      rw [List.eraseIdx_cons_zero]
      unfold without
      rw [List.filter_cons_of_neg (by simp)]
      exact (List.filter_eq_self.2 (fun a ha => by simp; intro h; subst h; exact h1 ha)).symm
    | succ j =>
      rw [List.getElem?_cons_succ] at hj
      rw [List.eraseIdx_cons_succ, ih h2 hj]
      unfold without
      rw [List.filter_cons_of_pos (by simp; intro h; subst h; exact h1 (List.mem_of_getElem? hj))]
def withL : List Bl → Bl → List Bl
  | [], b => [b]
  | x :: r, b => if b.p < x.p then b :: x :: r else x :: withL r b
theorem withL_perm (l : List Bl) (b : Bl) : (withL l b).Perm (b :: l) := by
  induction l with
  | nil => exact List.Perm.refl _
  | cons x r ih =>
    unfold withL
    split
    · exact List.Perm.refl _
    · exact (ih.cons x).trans (List.Perm.swap _ _ _)
theorem withL_at {l : List Bl} {b : Bl} {k : Nat} (hk : AtB l b.p k) (hne : ∀ y ∈ l, y.p ≠ b.p) : l.take k ++ b :: l.drop k = withL l b := by
  induction l generalizing k with
  | nil =>
    have : k = 0 := by have := hk.1; simpa using this
    subst this; rfl
  | cons x r ih =>
    unfold withL
    cases k with
    | zero =>
      have h1 := hk.2.2 0 x rfl (Nat.le_refl _)
      have h2 := hne x (by simp)
      rw [if_pos (by omega)]; rfl
    | succ k =>
      have h1 := hk.2.1 0 x rfl (by omega)
      rw [if_neg (by omega), List.take_succ_cons, List.drop_succ_cons, List.cons_append, ih (k := k) ⟨by have := hk.1; simpa using this, fun j y hj hjk => hk.2.1 (j + 1) y (by simpa using hj) (by omega), fun j y hj hjk => hk.2.2 (j + 1) y (by simpa using hj) (by omega)⟩ (fun y hy => hne y (by simp [hy]))]
def mergeB (b : Bl) : Bl := ⟨min b.p (twinP b).p, b.o + 1⟩
def giveF (od : Int) : Nat → List Bl → Bl → List Bl × Bl
  | 0, l, b => (l, b)
  | n + 1, l, b => if b.o < od ∧ twinP b ∈ l then giveF od n (without l (twinP b)) (mergeB b) else (l, b)
theorem pw_dvd {o od : Int} (h0 : 0 ≤ o) (h1 : o ≤ od) (h8 : od ≤ 8) : pw od % pw o = 0 := by
  rcases pw_cases h0 (by omega) with rfl | rfl | rfl | rfl | rfl | rfl | rfl | rfl | rfl <;>
  rcases pw_cases (o := od) (by omega) h8 with rfl | rfl | rfl | rfl | rfl | rfl | rfl | rfl | rfl <;> first | decide | omega
theorem twin_cases {od : Int} {b : Bl} (h : MayP od b) (h8 : od ≤ 8) (ho : b.o < od) : (twinP b = ⟨b.p + pw b.o, b.o⟩ ∧ b.p % (2 * pw b.o) = 0 ∧ b.p + 2 * pw b.o ≤ pw od) ∨ (twinP b = ⟨b.p - pw b.o, b.o⟩ ∧ 0 ≤ b.p - pw b.o ∧ (b.p - pw b.o) % (2 * pw b.o) = 0) := by
  obtain ⟨h1, h2, h3, h4, h5⟩ := h
  have hd := pw_dvd (o := b.o + 1) (by omega) (by omega) h8
  rw [pw_succ h1] at hd
  generalize pw od = E at h4 hd ⊢
  obtain ⟨p, o⟩ := b
  simp only at *
  unfold twinP
  simp only
  by_cases hc : p % (2 * pw o) = 0
  · left
    rw [if_pos hc]
    refine ⟨rfl, hc, ?_⟩
    rcases pw_cases h1 (by omega) with rfl | rfl | rfl | rfl | rfl | rfl | rfl | rfl | rfl
    all_goals
      simp only [pw, Int.reduceToNat, Int.reducePow, Int.reduceMul] at h4 h5 hd hc ⊢
      omega
  · right
    rw [if_neg hc]
    refine ⟨rfl, ?_, ?_⟩
    all_goals
      rcases pw_cases h1 (by omega) with rfl | rfl | rfl | rfl | rfl | rfl | rfl | rfl | rfl
      all_goals
        simp only [pw, Int.reduceToNat, Int.reducePow, Int.reduceMul] at h4 h5 hd hc ⊢
        omega
theorem merge_may {od : Int} {b : Bl} (h : MayP od b) (h8 : od ≤ 8) (ho : b.o < od) : MayP od (mergeB b) := by
  have hp := pw_pos b.o
  have hs := pw_succ h.1
  unfold mergeB MayP
  simp only
  rw [hs]
  rcases twin_cases h h8 ho with ⟨ht, h1, h2⟩ | ⟨ht, h1, h2⟩
  · rw [ht]; simp only
    rw [show min b.p (b.p + pw b.o) = b.p by omega]
    exact ⟨by have := h.1; omega, by omega, h.2.2.1, by omega, h1⟩
  · rw [ht]; simp only
    rw [show min b.p (b.p - pw b.o) = b.p - pw b.o by omega]
    have := h.end_le
    exact ⟨by have := h.1; omega, by omega, h1, by omega, h2⟩
theorem merge_meets {od : Int} {b x : Bl} (h : MayP od b) (h8 : od ≤ 8) (ho : b.o < od) (hm : MeetP x (mergeB b)) : MeetP x b ∨ MeetP x (twinP b) := by
  have hp := pw_pos b.o
  have hs := pw_succ h.1
  have hx := pw_pos x.o
  obtain ⟨m1, m2⟩ := hm
  unfold mergeB at m1 m2
  simp only at m1 m2
  rw [hs] at m1
  unfold MeetP
  rcases twin_cases h h8 ho with ⟨ht, h1, h2⟩ | ⟨ht, h1, h2⟩
  · rw [ht] at m1 m2 ⊢; simp only at m1 m2 ⊢; omega
  · rw [ht] at m1 m2 ⊢; simp only at m1 m2 ⊢; omega
structure GiveAt (od : Int) (l : List Bl) (b : Bl) : Prop where
  disj : Disj l
  may : MayP od b
  free : ∀ x ∈ l, ¬ MeetP x b
theorem GiveAt.step {od : Int} {l : List Bl} {b : Bl} (h : GiveAt od l b) (h8 : od ≤ 8) (ho : b.o < od) (hm : twinP b ∈ l) : GiveAt od (without l (twinP b)) (mergeB b) := by
  refine ⟨h.disj.sub (without_sub _ _), merge_may h.may h8 ho, fun x hx hmm => ?_⟩
  obtain ⟨h1, h2⟩ := List.mem_filter.1 hx
  rcases merge_meets h.may h8 ho hmm with h3 | h3
  · exact h.free x h1 h3
  · exact h.disj.apart h1 hm (by simpa using h2) h3
theorem GiveAt.ne {od : Int} {l : List Bl} {b : Bl} (h : GiveAt od l b) : ∀ y ∈ l, y.p ≠ b.p := fun y hy he => h.free y hy ⟨by have := pw_pos b.o; omega, by have := pw_pos y.o; omega⟩
theorem giveF_go {od : Int} {n : Nat} {l : List Bl} {b : Bl} (h1 : b.o < od) (h2 : twinP b ∈ l) : giveF od (n + 1) l b = giveF od n (without l (twinP b)) (mergeB b) := by rw [giveF, if_pos ⟨h1, h2⟩]
theorem giveF_no {od : Int} {n : Nat} {l : List Bl} {b : Bl} (h : ¬ (b.o < od ∧ twinP b ∈ l)) : giveF od n l b = (l, b) := by
  cases n with
  | zero => rfl
  | succ n => rw [giveF, if_neg h]
def givenL (od : Int) (fs : List Bl) (b : Bl) : List Bl := withL (giveF od (od - b.o).toNat fs b).1 (giveF od (od - b.o).toNat fs b).2
end Go.Proofs.YtcjbepaclbhjaaaGreat
namespace Go.Proofs.YtcjbepaclbhjaaaGreat
open Go.RowKit
theorem size150 : (Tryz.prog.info? 150).map (·.size) = some 2 := by kernel_rfl
end Go.Proofs.YtcjbepaclbhjaaaGreat
namespace Go.Proofs.YtcjbepaclbhjaaaGreat
open Go.RowKit Go.Lib
theorem RowIs.part {B : Nat} {w0 w : World} {g t n j : Nat} {xs : List Value} {M : List Blk} (hp : Hp B w0 w (⟨g, xs, t, n⟩ :: M)) : RowIs w (some ⟨g, j, none⟩) (xs.drop j) := fun q v hq => ⟨g, j, rfl, hp.cell at0 (by rw [List.getElem?_drop] at hq; exact hq)⟩
end Go.Proofs.YtcjbepaclbhjaaaGreat
/- The walk of buddy.Give. -/
namespace Go.Proofs.YtcjbepaclbhjaaaGreat
open Go.RowKit
theorem RowIs.box {w : World} {b : Nat} {q r : Int} (h : RowIs w (some ⟨b, 0, none⟩) [.int .i64 q, .int .i64 r]) : BoxIs w b q r := fun j v hj => by
  obtain ⟨b', off', he, hc⟩ := h j v hj
  injection he with he; injection he with e1 e2; subst e1; subst e2; exact hc
theorem IndexP.no {l : List Bl} {v : Bl} {r : Int} (h : IndexP l v r) (hn : v ∉ l) : r = -1 := by
  rcases h with ⟨h, _⟩ | ⟨j, _, hj⟩
  · exact h
  · exact absurd (List.mem_of_getElem? hj) hn
def GiveRel (od : Int) (fs : List Bl) (b0 : Bl) (k : Nat) (l : List Bl) (b : Bl) : Prop := GiveAt od l b ∧ giveF od (od - b0.o).toNat fs b0 = giveF od k l b ∧ l.length ≤ 600 ∧ k = (od - b.o).toNat
theorem GiveRel.done {od : Int} {fs : List Bl} {b0 b : Bl} {k : Nat} {l : List Bl} (h : GiveRel od fs b0 k l b) (hn : ¬ (b.o < od ∧ twinP b ∈ l)) {i : Nat} (hi : AtB l b.p i) : l.take i ++ b :: l.drop i = givenL od fs b0 := by
  rw [withL_at hi h.1.ne]
  unfold givenL
  rw [h.2.1, giveF_no hn]
theorem GiveRel.go {od : Int} {fs : List Bl} {b0 b : Bl} {k : Nat} {l : List Bl} (h : GiveRel od fs b0 k l b) (h8 : od ≤ 8) (h1 : b.o < od) (h2 : twinP b ∈ l) {j : Nat} (hj : l[j]? = some (twinP b)) : 0 < k ∧ GiveRel od fs b0 (k - 1) (l.eraseIdx j) (mergeB b) := by
  obtain ⟨g1, g2, g3, g4⟩ := h
  have hk : 0 < k := by omega
  refine ⟨hk, ?_⟩
  rw [erase_without g1.disj.sorted.nodup hj]
  refine ⟨g1.step h8 h1 h2, ?_, ?_, ?_⟩
  · rw [g2]
    obtain ⟨m, rfl⟩ : ∃ m, k = m + 1 := ⟨k - 1, by omega⟩
    rw [giveF_go h1 h2]; rfl
  · have := (without_sub l (twinP b)).length_le; omega
  · unfold mergeB; simp only; omega
def RowAt (w : World) (M : List Blk) (a : Option Addr) (xs : List Value) : Prop := ∀ (w1 : World) (L : List Blk), Hp w.heap.size w w1 L → (∀ p ∈ M, p ∈ L) → RowIs w1 a xs
theorem RowAt.at {w w1 : World} {M L : List Blk} {a : Option Addr} {xs : List Value} (h : RowAt w M a xs) (hp : Hp w.heap.size w w1 L) (hm : ∀ p ∈ M, p ∈ L) : RowIs w1 a xs := h w1 L hp hm
end Go.Proofs.YtcjbepaclbhjaaaGreat
