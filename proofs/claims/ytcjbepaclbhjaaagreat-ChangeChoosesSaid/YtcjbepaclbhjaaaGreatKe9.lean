/- Parts of the proof. -/
import Derived.Test.YtcjbepaclbhjaaaGreatKe1
import Derived.Test.YtcjbepaclbhjaaaGreatKe8
import Derived.Test.YtcjbepaclbhjaaaGreatKe2
import Derived.Test.YtcjbepaclbhjaaaGreatKe0
import Derived.Test.YtcjbepaclbhjaaaGreatKe3
open List renaming set_cons_zero → zSet, set_cons_succ → sSet
/- The walk of buddy.Give. -/
set_option linter.unusedSimpArgs false
set_option linter.unusedVariables false
namespace Go.Proofs.YtcjbepaclbhjaaaGreat
open Go.RowKit
theorem RowIs.box {w : World} {b : Nat} {q r : Int} (h : RowIs w (some ⟨b, 0, none⟩) [.int .i64 q, .int .i64 r]) : BoxIs w b q r := fun j v hj => by
  obtain ⟨b', off', he, hc⟩ := h j v hj
  injection he with he; injection he with e1 e2; subst e1; subst e2; exact hc
theorem IndexP.no {l : List Bl} {v : Bl} {r : Int} (h : IndexP l v r) (hn : v ∉ l) : r = -1 := by
  rcases h with ⟨h, _⟩ | ⟨j, _, hj⟩
  · exact h
  · exact absurd (List.mem_of_getElem? hj) hn
def GiveRel (od : Int) (fs : List Bl) (b0 : Bl) (k : Nat) (l : List Bl) (b : Bl) : Prop := GiveAt od l b ∧ giveF od (od - b0.o).toNat fs b0 = giveF od k l b ∧ l.length ≤ 600 ∧ k = (od - b.o).toNat
theorem GiveRel.done {od : Int} {fs : List Bl} {b0 b : Bl} {k : Nat} {l : List Bl} (h : GiveRel od fs b0 k l b) (hn : ¬ (b.o < od ∧ twinP b ∈ l)) {i : Nat} (hi : AtB l b.p i) : l.take i ++ b :: l.drop i = givenL od fs b0 := by
  rw [withL_at hi h.1.ne]
  unfold givenL
  rw [h.2.1, giveF_no hn]
def RowAt (w : World) (M : List Blk) (a : Option Addr) (xs : List Value) : Prop := ∀ (w1 : World) (L : List Blk), Hp w.heap.size w w1 L → (∀ p ∈ M, p ∈ L) → RowIs w1 a xs
theorem RowAt.at {w w1 : World} {M L : List Blk} {a : Option Addr} {xs : List Value} (h : RowAt w M a xs) (hp : Hp w.heap.size w w1 L) (hm : ∀ p ∈ M, p ∈ L) : RowIs w1 a xs := h w1 L hp hm
end Go.Proofs.YtcjbepaclbhjaaaGreat
/- Texts merged: buddy:RTS buddy:CS buddy:CT buddy:CB. -/
namespace Go.Proofs.YtcjbepaclbhjaaaGreat
def splitL : List Bl → Int → Int → Nat → List Bl
  | out, _, _, 0 => out
  | out, p, o, n + 1 => splitL (withL out ⟨p + pw (o - 1), o - 1⟩) p (o - 1) n
def takenL (fs : List Bl) (b : Bl) (want : Int) : List Bl := splitL (without fs b) b.p b.o (b.o - want).toNat
theorem withL_disj {l : List Bl} {b : Bl} (hl : Disj l) (hb : ∀ x ∈ l, x.p + pw x.o ≤ b.p ∨ b.p + pw b.o ≤ x.p) : Disj (withL l b) := by
  induction l with
  | nil => exact List.pairwise_singleton _ _
  | cons x r ih =>
    obtain ⟨h1, h2⟩ := List.pairwise_cons.1 hl
    have hx := hb x (by simp)
    have px := pw_pos x.o
    have pb := pw_pos b.o
    unfold withL
    split
    · rename_i hlt
      refine List.pairwise_cons.2 ⟨fun y hy => ?_, hl⟩
      rcases List.mem_cons.1 hy with rfl | hy
      · omega
      · have := h1 y hy; omega
    · rename_i hlt
      refine List.pairwise_cons.2 ⟨fun y hy => ?_, ih h2 (fun y hy => hb y (by simp [hy]))⟩
      rcases List.mem_cons.1 ((withL_perm r b).mem_iff.1 hy) with rfl | hy
      · omega
      · exact h1 y hy
def Leaves (p o : Int) (l : List Bl) : Prop := Disj l ∧ ∀ x ∈ l, x.p + pw x.o ≤ p ∨ p + pw o ≤ x.p
theorem Leaves.step {p o : Int} {l : List Bl} (h : Leaves p o l) (ho : 1 ≤ o) : Leaves p (o - 1) (withL l ⟨p + pw (o - 1), o - 1⟩) := by
  have hs := pw_succ (o := o - 1) (by omega)
  rw [show o - 1 + 1 = o by omega] at hs
  have hp := pw_pos (o - 1)
  refine ⟨withL_disj h.1 (fun x hx => ?_), fun x hx => ?_⟩
  · have := h.2 x hx; simp only; omega
  · rcases List.mem_cons.1 ((withL_perm _ _).mem_iff.1 hx) with rfl | hx
    · right; exact Int.le_refl _
    · have := h.2 x hx; omega
theorem Leaves.split {p : Int} : ∀ (n : Nat) {o : Int} {l : List Bl}, Leaves p o l → n ≤ o → Leaves p (o - n) (splitL l p o n)
  | 0, o, l, h, _ => by rw [splitL]; simpa using h
  | n + 1, o, l, h, hn => by
    have := Leaves.split n (h.step (by omega)) (by omega)
    rw [splitL, show o - ((n + 1 : Nat) : Int) = o - 1 - n by omega]
    exact this
theorem without_perm {l : List Bl} {v : Bl} (hn : l.Nodup) (hv : v ∈ l) : (v :: without l v).Perm l := by
  obtain ⟨j, hj, rfl⟩ := List.getElem_of_mem hv
  rw [← erase_without hn (List.getElem?_eq_getElem hj)]
  rw [List.eraseIdx_eq_take_drop_succ]
  have h := List.perm_middle (a := l[j]) (l₁ := l.take j) (l₂ := l.drop (j + 1))
  rw [← List.drop_eq_getElem_cons hj, List.take_append_drop] at h
  exact h.symm
theorem without_leaves {l : List Bl} {v : Bl} (hd : Disj l) (hv : v ∈ l) : Leaves v.p v.o (without l v) := by
  refine ⟨hd.sub (without_sub _ _), fun x hx => ?_⟩
  obtain ⟨h1, h2⟩ := List.mem_filter.1 hx
  have h3 := hd.apart h1 hv (by simpa using h2)
  unfold MeetP at h3
  omega
theorem LeastT.uniq {want : Int} {fs : List Bl} {a b : Bl} (h : LeastT want fs a) (k : LeastT want fs b) : a = b := by
  have h1 := h.least b k.mem k.great
  have h2 := k.least a h.mem h.great
  obtain ⟨p, o⟩ := a
  obtain ⟨q, r⟩ := b
  simp only [LtB] at h1 h2
  have : p = q ∧ o = r := by omega
  rw [this.1, this.2]
end Go.Proofs.YtcjbepaclbhjaaaGreat
namespace Go.Proofs.YtcjbepaclbhjaaaGreat
def InW (x : Bl) (w : Int) : Prop := x.p ≤ w ∧ w < x.p + pw x.o
def cov (l : List Bl) (w : Int) : Prop := ∃ x ∈ l, InW x w
structure Can (od : Int) (l : List Bl) : Prop where
  disj : Disj l
  may : ∀ x ∈ l, MayP od x
  alone : ∀ x ∈ l, ∀ y ∈ l, y.o < od → twinP y ≠ x
theorem twin_twin {od : Int} {b : Bl} (h : MayP od b) (h8 : od ≤ 8) (ho : b.o < od) : twinP (twinP b) = b := by
  have hc := twin_cases h h8 ho
  obtain ⟨h1, h2, h3, h4, h5⟩ := h
  obtain ⟨p, o⟩ := b
  simp only at *
  rcases hc with ⟨ht, h6, _⟩ | ⟨ht, h6, h7⟩
  · rw [ht]
    unfold twinP
    simp only
    rw [if_neg]
    · congr 1; omega
    · rcases pw_cases h1 (by omega) with rfl | rfl | rfl | rfl | rfl | rfl | rfl | rfl | rfl
      all_goals
        simp only [pw, Int.reduceToNat, Int.reducePow, Int.reduceMul] at h6 ⊢
        omega
  · rw [ht]
    unfold twinP
    simp only
    rw [if_pos h7]
    congr 1; omega
theorem twin_o (b : Bl) : (twinP b).o = b.o := by unfold twinP; split <;> rfl
theorem twin_ne (b : Bl) : twinP b ≠ b := by
  have := pw_pos b.o
  unfold twinP
  obtain ⟨p, o⟩ := b
  split <;> (intro h; injection h with h1 h2; simp only at *; omega)
theorem Good.can {od : Int} {l : List Bl} (h8 : od ≤ 8) (h : Good od l) : Can od l := by
  have hm : ∀ x ∈ l, MayP od x := fun x hx => by
    obtain ⟨i, hi, rfl⟩ := List.getElem_of_mem hx
    exact (h i _ (List.getElem?_eq_getElem hi)).1
  refine ⟨h.disj, hm, fun x hx y hy ho ht => ?_⟩
  have hmy := hm y hy
  obtain ⟨i, hi, hyi⟩ := List.getElem_of_mem hy
  obtain ⟨k, hk, hxk⟩ := List.getElem_of_mem hx
  rcases Nat.lt_trichotomy k i with hlt | heq | hgt
  · exact ((h i y (by rw [List.getElem?_eq_getElem hi, hyi])).2 k x hlt (by rw [List.getElem?_eq_getElem hk, hxk])).2 ⟨ho, ht⟩
  · subst heq
    rw [hyi] at hxk
    subst hxk
    exact twin_ne _ ht
  · refine ((h k x (by rw [List.getElem?_eq_getElem hk, hxk])).2 i y hgt (by rw [List.getElem?_eq_getElem hi, hyi])).2 ⟨?_, ?_⟩
    · rw [← ht, twin_o]; exact ho
    · rw [← ht]; exact twin_twin hmy h8 ho
theorem Can.good {od : Int} {l : List Bl} (h : Can od l) : Good od l := by
  intro i y hy
  have hyl := List.mem_of_getElem? hy
  refine ⟨h.may y hyl, fun k x hk hx => ⟨?_, fun ⟨ho, ht⟩ => h.alone x (List.mem_of_getElem? hx) y hyl ho ht⟩⟩
  have hd := h.disj
  unfold Disj at hd
  rw [List.pairwise_iff_getElem] at hd
  obtain ⟨hi, rfl⟩ := List.getElem?_eq_some_iff.1 hy
  obtain ⟨hkk, rfl⟩ := List.getElem?_eq_some_iff.1 hx
  exact hd k i hkk hi hk
theorem nested {od : Int} {x y : Bl} (h8 : od ≤ 8) (hx : MayP od x) (hy : MayP od y) (ho : x.o ≤ y.o) (hm : MeetP x y) : y.p ≤ x.p ∧ x.p + pw x.o ≤ y.p + pw y.o := by
  have hd := pw_dvd hx.1 ho (by have := hy.2.1; omega)
  have ha := pw_pos x.o
  obtain ⟨i, hi⟩ := Int.dvd_of_emod_eq_zero hx.2.2.2.2
  obtain ⟨q, hq⟩ := Int.dvd_of_emod_eq_zero hd
  obtain ⟨j', hj'⟩ := Int.dvd_of_emod_eq_zero hy.2.2.2.2
  obtain ⟨j, hj⟩ : ∃ j, y.p = pw x.o * j := ⟨q * j', by rw [hj', hq, Int.mul_assoc]⟩
  obtain ⟨m1, m2⟩ := hm
  rw [hi, hj, hq] at m1
  rw [hi, hj] at m2
  have e1 : pw x.o * i < pw x.o * (j + q) := by rw [Int.mul_add]; exact m1
  have e2 : pw x.o * j < pw x.o * (i + 1) := by rw [Int.mul_add, Int.mul_one]; exact m2
  have f1 : i < j + q := Int.lt_of_mul_lt_mul_left e1 (by omega)
  have f2 : j < i + 1 := Int.lt_of_mul_lt_mul_left e2 (by omega)
  have g1 : pw x.o * j ≤ pw x.o * i := Int.mul_le_mul_of_nonneg_left (by omega) (by omega)
  have g2 : pw x.o * (i + 1) ≤ pw x.o * (j + q) := Int.mul_le_mul_of_nonneg_left (by omega) (by omega)
  rw [Int.mul_add, Int.mul_one] at g2
  rw [Int.mul_add] at g2
  rw [hi, hj, hq]
  exact ⟨g1, g2⟩
theorem meet_of {x y : Bl} {w : Int} (hx : InW x w) (hy : InW y w) : MeetP x y := ⟨by have := hx.1; have := hy.2; omega, by have := hy.1; have := hx.2; omega⟩
theorem cover_one {od : Int} {l : List Bl} (h8 : od ≤ 8) (hl : Can od l) : ∀ (n : Nat) (y : Bl), y.o = n → MayP od y → (∀ w, InW y w → cov l w) → ∃ z ∈ l, y.o ≤ z.o ∧ z.p ≤ y.p ∧ y.p + pw y.o ≤ z.p + pw z.o := by
  intro n
  induction n with
  | zero =>
    intro y hy hm hc
    have hp := pw_pos y.o
    obtain ⟨z, hz, hw⟩ := hc y.p ⟨Int.le_refl _, by omega⟩
    have ho : y.o ≤ z.o := by have := (hl.may z hz).1; omega
    exact ⟨z, hz, ho, nested h8 hm (hl.may z hz) ho (meet_of (w := y.p) ⟨Int.le_refl _, by omega⟩ hw)⟩
  | succ n ih =>
    intro y hy hm hc
    obtain ⟨p, o⟩ := y
    simp only at hy
    have hs := pw_succ (o := (n : Int)) (by omega)
    have hp := pw_pos (n : Int)
    have hon : o = (n : Int) + 1 := by rw [hy]; push_cast; rfl
    obtain ⟨a1, a2, a3, a4, a5⟩ := hm
    simp only at a1 a2 a3 a4 a5 hc ⊢
    rw [hon] at a2 a4 a5 hc ⊢
    rw [hs] at a4 a5
    have m1 : MayP od ⟨p, n⟩ := ⟨by simp only; omega, by simp only; omega, a3, by simp only; omega, by simp only; exact Int.emod_eq_zero_of_dvd (Int.dvd_trans ⟨2, by omega⟩ (Int.dvd_of_emod_eq_zero a5))⟩
    have m2 : MayP od ⟨p + pw n, n⟩ := ⟨by simp only; omega, by simp only; omega, by simp only; omega, by simp only; omega, by simp only; rw [Int.add_emod_right]; exact m1.2.2.2.2⟩
    obtain ⟨z1, hz1, o1, c1, d1⟩ := ih ⟨p, n⟩ rfl m1 (fun w hw => hc w ⟨hw.1, by have := hw.2; simp only at this ⊢; rw [hs]; omega⟩)
    obtain ⟨z2, hz2, o2, c2, d2⟩ := ih ⟨p + pw n, n⟩ rfl m2 (fun w hw => hc w ⟨by have := hw.1; simp only at this ⊢; omega, by have := hw.2; simp only at this ⊢; rw [hs]; omega⟩)
    simp only at o1 c1 d1 o2 c2 d2
    have hmy : MayP od ⟨p, (n : Int) + 1⟩ := ⟨by simp only; omega, a2, a3, by simp only; rw [hs]; exact a4, by simp only; rw [hs]; exact a5⟩
    by_cases b1 : (n : Int) + 1 ≤ z1.o
    · exact ⟨z1, hz1, b1, nested h8 hmy (hl.may z1 hz1) b1 ⟨by simp only; omega, by simp only; rw [hs]; omega⟩⟩
    · by_cases b2 : (n : Int) + 1 ≤ z2.o
      · exact ⟨z2, hz2, b2, nested h8 hmy (hl.may z2 hz2) b2 ⟨by simp only; omega, by simp only; rw [hs]; omega⟩⟩
      · exfalso
        have e1 : z1 = ⟨p, n⟩ := by
          obtain ⟨q, r⟩ := z1
          simp only at *
          have : r = n := by omega
          subst this
          have : q = p := by omega
          rw [this]
        have e2 : z2 = ⟨p + pw n, n⟩ := by
          obtain ⟨q, r⟩ := z2
          simp only at *
          have : r = n := by omega
          subst this
          have : q = p + pw n := by omega
          rw [this]
        refine hl.alone z2 hz2 z1 hz1 (by rw [e1]; simp only; omega) ?_
        rw [e1, e2]
        unfold twinP
        simp only
        rw [if_pos a5]
theorem mem_of_cov {od : Int} {l k : List Bl} (h8 : od ≤ 8) (hl : Can od l) (hk : Can od k) (h : ∀ w, cov l w ↔ cov k w) : ∀ x ∈ l, x ∈ k := by
  intro x hx
  have hmx := hl.may x hx
  obtain ⟨z, hz, o1, c1, d1⟩ := cover_one h8 hk x.o.toNat x (by have := hmx.1; omega) hmx (fun w hw => (h w).1 ⟨x, hx, hw⟩)
  have hmz := hk.may z hz
  obtain ⟨u, hu, o2, c2, d2⟩ := cover_one h8 hl z.o.toNat z (by have := hmz.1; omega) hmz (fun w hw => (h w).2 ⟨z, hz, hw⟩)
  have hpx := pw_pos x.o
  have hux : x = u := Classical.byContradiction fun hne => hl.disj.apart hx hu hne ⟨by omega, by omega⟩
  subst hux
  have e1 : z.o = x.o := by omega
  have e2 : z.p = x.p := by omega
  obtain ⟨p, o⟩ := z
  obtain ⟨q, r⟩ := x
  simp only at e1 e2
  rw [e1, e2] at hz
  exact hz
theorem sorted_ext : ∀ {l k : List Bl}, Disj l → Disj k → (∀ x, x ∈ l ↔ x ∈ k) → l = k
  | [], [], _, _, _ => rfl
  | [], y :: k, _, _, h => absurd ((h y).2 (by simp)) (by simp)
  | x :: l, [], _, _, h => absurd ((h x).1 (by simp)) (by simp)
  | x :: l, y :: k, hl, hk, h => by
    obtain ⟨l1, l2⟩ := List.pairwise_cons.1 hl
    obtain ⟨k1, k2⟩ := List.pairwise_cons.1 hk
    have px := pw_pos x.o
    have py := pw_pos y.o
    have hxy : x = y := by
      rcases List.mem_cons.1 ((h x).1 (by simp)) with h1 | h1
      · exact h1
      · rcases List.mem_cons.1 ((h y).2 (by simp)) with h2 | h2
        · exact h2.symm
        · have := k1 x h1
          have := l1 y h2
          omega
    subst hxy
    have hnl : x ∉ l := fun hm => by have := l1 x hm; omega
    have hnk : x ∉ k := fun hm => by have := k1 x hm; omega
    rw [sorted_ext l2 k2 (fun z => ⟨fun hz => ?_, fun hz => ?_⟩)]
    · rcases List.mem_cons.1 ((h z).1 (List.mem_cons_of_mem _ hz)) with h1 | h1
      · subst h1; exact absurd hz hnl
      · exact h1
    · rcases List.mem_cons.1 ((h z).2 (List.mem_cons_of_mem _ hz)) with h1 | h1
      · subst h1; exact absurd hz hnk
      · exact h1
theorem Can.uniq {od : Int} {l k : List Bl} (h8 : od ≤ 8) (hl : Can od l) (hk : Can od k) (h : ∀ w, cov l w ↔ cov k w) : l = k :=
  sorted_ext hl.disj hk.disj (fun x => ⟨mem_of_cov h8 hl hk h x, mem_of_cov h8 hk hl (fun w => (h w).symm) x⟩)
end Go.Proofs.YtcjbepaclbhjaaaGreat
namespace Go.Proofs.YtcjbepaclbhjaaaGreat
theorem mem_without {l : List Bl} {v x : Bl} : x ∈ without l v ↔ x ∈ l ∧ x ≠ v := by unfold without; rw [List.mem_filter]; simp
theorem cov_without {l : List Bl} {t : Bl} (ht : t ∈ l) (w : Int) : cov l w ↔ cov (without l t) w ∨ InW t w := by
  constructor
  · rintro ⟨x, hx, hw⟩
    by_cases h : x = t
    · subst h; exact .inr hw
    · exact .inl ⟨x, mem_without.2 ⟨hx, h⟩, hw⟩
  · rintro (⟨x, hx, hw⟩ | hw)
    · exact ⟨x, (mem_without.1 hx).1, hw⟩
    · exact ⟨t, ht, hw⟩
theorem cov_withL {l : List Bl} {b : Bl} (w : Int) : cov (withL l b) w ↔ cov l w ∨ InW b w := by
  constructor
  · rintro ⟨x, hx, hw⟩
    rcases List.mem_cons.1 ((withL_perm l b).mem_iff.1 hx) with rfl | hx
    · exact .inr hw
    · exact .inl ⟨x, hx, hw⟩
  · rintro (⟨x, hx, hw⟩ | hw)
    · exact ⟨x, (withL_perm l b).mem_iff.2 (List.mem_cons_of_mem _ hx), hw⟩
    · exact ⟨b, (withL_perm l b).mem_iff.2 (by simp), hw⟩
theorem right_can {od : Int} {fs : List Bl} (h : rightB od fs = true) : 3 ≤ od ∧ od ≤ 8 ∧ Can od fs := by
  unfold rightB regionB at h
  simp only [Bool.and_eq_true, decide_eq_true_eq] at h
  exact ⟨h.1.1, h.1.2, h.2.can h.1.2⟩
end Go.Proofs.YtcjbepaclbhjaaaGreat
namespace Go.Proofs.YtcjbepaclbhjaaaGreat
structure Inv (od : Int) (fs : List Bl) (p : Int) (l : List Bl) (o : Int) : Prop where
  lv : Leaves p o l
  may : ∀ x ∈ l, MayP od x
  alone : ∀ x ∈ l, ∀ y ∈ l, y.o < od → twinP y ≠ x
  cov : ∀ w, cov fs w ↔ cov l w ∨ InW ⟨p, o⟩ w
  sum : sumB l + pw o = sumB fs
  here : MayP od ⟨p, o⟩
theorem half_may {od p o : Int} (h8 : od ≤ 8) (h1 : 1 ≤ o) (h : MayP od ⟨p, o⟩) : MayP od ⟨p, o - 1⟩ ∧ MayP od ⟨p + pw (o - 1), o - 1⟩ ∧ twinP ⟨p + pw (o - 1), o - 1⟩ = ⟨p, o - 1⟩ := by
  have hs := pw_succ (o := o - 1) (by omega)
  rw [show o - 1 + 1 = o by omega] at hs
  have hp := pw_pos (o - 1)
  obtain ⟨a1, a2, a3, a4, a5⟩ := h
  simp only at a1 a2 a3 a4 a5
  rw [hs] at a4 a5
  have e1 : p % pw (o - 1) = 0 := Int.emod_eq_zero_of_dvd (Int.dvd_trans ⟨2, by omega⟩ (Int.dvd_of_emod_eq_zero a5))
  refine ⟨⟨by simp only; omega, by simp only; omega, a3, by simp only; omega, e1⟩, ⟨by simp only; omega, by simp only; omega, by simp only; omega, by simp only; omega, by simp only; rw [Int.add_emod_right]; exact e1⟩, ?_⟩
  unfold twinP
  simp only
  rw [if_neg]
  · congr 1; omega
  · generalize o - 1 = m at a5
    have hm : m = o - 1 ∨ True := .inr trivial
    intro hc
    have h2 : (p + pw m) % (2 * pw m) = 0 := hc
    have hd1 := Int.dvd_of_emod_eq_zero a5
    have hd2 := Int.dvd_of_emod_eq_zero h2
    have hd3 : 2 * pw m ∣ pw m := (Int.dvd_add_right hd1).1 hd2
    have hpm := pw_pos m
    have := Int.le_of_dvd (by omega) hd3
    omega
theorem sum_withL (l : List Bl) (b : Bl) : sumB (withL l b) = pw b.o + sumB l := by rw [sumB_perm (withL_perm l b), sumB_cons]
theorem Inv.step {od : Int} {fs : List Bl} {p : Int} {l : List Bl} {o : Int} (h8 : od ≤ 8) (h : Inv od fs p l o) (h1 : 1 ≤ o) : Inv od fs p (withL l ⟨p + pw (o - 1), o - 1⟩) (o - 1) := by
  have hs := pw_succ (o := o - 1) (by omega)
  rw [show o - 1 + 1 = o by omega] at hs
  have hp := pw_pos (o - 1)
  obtain ⟨m1, m2, ht⟩ := half_may h8 h1 h.here
  have hmem : ∀ x, x ∈ withL l ⟨p + pw (o - 1), o - 1⟩ ↔ x = ⟨p + pw (o - 1), o - 1⟩ ∨ x ∈ l := fun x => by rw [(withL_perm l _).mem_iff, List.mem_cons]
  have hno : (⟨p, o - 1⟩ : Bl) ∉ l := fun hm => by
    have := h.lv.2 _ hm
    simp only at this
    have := pw_pos o
    omega
  refine ⟨h.lv.step h1, fun x hx => ?_, fun x hx y hy ho htw => ?_, fun w => ?_, ?_, m1⟩
  · rcases (hmem x).1 hx with e | hx'
    · rw [e]; exact m2
    · exact h.may x hx'
  · rcases (hmem y).1 hy with e | hy'
    · rw [e, ht] at htw
      rcases (hmem x).1 hx with e2 | hx'
      · rw [e2] at htw; injection htw with q1 q2; omega
      · exact hno (by rw [htw]; exact hx')
    · rcases (hmem x).1 hx with e2 | hx'
      · rw [e2] at htw
        have := twin_twin (h.may y hy') h8 ho
        rw [htw, ht] at this
        exact hno (by rw [this]; exact hy')
      · exact h.alone x hx' y hy' ho htw
  · rw [h.cov w, cov_withL]
    have e : InW ⟨p, o⟩ w ↔ InW ⟨p + pw (o - 1), o - 1⟩ w ∨ InW ⟨p, o - 1⟩ w := by
      unfold InW; simp only; rw [hs]; omega
    rw [e]
    exact or_assoc.symm
  · rw [sum_withL]; have := h.sum; simp only; omega
theorem Inv.split {od : Int} {fs : List Bl} {p : Int} (h8 : od ≤ 8) : ∀ (n : Nat) {l : List Bl} {o : Int}, Inv od fs p l o → n ≤ o → Inv od fs p (splitL l p o n) (o - n)
  | 0, l, o, h, _ => by rw [splitL]; simpa using h
  | n + 1, l, o, h, hn => by
    have := Inv.split h8 n (h.step h8 (by omega)) (by omega)
    rw [splitL, show o - ((n + 1 : Nat) : Int) = o - 1 - n by omega]
    exact this
theorem Inv.start {od : Int} {fs : List Bl} {b : Bl} (hc : Can od fs) (hb : b ∈ fs) : Inv od fs b.p (without fs b) b.o := by
  refine ⟨without_leaves hc.disj hb, fun x hx => hc.may x (mem_without.1 hx).1, fun x hx y hy => hc.alone x (mem_without.1 hx).1 y (mem_without.1 hy).1, fun w => cov_without hb w, ?_, hc.may b hb⟩
  have := sumB_perm (without_perm hc.disj.sorted.nodup hb)
  rw [sumB_cons] at this
  omega
theorem Inv.can {od : Int} {fs : List Bl} {p : Int} {l : List Bl} {o : Int} (h : Inv od fs p l o) : Can od l := ⟨h.lv.1, h.may, h.alone⟩
end Go.Proofs.YtcjbepaclbhjaaaGreat
/- What an operation makes of a heap: the plain answer, and that it leaves a right heap right. No program in sight. -/
namespace Go.Proofs.YtcjbepaclbhjaaaGreat
structure Opd where
  k : Int
  h : Int
  i : Int
  n : Int
  c : Int
  v : Int
  t : Int
def zerosI (n : Int) : List Int := List.replicate n.toNat 0
def placeO : List Ob → Int → Option Nat
  | [], _ => none
  | o :: r, h => if o.h = h then some 0 else (placeO r h).map (· + 1)
def leadsC (os : List Ob) (to : Int) : Bool := decide (to = 0) || os.any fun o => decide (o.h = to)
def bestB : List Bl → Int → Option Bl
  | [], _ => none
  | x :: r, n => match bestB r n with
    | none => if n ≤ x.o then some x else none
    | some y => if n ≤ x.o ∧ x.o ≤ y.o then some x else some y
def cutI (h t : Int) : Int := if t = h then 0 else t
def cutO (h : Int) (o : Ob) : Ob := { o with ls := o.ls.map (cutI h) }
def mkOb (h p o : Int) (ws ls : List Int) : Ob := ⟨h, p, o, none, ws, 0, none, ls, 0⟩
def bornH (x : Hv) (b : Bl) (n : Int) (ws ls : List Int) : Hv := { x with os := x.os ++ [mkOb x.nx b.p n ws ls], fs := takenL x.fs b n, nx := x.nx + 1 }
def freeH (x : Hv) (i : Nat) (g : Ob) : Hv :=
  { x with os := (x.os.eraseIdx i).map (cutO g.h), fs := givenL x.od x.fs (obBl g), t0 := cutI g.h x.t0, t1 := cutI g.h x.t1, t2 := cutI g.h x.t2, t3 := cutI g.h x.t3 }
def writeH (x : Hv) (i : Nat) (o : Ob) (k : Nat) (v : Int) : Hv := { x with os := x.os.set i { o with ws := o.ws.set k v } }
def linkH (x : Hv) (i : Nat) (o : Ob) (k : Nat) (v : Int) : Hv := { x with os := x.os.set i { o with ls := o.ls.set k v } }
def topH (x : Hv) (k : Nat) (v : Int) : Hv := match k with
  | 0 => { x with t0 := v }
  | 1 => { x with t1 := v }
  | 2 => { x with t2 := v }
  | _ => { x with t3 := v }
def allocC (x : Hv) (o : Opd) : Hv × Int × Int :=
  if needI o.n o.c < 0 then (x, 53, 0) else if 1000000 < x.nx then (x, 2, 0) else match bestB x.fs (needI o.n o.c) with
    | none => (x, 50, 0)
    | some b => (bornH x b (needI o.n o.c) (zerosI o.n) (zerosI o.c), 0, x.nx)
def rowC (o : Opd) (b : Ob) : List Int := if o.k = 4 ∨ o.k = 7 then b.ls else b.ws
def atC (x : Hv) (o : Opd) : Hv × Int × Int := match placeO x.os o.h with
  | none => (x, 51, 0)
  | some i => match x.os[i]? with
    | none => (x, 51, 0)
    | some b => if o.k = 2 then (freeH x i b, 0, 0) else if o.i < 0 ∨ ((rowC o b).length : Int) ≤ o.i then (x, 52, 0) else if o.k = 3 then (writeH x i b o.i.toNat o.v, 0, 0)
      else if o.k = 4 then (if leadsC x.os o.t then (linkH x i b o.i.toNat o.t, 0, 0) else (x, 51, 0)) else (x, 0, (rowC o b).getD o.i.toNat 0)
def topC (x : Hv) (o : Opd) : Hv × Int × Int :=
  if o.i < 0 ∨ 3 < o.i then (x, 52, 0) else if o.k = 8 then (x, 0, (tops x).getD o.i.toNat 0) else if leadsC x.os o.t then (topH x o.i.toNat o.t, 0, 0) else (x, 51, 0)
def doC (x : Hv) (o : Opd) : Hv × Int × Int :=
  if o.k = 1 then allocC x o else if o.k = 2 ∨ o.k = 3 ∨ o.k = 4 ∨ o.k = 6 ∨ o.k = 7 then atC x o else if o.k = 5 ∨ o.k = 8 then topC x o else (x, 54, 0)
def sigO (o : Ob) : Int × Int × Int × Nat × Nat := (o.h, o.p, o.o, o.ws.length, o.ls.length)
def Like (l k : List Ob) : Prop := l.map sigO = k.map sigO
theorem Like.get {l k : List Ob} (h : Like l k) {i : Nat} {b : Ob} (hb : k[i]? = some b) : ∃ a, l[i]? = some a ∧ sigO a = sigO b := by
  have h1 : (k.map sigO)[i]? = some (sigO b) := by rw [List.getElem?_map, hb]; rfl
  rw [← h, List.getElem?_map] at h1
  cases ha : l[i]? with
  | none => rw [ha] at h1; cases h1
  | some a => rw [ha] at h1; injection h1 with h1; exact ⟨a, rfl, h1⟩
theorem Like.mem {l k : List Ob} (h : Like l k) {b : Ob} (hb : b ∈ k) : ∃ a ∈ l, sigO a = sigO b := by
  obtain ⟨i, hi, rfl⟩ := List.getElem_of_mem hb
  obtain ⟨a, ha, hs⟩ := h.get (List.getElem?_eq_getElem hi)
  exact ⟨a, List.mem_of_getElem? ha, hs⟩
theorem Like.symm {l k : List Ob} (h : Like l k) : Like k l := Eq.symm h
theorem Like.leads {l k : List Ob} (h : Like l k) {t : Int} (ht : leadsP l t) : leadsP k t := by
  rcases ht with ht | ⟨o, ho, rfl⟩
  · exact .inl ht
  · obtain ⟨a, ha, hs⟩ := h.symm.mem ho
    unfold sigO at hs
    injection hs with hs
    exact .inr ⟨a, ha, hs⟩
theorem Like.rise {l k : List Ob} {nx : Int} (h : Like l k) (hr : HRise nx l) : HRise nx k := fun i o ho => by
  obtain ⟨a, ha, hs⟩ := h.get ho
  obtain ⟨h1, h2, h3⟩ := hr i a ha
  unfold sigO at hs
  injection hs with hs
  rw [← hs]
  refine ⟨h1, h2, fun j q hj hq => ?_⟩
  obtain ⟨b, hb, hs2⟩ := h.get hq
  unfold sigO at hs2
  injection hs2 with hs2
  rw [← hs2]
  exact h3 j b hj hb
theorem Like.len {l k : List Ob} (h : Like l k) : l.length = k.length := by
  have := congrArg List.length (show l.map sigO = k.map sigO from h)
  simpa using this
theorem Like.need {l k : List Ob} {od : Int} (h : Like l k) (hn : HNeed od l) : HNeed od k := fun o ho => by
  obtain ⟨a, ha, hs⟩ := h.mem ho
  obtain ⟨h1, h2⟩ := hn a ha
  unfold sigO at hs
  injection hs with s1 s2
  injection s2 with s2 s3
  injection s3 with s3 s4
  injection s4 with s4 s5
  unfold obBl at h2 ⊢
  rw [← s2, ← s3, ← s4, ← s5]
  exact ⟨h1, h2⟩
theorem Like.set {l : List Ob} {i : Nat} {a b : Ob} (ha : l[i]? = some a) (h : sigO a = sigO b) : Like l (l.set i b) := by
  unfold Like
  rw [List.map_set, ← h, set_same (by rw [List.getElem?_map, ha]; rfl)]
theorem needI_ok {a b : Int} (h : 0 ≤ needI a b) : 0 ≤ a ∧ a ≤ 32 ∧ 0 ≤ b ∧ b ≤ 16 := by
  unfold needI at h
  split at h
  · rename_i h'; exact h'
  · omega
end Go.Proofs.YtcjbepaclbhjaaaGreat
