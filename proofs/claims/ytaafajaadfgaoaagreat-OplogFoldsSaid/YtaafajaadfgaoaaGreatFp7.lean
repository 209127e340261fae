import Derived.Test.YtaafajaadfgaoaaGreatFp6
import Derived.Test.YtaafajaadfgaoaaGreatFp1
import Derived.Test.YtaafajaadfgaoaaGreatFp2
import Derived.Test.YtaafajaadfgaoaaGreatFp0
set_option linter.unusedSimpArgs false
set_option linter.unusedVariables false
set_option maxRecDepth 100000
set_option maxHeartbeats 60000000
namespace Go.Proofs.YtaafajaadfgaoaaGreat
def zeP : List Bl → Int → Int → Nat → List Bl
 | out, _, _, 0 => out
 | out, p, o, n + 1 => zeP (zdD out ⟨p + pw (o - 1), o - 1⟩) p (o - 1) n
theorem ziR {l : List Bl} {b : Bl} (hl : zeX l) (hb : ∀ x ∈ l, x.p + pw x.o ≤ b.p ∨ b.p + pw b.o ≤ x.p) : zeX (zdD l b) := by
 induction l with
 | nil => exact List.pairwise_singleton _ _
 | cons x r ih =>
  obtain ⟨h1, h2⟩ := List.pairwise_cons.1 hl
  have hx := hb x (by simp)
  have px := zP x.o
  have pb := zP b.o
  unfold zdD
  split
  ·rename_i hlt
   refine List.pairwise_cons.2 ⟨fun y hy => ?_, hl⟩
   rcases List.mem_cons.1 hy with rfl | hy
   ·omega
   ·have := h1 y hy; omega
  ·rename_i hlt
   refine List.pairwise_cons.2 ⟨fun y hy => ?_, ih h2 (fun y hy => hb y (by simp [hy]))⟩
   rcases List.mem_cons.1 ((za1 r b).mem_iff.1 hy) with rfl | hy
   ·omega
   ·exact h1 y hy
def zdh (p o : Int) (l : List Bl) : Prop := zeX l ∧ ∀ x ∈ l, x.p + pw x.o ≤ p ∨ p + pw o ≤ x.p
theorem zdh.step {p o : Int} {l : List Bl} (h : zdh p o l) (ho : 1 ≤ o) : zdh p (o - 1) (zdD l ⟨p + pw (o - 1), o - 1⟩) := by
 have hs := zbk (o := o - 1) (by omega)
 rw [show o - 1 + 1 = o by omega] at hs
 have hp := zP (o - 1)
 refine ⟨ziR h.1 (fun x hx => ?_), fun x hx => ?_⟩
 ·have := h.2 x hx; simp only; omega
 ·rcases List.mem_cons.1 ((za1 _ _).mem_iff.1 hx) with rfl | hx
  ·right; exact Int.le_refl _
  ·have := h.2 x hx; omega
theorem zdh.split {p : Int} : ∀ (n : Nat) {o : Int} {l : List Bl}, zdh p o l → n ≤ o → zdh p (o - n) (zeP l p o n)
 | 0, o, l, h, _ => by rw [zeP]; simpa using h
 | n + 1, o, l, h, hn => by
  have := zdh.split n (h.step (by omega)) (by omega)
  rw [zeP, show o - ((n + 1 : Nat) : Int) = o - 1 - n by omega]
  exact this
theorem zgP {l : List Bl} {v : Bl} (hn : l.Nodup) (hv : v ∈ l) : (v :: zbl l v).Perm l := by
 obtain ⟨j, hj, rfl⟩ := List.getElem_of_mem hv
 rw [← zfH hn (List.getElem?_eq_getElem hj)]
 rw [List.eraseIdx_eq_take_drop_succ]
 have h := List.perm_middle (a := l[j]) (l₁ := l.take j) (l₂ := l.drop (j + 1))
 rw [← List.drop_eq_getElem_cons hj, List.take_append_drop] at h
 exact h.symm
theorem ze4 {l : List Bl} {v : Bl} (hd : zeX l) (hv : v ∈ l) : zdh v.p v.o (zbl l v) := by
 refine ⟨hd.sub (zeU _ _), fun x hx => ?_⟩
 obtain ⟨h1, h2⟩ := List.mem_filter.1 hx
 have h3 := hd.apart h1 hv (by simpa using h2)
 unfold zbW at h3
 omega
theorem ziX.uniq {want : Int} {fs : List Bl} {a b : Bl} (h : ziX want fs a) (k : ziX want fs b) : a = b := by
 have h1 := h.least b k.mem k.great
 have h2 := k.least a h.mem h.great
 obtain ⟨p, o⟩ := a
 obtain ⟨q, r⟩ := b
 simp only [LtB] at h1 h2
 have : p = q ∧ o = r := by omega
 rw [this.1, this.2]
def InW (x : Bl) (w : Int) : Prop := x.p ≤ w ∧ w < x.p + pw x.o
def cov (l : List Bl) (w : Int) : Prop := ∃ x ∈ l, InW x w
structure Can (od : Int) (l : List Bl) : Prop where
 disj : zeX l
 may : ∀ x ∈ l, zbI od x
 alone : ∀ x ∈ l, ∀ y ∈ l, y.o < od → zaF y ≠ x
theorem zgN {od : Int} {b : Bl} (h : zbI od b) (h8 : od ≤ 8) (ho : b.o < od) : zaF (zaF b) = b := by
 have hc := zcd h h8 ho
 obtain ⟨h1, h2, h3, h4, h5⟩ := h
 obtain ⟨p, o⟩ := b
 simp only at *
 rcases hc with ⟨ht, h6, _⟩ | ⟨ht, h6, h7⟩
 ·rw [ht]
  unfold zaF
  simp only
  rw [if_neg]
  ·congr 1; omega
  ·rcases zck h1 (by omega) with rfl | rfl | rfl | rfl | rfl | rfl | rfl | rfl | rfl
   all_goals
    simp only [pw, Int.reduceToNat, Int.reducePow, Int.reduceMul] at h6 ⊢
    omega
 ·rw [ht]
  unfold zaF
  simp only
  rw [if_pos h7]
  congr 1; omega
theorem zkq (b : Bl) : (zaF b).o = b.o := by unfold zaF; split <;> rfl
theorem zm0 (b : Bl) : zaF b ≠ b := by
 have := zP b.o
 unfold zaF
 obtain ⟨p, o⟩ := b
 split <;> (intro h; injection h with h1 h2; simp only at *; omega)
theorem zcu.can {od : Int} {l : List Bl} (h8 : od ≤ 8) (h : zcu od l) : Can od l := by
 have hm : ∀ x ∈ l, zbI od x := fun x hx => by
  obtain ⟨i, hi, rfl⟩ := List.getElem_of_mem hx
  exact (h i _ (List.getElem?_eq_getElem hi)).1
 refine ⟨h.disj, hm, fun x hx y hy ho ht => ?_⟩
 have hmy := hm y hy
 obtain ⟨i, hi, hyi⟩ := List.getElem_of_mem hy
 obtain ⟨k, hk, hxk⟩ := List.getElem_of_mem hx
 rcases Nat.lt_trichotomy k i with hlt | heq | hgt
 ·exact ((h i y (by rw [List.getElem?_eq_getElem hi, hyi])).2 k x hlt (by rw [List.getElem?_eq_getElem hk, hxk])).2 ⟨ho, ht⟩
 ·subst heq
  rw [hyi] at hxk
  subst hxk
  exact zm0 _ ht
 ·refine ((h k x (by rw [List.getElem?_eq_getElem hk, hxk])).2 i y hgt (by rw [List.getElem?_eq_getElem hi, hyi])).2 ⟨?_, ?_⟩
  ·rw [← ht, zkq]; exact ho
  ·rw [← ht]; exact zgN hmy h8 ho
theorem Can.good {od : Int} {l : List Bl} (h : Can od l) : zcu od l := by
 intro i y hy
 have hyl := List.mem_of_getElem? hy
 refine ⟨h.may y hyl, fun k x hk hx => ⟨?_, fun ⟨ho, ht⟩ => h.alone x (List.mem_of_getElem? hx) y hyl ho ht⟩⟩
 have hd := h.disj
 unfold zeX at hd
 rw [List.pairwise_iff_getElem] at hd
 obtain ⟨hi, rfl⟩ := List.getElem?_eq_some_iff.1 hy
 obtain ⟨hkk, rfl⟩ := List.getElem?_eq_some_iff.1 hx
 exact hd k i hkk hi hk
theorem zhQ {od : Int} {x y : Bl} (h8 : od ≤ 8) (hx : zbI od x) (hy : zbI od y) (ho : x.o ≤ y.o) (hm : zbW x y) : y.p ≤ x.p ∧ x.p + pw x.o ≤ y.p + pw y.o := by
 have hd := zl7 hx.1 ho (by have := hy.2.1; omega)
 have ha := zP x.o
 obtain ⟨i, hi⟩ := Int.dvd_of_emod_eq_zero hx.2.2.2.2
 obtain ⟨q, hq⟩ := Int.dvd_of_emod_eq_zero hd
 obtain ⟨j', hj'⟩ := Int.dvd_of_emod_eq_zero hy.2.2.2.2
 obtain ⟨j, hj⟩ : ∃ j, y.p = pw x.o * j := ⟨q * j', by rw [hj', hq, Int.mul_assoc]⟩
 obtain ⟨m1, m2⟩ := hm
 rw [hi, hj, hq] at m1
 rw [hi, hj] at m2
 have e1 : pw x.o * i < pw x.o * (j + q) := by rw [Int.mul_add]; exact m1
 have e2 : pw x.o * j < pw x.o * (i + 1) := by rw [Int.mul_add, Int.mul_one]; exact m2
 have f1 : i < j + q := Int.lt_of_mul_lt_mul_left e1 (by omega)
 have f2 : j < i + 1 := Int.lt_of_mul_lt_mul_left e2 (by omega)
 have g1 : pw x.o * j ≤ pw x.o * i := Int.mul_le_mul_of_nonneg_left (by omega) (by omega)
 have g2 : pw x.o * (i + 1) ≤ pw x.o * (j + q) := Int.mul_le_mul_of_nonneg_left (by omega) (by omega)
 rw [Int.mul_add, Int.mul_one] at g2
 rw [Int.mul_add] at g2
 rw [hi, hj, hq]
 exact ⟨g1, g2⟩
theorem zjS {x y : Bl} {w : Int} (hx : InW x w) (hy : InW y w) : zbW x y := ⟨by have := hx.1; have := hy.2; omega, by have := hy.1; have := hx.2; omega⟩
theorem zgb {od : Int} {l : List Bl} (h8 : od ≤ 8) (hl : Can od l) : ∀ (n : Nat) (y : Bl), y.o = n → zbI od y → (∀ w, InW y w → cov l w) → ∃ z ∈ l, y.o ≤ z.o ∧ z.p ≤ y.p ∧ y.p + pw y.o ≤ z.p + pw z.o := by
 intro n
 induction n with
 | zero =>
  intro y hy hm hc
  have hp := zP y.o
  obtain ⟨z, hz, hw⟩ := hc y.p ⟨Int.le_refl _, by omega⟩
  have ho : y.o ≤ z.o := by have := (hl.may z hz).1; omega
  exact ⟨z, hz, ho, zhQ h8 hm (hl.may z hz) ho (zjS (w := y.p) ⟨Int.le_refl _, by omega⟩ hw)⟩
 | succ n ih =>
  intro y hy hm hc
  obtain ⟨p, o⟩ := y
  simp only at hy
  have hs := zbk (o := (n : Int)) (by omega)
  have hp := zP (n : Int)
  have hon : o = (n : Int) + 1 := by rw [hy]; push_cast; rfl
  obtain ⟨a1, a2, a3, a4, a5⟩ := hm
  simp only at a1 a2 a3 a4 a5 hc ⊢
  rw [hon] at a2 a4 a5 hc ⊢
  rw [hs] at a4 a5
  have m1 : zbI od ⟨p, n⟩ := ⟨by simp only; omega, by simp only; omega, a3, by simp only; omega, by simp only; exact Int.emod_eq_zero_of_dvd (Int.dvd_trans ⟨2, by omega⟩ (Int.dvd_of_emod_eq_zero a5))⟩
  have m2 : zbI od ⟨p + pw n, n⟩ := ⟨by simp only; omega, by simp only; omega, by simp only; omega, by simp only; omega, by simp only; rw [Int.add_emod_right]; exact m1.2.2.2.2⟩
  obtain ⟨z1, hz1, o1, c1, d1⟩ := ih ⟨p, n⟩ rfl m1 (fun w hw => hc w ⟨hw.1, by have := hw.2; simp only at this ⊢; rw [hs]; omega⟩)
  obtain ⟨z2, hz2, o2, c2, d2⟩ := ih ⟨p + pw n, n⟩ rfl m2 (fun w hw => hc w ⟨by have := hw.1; simp only at this ⊢; omega, by have := hw.2; simp only at this ⊢; rw [hs]; omega⟩)
  simp only at o1 c1 d1 o2 c2 d2
  have hmy : zbI od ⟨p, (n : Int) + 1⟩ := ⟨by simp only; omega, a2, a3, by simp only; rw [hs]; exact a4, by simp only; rw [hs]; exact a5⟩
  by_cases b1 : (n : Int) + 1 ≤ z1.o
  ·exact ⟨z1, hz1, b1, zhQ h8 hmy (hl.may z1 hz1) b1 ⟨by simp only; omega, by simp only; rw [hs]; omega⟩⟩
  ·by_cases b2 : (n : Int) + 1 ≤ z2.o
   ·exact ⟨z2, hz2, b2, zhQ h8 hmy (hl.may z2 hz2) b2 ⟨by simp only; omega, by simp only; rw [hs]; omega⟩⟩
   ·exfalso
    have e1 : z1 = ⟨p, n⟩ := by
     obtain ⟨q, r⟩ := z1
     simp only at *
     have : r = n := by omega
     subst this
     have : q = p := by omega
     rw [this]
    have e2 : z2 = ⟨p + pw n, n⟩ := by
     obtain ⟨q, r⟩ := z2
     simp only at *
     have : r = n := by omega
     subst this
     have : q = p + pw n := by omega
     rw [this]
    refine hl.alone z2 hz2 z1 hz1 (by rw [e1]; simp only; omega) ?_
    rw [e1, e2]
    unfold zaF
    simp only
    rw [if_pos a5]
theorem zfk {od : Int} {l k : List Bl} (h8 : od ≤ 8) (hl : Can od l) (hk : Can od k) (h : ∀ w, cov l w ↔ cov k w) : ∀ x ∈ l, x ∈ k := by
 intro x hx
 have hmx := hl.may x hx
 obtain ⟨z, hz, o1, c1, d1⟩ := zgb h8 hk x.o.toNat x (by have := hmx.1; omega) hmx (fun w hw => (h w).1 ⟨x, hx, hw⟩)
 have hmz := hk.may z hz
 obtain ⟨u, hu, o2, c2, d2⟩ := zgb h8 hl z.o.toNat z (by have := hmz.1; omega) hmz (fun w hw => (h w).2 ⟨z, hz, hw⟩)
 have hpx := zP x.o
 have hux : x = u := Classical.byContradiction fun hne => hl.disj.apart hx hu hne ⟨by omega, by omega⟩
 subst hux
 have e1 : z.o = x.o := by omega
 have e2 : z.p = x.p := by omega
 obtain ⟨p, o⟩ := z
 obtain ⟨q, r⟩ := x
 simp only at e1 e2
 rw [e1, e2] at hz
 exact hz
theorem zfq : ∀ {l k : List Bl}, zeX l → zeX k → (∀ x, x ∈ l ↔ x ∈ k) → l = k
 | [], [], _, _, _ => rfl
 | [], y :: k, _, _, h => absurd ((h y).2 (by simp)) (by simp)
 | x :: l, [], _, _, h => absurd ((h x).1 (by simp)) (by simp)
 | x :: l, y :: k, hl, hk, h => by
  obtain ⟨l1, l2⟩ := List.pairwise_cons.1 hl
  obtain ⟨k1, k2⟩ := List.pairwise_cons.1 hk
  have px := zP x.o
  have py := zP y.o
  have hxy : x = y := by
   rcases List.mem_cons.1 ((h x).1 (by simp)) with h1 | h1
   ·exact h1
   ·rcases List.mem_cons.1 ((h y).2 (by simp)) with h2 | h2
    ·exact h2.symm
    ·have := k1 x h1
     have := l1 y h2
     omega
  subst hxy
  have hnl : x ∉ l := fun hm => by have := l1 x hm; omega
  have hnk : x ∉ k := fun hm => by have := k1 x hm; omega
  rw [zfq l2 k2 (fun z => ⟨fun hz => ?_, fun hz => ?_⟩)]
  ·rcases List.mem_cons.1 ((h z).1 (List.mem_cons_of_mem _ hz)) with h1 | h1
   ·subst h1; exact absurd hz hnl
   ·exact h1
  ·rcases List.mem_cons.1 ((h z).2 (List.mem_cons_of_mem _ hz)) with h1 | h1
   ·subst h1; exact absurd hz hnk
   ·exact h1
theorem Can.uniq {od : Int} {l k : List Bl} (h8 : od ≤ 8) (hl : Can od l) (hk : Can od k) (h : ∀ w, cov l w ↔ cov k w) : l = k :=
 zfq hl.disj hk.disj (fun x => ⟨zfk h8 hl hk h x, zfk h8 hk hl (fun w => (h w).symm) x⟩)
theorem zbz {l : List Bl} {v x : Bl} : x ∈ zbl l v ↔ x ∈ l ∧ x ≠ v := by unfold zbl; rw [List.mem_filter]; simp
theorem zg2 {l : List Bl} {t : Bl} (ht : t ∈ l) (w : Int) : cov l w ↔ cov (zbl l t) w ∨ InW t w := by
 constructor
 ·rintro ⟨x, hx, hw⟩
  by_cases h : x = t
  ·subst h; exact .inr hw
  ·exact .inl ⟨x, zbz.2 ⟨hx, h⟩, hw⟩
 ·rintro (⟨x, hx, hw⟩ | hw)
  ·exact ⟨x, (zbz.1 hx).1, hw⟩
  ·exact ⟨t, ht, hw⟩
theorem zjj {l : List Bl} {b : Bl} (w : Int) : cov (zdD l b) w ↔ cov l w ∨ InW b w := by
 constructor
 ·rintro ⟨x, hx, hw⟩
  rcases List.mem_cons.1 ((za1 l b).mem_iff.1 hx) with rfl | hx
  ·exact .inr hw
  ·exact .inl ⟨x, hx, hw⟩
 ·rintro (⟨x, hx, hw⟩ | hw)
  ·exact ⟨x, (za1 l b).mem_iff.2 (List.mem_cons_of_mem _ hx), hw⟩
  ·exact ⟨b, (za1 l b).mem_iff.2 (by simp), hw⟩
theorem zkd {od : Int} {fs : List Bl} (h : Zv od fs = true) : 3 ≤ od ∧ od ≤ 8 ∧ Can od fs := by
 unfold Zv Zg at h
 simp only [Bool.and_eq_true, decide_eq_true_eq] at h
 exact ⟨h.1.1, h.1.2, h.2.can h.1.2⟩
structure Inv (od : Int) (fs : List Bl) (p : Int) (l : List Bl) (o : Int) : Prop where
 lv : zdh p o l
 may : ∀ x ∈ l, zbI od x
 alone : ∀ x ∈ l, ∀ y ∈ l, y.o < od → zaF y ≠ x
 cov : ∀ w, cov fs w ↔ cov l w ∨ InW ⟨p, o⟩ w
 sum : zbS l + pw o = zbS fs
 here : zbI od ⟨p, o⟩
theorem zk2 {od p o : Int} (h8 : od ≤ 8) (h1 : 1 ≤ o) (h : zbI od ⟨p, o⟩) : zbI od ⟨p, o - 1⟩ ∧ zbI od ⟨p + pw (o - 1), o - 1⟩ ∧ zaF ⟨p + pw (o - 1), o - 1⟩ = ⟨p, o - 1⟩ := by
 have hs := zbk (o := o - 1) (by omega)
 rw [show o - 1 + 1 = o by omega] at hs
 have hp := zP (o - 1)
 obtain ⟨a1, a2, a3, a4, a5⟩ := h
 simp only at a1 a2 a3 a4 a5
 rw [hs] at a4 a5
 have e1 : p % pw (o - 1) = 0 := Int.emod_eq_zero_of_dvd (Int.dvd_trans ⟨2, by omega⟩ (Int.dvd_of_emod_eq_zero a5))
 refine ⟨⟨by simp only; omega, by simp only; omega, a3, by simp only; omega, e1⟩, ⟨by simp only; omega, by simp only; omega, by simp only; omega, by simp only; omega, by simp only; rw [Int.add_emod_right]; exact e1⟩, ?_⟩
 unfold zaF
 simp only
 rw [if_neg]
 ·congr 1; omega
 ·generalize o - 1 = m at a5
  have hm : m = o - 1 ∨ True := .inr trivial
  intro hc
  have h2 : (p + pw m) % (2 * pw m) = 0 := hc
  have hd1 := Int.dvd_of_emod_eq_zero a5
  have hd2 := Int.dvd_of_emod_eq_zero h2
  have hd3 : 2 * pw m ∣ pw m := (Int.dvd_add_right hd1).1 hd2
  have hpm := zP m
  have := Int.le_of_dvd (by omega) hd3
  omega
theorem zkl (l : List Bl) (b : Bl) : zbS (zdD l b) = pw b.o + zbS l := by rw [zdA (za1 l b), zap]
theorem Inv.step {od : Int} {fs : List Bl} {p : Int} {l : List Bl} {o : Int} (h8 : od ≤ 8) (h : Inv od fs p l o) (h1 : 1 ≤ o) : Inv od fs p (zdD l ⟨p + pw (o - 1), o - 1⟩) (o - 1) := by
 have hs := zbk (o := o - 1) (by omega)
 rw [show o - 1 + 1 = o by omega] at hs
 have hp := zP (o - 1)
 obtain ⟨m1, m2, ht⟩ := zk2 h8 h1 h.here
 have hmem : ∀ x, x ∈ zdD l ⟨p + pw (o - 1), o - 1⟩ ↔ x = ⟨p + pw (o - 1), o - 1⟩ ∨ x ∈ l := fun x => by rw [(za1 l _).mem_iff, List.mem_cons]
 have hno : (⟨p, o - 1⟩ : Bl) ∉ l := fun hm => by
  have := h.lv.2 _ hm
  simp only at this
  have := zP o
  omega
 refine ⟨h.lv.step h1, fun x hx => ?_, fun x hx y hy ho htw => ?_, fun w => ?_, ?_, m1⟩
 ·rcases (hmem x).1 hx with e | hx'
  ·rw [e]; exact m2
  ·exact h.may x hx'
 ·rcases (hmem y).1 hy with e | hy'
  ·rw [e, ht] at htw
   rcases (hmem x).1 hx with e2 | hx'
   ·rw [e2] at htw; injection htw with q1 q2; omega
   ·exact hno (by rw [htw]; exact hx')
  ·rcases (hmem x).1 hx with e2 | hx'
   ·rw [e2] at htw
    have := zgN (h.may y hy') h8 ho
    rw [htw, ht] at this
    exact hno (by rw [this]; exact hy')
   ·exact h.alone x hx' y hy' ho htw
 ·rw [h.cov w, zjj]
  have e : InW ⟨p, o⟩ w ↔ InW ⟨p + pw (o - 1), o - 1⟩ w ∨ InW ⟨p, o - 1⟩ w := by
   unfold InW; simp only; rw [hs]; omega
  rw [e]
  exact or_assoc.symm
 ·rw [zkl]; have := h.sum; simp only; omega
theorem Inv.split {od : Int} {fs : List Bl} {p : Int} (h8 : od ≤ 8) : ∀ (n : Nat) {l : List Bl} {o : Int}, Inv od fs p l o → n ≤ o → Inv od fs p (zeP l p o n) (o - n)
 | 0, l, o, h, _ => by rw [zeP]; simpa using h
 | n + 1, l, o, h, hn => by
  have := Inv.split h8 n (h.step h8 (by omega)) (by omega)
  rw [zeP, show o - ((n + 1 : Nat) : Int) = o - 1 - n by omega]
  exact this
theorem Inv.start {od : Int} {fs : List Bl} {b : Bl} (hc : Can od fs) (hb : b ∈ fs) : Inv od fs b.p (zbl fs b) b.o := by
 refine ⟨ze4 hc.disj hb, fun x hx => hc.may x (zbz.1 hx).1, fun x hx y hy => hc.alone x (zbz.1 hx).1 y (zbz.1 hy).1, fun w => zg2 hb w, ?_, hc.may b hb⟩
 have := zdA (zgP hc.disj.sorted.nodup hb)
 rw [zap] at this
 omega
theorem Inv.can {od : Int} {fs : List Bl} {p : Int} {l : List Bl} {o : Int} (h : Inv od fs p l o) : Can od l := ⟨h.lv.1, h.may, h.alone⟩
def zn1 (h p o : Int) (ws ls : List Int) : Ob := ⟨h, p, o, none, ws, 0, none, ls, 0⟩
def zgR (o : Ob) : Int × Int × Int × Nat × Nat := (o.h, o.p, o.o, o.ws.length, o.ls.length)
def zf0 (l k : List Ob) : Prop := l.map zgR = k.map zgR
theorem zf0.get {l k : List Ob} (h : zf0 l k) {i : Nat} {b : Ob} (hb : k[i]? = some b) : ∃ a, l[i]? = some a ∧ zgR a = zgR b := by
 have h1 : (k.map zgR)[i]? = some (zgR b) := by rw [List.getElem?_map, hb]; rfl
 rw [← h, List.getElem?_map] at h1
 cases ha : l[i]? with
 | none => rw [ha] at h1; cases h1
 | some a => rw [ha] at h1; injection h1 with h1; exact ⟨a, rfl, h1⟩
theorem zf0.mem {l k : List Ob} (h : zf0 l k) {b : Ob} (hb : b ∈ k) : ∃ a ∈ l, zgR a = zgR b := by
 obtain ⟨i, hi, rfl⟩ := List.getElem_of_mem hb
 obtain ⟨a, ha, hs⟩ := h.get (List.getElem?_eq_getElem hi)
 exact ⟨a, List.mem_of_getElem? ha, hs⟩
theorem zf0.symm {l k : List Ob} (h : zf0 l k) : zf0 k l := Eq.symm h
theorem zf0.leads {l k : List Ob} (h : zf0 l k) {t : Int} (ht : ZY l t) : ZY k t := by
 rcases ht with ht | ⟨o, ho, rfl⟩
 ·exact .inl ht
 ·obtain ⟨a, ha, hs⟩ := h.symm.mem ho
  unfold zgR at hs
  injection hs with hs
  exact .inr ⟨a, ha, hs⟩
theorem zf0.rise {l k : List Ob} {nx : Int} (h : zf0 l k) (hr : zeu nx l) : zeu nx k := fun i o ho => by
 obtain ⟨a, ha, hs⟩ := h.get ho
 obtain ⟨h1, h2, h3⟩ := hr i a ha
 unfold zgR at hs
 injection hs with hs
 rw [← hs]
 refine ⟨h1, h2, fun j q hj hq => ?_⟩
 obtain ⟨b, hb, hs2⟩ := h.get hq
 unfold zgR at hs2
 injection hs2 with hs2
 rw [← hs2]
 exact h3 j b hj hb
theorem zf0.len {l k : List Ob} (h : zf0 l k) : l.length = k.length := by
 have := congrArg List.length (show l.map zgR = k.map zgR from h)
 simpa using this
theorem zf0.need {l k : List Ob} {od : Int} (h : zf0 l k) (hn : zet od l) : zet od k := fun o ho => by
 obtain ⟨a, ha, hs⟩ := h.mem ho
 obtain ⟨h1, h2⟩ := hn a ha
 unfold zgR at hs
 injection hs with s1 s2
 injection s2 with s2 s3
 injection s3 with s3 s4
 injection s4 with s4 s5
 unfold zaE at h2 ⊢
 rw [← s2, ← s3, ← s4, ← s5]
 exact ⟨h1, h2⟩
theorem zf0.set {l : List Ob} {i : Nat} {a b : Ob} (ha : l[i]? = some a) (h : zgR a = zgR b) : zf0 l (l.set i b) := by
 unfold zf0
 rw [List.map_set, ← h, zfV (by rw [List.getElem?_map, ha]; rfl)]
theorem zdu {a b : Int} (h : 0 ≤ Z9 a b) : 0 ≤ a ∧ a ≤ 32 ∧ 0 ≤ b ∧ b ≤ 16 := by
 unfold Z9 at h
 split at h
 ·rename_i h'; exact h'
 ·omega
open Go.RowKit
def ObR (x : Ob) (R : List Blk) : Prop := ∃ Rw Rl, R = Rw ++ Rl ∧ zJ 3 1 (.slice x.wa x.ws.length x.wc) x.ws.length (x.ws.flatMap iV) Rw ∧ zJ 3 1 (.slice x.la x.ls.length x.lc) x.ls.length (x.ls.flatMap iV) Rl
inductive ze8 : List Ob → List Blk → Prop
 | nil : ze8 [] []
 | cons {x : Ob} {l : List Ob} {R M : List Blk} : ObR x R → ze8 l M → ze8 (x :: l) (R ++ M)
theorem ze8.at_ {l : List Ob} {M : List Blk} (h : ze8 l M) : ∀ {i : Nat} {x : Ob}, l[i]? = some x →
  ∃ M1 R M2, M = M1 ++ (R ++ M2) ∧ ObR x R ∧ (∀ y R', ObR y R' → ze8 (l.set i y) (M1 ++ (R' ++ M2))) ∧ ze8 (l.eraseIdx i) (M1 ++ M2) := by
 induction h with
 | nil => intro i x hx; simp at hx
 | @cons y l R M hR hM ih =>
  intro i x hx
  cases i with
  | zero =>
   simp at hx
   subst hx
   exact ⟨[], R, M, rfl, hR, fun z R' hz => (ze8.cons hz hM : ze8 (z :: l) (R' ++ M)), hM⟩
  | succ i =>
   obtain ⟨M1, R1, M2, rfl, h1, h2, h3⟩ := ih (by simpa using hx)
   exact ⟨R ++ M1, R1, M2, by rw [List.append_assoc], h1, fun z R' hz => by rw [List.append_assoc]; exact .cons hR (h2 z R' hz), by rw [List.append_assoc]; exact .cons hR h3⟩
theorem ze8.snoc {l : List Ob} {M R : List Blk} {x : Ob} (h : ze8 l M) (hx : ObR x R) : ze8 (l ++ [x]) (M ++ R) := by
 induction h with
 | nil => simpa using ze8.cons hx ze8.nil
 | @cons y l R' M hR hM ih => rw [List.cons_append, List.append_assoc]; exact .cons hR ih
theorem zJ.keptS {e : TypeId} {c n : Nat} {a : Option Addr} {k : Nat} {xs : List Value} {R : List Blk} (h : zJ e c (.slice a n k) n xs R) : zaG R fun w => zr w a xs := by
 obtain ⟨a', k', hv, hk⟩ := h.kept
 injection hv with h1 h2 h3
 subst h1
 exact hk
theorem ObR.kept {x : Ob} {R : List Blk} (h : ObR x R) : zaG R fun w => x.Is w := by
 obtain ⟨Rw, Rl, rfl, h1, h2⟩ := h
 exact h1.keptS.and h2.keptS
theorem ze8.kept {l : List Ob} {M : List Blk} (h : ze8 l M) : zaG M fun w => ∀ o ∈ l, o.Is w := by
 induction h with
 | nil => exact zaG.none_ (fun w o ho => by cases ho) _
 | @cons y l R M hR hM ih =>
  refine (hR.kept.and ih).mono (fun p hp => hp) (fun w ⟨h1, h2⟩ o ho => ?_)
  rcases List.mem_cons.1 ho with rfl | ho
  ·exact h1
  ·exact h2 o ho
structure HvR (x : Hv) (RO RF M : List Blk) : Prop where
 objs : zJ 126 5 (.slice x.oa x.os.length x.oc) x.os.length (x.os.flatMap obV) RO
 free : zJ 124 2 (.slice x.fa x.fs.length x.fc) x.fs.length (x.fs.flatMap blV) RF
 rows : ze8 x.os M
theorem HvR.kept {x : Hv} {RO RF M : List Blk} (h : HvR x RO RF M) : zaG (RO ++ (RF ++ M)) fun w => x.Is w :=
 (h.objs.keptS.and (h.free.keptS.and h.rows.kept)).mono (fun _ hp => hp) fun _ ⟨h1, h2, h3⟩ => ⟨h1, h3, h2⟩
def zi6 (B : Nat) (w0 w : World) (b : Nat) (x : Hv) (K : List Blk) : Prop := ∃ RO RF M, HvR x RO RF M ∧ Hp B w0 w (⟨b, hvL x, 113, 8⟩ :: (RO ++ (RF ++ (M ++ K))))
theorem HvR.is {x : Hv} {RO RF M K L : List Blk} (h : HvR x RO RF M) {B : Nat} {w0 w : World} (hp : Hp B w0 w (L ++ (RO ++ (RF ++ (M ++ K))))) : x.Is w :=
 h.kept.at hp (fun p hm => by simp only [List.mem_append] at hm ⊢; rcases hm with hm | hm | hm <;> simp [hm])
theorem zJ.own {e : TypeId} {c n : Nat} {a : Option Addr} {k : Nat} {xs : List Value} {R : List Blk} (h : zJ e c (.slice a n k) n xs R) (hn : 0 < n) : ∃ g, a = some ⟨g, 0, none⟩ ∧ n ≤ k ∧ k ≤ maxLen ∧ R = [⟨g, xs, e, k * c⟩] ∧ xs.length = n * c := by
 obtain ⟨hl, ⟨h0, _⟩ | ⟨g, cap, hv, h1, h2, hr⟩⟩ := h
 ·omega
 ·injection hv with v1 v2 v3
  subst v1 v3
  exact ⟨g, rfl, h1, h2, hr, hl⟩
theorem Hp.sublist {B : Nat} {w0 w : World} {L L' : List Blk} (hp : Hp B w0 w L) (h : L'.Sublist L) : Hp B w0 w L' :=
 ⟨hp.below, hp.size, (h.map _).nodup hp.nodup, fun p hpL => hp.own p (h.subset hpL)⟩
open Go.RowKit
theorem zJ.val {e : TypeId} {c n : Nat} {v : Value} {xs : List Value} {R : List Blk} (h : zJ e c v n xs R) : ∃ a k, v = .slice a n k := by
 obtain ⟨a, k, hv, _⟩ := h.kept
 exact ⟨a, k, hv⟩
theorem zJ.alike {e : TypeId} {c n : Nat} {v : Value} {xs : List Value} {R : List Blk} (h : zJ e c v n xs R) (hn : 0 < n) : ∃ g cap, v = .slice (some ⟨g, 0, none⟩) n cap ∧ R = [⟨g, xs, e, cap * c⟩] ∧ ∀ ys : List Value, ys.length = n * c → zJ e c v n ys [⟨g, ys, e, cap * c⟩] := by
 obtain ⟨hl, ⟨h0, _⟩ | ⟨g, cap, hv, h1, h2, hr⟩⟩ := h
 ·omega
 ·exact ⟨g, cap, hv, hr, fun ys hy => ⟨hy, .inr ⟨g, cap, hv, h1, h2, rfl⟩⟩⟩
open Go.RowKit
theorem zh9 : zac Tryz.prog 29 7 = true := by kernel_rfl
def zou (c v : Int) : Value := .agg #[.int .i64 c, .int .i64 v]
open Go.RowKit
def zkD (B : Nat) (w0 : World) (b : Nat) (s : Hv) (c v : Int) (K : List Blk) (e : Ending) (w' : World) : Prop := e = .returned (zou c v) ∧ ∃ y : Hv, y.Sm s ∧ zi6 B w0 w' b y K
theorem zai.small {x : Hv} (h : zai x) : x.Small := by
 obtain ⟨h3, h8, hcan⟩ := zkd h.free
 refine ⟨⟨by have := h.len; omega, fun o ho => ?_⟩, ?_⟩
 ·have h1 := (h.need o ho)
  have h2 : 0 ≤ Z9 o.ws.length o.ls.length := by rw [h1.1]; exact h1.2.1
  have := zdu h2
  omega
 ·have h1 := hcan.good.len h3
  have h2 := zb5 h8
  omega
theorem zai.sorted {x : Hv} (h : zai x) : zbu x.os := h.rise.step
theorem Hp.part {B : Nat} {w0 w : World} {L L' D : List Blk} (hp : Hp B w0 w L) (h : L.Perm (L' ++ D)) : Hp B w0 w L' := (hp.reorder h).sublist (List.sublist_append_left _ _)
end Go.Proofs.YtaafajaadfgaoaaGreat
