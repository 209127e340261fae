import Derived.Test.YtaafajaadfgaoaaGreatFp7
import Derived.Test.YtaafajaadfgaoaaGreatFp2
import Derived.Test.YtaafajaadfgaoaaGreatFp13
set_option linter.unusedSimpArgs false
set_option linter.unusedVariables false
set_option maxRecDepth 100000
set_option maxHeartbeats 60000000
namespace Go.Proofs.YtaafajaadfgaoaaGreat
def zos (sz : Int) (b : Bl) (x : Ob) : Bool := decide (x.p ≤ sz) && (decide (b.p < x.p + pw x.o) && decide (x.p < b.p + pw b.o))
def zjT (sz : Int) (os : List Ob) (b : Bl) : Bool := os.any (zos sz b)
def lfN (sz : Int) (os : List Ob) : Nat → Int → List Bl
 | 0, p => if zjT sz os ⟨p, 0⟩ = true then [] else [⟨p, 0⟩]
 | k + 1, p => if zjT sz os ⟨p, ((k + 1 : Nat) : Int)⟩ = true then lfN sz os k p ++ lfN sz os k (p + pw k) else [⟨p, ((k + 1 : Nat) : Int)⟩]
theorem zlf {sz : Int} {os : List Ob} {b : Bl} : zjT sz os b = true ↔ ∃ x ∈ os, x.p ≤ sz ∧ b.p < x.p + pw x.o ∧ x.p < b.p + pw b.o := by
 unfold zjT zos
 rw [List.any_eq_true]
 simp only [Bool.and_eq_true, decide_eq_true_eq]
def zkw (os : List Ob) (w : Int) : Prop := ∃ x ∈ os, InW (zaE x) w
theorem zeo {sz : Int} {os : List Ob} {b : Bl} (hb : b.p + pw b.o ≤ sz) : zjT sz os b = true ↔ ∃ w, InW b w ∧ zkw os w := by
 rw [zlf]
 constructor
 ·rintro ⟨x, hx, h1, h2, h3⟩
  have p1 := zP x.o
  have p2 := zP b.o
  by_cases h : x.p ≤ b.p
  ·exact ⟨b.p, ⟨Int.le_refl _, by omega⟩, x, hx, by simp only [zaE]; exact h, by simp only [zaE]; omega⟩
  ·exact ⟨x.p, ⟨by omega, by omega⟩, x, hx, by simp only [zaE]; omega, by simp only [zaE]; omega⟩
 ·rintro ⟨w, ⟨h1, h2⟩, x, hx, h3, h4⟩
  simp only [zaE] at h3 h4
  exact ⟨x, hx, by omega, by omega, by omega⟩
structure AtK (od : Int) (k : Nat) (p : Int) : Prop where
 ko : (k : Int) ≤ od
 lo : 0 ≤ p
 hi : p + pw k ≤ pw od
 al : p % pw k = 0
theorem AtK.may {od : Int} {k : Nat} {p : Int} (h : AtK od k p) : zbI od ⟨p, k⟩ := ⟨by simp only; omega, h.ko, h.lo, by simp only; have := h.hi; omega, h.al⟩
theorem pwS (k : Nat) : pw ((k + 1 : Nat) : Int) = 2 * pw k := by
 have := zbk (o := (k : Int)) (by omega)
 rw [← this]; congr 1
theorem AtK.left {od : Int} {k : Nat} {p : Int} (h : AtK od (k + 1) p) : AtK od k p := by
 have h1 := pwS k
 have h2 := zP (k : Int)
 have h3 := h.hi
 have h4 := h.al
 rw [h1] at h3 h4
 exact ⟨by have := h.ko; omega, h.lo, by omega, Int.emod_eq_zero_of_dvd (Int.dvd_trans ⟨2, by omega⟩ (Int.dvd_of_emod_eq_zero h4))⟩
theorem AtK.right {od : Int} {k : Nat} {p : Int} (h : AtK od (k + 1) p) : AtK od k (p + pw k) := by
 have h0 := h.left
 have h1 := pwS k
 have h2 := zP (k : Int)
 have h3 := h.hi
 rw [h1] at h3
 exact ⟨h0.ko, by have := h.lo; omega, by omega, by rw [Int.add_emod_right]; exact h0.al⟩
theorem zdq {od : Int} {os : List Ob} : ∀ (k : Nat) (p : Int), AtK od k p →
  (∀ b ∈ lfN (pw od) os k p, zbI od b ∧ b.o ≤ k ∧ p ≤ b.p ∧ b.p + pw b.o ≤ p + pw k) ∧ zeX (lfN (pw od) os k p) ∧ (∀ w, cov (lfN (pw od) os k p) w ↔ InW ⟨p, k⟩ w ∧ ¬ zkw os w)
 | 0, p, h => by
  have hm := zeo (os := os) (b := ⟨p, 0⟩) (by have := h.hi; simpa using this)
  have p0 : pw 0 = 1 := by decide
  have hin : ∀ w, InW ⟨p, 0⟩ w ↔ w = p := fun w => by
   unfold InW
   simp only [p0]; omega
  unfold lfN
  split
  ·rename_i hmt
   obtain ⟨w0, hw0, hh⟩ := hm.1 hmt
   refine ⟨fun b hb => (by cases hb), List.Pairwise.nil, fun w => ⟨fun ⟨x, hx, _⟩ => (by cases hx), fun ⟨h1, h2⟩ => ?_⟩⟩
   have e1 := (hin w0).1 hw0
   have e2 := (hin w).1 h1
   rw [e2, ← e1] at h2
   exact absurd hh h2
  ·rename_i hmt
   refine ⟨fun b hb => ?_, List.pairwise_singleton _ _, fun w => ⟨fun ⟨x, hx, hw⟩ => ?_, fun ⟨h1, _⟩ => ⟨_, List.mem_singleton.2 rfl, h1⟩⟩⟩
   ·obtain rfl := List.mem_singleton.1 hb
    exact ⟨h.may, by simp, Int.le_refl _, Int.le_refl _⟩
   ·obtain rfl := List.mem_singleton.1 hx
    exact ⟨hw, fun hh => hmt (hm.2 ⟨w, hw, hh⟩)⟩
 | k + 1, p, h => by
  have hm := zeo (os := os) (b := ⟨p, ((k + 1 : Nat) : Int)⟩) h.hi
  have h1 := pwS k
  have h2 := zP (k : Int)
  obtain ⟨l1, l2, l3⟩ := zdq k p h.left
  obtain ⟨r1, r2, r3⟩ := zdq k (p + pw k) h.right
  unfold lfN
  split
  ·refine ⟨fun b hb => ?_, ?_, fun w => ?_⟩
   ·rcases List.mem_append.1 hb with hb | hb
    ·obtain ⟨a1, a2, a3, a4⟩ := l1 b hb
     exact ⟨a1, by omega, a3, by rw [h1]; omega⟩
    ·obtain ⟨a1, a2, a3, a4⟩ := r1 b hb
     exact ⟨a1, by omega, by omega, by rw [h1]; omega⟩
   ·refine List.pairwise_append.2 ⟨l2, r2, fun a ha b hb => ?_⟩
    have := (l1 a ha).2.2.2
    have := (r1 b hb).2.2.1
    omega
   ·have hsplit : cov (lfN (pw od) os k p ++ lfN (pw od) os k (p + pw k)) w ↔ cov (lfN (pw od) os k p) w ∨ cov (lfN (pw od) os k (p + pw k)) w := by
     constructor
     ·rintro ⟨x, hx, hw⟩
      rcases List.mem_append.1 hx with hx | hx
      ·exact .inl ⟨x, hx, hw⟩
      ·exact .inr ⟨x, hx, hw⟩
     ·rintro (⟨x, hx, hw⟩ | ⟨x, hx, hw⟩)
      ·exact ⟨x, List.mem_append_left _ hx, hw⟩
      ·exact ⟨x, List.mem_append_right _ hx, hw⟩
    rw [hsplit, l3, r3]
    unfold InW
    simp only [h1]
    constructor
    ·rintro (⟨⟨a, b⟩, c⟩ | ⟨⟨a, b⟩, c⟩)
     ·exact ⟨⟨by omega, by omega⟩, c⟩
     ·exact ⟨⟨by omega, by omega⟩, c⟩
    ·rintro ⟨⟨a, b⟩, c⟩
     by_cases hw : w < p + pw k
     ·exact .inl ⟨⟨a, hw⟩, c⟩
     ·exact .inr ⟨⟨by omega, by omega⟩, c⟩
  ·rename_i hmt
   refine ⟨fun b hb => ?_, List.pairwise_singleton _ _, fun w => ⟨fun ⟨x, hx, hw⟩ => ?_, fun ⟨h1, _⟩ => ⟨_, List.mem_singleton.2 rfl, h1⟩⟩⟩
   ·obtain rfl := List.mem_singleton.1 hb
    exact ⟨h.may, Int.le_refl _, Int.le_refl _, Int.le_refl _⟩
   ·obtain rfl := List.mem_singleton.1 hx
    exact ⟨hw, fun hh => hmt (hm.2 ⟨w, hw, hh⟩)⟩
theorem zfM {od : Int} {os : List Ob} (h8 : od ≤ 8) : ∀ (k : Nat) (p : Int), AtK od k p → ∀ b : Bl, zbI od b → b.o ≤ k → p ≤ b.p → b.p + pw b.o ≤ p + pw k → (∀ w, InW b w → ¬ zkw os w) →
  ∃ z ∈ lfN (pw od) os k p, b.o ≤ z.o ∧ z.p ≤ b.p ∧ b.p + pw b.o ≤ z.p + pw z.o
 | 0, p, h, b, hb, ho, h1, h2, hw => by
  have p0 : pw 0 = 1 := by decide
  have e0 : b.o = 0 := by have := hb.1; omega
  rw [e0] at h2
  simp only [Int.natCast_zero, p0] at h2
  have e1 : b.p = p := by simp at h2; omega
  have hm := zeo (os := os) (b := ⟨p, 0⟩) (by have := h.hi; simpa using this)
  unfold lfN
  rw [if_neg]
  ·exact ⟨_, List.mem_singleton.2 rfl, by simp [e0], by simp only; omega, by simp only [e0]; omega⟩
  ·intro hmt
   obtain ⟨w, hw1, hw2⟩ := hm.1 hmt
   refine hw w ?_ hw2
   unfold InW at hw1 ⊢
   rw [e0]; simp only at hw1; omega
 | k + 1, p, h, b, hb, ho, h1, h2, hw => by
  have hs := pwS k
  have hpk := zP (k : Int)
  have hpb := zP b.o
  have hm := zeo (os := os) (b := ⟨p, ((k + 1 : Nat) : Int)⟩) h.hi
  unfold lfN
  split
  ·rename_i hmt
   by_cases hbo : b.o ≤ k
   ·rw [hs] at h2
    by_cases hl : b.p < p + pw k
    ·have hn := zhQ h8 hb h.left.may hbo ⟨hl, by simp only; omega⟩
     obtain ⟨z, hz, g⟩ := zfM h8 k p h.left b hb hbo h1 hn.2 hw
     exact ⟨z, List.mem_append_left _ hz, g⟩
    ·obtain ⟨z, hz, g⟩ := zfM h8 k (p + pw k) h.right b hb hbo (by omega) (by omega) hw
     exact ⟨z, List.mem_append_right _ hz, g⟩
   ·exfalso
    have e1 : b.o = ((k + 1 : Nat) : Int) := by omega
    obtain ⟨w, hw1, hw2⟩ := hm.1 hmt
    refine hw w ?_ hw2
    unfold InW at hw1 ⊢
    rw [e1] at h2 ⊢
    simp only at hw1; omega
  ·exact ⟨_, List.mem_singleton.2 rfl, ho, by simp only; exact h1, by simp only; exact h2⟩
theorem zjJ {od : Int} {os : List Ob} (h3 : 0 ≤ od) (h8 : od ≤ 8) : Can od (lfN (pw od) os od.toNat 0) := by
 have hn : ((od.toNat : Nat) : Int) = od := by omega
 have h0 : AtK od od.toNat 0 := ⟨by omega, Int.le_refl _, by rw [hn]; omega, by simp⟩
 obtain ⟨f1, f2, f3⟩ := zdq (os := os) od.toNat 0 h0
 refine ⟨f2, fun x hx => (f1 x hx).1, fun x hx y hy ho ht => ?_⟩
 have hmy := (f1 y hy).1
 have hmx := (f1 x hx).1
 have hmm := zeG hmy h8 ho
 have hpy := zP y.o
 have hs := zbk (o := y.o) hmy.1
 have hc := zcd hmy h8 ho
 rw [ht] at hc
 have hxo : x.o = y.o := by rw [← ht, zkq]
 have hpar : (zbm y).p = min y.p x.p := by unfold zbm; rw [ht]
 have hpo : (zbm y).o = y.o + 1 := rfl
 have hfree : ∀ w, InW (zbm y) w → ¬ zkw os w := fun w hw => by
  unfold InW at hw
  rw [hpar, hpo, hs] at hw
  have hcw : cov (lfN (pw od) os od.toNat 0) w := by
   rcases hc with ⟨e, _, _⟩ | ⟨e, _, _⟩
   ·have e' : x.p = y.p + pw y.o := by rw [e]
    by_cases g : w < y.p + pw y.o
    ·exact ⟨y, hy, by unfold InW; omega⟩
    ·exact ⟨x, hx, by unfold InW; rw [hxo]; omega⟩
   ·have e' : x.p = y.p - pw y.o := by rw [e]
    by_cases g : w < y.p
    ·exact ⟨x, hx, by unfold InW; rw [hxo]; omega⟩
    ·exact ⟨y, hy, by unfold InW; omega⟩
  exact ((f3 w).1 hcw).2
 have hpe := hmm.end_le
 obtain ⟨z, hz, g1, g2, g3⟩ := zfM h8 od.toNat 0 h0 (zbm y) hmm (by rw [hn]; exact hmm.2.1) hmm.2.2.1 (by rw [hn]; omega) hfree
 have hzy : y = z := Classical.byContradiction fun hne => f2.apart hy hz hne (by
  rw [hpo, hs] at g3
  rw [hpar] at g2 g3
  refine ⟨?_, ?_⟩
  ·rcases hc with ⟨e, _, _⟩ | ⟨e, _, _⟩
   ·have e' : x.p = y.p + pw y.o := by rw [e]
    omega
   ·have e' : x.p = y.p - pw y.o := by rw [e]
    omega
  ·omega)
 rw [← hzy, hpo] at g1
 omega
theorem zh1 {E : Int} : ∀ {l : List Bl} {a : Int}, Tl E a l → ∀ w, a ≤ w → w < E → cov l w
 | [], a, h, w, h1, h2 => by simp [Tl] at h; omega
 | b :: r, a, h, w, h1, h2 => by
  obtain ⟨rfl, h3⟩ := h
  by_cases g : w < b.p + pw b.o
  ·exact ⟨b, by simp, h1, g⟩
  ·obtain ⟨x, hx, hw⟩ := zh1 h3 w (by omega) h2
   exact ⟨x, List.mem_cons_of_mem _ hx, hw⟩
theorem zim {x : Hv} (hx : zai x) (w : Int) : cov x.fs w ↔ (0 ≤ w ∧ w < pw x.od) ∧ ¬ zkw x.os w := by
 have hf := hx.free
 unfold Zv at hf
 rw [Bool.and_eq_true] at hf
 have hg : zcu x.od x.fs := by simpa using hf.2
 obtain ⟨s, hs⟩ : ∃ s, s = (zdM x).mergeSort (fun a b => decide (a.p ≤ b.p)) := ⟨_, rfl⟩
 have hperm : s.Perm (zdM x) := by rw [hs]; exact List.mergeSort_perm _ _
 have hsort : s.Pairwise fun a b => a.p ≤ b.p := by
  rw [hs]
  have := List.pairwise_mergeSort (le := fun a b : Bl => decide (a.p ≤ b.p)) (by intro a b c h1 h2; simp at *; omega) (by intro a b; simp; omega) (zdM x)
  exact this.imp (by intro a b h; simpa using h)
 have ht := (zh0 hg hperm hsort hx.need.weak).2 ⟨hx.need, hx.apart, hx.words⟩
 constructor
 ·rintro ⟨b, hb, hw⟩
  obtain ⟨i, hi, rfl⟩ := List.getElem_of_mem hb
  have hm := (hg i _ (List.getElem?_eq_getElem hi)).1
  refine ⟨⟨by have := hm.2.2.1; have := hw.1; omega, by have := hm.end_le; have := hw.2; omega⟩, ?_⟩
  rintro ⟨o, ho, hwo⟩
  have ha := hx.apart
  unfold zbU zdM at ha
  exact (List.pairwise_append.1 ha).2.2 _ hb _ (List.mem_map_of_mem ho) (zjS hw hwo)
 ·rintro ⟨⟨h1, h2⟩, h3⟩
  obtain ⟨b, hb, hw⟩ := zh1 ht w h1 h2
  rcases List.mem_append.1 (hperm.mem_iff.1 hb) with hb | hb
  ·exact ⟨b, hb, hw⟩
  ·obtain ⟨o, ho, rfl⟩ := List.mem_map.1 hb
   exact absurd ⟨o, ho, hw⟩ h3
theorem zgp {x : Hv} (hx : zai x) : 3 ≤ x.od ∧ x.od ≤ 8 := by
 have hf := hx.free
 unfold Zv Zg at hf
 rw [Bool.and_eq_true] at hf
 simpa using hf.1
theorem zjI {x : Hv} (hx : zai x) : lfN (pw x.od) x.os x.od.toNat 0 = x.fs := by
 obtain ⟨h3, h8⟩ := zgp hx
 have hf := hx.free
 unfold Zv at hf
 rw [Bool.and_eq_true] at hf
 have hg : zcu x.od x.fs := by simpa using hf.2
 have hn : ((x.od.toNat : Nat) : Int) = x.od := by omega
 have h0 : AtK x.od x.od.toNat 0 := ⟨by omega, Int.le_refl _, by rw [hn]; omega, by simp⟩
 refine Can.uniq h8 (zjJ (by omega) h8) (hg.can h8) (fun w => ?_)
 rw [(zdq (os := x.os) x.od.toNat 0 h0).2.2 w, zim hx w]
 unfold InW
 simp only [hn]
 constructor
 ·rintro ⟨⟨a, b⟩, c⟩; exact ⟨⟨a, by omega⟩, c⟩
 ·rintro ⟨⟨a, b⟩, c⟩; exact ⟨⟨a, by omega⟩, c⟩
theorem zjK {od : Int} {os : List Ob} (h3 : 3 ≤ od) (h8 : od ≤ 8) : (lfN (pw od) os od.toNat 0).length ≤ 256 := by
 have := (zjJ (os := os) (by omega) h8).good.len h3
 have := zb5 h8
 omega
open Go.RowKit
theorem zkJ {ty : TypeId} (h : zB Tryz.prog ty = true := by with_reducible first | exact zq | exact zA | exact zcq | exact za8) : zB Tryz.prog ty = true := h
def zam (w : World) (b : Nat) (v : Value) : Prop := ∀ j u, [v][j]? = some u → w.cell? ⟨b, 0 + j, none⟩ = some u
theorem zam.of {w : World} {b : Nat} {v : Value} (h : w.cell? ⟨b, 0, none⟩ = some v) : zam w b v := fun j u hj => by
 match j, hj with
 | 0, hj => simp at hj; subst hj; exact h
theorem zam.below {w w' : World} {b : Nat} {v : Value} (h : zam w b v) (hb : Below w.heap.size w w') : zam w' b v := fun j u hj => by
 have := h j u hj
 exact (hb.cell (World.block_lt_of_cell? w _ this)).trans this
theorem zlg (sz p en : Int) (x : Ob) : (decide (x.p ≤ sz) = false ∧ (decide (x.p ≤ sz) && (decide (p < x.p + pw x.o) && decide (x.p < en))) = false) ∨
  (decide (x.p ≤ sz) = true ∧ decide (p < x.p + pw x.o) = false ∧ (decide (x.p ≤ sz) && (decide (p < x.p + pw x.o) && decide (x.p < en))) = false) ∨
  (decide (x.p ≤ sz) = true ∧ decide (p < x.p + pw x.o) = true ∧ (decide (x.p ≤ sz) && (decide (p < x.p + pw x.o) && decide (x.p < en))) = decide (x.p < en)) := by
 cases decide (x.p ≤ sz) <;> cases decide (p < x.p + pw x.o) <;> simp
def zdi (x : Ob) : Prop := 0 ≤ x.p ∧ x.p ≤ 2147483647 ∧ 0 ≤ x.o ∧ x.o ≤ 8
theorem zlb (sz p en : Int) (x : Ob) (hx : zdi x) (bs bb be : Nat) (w : World) (hs : zam w bs (.int .i64 sz)) (hb : zam w bb (.int .i64 p)) (he : zam w be (.int .i64 en)) :
  Calls Tryz.prog 211 #[.agg (obV x).toArray, .pointer (some ⟨bs, 0, none⟩), .pointer (some ⟨bb, 0, none⟩), .pointer (some ⟨be, 0, none⟩)] w fun e w' => e = .returned (.bool (decide (x.p ≤ sz) && (decide (p < x.p + pw x.o) && decide (x.p < en)))) ∧ Below w.heap.size w w' := by
 have hp := Hp.start w
 have W9 := z0j (zlg sz p en x)
 obtain ⟨h1, h2, h3, h4⟩ := hx
 have HO0 := z0j h3
 have HO8 := z0j h4
 have HS := z0j hs
 have HB := z0j hb
 have HE := z0j he
 have hpw := zb5 h4
 have hpw1 := zP x.o
 have HW : Hid (wrap64 (x.p + pw x.o) = x.p + pw x.o) := z0j (by unfold wrap64; omega)
 obtain ⟨xh, xp, xo, xwa, xws, xwc, xla, xls, xlc⟩ := x
 simp only at W9 HW HO0 HO8
 simp only [obV]
 clear hs hb he h1 h2 h3 h4 hpw hpw1
 go_enter Tryz.func211, Tryz.ntmps211
 go_wp2_with (first | go_skip | ((first | ((refine zh _ _ rfl ?_); refine lB hp rfl (za rfl) rfl ?_; clear hp; intro b w1 hp) | ((refine zf _ _ rfl ?_); first | refine lO hp rfl (za rfl) zkJ aa5 ?_ | refine lA hp rfl (za rfl) (by with_reducible first | exact zv | exact zt) aa5 ?_) | ((refine zd _ _ _ rfl ?_); (first | refine sO hp rfl (za rfl) zkJ aa5 ?_ | refine sA hp rfl (za rfl) (za rfl) (by with_reducible first | exact zv | exact zt) aa5 ?_ | refine sG hp rfl (za rfl) (za rfl) (by with_reducible first | exact zv | exact zt) aa5 ?_); clear hp; intro w1 hp; simp only [spl, z0a, z0b] at hp) | ((refine zi _ _ _ rfl ?_); refine lS hp rfl (by intro w; go_simp; rfl) ?_; clear hp; intro b w1 hp; simp only [z0g, z0h, Nat.reduceAdd] at hp)); simp only [zc, zb, z0b, z0a]))
 refine zk _ (zE.all hp.drew) [] [(0, true), (1, true), (2, true), (3, true), (4, true), (5, true), (6, true), (7, true), (8, true), (9, true), (10, true), (11, true), (12, true), (13, true), (14, false), (15, true), (16, true), (17, true), (18, true), (19, true), (20, true), (21, true), (22, true), (23, true), (24, true), (25, false)] (by kernel_rfl) (by kernel_rfl) rfl (by kernel_rfl) (fun _ _ d _ _ h => by cases d <;> exact h) ?_
 replace hp := hp.drew
 rcases W9.out with ⟨d1, r⟩ | ⟨d1, d2, r⟩ | ⟨d1, d2, r⟩
 all_goals have R := z0j r
 all_goals clear r W9
 all_goals
  repeat' (with_reducible refine zG ?_); first | (with_reducible refine zw ?_) | ((with_reducible refine zR ?_); refine zy rfl ?_; (first | ((with_reducible refine za0 _ _ rfl ?_); refine tS (by first | exact Zc rfl rfl rfl rfl | exact Zm rfl rfl rfl rfl) ?_) | ((with_reducible refine Zy _ rfl ?_); refine tM rfl ?_) | ((with_reducible refine Zt _ _ rfl ?_); first | refine tO rfl (za rfl) zq aa5 ?_ | refine tRO rfl (za rfl) zq (HS.out 0 _ rfl) ?_ | refine tRO rfl (za rfl) zq (HB.out 0 _ rfl) ?_ | refine tRO rfl (za rfl) zq (HE.out 0 _ rfl) ?_) | refine tG (fun w _ => (by go_simp; try rfl)) ?_); try simp only [zc, zb, zm, zj, z0b, z0a, z0d, z0c, zn, HW.out]) | (refine zQ rfl (fun K hK => ?_); go_wp2_with (first | (go_at_call 141; (with_reducible refine (zab _ (by first | exact HO0.out | omega) (by first | exact HO8.out | omega) _).mono ?_); rintro e w' ⟨rfl, rfl⟩) | go_skip); (refine hK.out _ _ (.inr (zdp hp)) ?_); clear hK K; try simp only [zc, zb, zm, zj, z0b, z0a, z0d, z0c, zn, HW.out])
 all_goals (go_wp2_with fail; go_ret; exact ⟨zL (by rw [R.out]; try rfl), hp.below⟩)
def znx (sz p en : Int) (x : Ob) : Bool := decide (x.p ≤ sz) && (decide (p < x.p + pw x.o) && decide (x.p < en))
theorem zkE {l : List Ob} {f : Ob → Bool} {j : Nat} {x : Ob} (h : l[j]? = some x) : (l.take (j + 1)).any f = ((l.take j).any f || f x) := by
 rw [List.take_add_one, h]; simp [List.any_append]
theorem zml {l : List Ob} {f : Ob → Bool} {j : Nat} {x : Ob} (h : l[j]? = some x) (hw : f x = true) : l.any f = true := List.any_eq_true.2 ⟨x, List.mem_of_getElem? h, hw⟩
def zkA (w : World) (g : Bool) (e : Ending) (w' : World) : Prop := ∃ i : Int, e = .returned (.int .i64 i) ∧ decide (0 ≤ i) = g ∧ Below w.heap.size w w'
theorem zk5 (sz p en : Int) (l : List Ob) (a : Option Addr) (c : Nat) (hl : l.length ≤ 600) (hob : ∀ x ∈ l, zdi x) (bs bb be : Nat) (w : World) (ha : zr w a (l.flatMap obV)) (hs : zam w bs (.int .i64 sz)) (hb : zam w bb (.int .i64 p)) (he : zam w be (.int .i64 en)) :
  Calls Tryz.prog 236 #[.slice a l.length c, .func (.func 211) #[] #[.pointer (some ⟨bs, 0, none⟩), .pointer (some ⟨bb, 0, none⟩), .pointer (some ⟨be, 0, none⟩)]] w (zkA w (l.any (znx sz p en))) := by
 have hp := Hp.start w
 have HA := z0j ha
 have HS := z0j hs
 have HB := z0j hb
 have HE := z0j he
 have HOB := z0j hob
 clear ha hs hb he hob
 go_enter Tryz.func236, Tryz.ntmps236
 go_wp2_with (first | go_skip | ((first | ((refine zh _ _ rfl ?_); refine lB hp rfl (za rfl) rfl ?_; clear hp; intro b w1 hp) | ((refine zf _ _ rfl ?_); first | refine lO hp rfl (za rfl) zkJ aa5 ?_ | refine lA hp rfl (za rfl) (by with_reducible first | exact zv | exact zt) aa5 ?_) | ((refine zd _ _ _ rfl ?_); (first | refine sO hp rfl (za rfl) zkJ aa5 ?_ | refine sA hp rfl (za rfl) (za rfl) (by with_reducible first | exact zv | exact zt) aa5 ?_ | refine sG hp rfl (za rfl) (za rfl) (by with_reducible first | exact zv | exact zt) aa5 ?_); clear hp; intro w1 hp; simp only [spl, z0a, z0b] at hp) | ((refine zi _ _ _ rfl ?_); refine lS hp rfl (by intro w; go_simp; rfl) ?_; clear hp; intro b w1 hp; simp only [z0g, z0h, Nat.reduceAdd] at hp)); simp only [zc, zb, z0b, z0a]))
 go_loopg [8] l.length (fun k i wr => ∃ j : Nat, k + j = l.length ∧ i = .int .i64 j ∧ Hid ((l.take j).any (znx sz p en) = false) ∧ Hp w.heap.size w wr [])
 case atStart => exact ⟨0, by omega, rfl, z0j (by simp), hp⟩
 case round =>
  clear hp
  obtain ⟨j, hkj, rfl, HG, hp⟩ := hrel
  by_cases hlt : j < l.length
  ·obtain ⟨bq, off, rfl, hx⟩ := HA.out.elems 5 zbP (by omega) (by omega)
   have hj := List.getElem?_eq_getElem hlt
   replace hx := hx j _ hj
   have hfit := HOB.out _ (List.getElem_mem hlt)
   generalize l[j] = x at hx hj hfit
   have HJ := z0j hj
   have HFIT := z0j hfit
   obtain ⟨r, hr⟩ : ∃ r, znx sz p en x = r := ⟨_, rfl⟩
   have HR := z0j hr
   have HK : Hid (∀ w1, Below w.heap.size w w1 → Calls Tryz.prog 211 #[.agg (obV x).toArray, .pointer (some ⟨bs, 0, none⟩), .pointer (some ⟨bb, 0, none⟩), .pointer (some ⟨be, 0, none⟩)] w1 fun e w' => e = .returned (.bool r) ∧ Below w1.heap.size w1 w') := z0j (fun w1 hw => by
    have h := zlb sz p en x HFIT.out bs bb be w1 (HS.out.below hw) (HB.out.below hw) (HE.out.below hw)
    rw [show (decide (x.p ≤ sz) && (decide (p < x.p + pw x.o) && decide (x.p < en))) = r from HR.out] at h
    exact h)
   obtain ⟨xh, xp, xo, xwa, xws, xwc, xla, xls, xlc⟩ := x
   simp only [obV] at hx HK
   have HX := z0j hx
   clear hx hj hfit hr
   have e1 : (0 : Int) ≤ (j : Int) := by omega
   have e2 : (j : Int) < (l.length : Int) := by omega
   cases r with
   | true =>
    go_wp2_with (first | (go_at_call 211; (with_reducible refine (HK.out _ hp.below).mono ?_); rintro e w1 ⟨rfl, hb⟩; replace hp := hp.call hb; clear hb) | go_skip | ((first | ((refine zh _ _ rfl ?_); refine lB hp rfl (za rfl) rfl ?_; clear hp; intro b w1 hp) | ((refine zf _ _ rfl ?_); first | refine lO hp rfl (za rfl) (by with_reducible first | exact zq | exact zA) aa5 ?_ | refine lA hp rfl (za rfl) zv aa5 ?_ | refine lR hp rfl (za rfl) zv HX.out ?_) | ((refine zd _ _ _ rfl ?_); (first | refine sO hp rfl (za rfl) (by with_reducible first | exact zq | exact zA) aa5 ?_ | refine sA hp rfl (za rfl) (za rfl) zv aa5 ?_ | refine sG hp rfl (za rfl) (za rfl) zv aa5 ?_); clear hp; intro w1 hp; simp only [spl, z0a, z0b] at hp)); simp only [zc, zb, z0b, z0a]))
    go_ret
    exact ⟨j, rfl, by rw [zml HJ.out HR.out]; simp, hp.below⟩
   | false =>
    go_wp2_with (first | (go_at_call 211; (with_reducible refine (HK.out _ hp.below).mono ?_); rintro e w1 ⟨rfl, hb⟩; replace hp := hp.call hb; clear hb) | go_skip | ((first | ((refine zh _ _ rfl ?_); refine lB hp rfl (za rfl) rfl ?_; clear hp; intro b w1 hp) | ((refine zf _ _ rfl ?_); first | refine lO hp rfl (za rfl) (by with_reducible first | exact zq | exact zA) aa5 ?_ | refine lA hp rfl (za rfl) zv aa5 ?_ | refine lR hp rfl (za rfl) zv HX.out ?_) | ((refine zd _ _ _ rfl ?_); (first | refine sO hp rfl (za rfl) (by with_reducible first | exact zq | exact zA) aa5 ?_ | refine sA hp rfl (za rfl) (za rfl) zv aa5 ?_ | refine sG hp rfl (za rfl) (za rfl) zv aa5 ?_); clear hp; intro w1 hp; simp only [spl, z0a, z0b] at hp)); simp only [zc, zb, z0b, z0a]))
    go_roundg (gk - 1)
    case measure => omega
    case rel => exact ⟨j + 1, by omega, by go_num, z0j (by rw [zkE HJ.out, HG.out, HR.out]; rfl), hp⟩
  ·have e2 : decide ((j : Int) < (l.length : Int)) = false := by simp; omega
   go_wp2_with fail
   go_ret
   exact ⟨-1, rfl, by have := HG.out; rw [List.take_of_length_le (by omega)] at this; rw [this]; decide, hp.below⟩
theorem zc4 (sz p en : Int) (l : List Ob) (a : Option Addr) (c : Nat) (hl : l.length ≤ 600) (hob : ∀ x ∈ l, zdi x) (bs bb be : Nat) (w : World) (ha : zr w a (l.flatMap obV)) (hs : zam w bs (.int .i64 sz)) (hb : zam w bb (.int .i64 p)) (he : zam w be (.int .i64 en)) :
  Calls Tryz.prog 210 #[.slice a l.length c, .func (.func 211) #[] #[.pointer (some ⟨bs, 0, none⟩), .pointer (some ⟨bb, 0, none⟩), .pointer (some ⟨be, 0, none⟩)]] w fun e w' => e = .returned (.bool (l.any (znx sz p en))) ∧ Below w.heap.size w w' := by
 have hp := Hp.start w
 have K := z0j (zk5 sz p en l a c hl hob bs bb be w ha hs hb he)
 clear ha hs hb he
 go_enter Tryz.func210, Tryz.ntmps210
 go_wp2_with (go_at_call 236; refine K.out.mono ?_; rintro e w1 ⟨i, rfl, hi, hb⟩; replace hp := hp.call hb; have HI := z0j hi; clear hi hb)
 go_ret
 exact ⟨zL HI.out, hp.below⟩
def lfB (sz : Int) (os : List Ob) (b : Bl) : List Bl := lfN sz os b.o.toNat b.p
def wtB (b : Bl) : Nat := 2 * 2 ^ b.o.toNat - 1
def wtL (l : List Bl) : Nat := (l.map wtB).sum
theorem zcP (b : Bl) (l : List Bl) : wtL (b :: l) = wtB b + wtL l := by simp [wtL]
theorem zku (b : Bl) : 1 ≤ wtB b := by unfold wtB; have := Nat.two_pow_pos b.o.toNat; omega
theorem zm3 (l : List Bl) : l.length ≤ wtL l := by
 induction l with
 | nil => simp [wtL]
 | cons b l ih => rw [zcP, List.length_cons]; have := zku b; omega
def zeY (b : Bl) : Prop := 0 ≤ b.o ∧ b.o ≤ 8 ∧ 0 ≤ b.p ∧ b.p + pw b.o ≤ 256
theorem zoe {sz : Int} {os : List Ob} {b : Bl} (h0 : 0 ≤ b.o) (h : zjT sz os b = false) : lfB sz os b = [b] := by
 obtain ⟨p, o⟩ := b
 unfold lfB
 simp only at h0 ⊢
 cases hk : o.toNat with
 | zero =>
  have : o = 0 := by omega
  subst this
  unfold lfN; rw [if_neg (by rw [h]; decide)]
 | succ k =>
  have : o = ((k + 1 : Nat) : Int) := by omega
  subst this
  unfold lfN; rw [if_neg (by rw [h]; decide)]
theorem zmD {sz : Int} {os : List Ob} {b : Bl} (h0 : b.o = 0) (h : zjT sz os b = true) : lfB sz os b = [] := by
 obtain ⟨p, o⟩ := b
 simp only at h0
 subst h0
 show lfN sz os 0 p = []
 unfold lfN; rw [if_pos h]
theorem zld {sz : Int} {os : List Ob} {b : Bl} (h0 : 0 < b.o) (h : zjT sz os b = true) : lfB sz os b = lfB sz os ⟨b.p, b.o - 1⟩ ++ lfB sz os ⟨b.p + pw (b.o - 1), b.o - 1⟩ := by
 obtain ⟨p, o⟩ := b
 simp only at h0 h ⊢
 obtain ⟨k, rfl⟩ : ∃ k : Nat, o = ((k + 1 : Nat) : Int) := ⟨o.toNat - 1, by omega⟩
 unfold lfB
 simp only
 have e1 : ((k + 1 : Nat) : Int).toNat = k + 1 := by omega
 have e2 : (((k + 1 : Nat) : Int) - 1) = (k : Int) := by omega
 rw [e1, e2, Int.toNat_natCast]
 conv => lhs; unfold lfN
 rw [if_pos h]
theorem zlL {b : Bl} (h0 : 0 < b.o) (q : Int) : wtB ⟨b.p, b.o - 1⟩ + wtB ⟨q, b.o - 1⟩ + 1 = wtB b := by
 obtain ⟨p, o⟩ := b
 unfold wtB
 simp only at h0 ⊢
 have e : o.toNat = (o - 1).toNat + 1 := by omega
 rw [e, Nat.pow_succ]
 have := Nat.two_pow_pos (o - 1).toNat
 omega
theorem zD.head {e : TypeId} {c n : Nat} {v : Value} {xs ys : List Value} {R : List Blk} (h : zD e c v (n + 1) (xs ++ ys) R) (hx : xs.length = c) (h0 : 0 < c) : ∃ g off cap pre, v = .slice (some ⟨g, off, none⟩) (n + 1) cap ∧ n + 1 ≤ cap ∧ cap ≤ maxLen ∧ R = [⟨g, pre ++ (xs ++ ys), e, off + cap * c⟩] ∧ pre.length = off ∧
  (cap ≠ 1 → zD e c (.slice (some ⟨g, off + c, none⟩) n (cap - 1)) n ys R) ∧ (cap = 1 → n = 0 ∧ ys = []) := by
 obtain ⟨hl, ⟨h0, _⟩ | ⟨g, off, cap, pre, hv, h1, h2, h3, hr⟩⟩ := h
 ·omega
 ·rw [List.length_append, hx, Nat.succ_mul] at hl
  refine ⟨g, off, cap, pre, hv, h1, h2, hr, h3, fun hc => ⟨by omega, .inr ⟨g, off + c, cap - 1, pre ++ xs, rfl, by omega, by omega, by rw [List.length_append, h3, hx], ?_⟩⟩, fun hc => ?_⟩
  ·rw [hr, List.append_assoc]
   congr 2
   have : cap * c = (cap - 1) * c + c := by
    obtain ⟨m, rfl⟩ : ∃ m, cap = m + 1 := ⟨cap - 1, by omega⟩
    rw [Nat.succ_mul, Nat.add_sub_cancel]
   omega
  ·have hn : n = 0 := by omega
   subst hn
   exact ⟨rfl, List.eq_nil_of_length_eq_zero (by simpa using hl)⟩
def zkB (B : Nat) (w0 : World) (l : List Bl) (L : List Blk) (e : Ending) (w' : World) : Prop := ∃ v R, e = .returned v ∧ zJ 124 2 v l.length (l.flatMap blV) R ∧ Hp B w0 w' (R ++ L)
end Go.Proofs.YtaafajaadfgaoaaGreat
