/- Parts of the proof. -/
import Derived.Test.YtcjbepaclbhjaaaGreatKe1
import Derived.Test.YtcjbepaclbhjaaaGreatKe9
import Derived.Test.YtcjbepaclbhjaaaGreatKe3
import Derived.Test.YtcjbepaclbhjaaaGreatKe16
open List renaming set_cons_zero → zSet, set_cons_succ → sSet
/- What objects leave of a region: the plain law. No program in sight. -/
set_option linter.unusedSimpArgs false
set_option linter.unusedVariables false
namespace Go.Proofs.YtcjbepaclbhjaaaGreat
def metO (sz : Int) (b : Bl) (x : Ob) : Bool := decide (x.p ≤ sz) && (decide (b.p < x.p + pw x.o) && decide (x.p < b.p + pw b.o))
def metB (sz : Int) (os : List Ob) (b : Bl) : Bool := os.any (metO sz b)
def lfN (sz : Int) (os : List Ob) : Nat → Int → List Bl
  | 0, p => if metB sz os ⟨p, 0⟩ = true then [] else [⟨p, 0⟩]
  | k + 1, p => if metB sz os ⟨p, ((k + 1 : Nat) : Int)⟩ = true then lfN sz os k p ++ lfN sz os k (p + pw k) else [⟨p, ((k + 1 : Nat) : Int)⟩]
theorem metB_iff {sz : Int} {os : List Ob} {b : Bl} : metB sz os b = true ↔ ∃ x ∈ os, x.p ≤ sz ∧ b.p < x.p + pw x.o ∧ x.p < b.p + pw b.o := by
  unfold metB metO
  rw [List.any_eq_true]
  simp only [Bool.and_eq_true, decide_eq_true_eq]
def hasW (os : List Ob) (w : Int) : Prop := ∃ x ∈ os, InW (obBl x) w
theorem met_word {sz : Int} {os : List Ob} {b : Bl} (hb : b.p + pw b.o ≤ sz) : metB sz os b = true ↔ ∃ w, InW b w ∧ hasW os w := by
  rw [metB_iff]
  constructor
  · rintro ⟨x, hx, h1, h2, h3⟩
    have p1 := pw_pos x.o
    have p2 := pw_pos b.o
    by_cases h : x.p ≤ b.p
    · exact ⟨b.p, ⟨Int.le_refl _, by omega⟩, x, hx, by simp only [obBl]; exact h, by simp only [obBl]; omega⟩
    · exact ⟨x.p, ⟨by omega, by omega⟩, x, hx, by simp only [obBl]; omega, by simp only [obBl]; omega⟩
  · rintro ⟨w, ⟨h1, h2⟩, x, hx, h3, h4⟩
    simp only [obBl] at h3 h4
    exact ⟨x, hx, by omega, by omega, by omega⟩
structure AtK (od : Int) (k : Nat) (p : Int) : Prop where
  ko : (k : Int) ≤ od
  lo : 0 ≤ p
  hi : p + pw k ≤ pw od
  al : p % pw k = 0
theorem AtK.may {od : Int} {k : Nat} {p : Int} (h : AtK od k p) : MayP od ⟨p, k⟩ := ⟨by simp only; omega, h.ko, h.lo, by simp only; have := h.hi; omega, h.al⟩
theorem pwS (k : Nat) : pw ((k + 1 : Nat) : Int) = 2 * pw k := by
  have := pw_succ (o := (k : Int)) (by omega)
  rw [← this]; congr 1
theorem AtK.left {od : Int} {k : Nat} {p : Int} (h : AtK od (k + 1) p) : AtK od k p := by
  have h1 := pwS k
  have h2 := pw_pos (k : Int)
  have h3 := h.hi
  have h4 := h.al
  rw [h1] at h3 h4
  exact ⟨by have := h.ko; omega, h.lo, by omega, Int.emod_eq_zero_of_dvd (Int.dvd_trans ⟨2, by omega⟩ (Int.dvd_of_emod_eq_zero h4))⟩
theorem AtK.right {od : Int} {k : Nat} {p : Int} (h : AtK od (k + 1) p) : AtK od k (p + pw k) := by
  have h0 := h.left
  have h1 := pwS k
  have h2 := pw_pos (k : Int)
  have h3 := h.hi
  rw [h1] at h3
  exact ⟨h0.ko, by have := h.lo; omega, by omega, by rw [Int.add_emod_right]; exact h0.al⟩
theorem lf_facts {od : Int} {os : List Ob} : ∀ (k : Nat) (p : Int), AtK od k p →
    (∀ b ∈ lfN (pw od) os k p, MayP od b ∧ b.o ≤ k ∧ p ≤ b.p ∧ b.p + pw b.o ≤ p + pw k) ∧ Disj (lfN (pw od) os k p) ∧ (∀ w, cov (lfN (pw od) os k p) w ↔ InW ⟨p, k⟩ w ∧ ¬ hasW os w)
  | 0, p, h => by
    have hm := met_word (os := os) (b := ⟨p, 0⟩) (by have := h.hi; simpa using this)
    have p0 : pw 0 = 1 := by decide
    have hin : ∀ w, InW ⟨p, 0⟩ w ↔ w = p := fun w => by
      unfold InW
      simp only [p0]; omega
    unfold lfN
    split
    · rename_i hmt
      obtain ⟨w0, hw0, hh⟩ := hm.1 hmt
      refine ⟨fun b hb => (by cases hb), List.Pairwise.nil, fun w => ⟨fun ⟨x, hx, _⟩ => (by cases hx), fun ⟨h1, h2⟩ => ?_⟩⟩
      have e1 := (hin w0).1 hw0
      have e2 := (hin w).1 h1
      rw [e2, ← e1] at h2
      exact absurd hh h2
    · rename_i hmt
      refine ⟨fun b hb => ?_, List.pairwise_singleton _ _, fun w => ⟨fun ⟨x, hx, hw⟩ => ?_, fun ⟨h1, _⟩ => ⟨_, List.mem_singleton.2 rfl, h1⟩⟩⟩
      · obtain rfl := List.mem_singleton.1 hb
        exact ⟨h.may, by simp, Int.le_refl _, Int.le_refl _⟩
      · obtain rfl := List.mem_singleton.1 hx
        exact ⟨hw, fun hh => hmt (hm.2 ⟨w, hw, hh⟩)⟩
  | k + 1, p, h => by
    have hm := met_word (os := os) (b := ⟨p, ((k + 1 : Nat) : Int)⟩) h.hi
    have h1 := pwS k
    have h2 := pw_pos (k : Int)
    obtain ⟨l1, l2, l3⟩ := lf_facts k p h.left
    obtain ⟨r1, r2, r3⟩ := lf_facts k (p + pw k) h.right
    unfold lfN
    split
    · refine ⟨fun b hb => ?_, ?_, fun w => ?_⟩
      · rcases List.mem_append.1 hb with hb | hb
        · obtain ⟨a1, a2, a3, a4⟩ := l1 b hb
          exact ⟨a1, by omega, a3, by rw [h1]; omega⟩
        · obtain ⟨a1, a2, a3, a4⟩ := r1 b hb
          exact ⟨a1, by omega, by omega, by rw [h1]; omega⟩
      · refine List.pairwise_append.2 ⟨l2, r2, fun a ha b hb => ?_⟩
        have := (l1 a ha).2.2.2
        have := (r1 b hb).2.2.1
        omega
      · have hsplit : cov (lfN (pw od) os k p ++ lfN (pw od) os k (p + pw k)) w ↔ cov (lfN (pw od) os k p) w ∨ cov (lfN (pw od) os k (p + pw k)) w := by
          constructor
          · rintro ⟨x, hx, hw⟩
            rcases List.mem_append.1 hx with hx | hx
            · exact .inl ⟨x, hx, hw⟩
            · exact .inr ⟨x, hx, hw⟩
          · rintro (⟨x, hx, hw⟩ | ⟨x, hx, hw⟩)
            · exact ⟨x, List.mem_append_left _ hx, hw⟩
            · exact ⟨x, List.mem_append_right _ hx, hw⟩
        rw [hsplit, l3, r3]
        unfold InW
        simp only [h1]
        constructor
        · rintro (⟨⟨a, b⟩, c⟩ | ⟨⟨a, b⟩, c⟩)
          · exact ⟨⟨by omega, by omega⟩, c⟩
          · exact ⟨⟨by omega, by omega⟩, c⟩
        · rintro ⟨⟨a, b⟩, c⟩
          by_cases hw : w < p + pw k
          · exact .inl ⟨⟨a, hw⟩, c⟩
          · exact .inr ⟨⟨by omega, by omega⟩, c⟩
    · rename_i hmt
      refine ⟨fun b hb => ?_, List.pairwise_singleton _ _, fun w => ⟨fun ⟨x, hx, hw⟩ => ?_, fun ⟨h1, _⟩ => ⟨_, List.mem_singleton.2 rfl, h1⟩⟩⟩
      · obtain rfl := List.mem_singleton.1 hb
        exact ⟨h.may, Int.le_refl _, Int.le_refl _, Int.le_refl _⟩
      · obtain rfl := List.mem_singleton.1 hx
        exact ⟨hw, fun hh => hmt (hm.2 ⟨w, hw, hh⟩)⟩
theorem lf_cover {od : Int} {os : List Ob} (h8 : od ≤ 8) : ∀ (k : Nat) (p : Int), AtK od k p → ∀ b : Bl, MayP od b → b.o ≤ k → p ≤ b.p → b.p + pw b.o ≤ p + pw k → (∀ w, InW b w → ¬ hasW os w) →
    ∃ z ∈ lfN (pw od) os k p, b.o ≤ z.o ∧ z.p ≤ b.p ∧ b.p + pw b.o ≤ z.p + pw z.o
  | 0, p, h, b, hb, ho, h1, h2, hw => by
    have p0 : pw 0 = 1 := by decide
    have e0 : b.o = 0 := by have := hb.1; omega
    rw [e0] at h2
    simp only [Int.natCast_zero, p0] at h2
    have e1 : b.p = p := by simp at h2; omega
    have hm := met_word (os := os) (b := ⟨p, 0⟩) (by have := h.hi; simpa using this)
    unfold lfN
    rw [if_neg]
    · exact ⟨_, List.mem_singleton.2 rfl, by simp [e0], by simp only; omega, by simp only [e0]; omega⟩
    · intro hmt
      obtain ⟨w, hw1, hw2⟩ := hm.1 hmt
      refine hw w ?_ hw2
      unfold InW at hw1 ⊢
      rw [e0]; simp only at hw1; omega
  | k + 1, p, h, b, hb, ho, h1, h2, hw => by
    have hs := pwS k
    have hpk := pw_pos (k : Int)
    have hpb := pw_pos b.o
    have hm := met_word (os := os) (b := ⟨p, ((k + 1 : Nat) : Int)⟩) h.hi
    unfold lfN
    split
    · rename_i hmt
      by_cases hbo : b.o ≤ k
      · rw [hs] at h2
        by_cases hl : b.p < p + pw k
        · have hn := nested h8 hb h.left.may hbo ⟨hl, by simp only; omega⟩
          obtain ⟨z, hz, g⟩ := lf_cover h8 k p h.left b hb hbo h1 hn.2 hw
          exact ⟨z, List.mem_append_left _ hz, g⟩
        · obtain ⟨z, hz, g⟩ := lf_cover h8 k (p + pw k) h.right b hb hbo (by omega) (by omega) hw
          exact ⟨z, List.mem_append_right _ hz, g⟩
      · exfalso
        have e1 : b.o = ((k + 1 : Nat) : Int) := by omega
        obtain ⟨w, hw1, hw2⟩ := hm.1 hmt
        refine hw w ?_ hw2
        unfold InW at hw1 ⊢
        rw [e1] at h2 ⊢
        simp only at hw1; omega
    · exact ⟨_, List.mem_singleton.2 rfl, ho, by simp only; exact h1, by simp only; exact h2⟩
theorem lf_can {od : Int} {os : List Ob} (h3 : 0 ≤ od) (h8 : od ≤ 8) : Can od (lfN (pw od) os od.toNat 0) := by
  have hn : ((od.toNat : Nat) : Int) = od := by omega
  have h0 : AtK od od.toNat 0 := ⟨by omega, Int.le_refl _, by rw [hn]; omega, by simp⟩
  obtain ⟨f1, f2, f3⟩ := lf_facts (os := os) od.toNat 0 h0
  refine ⟨f2, fun x hx => (f1 x hx).1, fun x hx y hy ho ht => ?_⟩
  have hmy := (f1 y hy).1
  have hmx := (f1 x hx).1
  have hmm := merge_may hmy h8 ho
  have hpy := pw_pos y.o
  have hs := pw_succ (o := y.o) hmy.1
  have hc := twin_cases hmy h8 ho
  rw [ht] at hc
  have hxo : x.o = y.o := by rw [← ht, twin_o]
  have hpar : (mergeB y).p = min y.p x.p := by unfold mergeB; rw [ht]
  have hpo : (mergeB y).o = y.o + 1 := rfl
  have hfree : ∀ w, InW (mergeB y) w → ¬ hasW os w := fun w hw => by
    unfold InW at hw
    rw [hpar, hpo, hs] at hw
    have hcw : cov (lfN (pw od) os od.toNat 0) w := by
      rcases hc with ⟨e, _, _⟩ | ⟨e, _, _⟩
      · have e' : x.p = y.p + pw y.o := by rw [e]
        by_cases g : w < y.p + pw y.o
        · exact ⟨y, hy, by unfold InW; omega⟩
        · exact ⟨x, hx, by unfold InW; rw [hxo]; omega⟩
      · have e' : x.p = y.p - pw y.o := by rw [e]
        by_cases g : w < y.p
        · exact ⟨x, hx, by unfold InW; rw [hxo]; omega⟩
        · exact ⟨y, hy, by unfold InW; omega⟩
    exact ((f3 w).1 hcw).2
  have hpe := hmm.end_le
  obtain ⟨z, hz, g1, g2, g3⟩ := lf_cover h8 od.toNat 0 h0 (mergeB y) hmm (by rw [hn]; exact hmm.2.1) hmm.2.2.1 (by rw [hn]; omega) hfree
  have hzy : y = z := Classical.byContradiction fun hne => f2.apart hy hz hne (by
    rw [hpo, hs] at g3
    rw [hpar] at g2 g3
    refine ⟨?_, ?_⟩
    · rcases hc with ⟨e, _, _⟩ | ⟨e, _, _⟩
      · have e' : x.p = y.p + pw y.o := by rw [e]
        omega
      · have e' : x.p = y.p - pw y.o := by rw [e]
        omega
    · omega)
  rw [← hzy, hpo] at g1
  omega
theorem tl_cover {E : Int} : ∀ {l : List Bl} {a : Int}, Tl E a l → ∀ w, a ≤ w → w < E → cov l w
  | [], a, h, w, h1, h2 => by simp [Tl] at h; omega
  | b :: r, a, h, w, h1, h2 => by
    obtain ⟨rfl, h3⟩ := h
    by_cases g : w < b.p + pw b.o
    · exact ⟨b, by simp, h1, g⟩
    · obtain ⟨x, hx, hw⟩ := tl_cover h3 w (by omega) h2
      exact ⟨x, List.mem_cons_of_mem _ hx, hw⟩
theorem hright_cov {x : Hv} (hx : HRight x) (w : Int) : cov x.fs w ↔ (0 ≤ w ∧ w < pw x.od) ∧ ¬ hasW x.os w := by
  have hf := hx.free
  unfold rightB at hf
  rw [Bool.and_eq_true] at hf
  have hg : Good x.od x.fs := by simpa using hf.2
  obtain ⟨s, hs⟩ : ∃ s, s = (allBl x).mergeSort (fun a b => decide (a.p ≤ b.p)) := ⟨_, rfl⟩
  have hperm : s.Perm (allBl x) := by rw [hs]; exact List.mergeSort_perm _ _
  have hsort : s.Pairwise fun a b => a.p ≤ b.p := by
    rw [hs]
    have := List.pairwise_mergeSort (le := fun a b : Bl => decide (a.p ≤ b.p)) (by intro a b c h1 h2; simp at *; omega) (by intro a b; simp; omega) (allBl x)
    exact this.imp (by intro a b h; simpa using h)
  have ht := (tile_iff hg hperm hsort hx.need.weak).2 ⟨hx.need, hx.apart, hx.words⟩
  constructor
  · rintro ⟨b, hb, hw⟩
    obtain ⟨i, hi, rfl⟩ := List.getElem_of_mem hb
    have hm := (hg i _ (List.getElem?_eq_getElem hi)).1
    refine ⟨⟨by have := hm.2.2.1; have := hw.1; omega, by have := hm.end_le; have := hw.2; omega⟩, ?_⟩
    rintro ⟨o, ho, hwo⟩
    have ha := hx.apart
    unfold Apart allBl at ha
    exact (List.pairwise_append.1 ha).2.2 _ hb _ (List.mem_map_of_mem ho) (meet_of hw hwo)
  · rintro ⟨⟨h1, h2⟩, h3⟩
    obtain ⟨b, hb, hw⟩ := tl_cover ht w h1 h2
    rcases List.mem_append.1 (hperm.mem_iff.1 hb) with hb | hb
    · exact ⟨b, hb, hw⟩
    · obtain ⟨o, ho, rfl⟩ := List.mem_map.1 hb
      exact absurd ⟨o, ho, hw⟩ h3
theorem hright_od {x : Hv} (hx : HRight x) : 3 ≤ x.od ∧ x.od ≤ 8 := by
  have hf := hx.free
  unfold rightB regionB at hf
  rw [Bool.and_eq_true] at hf
  simpa using hf.1
theorem left_free {x : Hv} (hx : HRight x) : lfN (pw x.od) x.os x.od.toNat 0 = x.fs := by
  obtain ⟨h3, h8⟩ := hright_od hx
  have hf := hx.free
  unfold rightB at hf
  rw [Bool.and_eq_true] at hf
  have hg : Good x.od x.fs := by simpa using hf.2
  have hn : ((x.od.toNat : Nat) : Int) = x.od := by omega
  have h0 : AtK x.od x.od.toNat 0 := ⟨by omega, Int.le_refl _, by rw [hn]; omega, by simp⟩
  refine Can.uniq h8 (lf_can (by omega) h8) (hg.can h8) (fun w => ?_)
  rw [(lf_facts (os := x.os) x.od.toNat 0 h0).2.2 w, hright_cov hx w]
  unfold InW
  simp only [hn]
  constructor
  · rintro ⟨⟨a, b⟩, c⟩; exact ⟨⟨a, by omega⟩, c⟩
  · rintro ⟨⟨a, b⟩, c⟩; exact ⟨⟨a, by omega⟩, c⟩
theorem lf_len {od : Int} {os : List Ob} (h3 : 3 ≤ od) (h8 : od ≤ 8) : (lfN (pw od) os od.toNat 0).length ≤ 256 := by
  have := (lf_can (os := os) (by omega) h8).good.len h3
  have := pw_le h8
  omega
end Go.Proofs.YtcjbepaclbhjaaaGreat
/- The walk of left: what objects leave of free blocks. -/
namespace Go.Proofs.YtcjbepaclbhjaaaGreat
open Go.RowKit
def CellAt (w : World) (b : Nat) (v : Value) : Prop := ∀ j u, [v][j]? = some u → w.cell? ⟨b, 0 + j, none⟩ = some u
theorem CellAt.of {w : World} {b : Nat} {v : Value} (h : w.cell? ⟨b, 0, none⟩ = some v) : CellAt w b v := fun j u hj => by
  match j, hj with
  | 0, hj => simp at hj; subst hj; exact h
theorem CellAt.below {w w' : World} {b : Nat} {v : Value} (h : CellAt w b v) (hb : Below w.heap.size w w') : CellAt w' b v := fun j u hj => by
  have := h j u hj
  exact (hb.cell (World.block_lt_of_cell? w _ this)).trans this
theorem met_ways (sz p en : Int) (x : Ob) : (decide (x.p ≤ sz) = false ∧ (decide (x.p ≤ sz) && (decide (p < x.p + pw x.o) && decide (x.p < en))) = false) ∨
    (decide (x.p ≤ sz) = true ∧ decide (p < x.p + pw x.o) = false ∧ (decide (x.p ≤ sz) && (decide (p < x.p + pw x.o) && decide (x.p < en))) = false) ∨
    (decide (x.p ≤ sz) = true ∧ decide (p < x.p + pw x.o) = true ∧ (decide (x.p ≤ sz) && (decide (p < x.p + pw x.o) && decide (x.p < en))) = decide (x.p < en)) := by
  cases decide (x.p ≤ sz) <;> cases decide (p < x.p + pw x.o) <;> simp
def ObFit (x : Ob) : Prop := 0 ≤ x.p ∧ x.p ≤ 2147483647 ∧ 0 ≤ x.o ∧ x.o ≤ 8
set_option maxRecDepth 100000 in
set_option maxHeartbeats 8000000 in
theorem leftc157 (sz p en : Int) (x : Ob) (hx : ObFit x) (bs bb be : Nat) (w : World) (hs : CellAt w bs (.int .i64 sz)) (hb : CellAt w bb (.int .i64 p)) (he : CellAt w be (.int .i64 en)) :
    Calls Tryz.prog 157 #[.agg (obV x).toArray, .pointer (some ⟨bs, 0, none⟩), .pointer (some ⟨bb, 0, none⟩), .pointer (some ⟨be, 0, none⟩)] w fun e w' => e = .returned (.bool (decide (x.p ≤ sz) && (decide (p < x.p + pw x.o) && decide (x.p < en)))) ∧ Below w.heap.size w w' := by
  have hp := Hp.start w
  have W9 := Lib.hid (met_ways sz p en x)
  obtain ⟨h1, h2, h3, h4⟩ := hx
  have HO0 := Lib.hid h3
  have HO8 := Lib.hid h4
  have HS := Lib.hid hs
  have HB := Lib.hid hb
  have HE := Lib.hid he
  have hpw := pw_le h4
  have hpw1 := pw_pos x.o
  have HW : RowKit.Hid (wrap64 (x.p + pw x.o) = x.p + pw x.o) := Lib.hid (by unfold wrap64; omega)
  obtain ⟨xh, xp, xo, xwa, xws, xwc, xla, xls, xlc⟩ := x
  simp only at W9 HW HO0 HO8
  simp only [obV]
  clear hs hb he h1 h2 h3 h4 hpw hpw1
  go_enter Tryz.func157, Tryz.ntmps157
  go_wp2_with (first | go_skip | (first | (refine hA3 ?_; clear hp; intro b w1 hp) | refine hL0 ?_ | (refine hS0 ?_; clear hp; intro w1 hp)))
  refine wp_region_keeps _ (Keeps.all hp.drew) [] [(0, true), (1, true), (2, true), (3, true), (4, true), (5, true), (6, true), (7, true), (8, true), (9, true), (10, true), (11, true), (12, true), (13, true), (14, false), (15, true), (16, true), (17, true), (18, true), (19, true), (20, true), (21, true), (22, true), (23, true), (24, true), (25, false)] (by kernel_rfl) (by kernel_rfl) rfl (by kernel_rfl) (fun _ _ d _ _ h => by cases d <;> exact h) ?_
  replace hp := hp.drew
  rcases W9.out with ⟨d1, r⟩ | ⟨d1, d2, r⟩ | ⟨d1, d2, r⟩
  all_goals have R := Lib.hid r
  all_goals clear r W9
  all_goals
    repeat' (with_reducible refine plan_is ?_); first | (with_reducible refine plan_nil ?_) | refine tk6 ?_ | (refine plan_do rfl (fun K hK => ?_); go_wp2_with (first | (go_at_call 133; (with_reducible refine (words133 _ (by first | exact HO0.out | omega) (by first | exact HO8.out | omega) _).mono ?_); rintro e w' ⟨rfl, rfl⟩) | go_skip); (refine hK.out _ _ (.inr (kall hp)) ?_); clear hK K; try simp only [put_some, put_none, eval_tmp, eval_const, sSet, zSet, List.getD_cons_succ, List.getD_cons_zero, wrap_eq, HW.out])
  all_goals (go_wp2_with fail; go_ret; exact ⟨ret_bool (by rw [R.out]; try rfl), hp.below⟩)
def metE (sz p en : Int) (x : Ob) : Bool := decide (x.p ≤ sz) && (decide (p < x.p + pw x.o) && decide (x.p < en))
theorem any_take {l : List Ob} {f : Ob → Bool} {j : Nat} {x : Ob} (h : l[j]? = some x) : (l.take (j + 1)).any f = ((l.take j).any f || f x) := by
  rw [List.take_add_one, h]; simp [List.any_append]
theorem any_yes {l : List Ob} {f : Ob → Bool} {j : Nat} {x : Ob} (h : l[j]? = some x) (hw : f x = true) : l.any f = true := List.any_eq_true.2 ⟨x, List.mem_of_getElem? h, hw⟩
def IdxPostO (w : World) (g : Bool) (e : Ending) (w' : World) : Prop := ∃ i : Int, e = .returned (.int .i64 i) ∧ decide (0 ≤ i) = g ∧ Below w.heap.size w w'
set_option maxRecDepth 100000 in
set_option maxHeartbeats 8000000 in
theorem index168 (sz p en : Int) (l : List Ob) (a : Option Addr) (c : Nat) (hl : l.length ≤ 600) (hob : ∀ x ∈ l, ObFit x) (bs bb be : Nat) (w : World) (ha : RowIs w a (l.flatMap obV)) (hs : CellAt w bs (.int .i64 sz)) (hb : CellAt w bb (.int .i64 p)) (he : CellAt w be (.int .i64 en)) :
    Calls Tryz.prog 168 #[.slice a l.length c, .func (.func 157) #[] #[.pointer (some ⟨bs, 0, none⟩), .pointer (some ⟨bb, 0, none⟩), .pointer (some ⟨be, 0, none⟩)]] w (IdxPostO w (l.any (metE sz p en))) := by
  have hp := Hp.start w
  have HA := Lib.hid ha
  have HS := Lib.hid hs
  have HB := Lib.hid hb
  have HE := Lib.hid he
  have HOB := Lib.hid hob
  clear ha hs hb he hob
  go_enter Tryz.func168, Tryz.ntmps168
  go_wp2_with (first | go_skip | (first | (refine hA3 ?_; clear hp; intro b w1 hp) | refine hL0 ?_ | (refine hS0 ?_; clear hp; intro w1 hp)))
  go_loopg [8] l.length (fun k i wr => ∃ j : Nat, k + j = l.length ∧ i = .int .i64 j ∧ RowKit.Hid ((l.take j).any (metE sz p en) = false) ∧ Hp w.heap.size w wr [])
  case atStart => exact ⟨0, by omega, rfl, Lib.hid (by simp), hp⟩
  case round =>
    clear hp
    obtain ⟨j, hkj, rfl, HG, hp⟩ := hrel
    by_cases hlt : j < l.length
    · obtain ⟨bq, off, rfl, hx⟩ := HA.out.elems 5 obV_len (by omega) (by omega)
      have hj := List.getElem?_eq_getElem hlt
      replace hx := hx j _ hj
      have hfit := HOB.out _ (List.getElem_mem hlt)
      generalize l[j] = x at hx hj hfit
      have HJ := Lib.hid hj
      have HFIT := Lib.hid hfit
      obtain ⟨r, hr⟩ : ∃ r, metE sz p en x = r := ⟨_, rfl⟩
      have HR := Lib.hid hr
      have HK : RowKit.Hid (∀ w1, Below w.heap.size w w1 → Calls Tryz.prog 157 #[.agg (obV x).toArray, .pointer (some ⟨bs, 0, none⟩), .pointer (some ⟨bb, 0, none⟩), .pointer (some ⟨be, 0, none⟩)] w1 fun e w' => e = .returned (.bool r) ∧ Below w1.heap.size w1 w') := Lib.hid (fun w1 hw => by
        have h := leftc157 sz p en x HFIT.out bs bb be w1 (HS.out.below hw) (HB.out.below hw) (HE.out.below hw)
        rw [show (decide (x.p ≤ sz) && (decide (p < x.p + pw x.o) && decide (x.p < en))) = r from HR.out] at h
        exact h)
      obtain ⟨xh, xp, xo, xwa, xws, xwc, xla, xls, xlc⟩ := x
      simp only [obV] at hx HK
      have HX := Lib.hid hx
      clear hx hj hfit hr
      have e1 : (0 : Int) ≤ (j : Int) := by omega
      have e2 : (j : Int) < (l.length : Int) := by omega
      cases r with
      | true =>
        go_wp2_with (first | (go_at_call 157; (with_reducible refine (HK.out _ hp.below).mono ?_); rintro e w1 ⟨rfl, hb⟩; replace hp := hp.call hb; clear hb) | go_skip | (first | (refine hA2 ?_; clear hp; intro b w1 hp) | refine hL11 ?_ | (refine hS0 ?_; clear hp; intro w1 hp)))
        go_ret
        exact ⟨j, rfl, by rw [any_yes HJ.out HR.out]; simp, hp.below⟩
      | false =>
        go_wp2_with (first | (go_at_call 157; (with_reducible refine (HK.out _ hp.below).mono ?_); rintro e w1 ⟨rfl, hb⟩; replace hp := hp.call hb; clear hb) | go_skip | (first | (refine hA2 ?_; clear hp; intro b w1 hp) | refine hL11 ?_ | (refine hS0 ?_; clear hp; intro w1 hp)))
        go_roundg (gk - 1)
        case measure => omega
        case rel => exact ⟨j + 1, by omega, by go_num, Lib.hid (by rw [any_take HJ.out, HG.out, HR.out]; rfl), hp⟩
    · have e2 : decide ((j : Int) < (l.length : Int)) = false := by simp; omega
      go_wp2_with fail
      go_ret
      exact ⟨-1, rfl, by have := HG.out; rw [List.take_of_length_le (by omega)] at this; rw [this]; decide, hp.below⟩
set_option maxRecDepth 100000 in
set_option maxHeartbeats 4000000 in
theorem contains156 (sz p en : Int) (l : List Ob) (a : Option Addr) (c : Nat) (hl : l.length ≤ 600) (hob : ∀ x ∈ l, ObFit x) (bs bb be : Nat) (w : World) (ha : RowIs w a (l.flatMap obV)) (hs : CellAt w bs (.int .i64 sz)) (hb : CellAt w bb (.int .i64 p)) (he : CellAt w be (.int .i64 en)) :
    Calls Tryz.prog 156 #[.slice a l.length c, .func (.func 157) #[] #[.pointer (some ⟨bs, 0, none⟩), .pointer (some ⟨bb, 0, none⟩), .pointer (some ⟨be, 0, none⟩)]] w fun e w' => e = .returned (.bool (l.any (metE sz p en))) ∧ Below w.heap.size w w' := by
  have hp := Hp.start w
  have K := Lib.hid (index168 sz p en l a c hl hob bs bb be w ha hs hb he)
  clear ha hs hb he
  go_enter Tryz.func156, Tryz.ntmps156
  go_wp2_with (go_at_call 168; refine K.out.mono ?_; rintro e w1 ⟨i, rfl, hi, hb⟩; replace hp := hp.call hb; have HI := Lib.hid hi; clear hi hb)
  go_ret
  exact ⟨ret_bool HI.out, hp.below⟩
def lfB (sz : Int) (os : List Ob) (b : Bl) : List Bl := lfN sz os b.o.toNat b.p
def wtB (b : Bl) : Nat := 2 * 2 ^ b.o.toNat - 1
def wtL (l : List Bl) : Nat := (l.map wtB).sum
theorem wtL_cons (b : Bl) (l : List Bl) : wtL (b :: l) = wtB b + wtL l := by simp [wtL]
theorem wtB_pos (b : Bl) : 1 ≤ wtB b := by unfold wtB; have := Nat.two_pow_pos b.o.toNat; omega
theorem wtL_len (l : List Bl) : l.length ≤ wtL l := by
  induction l with
  | nil => simp [wtL]
  | cons b l ih => rw [wtL_cons, List.length_cons]; have := wtB_pos b; omega
def BlFit (b : Bl) : Prop := 0 ≤ b.o ∧ b.o ≤ 8 ∧ 0 ≤ b.p ∧ b.p + pw b.o ≤ 256
theorem lf_no {sz : Int} {os : List Ob} {b : Bl} (h0 : 0 ≤ b.o) (h : metB sz os b = false) : lfB sz os b = [b] := by
  obtain ⟨p, o⟩ := b
  unfold lfB
  simp only at h0 ⊢
  cases hk : o.toNat with
  | zero =>
    have : o = 0 := by omega
    subst this
    unfold lfN; rw [if_neg (by rw [h]; decide)]
  | succ k =>
    have : o = ((k + 1 : Nat) : Int) := by omega
    subst this
    unfold lfN; rw [if_neg (by rw [h]; decide)]
theorem lf_zero {sz : Int} {os : List Ob} {b : Bl} (h0 : b.o = 0) (h : metB sz os b = true) : lfB sz os b = [] := by
  obtain ⟨p, o⟩ := b
  simp only at h0
  subst h0
  show lfN sz os 0 p = []
  unfold lfN; rw [if_pos h]
theorem lf_split {sz : Int} {os : List Ob} {b : Bl} (h0 : 0 < b.o) (h : metB sz os b = true) : lfB sz os b = lfB sz os ⟨b.p, b.o - 1⟩ ++ lfB sz os ⟨b.p + pw (b.o - 1), b.o - 1⟩ := by
  obtain ⟨p, o⟩ := b
  simp only at h0 h ⊢
  obtain ⟨k, rfl⟩ : ∃ k : Nat, o = ((k + 1 : Nat) : Int) := ⟨o.toNat - 1, by omega⟩
  unfold lfB
  simp only
  have e1 : ((k + 1 : Nat) : Int).toNat = k + 1 := by omega
  have e2 : (((k + 1 : Nat) : Int) - 1) = (k : Int) := by omega
  rw [e1, e2, Int.toNat_natCast]
  conv => lhs; unfold lfN
  rw [if_pos h]
theorem wt_split {b : Bl} (h0 : 0 < b.o) (q : Int) : wtB ⟨b.p, b.o - 1⟩ + wtB ⟨q, b.o - 1⟩ + 1 = wtB b := by
  obtain ⟨p, o⟩ := b
  unfold wtB
  simp only at h0 ⊢
  have e : o.toNat = (o - 1).toNat + 1 := by omega
  rw [e, Nat.pow_succ]
  have := Nat.two_pow_pos (o - 1).toNat
  omega
theorem SubRow.head {e : TypeId} {c n : Nat} {v : Value} {xs ys : List Value} {R : List Blk} (h : SubRow e c v (n + 1) (xs ++ ys) R) (hx : xs.length = c) (h0 : 0 < c) : ∃ g off cap pre, v = .slice (some ⟨g, off, none⟩) (n + 1) cap ∧ n + 1 ≤ cap ∧ cap ≤ maxLen ∧ R = [⟨g, pre ++ (xs ++ ys), e, off + cap * c⟩] ∧ pre.length = off ∧
    (cap ≠ 1 → SubRow e c (.slice (some ⟨g, off + c, none⟩) n (cap - 1)) n ys R) ∧ (cap = 1 → n = 0 ∧ ys = []) := by
  obtain ⟨hl, ⟨h0, _⟩ | ⟨g, off, cap, pre, hv, h1, h2, h3, hr⟩⟩ := h
  · omega
  · rw [List.length_append, hx, Nat.succ_mul] at hl
    refine ⟨g, off, cap, pre, hv, h1, h2, hr, h3, fun hc => ⟨by omega, .inr ⟨g, off + c, cap - 1, pre ++ xs, rfl, by omega, by omega, by rw [List.length_append, h3, hx], ?_⟩⟩, fun hc => ?_⟩
    · rw [hr, List.append_assoc]
      congr 2
      have : cap * c = (cap - 1) * c + c := by
        obtain ⟨m, rfl⟩ : ∃ m, cap = m + 1 := ⟨cap - 1, by omega⟩
        rw [Nat.succ_mul, Nat.add_sub_cancel]
      omega
    · have hn : n = 0 := by omega
      subst hn
      exact ⟨rfl, List.eq_nil_of_length_eq_zero (by simpa using hl)⟩
def LeftPost (B : Nat) (w0 : World) (l : List Bl) (L : List Blk) (e : Ending) (w' : World) : Prop := ∃ v R, e = .returned v ∧ OwnRow 150 2 v l.length (l.flatMap blV) R ∧ Hp B w0 w' (R ++ L)
end Go.Proofs.YtcjbepaclbhjaaaGreat
