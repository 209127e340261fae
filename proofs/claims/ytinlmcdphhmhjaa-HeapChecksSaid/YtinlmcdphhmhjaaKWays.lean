/- What heap.Check asks, step by step: the plain law. No program in sight. -/
import Derived.Test.YtinlmcdphhmhjaaKSpec
import Derived.Test.YtinlmcdphhmhjaaKNeed
import Derived.Test.YtinlmcdphhmhjaaBCheck
set_option linter.unusedSimpArgs false
set_option linter.unusedVariables false
namespace Go.Proofs.Ytinlmcdphhmhjaa
open Go.RowKit
theorem errI_true : errI true = 0 := rfl
theorem errI_false : errI false = 1 := rfl
theorem rightB_good {od : Int} {fs : List Bl} (h : rightB od fs = true) : 3 ≤ od ∧ od ≤ 8 ∧ Good od fs := by
  unfold rightB regionB at h
  simp only [Bool.and_eq_true, decide_eq_true_eq] at h
  exact ⟨h.1.1, h.1.2, h.2⟩
theorem hright_no {x : Hv} (h : ¬ HRight x) : hrightB x = false := by simp [hrightB, h]
theorem hright_yes {x : Hv} (h : HRight x) : hrightB x = true := by simp [hrightB, h]
theorem chk1_ways (x : Hv) :
    (errI (rightB x.od x.fs) = 1 ∧ hrightB x = false) ∨ (errI (rightB x.od x.fs) = 0 ∧ inB x.nx 1 1000001 = false ∧ hrightB x = false) ∨
    (errI (rightB x.od x.fs) = 0 ∧ inB x.nx 1 1000001 = true ∧ decide ((256 : Int) < (x.os.length : Int)) = true ∧ hrightB x = false) ∨
    (errI (rightB x.od x.fs) = 0 ∧ inB x.nx 1 1000001 = true ∧ decide ((256 : Int) < (x.os.length : Int)) = false ∧ rightB x.od x.fs = true ∧ 1 ≤ x.nx ∧ x.nx ≤ 1000001 ∧ x.os.length ≤ 256) := by
  cases h1 : rightB x.od x.fs with
  | false => left; exact ⟨rfl, hright_no fun h => by rw [h.free] at h1; cases h1⟩
  | true =>
    right
    cases h2 : inB x.nx 1 1000001 with
    | false => left; exact ⟨rfl, rfl, hright_no fun h => by have a := h.lo; have b := h.hi; simp [inB] at h2; omega⟩
    | true =>
      right
      by_cases h3 : (256 : Int) < (x.os.length : Int)
      · left; exact ⟨rfl, rfl, decide_eq_true h3, hright_no fun h => by have := h.len; omega⟩
      · right
        simp [inB] at h2
        exact ⟨rfl, rfl, decide_eq_false h3, rfl, h2.1, h2.2, by omega⟩

def RiseTo (nx : Int) (os : List Ob) (j : Nat) (la : Int) : Prop :=
  (j = 0 → la = 0) ∧ (0 < j → ∃ o, os[j - 1]? = some o ∧ o.h = la) ∧ ∀ (i : Nat) o, i < j → os[i]? = some o → 1 ≤ o.h ∧ o.h < nx ∧ o.h ≤ la ∧ ∀ (k : Nat) q, k < i → os[k]? = some q → q.h < o.h
theorem RiseTo.start (nx : Int) (os : List Ob) : RiseTo nx os 0 0 := ⟨fun _ => rfl, fun h => by omega, fun i o h => by omega⟩
theorem RiseTo.fail {nx : Int} {os : List Ob} {j : Nat} {la : Int} {x : Ob} (h : RiseTo nx os j la) (hx : os[j]? = some x) (hb : x.h ≤ la ∨ nx ≤ x.h) : ¬ HRise nx os := by
  intro hr
  obtain ⟨r1, r2, r3⟩ := hr j x hx
  rcases hb with hb | hb
  · rcases Nat.eq_zero_or_pos j with h0 | h0
    · have := h.1 h0; omega
    · obtain ⟨o, ho, he⟩ := h.2.1 h0
      have := r3 (j - 1) o (by omega) ho
      omega
  · omega
theorem RiseTo.step {nx : Int} {os : List Ob} {j : Nat} {la : Int} {x : Ob} (h : RiseTo nx os j la) (hx : os[j]? = some x) (h1 : ¬ x.h ≤ la) (h2 : ¬ nx ≤ x.h) : RiseTo nx os (j + 1) x.h := by
  have hla : 0 ≤ la := by
    rcases Nat.eq_zero_or_pos j with h0 | h0
    · have := h.1 h0; omega
    · obtain ⟨o, ho, he⟩ := h.2.1 h0
      have := h.2.2 (j - 1) o (by omega) ho; omega
  refine ⟨fun h => by omega, fun _ => ⟨x, by simpa using hx, rfl⟩, fun i o hi ho => ?_⟩
  by_cases hij : i = j
  · subst hij
    rw [hx] at ho; injection ho with ho; subst ho
    refine ⟨by omega, by omega, by omega, fun k q hk hq => ?_⟩
    have := (h.2.2 k q hk hq).2.2.1; omega
  · obtain ⟨a, b, c, d⟩ := h.2.2 i o (by omega) ho
    exact ⟨a, b, by omega, d⟩
theorem RiseTo.done {nx : Int} {os : List Ob} {j : Nat} {la : Int} (h : RiseTo nx os j la) (hj : os.length = j) : HRise nx os := fun i o ho => by
  have := (List.getElem?_eq_some_iff.1 ho).1
  obtain ⟨a, b, _, d⟩ := h.2.2 i o (by omega) ho
  exact ⟨a, b, d⟩

theorem chk2_ways {od : Int} (h3 : 3 ≤ od) (h8 : od ≤ 8) {os : List Ob} {q : Nat} {x : Ob} (hx : os[q]? = some x) (hn : HNeed' od (os.take q)) {r : Bool} (hr : ¬ HNeed od os → r = false) :
    (∃ nn : Int, needI x.ws.length x.ls.length = nn ∧ (nn == x.o) = false ∧ (nn != x.o) = true ∧ r = false) ∨
    (needI x.ws.length x.ls.length = x.o ∧ inB x.o 0 od = false ∧ r = false) ∨
    (needI x.ws.length x.ls.length = x.o ∧ inB x.o 0 od = true ∧ 0 ≤ od ∧ od ≤ 8 ∧ inB x.p 0 (pw od) = false ∧ r = false) ∨
    (needI x.ws.length x.ls.length = x.o ∧ inB x.o 0 od = true ∧ 0 ≤ od ∧ od ≤ 8 ∧ inB x.p 0 (pw od) = true ∧ 0 ≤ x.o ∧ x.o ≤ 8 ∧ x.p.tmod (pw x.o) = x.p % pw x.o ∧ pw x.o ≠ 0 ∧ (x.p % pw x.o == 0) = false ∧ (x.p % pw x.o != 0) = true ∧ r = false) ∨
    (needI x.ws.length x.ls.length = x.o ∧ inB x.o 0 od = true ∧ 0 ≤ od ∧ od ≤ 8 ∧ inB x.p 0 (pw od) = true ∧ 0 ≤ x.o ∧ x.o ≤ 8 ∧ x.p.tmod (pw x.o) = x.p % pw x.o ∧ pw x.o ≠ 0 ∧ (x.p % pw x.o == 0) = true ∧ (x.p % pw x.o != 0) = false ∧ HNeed' od (os.take (q + 1))) := by
  have hm : x ∈ os := List.mem_of_getElem? hx
  by_cases h1 : needI x.ws.length x.ls.length = x.o
  · right
    cases h2 : inB x.o 0 od with
    | false =>
      left
      refine ⟨h1, rfl, hr fun h => ?_⟩
      have := (h x hm).2
      obtain ⟨a, b, _⟩ := this
      simp only [obBl] at a b
      simp [inB] at h2; omega
    | true =>
      right
      have h2' := h2
      simp [inB] at h2'
      cases h4 : inB x.p 0 (pw od) with
      | false =>
        left
        refine ⟨h1, rfl, by omega, h8, rfl, hr fun h => ?_⟩
        obtain ⟨_, _, a, b, _⟩ := (h x hm).2
        simp only [obBl] at a b
        have := pw_pos x.o
        simp [inB] at h4; omega
      | true =>
        right
        have h4' := h4
        simp [inB] at h4'
        have hp := pw_pos x.o
        have ht := Int.tmod_eq_emod_of_nonneg (b := pw x.o) h4'.1
        by_cases h5 : x.p % pw x.o = 0
        · right
          refine ⟨h1, rfl, by omega, h8, rfl, h2'.1, by omega, ht, by omega, by simp [h5], by simp [h5], fun o ho => ?_⟩
          rw [List.take_add_one, hx] at ho
          rcases List.mem_append.1 ho with ho | ho
          · exact hn o ho
          · simp at ho
            subst ho
            exact ⟨h1, h2'.1, h2'.2, h4'.1, h4'.2, h5⟩
        · left
          refine ⟨h1, rfl, by omega, h8, rfl, h2'.1, by omega, ht, by omega, by simp [h5], by simp [h5], hr fun h => ?_⟩
          obtain ⟨_, _, _, _, a⟩ := (h x hm).2
          simp only [obBl] at a
          exact h5 a
  · left
    exact ⟨_, rfl, by simp [h1], by simp [h1], hr fun h => h1 (h x hm).1⟩

/-- All that a sorted row of blocks is, at its place. -/
def TileAt (E : Int) (s : List Bl) (j : Nat) (en : Int) : Prop := 0 ≤ en ∧ en ≤ 512 ∧ (Tl E 0 s ↔ Tl E en (s.drop j))
def InR (s : List Bl) : Prop := ∀ b ∈ s, 0 ≤ b.p ∧ b.p ≤ 256 ∧ 0 ≤ b.o ∧ b.o ≤ 8
theorem TileAt.start (E : Int) (s : List Bl) : TileAt E s 0 0 := ⟨by omega, by omega, by rw [List.drop_zero]⟩
theorem TileAt.fail {E : Int} {s : List Bl} {j : Nat} {en : Int} {b : Bl} (h : TileAt E s j en) (hb : s[j]? = some b) (hne : b.p ≠ en) : ¬ Tl E 0 s := by
  rw [h.2.2, List.drop_eq_getElem_cons (List.getElem?_eq_some_iff.1 hb).1, (List.getElem?_eq_some_iff.1 hb).2]
  exact fun h => hne h.1
theorem TileAt.step {E : Int} {s : List Bl} {j : Nat} {b : Bl} (hs : InR s) (h : TileAt E s j b.p) (hb : s[j]? = some b) : TileAt E s (j + 1) (b.p + pw b.o) ∧ wrap64 (b.p + pw b.o) = b.p + pw b.o := by
  obtain ⟨h1, h2, h3, h4⟩ := hs b (List.mem_of_getElem? hb)
  have h5 := pw_le h4
  have h6 := pw_pos b.o
  refine ⟨⟨by omega, by omega, ?_⟩, IntWalk.wrap64_in _ ⟨by omega, by omega⟩⟩
  rw [h.2.2, List.drop_eq_getElem_cons (List.getElem?_eq_some_iff.1 hb).1, (List.getElem?_eq_some_iff.1 hb).2]
  exact ⟨fun h => h.2, fun h => ⟨rfl, h⟩⟩
theorem TileAt.done {E : Int} {s : List Bl} {j : Nat} {en : Int} (h : TileAt E s j en) (hj : s.length = j) : Tl E 0 s ↔ en = E := by
  rw [h.2.2, List.drop_eq_nil_of_le (by omega)]
  exact Iff.rfl
theorem inR_of {od : Int} {os : List Ob} {fs s : List Bl} (h8 : od ≤ 8) (hf : Good od fs) (hs : s.Perm (fs ++ os.map obBl)) (hn : HNeed' od os) : InR s := by
  intro b hb
  have hpw := pw_le h8
  rcases List.mem_append.1 (hs.mem_iff.1 hb) with hb | hb
  · obtain ⟨i, hi, rfl⟩ := List.getElem_of_mem hb
    obtain ⟨a, b, c, d, _⟩ := (hf i _ (List.getElem?_eq_getElem hi)).1
    have := pw_pos fs[i].o
    exact ⟨c, by omega, a, by omega⟩
  · obtain ⟨o, ho, rfl⟩ := List.mem_map.1 hb
    obtain ⟨_, a, b, c, d, _⟩ := hn o ho
    simp only [obBl]
    exact ⟨c, by omega, a, by omega⟩
def allLinks (os : List Ob) : List Int := os.flatMap (·.ls)
theorem allLinks_snoc (os : List Ob) (x : Ob) : allLinks (os ++ [x]) = allLinks os ++ x.ls := by simp [allLinks]
theorem need_len {w l : Nat} {o : Int} (h : needI w l = o) (h0 : 0 ≤ o) : l ≤ 16 := by
  unfold needI at h
  split at h
  · omega
  · omega
theorem obs_map_snoc (fs : List Bl) (os : List Ob) (x : Ob) : (fs ++ (os ++ [x]).map obBl).flatMap blV = (fs ++ os.map obBl).flatMap blV ++ [.int .i64 x.p, .int .i64 x.o] := by
  rw [List.map_append, ← List.append_assoc, List.flatMap_append]; rfl
theorem hlinks_iff {os : List Ob} : HLinks os ↔ ∀ t ∈ allLinks os, leadsP os t := by
  unfold HLinks allLinks
  constructor
  · intro h t ht
    obtain ⟨o, ho, ht⟩ := List.mem_flatMap.1 ht
    exact h o ho t ht
  · intro h o ho t ht
    exact h t (List.mem_flatMap.2 ⟨o, ho, ht⟩)
/-- All is seen but what leads where. -/
theorem right_of {x : Hv} {s : List Bl} (h1 : rightB x.od x.fs = true) (h2 : 1 ≤ x.nx) (h3 : x.nx ≤ 1000001) (h4 : x.os.length ≤ 256) (h5 : HRise x.nx x.os) (h6 : HNeed' x.od x.os)
    (hs : s.Perm (x.fs ++ x.os.map obBl)) (hso : s.Pairwise fun a b => a.p ≤ b.p) : HRight x ↔ Tl (pw x.od) 0 s ∧ (∀ t ∈ allLinks x.os, leadsP x.os t) ∧ ∀ t ∈ tops x, leadsP x.os t := by
  obtain ⟨_, _, hg⟩ := rightB_good h1
  rw [tile_iff hg hs hso h6]
  constructor
  · intro h
    exact ⟨⟨h.need, h.apart, h.words⟩, hlinks_iff.1 h.links, h.tops⟩
  · rintro ⟨⟨a, b, c⟩, d, e⟩
    exact ⟨h1, h2, h3, h4, h5, a, b, hlinks_iff.2 d, e, c⟩
end Go.Proofs.Ytinlmcdphhmhjaa
