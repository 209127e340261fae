import Derived.Test.YtcjbepaclbhjaaaTjQF
import Derived.Test.YtcjbepaclbhjaaaTjQC
/- Equal heaps are right alike; the walk of fresh. -/
set_option linter.unusedSimpArgs false
set_option linter.unusedVariables false
namespace Go.Proofs.Ytcjbepaclbhjaaa
open Go.RowKit
theorem ObsSm.get {l k : List Ob} (h : ObsSm l k) {i : Nat} {a : Ob} (ha : l[i]? = some a) : ∃ b, k[i]? = some b ∧ a.Sm b := by
  obtain ⟨hlt, _⟩ := List.getElem?_eq_some_iff.1 ha
  have hb := List.getElem?_eq_getElem (l := k) (i := i) (by have := h.1; omega)
  exact ⟨_, hb, h.2 i _ _ ha hb⟩
theorem ObsSm.mem {l k : List Ob} (h : ObsSm l k) {a : Ob} (ha : a ∈ l) : ∃ b, b ∈ k ∧ a.Sm b := by
  obtain ⟨i, hi, rfl⟩ := List.getElem_of_mem ha
  obtain ⟨b, hb, hs⟩ := h.get (List.getElem?_eq_getElem hi)
  exact ⟨b, List.mem_of_getElem? hb, hs⟩
theorem ObsSm.blocks {l k : List Ob} (h : ObsSm l k) : l.map obBl = k.map obBl := by
  apply List.ext_getElem?
  intro i
  rw [List.getElem?_map, List.getElem?_map]
  cases ha : l[i]? with
  | none =>
    have : l.length ≤ i := List.getElem?_eq_none_iff.1 ha
    rw [List.getElem?_eq_none (by have := h.1; omega)]
  | some a =>
    obtain ⟨b, hb, _, h2, h3, _⟩ := h.get ha
    rw [hb]; simp [obBl, h2, h3]
theorem leadsP_sm {l k : List Ob} (h : ObsSm l k) {t : Int} (ht : leadsP l t) : leadsP k t := by
  rcases ht with h0 | ⟨o, ho, rfl⟩
  · exact .inl h0
  · obtain ⟨b, hb, h1, _⟩ := h.mem ho
    exact .inr ⟨b, hb, h1.symm⟩
theorem hright_mono {x y : Hv} (h : x.Sm y) (hx : HRight x) : HRight y where
  free := by rw [← h.od, ← h.fs]; exact hx.free
  lo := by rw [← h.nx]; exact hx.lo
  hi := by rw [← h.nx]; exact hx.hi
  len := by rw [← h.os.1]; exact hx.len
  rise := fun i o ho => by
    obtain ⟨a, ha, h1, _⟩ := h.os.symm.get ho
    obtain ⟨r1, r2, r3⟩ := hx.rise i a ha
    rw [h1, ← h.nx]
    refine ⟨r1, r2, fun k q hk hq => ?_⟩
    obtain ⟨c, hc, h2, _⟩ := h.os.symm.get hq
    rw [h2]
    exact r3 k c hk hc
  need := fun o ho => by
    obtain ⟨a, ha, h1, h2, h3, h4, h5⟩ := h.os.symm.mem ho
    have := hx.need a ha
    have e : obBl o = obBl a := by simp [obBl, h2, h3]
    rw [e, h4, h5, h3, ← h.od]; exact this
  apart := by unfold allBl; rw [← h.fs, ← h.os.blocks]; exact hx.apart
  links := fun o ho t ht => by
    obtain ⟨a, ha, h1, h2, h3, h4, h5⟩ := h.os.symm.mem ho
    rw [h5] at ht
    exact leadsP_sm h.os (hx.links a ha t ht)
  tops := fun t ht => by
    have e : tops y = tops x := by simp [tops, h.t0, h.t1, h.t2, h.t3]
    rw [e] at ht
    exact leadsP_sm h.os (hx.tops t ht)
  words := by unfold allBl; rw [← h.fs, ← h.os.blocks, ← h.od]; exact hx.words
theorem hright_one {o : Int} (h3 : 3 ≤ o) (h8 : o ≤ 8) : hrightB (oneHv o) = true := by
  have hp := pw_pos o
  refine hright_yes ⟨rightB_yes (by simp only [regionB, oneHv]; simp [h3, h8]) ?_, Int.le_refl 1, (by show (1 : Int) ≤ 1000001; decide), by simp [oneHv], fun i o ho => by simp [oneHv] at ho, fun o ho => by simp [oneHv] at ho, ?_, fun o ho => by simp [oneHv] at ho, fun t ht => .inl ?_, ?_⟩
  · intro i y hy
    rcases i with _ | i
    · simp [oneHv] at hy
      subst hy
      exact ⟨⟨by show (0 : Int) ≤ o; omega, Int.le_refl _, Int.le_refl _, by show (0 : Int) ≤ pw o - pw o; omega, by simp⟩, fun k x hk => by omega⟩
    · simp [oneHv] at hy
  · simp [Apart, allBl, oneHv]
  · simp [tops, oneHv] at ht; exact ht
  · simp [allBl, oneHv, sumB]
theorem check16L (od : Int) (oa : Option Addr) (os : List Ob) (oc : Nat) (nx t0 t1 t2 t3 : Int) (fa : Option Addr) (fs : List Bl) (fc : Nat) (b : Bool) (hb : hrightB ⟨od, oa, os, oc, nx, t0, t1, t2, t3, fa, fs, fc⟩ = b) (hs : Hv.Small ⟨od, oa, os, oc, nx, t0, t1, t2, t3, fa, fs, fc⟩) (w : World) (h : Hv.Is w ⟨od, oa, os, oc, nx, t0, t1, t2, t3, fa, fs, fc⟩) : Calls Try.prog 16 #[(.agg #[.int .i64 od, .slice oa os.length oc, .int .i64 nx, .int .i64 t0, .int .i64 t1, .int .i64 t2, .int .i64 t3, .slice fa fs.length fc])] w fun e w' => e = .returned (.int .i64 (errI b)) ∧ Below w.heap.size w w' := hb ▸ check16 ⟨od, oa, os, oc, nx, t0, t1, t2, t3, fa, fs, fc⟩ hs w h
end Go.Proofs.Ytcjbepaclbhjaaa
