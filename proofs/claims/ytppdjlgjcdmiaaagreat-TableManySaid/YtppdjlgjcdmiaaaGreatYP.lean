/- What comes of an entry that comes again, of a client's next one, and of many: the plain laws. No program in sight. -/
import Derived.Test.YtppdjlgjcdmiaaaGreatYA
set_option linter.unusedSimpArgs false
set_option linter.unusedVariables false
namespace Go.Proofs.YtppdjlgjcdmiaaaGreat
theorem applyP_yes {x : Sv} (hx : StR x) {e : Env} (he : mayE e = true) : applyP x e = applyC x e.cl e.sq ⟨e.op.k, e.op.h, e.op.i, e.op.n, e.op.m, e.op.v, e.op.t⟩ := by unfold applyP; rw [if_pos ⟨st_yes hx, he⟩]
theorem applyP_no {x : Sv} {e : Env} (h : stB x = false ∨ mayE e = false) : applyP x e = (zeroSv, 1, 0) := by
  unfold applyP; rw [if_neg]; rintro ⟨h1, h2⟩; rcases h with h | h
  · rw [h] at h1; cases h1
  · rw [h] at h2; cases h2
theorem applyP_sm {x y : Sv} (h : x.Sm y) (e : Env) : (applyP x e).2 = (applyP y e).2 ∧ (applyP x e).1.Sm (applyP y e).1 := by
  unfold applyP
  rw [stB_sm h]
  split
  · exact applyC_sm h _ _ _
  · exact ⟨rfl, Hv.Sm.refl _, rfl⟩
theorem mayE_facts {e : Env} (h : mayE e = true) : 1 ≤ e.nu ∧ e.nu ≤ 900000000 ∧ 0 ≤ e.vi ∧ e.vi ≤ 900000000 ∧ ((e.cl = 0 ∧ e.sq = 0) ∨ (e.cl ≠ 0 ∧ 1 ≤ e.cl ∧ e.cl ≤ 4 ∧ 1 ≤ e.sq ∧ e.sq ≤ 1000000)) := by
  unfold mayE inM at h
  by_cases hc : e.cl = 0
  · simp only [hc, if_true] at h; simp at h; omega
  · simp only [hc, if_false] at h; simp at h; omega
theorem applyP_right {x : Sv} (hx : StR x) {e : Env} (he : mayE e = true) : StR (applyP x e).1 := by
  rw [applyP_yes hx he]
  refine apply_right hx _ ?_
  have := mayE_facts he
  omega
theorem zeroSv_small : zeroSv.Small := ⟨zero_small, by simp [zeroSv]⟩
theorem applyP_small (x : Sv) (e : Env) : (applyP x e).1.Small := by
  cases h1 : stB x with
  | false => rw [applyP_no (.inl h1)]; exact zeroSv_small
  | true => cases h2 : mayE e with
    | false => rw [applyP_no (.inr h2)]; exact zeroSv_small
    | true => exact (applyP_right (st_of h1) h2).small
theorem once_law {x : Sv} (hx : StR x) {c s : Int} (h1 : 1 ≤ c) (o o2 : Opd) : (applyC (applyC x c s o).1 c s o) = ((applyC x c s o).1, (applyC x c s o).2) ∧ (applyC (applyC x c s o).1 c (s - 1) o2) = ((applyC x c s o).1, 130, 0) := by
  by_cases hA : s < (findR x.rs c).1.s
  · have e : applyC x c s o = (x, 130, 0) := by unfold applyC; rw [if_pos hA]
    rw [e]
    refine ⟨by rw [e], ?_⟩
    unfold applyC
    rw [if_pos (by simp only; omega)]
  · by_cases hB : (findR x.rs c).1.s = s
    · have e : applyC x c s o = (x, (findR x.rs c).1.e, (findR x.rs c).1.v) := by unfold applyC; rw [if_neg hA, if_pos (.inr hB)]
      rw [e]
      refine ⟨by rw [e], ?_⟩
      unfold applyC
      rw [if_pos (by simp only; omega)]
    · obtain ⟨r, hr⟩ : ∃ r, doC x.hv o = r := ⟨_, rfl⟩
      have e : applyC x c s o = ({ x with hv := r.1, rs := putRow x.rs ⟨c, s, r.2.1, r.2.2⟩ }, r.2.1, r.2.2) := by unfold applyC; rw [if_neg hA, if_neg (by omega), hr]
      rw [e]
      have hf : findR (putRow x.rs ⟨c, s, r.2.1, r.2.2⟩) c = (⟨c, s, r.2.1, r.2.2⟩, true) := by rw [find_put hx.rows, if_pos rfl]
      constructor
      · unfold applyC
        simp only [hf]
        rw [if_neg (by omega), if_pos (by simp)]
      · unfold applyC
        simp only [hf]
        rw [if_pos (by omega)]
theorem once_P {x : Sv} {e : Env} (hx : StR x) (he : mayE e = true) (hc : e.cl ≠ 0) (nu vi : Int) (h2 : mayE ⟨nu, vi, e.cl, e.sq, e.op⟩ = true) :
    (applyP (applyP x e).1 ⟨nu, vi, e.cl, e.sq, e.op⟩).2 = (applyP x e).2 ∧ (applyP (applyP x e).1 ⟨nu, vi, e.cl, e.sq, e.op⟩).1 = (applyP x e).1 ∧
    (e.sq ≠ 1 → ∀ o2 : Opv, (applyP (applyP x e).1 ⟨nu, vi, e.cl, e.sq - 1, o2⟩).2 = (130, 0) ∧ (applyP (applyP x e).1 ⟨nu, vi, e.cl, e.sq - 1, o2⟩).1 = (applyP x e).1) := by
  have hr := applyP_right hx he
  have hm := mayE_facts he
  have h3 := fun o2 => once_law (s := e.sq) hx (c := e.cl) (by omega) ⟨e.op.k, e.op.h, e.op.i, e.op.n, e.op.m, e.op.v, e.op.t⟩ o2
  rw [applyP_yes hr h2]
  simp only
  rw [applyP_yes hx he]
  have h4 := h3 ⟨0, 0, 0, 0, 0, 0, 0⟩
  refine ⟨by rw [h4.1], by rw [h4.1], fun hs o2 => ?_⟩
  have h5 : mayE ⟨nu, vi, e.cl, e.sq - 1, o2⟩ = true := by
    have := mayE_facts h2
    simp only at this
    unfold mayE inM
    simp only [hc, if_false]
    simp; omega
  rw [applyP_yes hx he] at hr
  rw [applyP_yes hr h5]
  simp only
  rw [(h3 _).2]
  exact ⟨rfl, rfl⟩
theorem heap_P {x : Sv} {e : Env} (hx : StR x) (he : mayE e = true) (hc : e.cl ≠ 0) :
    (e.sq ≤ (findR x.rs e.cl).1.s ∧ (applyP x e).1 = x) ∨ ((findR x.rs e.cl).1.s < e.sq ∧ (applyP x e).2 = (doP x.hv ⟨e.op.k, e.op.h, e.op.i, e.op.n, e.op.m, e.op.v, e.op.t⟩).2 ∧ (applyP x e).1.hv = (doP x.hv ⟨e.op.k, e.op.h, e.op.i, e.op.n, e.op.m, e.op.v, e.op.t⟩).1 ∧
      findR (applyP x e).1.rs e.cl = (⟨e.cl, e.sq, (applyP x e).2.1, (applyP x e).2.2⟩, true) ∧ ∀ c, c ≠ e.cl → findR (applyP x e).1.rs c = findR x.rs c) := by
  rw [applyP_yes hx he, doP_yes hx.hv]
  generalize (⟨e.op.k, e.op.h, e.op.i, e.op.n, e.op.m, e.op.v, e.op.t⟩ : Opd) = o
  by_cases hA : e.sq < (findR x.rs e.cl).1.s
  · left; exact ⟨by omega, by unfold applyC; rw [if_pos hA]⟩
  · by_cases hB : (findR x.rs e.cl).1.s = e.sq
    · left; exact ⟨by omega, by unfold applyC; rw [if_neg hA, if_pos (.inr hB)]⟩
    · right
      have e1 : applyC x e.cl e.sq o = ({ x with hv := (doC x.hv o).1, rs := putRow x.rs ⟨e.cl, e.sq, (doC x.hv o).2.1, (doC x.hv o).2.2⟩ }, (doC x.hv o).2.1, (doC x.hv o).2.2) := by unfold applyC; rw [if_neg hA, if_neg (by omega)]
      rw [e1]
      refine ⟨by omega, rfl, rfl, ?_, fun c hne => ?_⟩
      · simp only; rw [find_put hx.rows, if_pos rfl]
      · simp only; rw [find_put hx.rows, if_neg (Ne.symm hne)]
theorem many_P {x : Sv} {e : Env} (hx : StR x) (he : mayE e = true) : StR (applyP x e).1 ∧ (applyP x e).1.rs.length ≤ 4 ∧
    ∀ c, (findR x.rs c).1.s ≤ (findR (applyP x e).1.rs c).1.s ∧ (c ≠ e.cl → (findR (applyP x e).1.rs c).1 = (findR x.rs c).1) := by
  have hr := applyP_right hx he
  refine ⟨hr, by have := rowsOk_len hr.rows (by decide); omega, fun c => ?_⟩
  by_cases hc : e.cl = 0
  · have e1 : (applyP x e).1 = x := by
      rw [applyP_yes hx he]; unfold applyC; split
      · rfl
      · rw [if_pos (.inl hc)]
    rw [e1]; exact ⟨Int.le_refl _, fun _ => rfl⟩
  · rcases heap_P hx he hc with ⟨_, e1⟩ | ⟨h1, _, _, h4, h5⟩
    · rw [e1]; exact ⟨Int.le_refl _, fun _ => rfl⟩
    · by_cases hcc : c = e.cl
      · subst hcc; rw [h4]; exact ⟨by simp only; omega, fun h => absurd rfl h⟩
      · rw [h5 c hcc]; exact ⟨Int.le_refl _, fun _ => rfl⟩
end Go.Proofs.YtppdjlgjcdmiaaaGreat
