import Derived.Test.YtjcbpfbifbfkcaaGreatOaOH
/- What comes of what is right: the plain law of OplogRight. No program in sight. -/
set_option linter.unusedSimpArgs false
set_option linter.unusedVariables false
namespace Go.Proofs.YtjcbpfbifbfkcaaGreat
open Go.RowKit
theorem ents_may : ∀ {l : List Env} {nm v : Int}, entsB nm v l = true → ∀ e ∈ l, mayE e = true
  | [], _, _, _, e, he => by cases he
  | x :: r, nm, v, h, e, he => by
    unfold entsB at h
    simp only [Bool.and_eq_true] at h
    rcases List.mem_cons.1 he with rfl | he
    · exact h.1
    · exact ents_may h.2.2 e he
theorem may_nu {e : Env} (h : mayE e = true) : 1 ≤ e.nu ∧ e.nu ≤ 900000000 := by
  unfold mayE at h
  simp only [Bool.and_eq_true, inM, decide_eq_true_eq] at h
  exact h.1.1
theorem fol_nu {fr : Int} : ∀ {l : List Env} {q : Nat}, q + l.length ≤ 100000 → (∀ e ∈ l, 1 ≤ e.nu ∧ e.nu ≤ 900000000) → folB fr q l = true → ∀ (i : Nat) (h : i < l.length), l[i].nu = fr + 1 + (q + i : Nat)
  | [], _, _, _, _, i, h => by simp at h
  | e :: r, q, hq, hn, hf, i, h => by
    unfold folB at hf
    rw [Bool.and_eq_true, decide_eq_true_eq] at hf
    obtain ⟨h1, h2⟩ := hf
    have he := hn e (by simp)
    simp only [List.length_cons] at hq
    have e1 : wrap64 (e.nu - 1) = e.nu - 1 := by unfold wrap64; omega
    rw [e1] at h1
    have e2 : wrap64 (e.nu - 1 - (q : Int)) = e.nu - 1 - (q : Int) := by unfold wrap64; omega
    rw [e2] at h1
    cases i with
    | zero => simp only [List.getElem_cons_zero]; omega
    | succ i =>
      have h3 := fol_nu (l := r) (q := q + 1) (by omega) (fun x hx => hn x (by simp [hx])) h2 i (by simpa using h)
      simp only [List.getElem_cons_succ]
      rw [h3]; push_cast; omega
theorem ok_nu {x : Kv} (h : okC x = true) : ∀ (i : Nat) (hi : i < x.es.length), x.es[i].nu = x.bs + 1 + (i : Nat) ∧ 1 ≤ x.es[i].nu := by
  have hf := ok_facts h
  unfold okC at h
  simp only [Bool.and_eq_true] at h
  obtain ⟨_, _, _, _, h5, h6, _⟩ := h
  intro i hi
  have hm : ∀ e ∈ x.es, 1 ≤ e.nu ∧ e.nu ≤ 900000000 := fun e he => may_nu (ents_may h6 e he)
  have h1 := fol_nu (q := 0) (by omega) hm h5 i hi
  rw [Nat.zero_add] at h1
  exact ⟨h1, (hm _ (List.getElem_mem hi)).1⟩
def stayK (x : Kv) (r : Rv) : Int := if r.kd = 5 then -1 else if r.kd = 3 then r.fr else lastK x
theorem foldO_facts {x y : Kv} {r : Rv} (h : foldO x r = (0, y)) : okC x = true ∧ okC y = true ∧ madeK x r = (0, y) := by
  unfold foldO at h
  split at h
  · rename_i hx
    unfold foldK at h
    split at h
    · rename_i hm
      split at h
      · rename_i hy
        injection h with _ h
        subst h
        exact ⟨hx, hy, by rw [← hm]⟩
      · injection h with h _; cases h
    · rename_i hm
      rw [h] at hm
      exact absurd rfl hm
  · injection h with h _; cases h
theorem abv_all {x : Kv} {n : Int} (h : okC x = true) (hl : x.bs ≤ n) : abvC x n 4000 = x.es.drop (n - x.bs).toNat := by
  have hf := ok_facts h
  unfold abvC
  by_cases hc : x.bs + x.es.length ≤ n
  · rw [if_pos (.inr hc), List.drop_eq_nil_of_le (by omega)]
  · rw [if_neg (by omega), List.take_of_length_le (by rw [List.length_drop]; omega)]
theorem right_law {x y : Kv} {r : Rv} (h : foldO x r = (0, y)) : okC x = true ∧ okC y = true ∧ x.vw ≤ y.vw ∧ x.nm ≤ y.nm ∧
    ∀ (i : Nat) (e : Env), (abvC x y.bs 4000)[i]? = some e → e.nu ≤ stayK x r → (abvC y y.bs 4000)[i]? = some e := by
  obtain ⟨hx, hy, hm⟩ := foldO_facts h
  have fx := ok_facts hx
  have fy := ok_facts hy
  refine ⟨hx, hy, ?_⟩
  have hb : abvC y y.bs 4000 = y.es := by rw [abv_all hy (Int.le_refl _), Int.sub_self]; rfl
  rw [hb]
  unfold madeK at hm
  unfold stayK
  by_cases h1 : (r.kd = 1 ∨ r.kd = 3 ∨ r.kd = 5) ∧ r.vw < x.vw
  · rw [if_pos h1] at hm; injection hm with hm _; cases hm
  rw [if_neg h1] at hm
  by_cases k1 : r.kd = 1
  · rw [if_pos k1] at hm
    injection hm with _ hm
    subst hm
    simp only at *
    refine ⟨by omega, Int.le_refl _, fun i e he _ => ?_⟩
    rw [abv_all hx (Int.le_refl _), Int.sub_self] at he
    exact he
  rw [if_neg k1] at hm
  by_cases k2 : r.kd = 2
  · rw [if_pos k2] at hm
    split at hm
    · injection hm with _ hm
      subst hm
      simp only at *
      refine ⟨Int.le_refl _, Int.le_refl _, fun i e he _ => ?_⟩
      rw [abv_all hx (Int.le_refl _), Int.sub_self] at he
      have hi := (List.getElem?_eq_some_iff.1 he).1
      rw [List.getElem?_append_left (by simpa using hi)]; exact he
    · injection hm with hm _; cases hm
  rw [if_neg k2] at hm
  by_cases k3 : r.kd = 3
  · rw [if_pos k3] at hm
    split at hm
    · rename_i hc
      injection hm with _ hm
      have hin : x.bs ≤ r.fr ∧ r.fr ≤ lastK x := by
        have := hc.1
        simpa [inM] using this
      subst hm
      simp only at *
      refine ⟨by omega, by omega, fun i e he hs => ?_⟩
      rw [abv_all hx (Int.le_refl _), Int.sub_self] at he
      rw [if_neg (by omega), if_pos k3] at hs
      have he2 : x.es[i]? = some e := he
      obtain ⟨hi, he3⟩ := List.getElem?_eq_some_iff.1 he2
      have hn := (ok_nu hx i hi).1
      rw [he3] at hn
      rw [List.getElem?_append_left (by rw [List.length_take]; omega), List.getElem?_take, if_pos (by omega)]
      exact he2
    · injection hm with hm _; cases hm
  rw [if_neg k3] at hm
  by_cases k4 : r.kd = 4
  · rw [if_pos k4] at hm
    split at hm
    · injection hm with hm _; cases hm
    · rename_i hc
      injection hm with _ hm
      subst hm
      simp only at *
      refine ⟨Int.le_refl _, Int.le_refl _, fun i e he _ => ?_⟩
      rw [abv_all hx (by omega)] at he
      exact he
  rw [if_neg k4] at hm
  by_cases k5 : r.kd = 5
  · rw [if_pos k5] at hm
    split at hm
    · injection hm with _ hm
      subst hm
      simp only at *
      refine ⟨by omega, by omega, fun i e he hs => ?_⟩
      rw [if_pos k5] at hs
      exfalso
      have hmem := List.mem_of_getElem? he
      have hmx : e ∈ x.es := by
        unfold abvC at hmem
        split at hmem
        · cases hmem
        · exact List.mem_of_mem_drop (List.mem_of_mem_take hmem)
      obtain ⟨j, hj, rfl⟩ := List.getElem_of_mem hmx
      have := (ok_nu hx j hj).2
      omega
    · injection hm with hm _; cases hm
  rw [if_neg k5] at hm
  injection hm with hm _; cases hm
end Go.Proofs.YtjcbpfbifbfkcaaGreat
