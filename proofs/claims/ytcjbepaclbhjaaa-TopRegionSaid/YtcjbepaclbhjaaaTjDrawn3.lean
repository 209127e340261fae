import Derived.Test.YtcjbepaclbhjaaaTjQA
/- A drawn region by a plan, where a plain move, or a part of what a call gave, may come up behind a store. No program in sight. -/
set_option linter.unusedSimpArgs false
set_option linter.unusedVariables false
namespace Go.Proofs.Ytcjbepaclbhjaaa
open Go.RowKit
section
variable {P : Program} {ops : Array Oper} {Q : Exit → Act → World → Prop} {S : World → Prop} {tl : List Nat}
def moveBX (ops : Array Oper) (i : Nat) : Bool := match ops[i]? with
  | some o => (match o.op with | .move _ => true | .extract _ _ => true | _ => false)
  | none => false
theorem YieldsIf.pureX {i : Nat} {o : Oper} {v : Value} {a : Act} (hi : ops[i]? = some o) (hm : moveBX ops i = true) (hs : ∃ w, S w) (hy : YieldsIf P ops S o v a) : YieldsIf P ops (fun _ => True) o v a := by
  rcases hy with ⟨hw, hr⟩ | h
  · obtain ⟨w1, h1⟩ := hs
    have h2 := hr w1 h1
    unfold moveBX at hm
    rw [hi] at hm
    simp only at hm
    split at hm
    · rename_i x hx
      have e : ∀ w, (execOp a.eval o).run P w = .ok (.value (a.eval x)) w := fun w => by unfold execOp; rw [hx]; rfl
      rw [e] at h2
      injection h2 with h2
      injection h2 with h2
      subst h2
      exact .inl ⟨hw, fun w _ => e w⟩
    · rename_i x k hx
      have e : ∀ w, (execOp a.eval o).run P w = ((Instr.extract (a.eval x) k).run P w).andThen fun u w' => .ok (.value u) w' := fun w => by
        unfold execOp; rw [hx]; simp only [Sem.run_bind, Sem.run_pure]
      have f : ∀ u, (∃ w w', (Instr.extract u k).run P w = .ok v w') → ∀ w, (Instr.extract u k).run P w = .ok v w := fun u ⟨w2, w3, h⟩ w => by
        unfold Instr.extract at h ⊢
        split at h
        · split at h
          · simp only [Sem.run_pure] at h ⊢; injection h with h4; rw [h4]
          · cases h
        · cases h
      rw [e] at h2
      cases h5 : (Instr.extract (a.eval x) k).run P w1 with
      | ok u w2 =>
        rw [h5] at h2
        injection h2 with h6 h7
        injection h6 with h6
        subst h6
        have h8 := f _ ⟨w1, w2, h5⟩
        exact .inl ⟨hw, fun w _ => by rw [e, h8 w]; rfl⟩
      | halt _ _ => rw [h5] at h2; cases h2
    · cases hm
  · exact .inr h
def wpAnyHX (P : Program) (ops : Array Oper) (Q : Exit → Act → World → Prop) (S : World → Prop) (tl : List Nat) : Nat → Array Bool → Act → World → Prop
  | 0, listed, a, w => Region.ready .any ops listed = [] ∧ Q .normal a w
  | fuel + 1, listed, a, w =>
    (Region.ready .any ops listed = [] → Q .normal a w) ∧
    ∀ i ∈ Region.ready .any ops listed, wpOp P ops Q i (fun a' w' => (S w → tl.contains i = true ∨ S w') ∧ wpAnyHX P ops Q S tl fuel (listed.setIfInBounds i true) a' w') a w
theorem wpAny_of_HX : ∀ (fuel : Nat) (listed : Array Bool) (a : Act) (w : World), wpAnyHX P ops Q S tl fuel listed a w → wpAny P .any ops Q fuel listed a w
  | 0, _, _, _, h => h
  | fuel + 1, _, _, _, h => ⟨h.1, fun i hi => wpOp_mono (fun a' w' h' => wpAny_of_HX fuel _ a' w' h'.2) (h.2 i hi)⟩
theorem wpAnyH_takeX {i : Nat} {oi : Oper} {v : Value} (hi : ops[i]? = some oi) (hsel : Region.noSelect ops = true)
    (hQ : ∀ c a w, Q (.panic c) (a.put oi.dst v) w → Q (.panic c) a w) (ht : ∀ j, tl.contains j = true → waitsB ops ops.size j i = true) :
    ∀ (fuel : Nat) (listed : Array Bool) (a : Act) (w : World), Closed ops listed →
      (∀ j oj, ops[j]? = some oj → j ≠ i → listed.getD j true = false → (∀ e ∈ oj.after, Region.binds .any e = true → e.on ≠ i) → oi.apart ops oj = true) →
      i ∈ Region.ready .any ops listed → YieldsIf P ops S oi v a → S w →
      wpAnyHX P ops Q S tl fuel (listed.setIfInBounds i true) (a.put oi.dst v) w → wpAnyHX P ops Q S tl (fuel + 1) listed a w := by
  intro fuel
  induction fuel with
  | zero =>
    intro listed a w _ _ hr hy hS H
    refine ⟨fun h => (by rw [h] at hr; cases hr), fun j hj => ?_⟩
    by_cases hji : j = i
    · subst hji; exact hy.wpOp hi hS ⟨fun _ => .inr hS, H⟩
    · have hm := ready_mono hj hji
      rw [H.1] at hm
      cases hm
  | succ fuel ih =>
    intro listed a w hc hfree hr hy hS H
    refine ⟨fun h => (by rw [h] at hr; cases hr), fun j hj => ?_⟩
    by_cases hji : j = i
    · subst hji; exact hy.wpOp hi hS ⟨fun _ => .inr hS, H⟩
    · obtain ⟨hjun, oj, hoj, hall⟩ := mem_ready.1 hj
      have hiun := (mem_ready.1 hr).1
      have hno : ¬ listed.getD i false = true := fun h1 => by
        rcases Nat.lt_or_ge i listed.size with h' | h'
        · simp [h'] at h1 hiun; rw [hiun] at h1; cases h1
        · simp [Array.getElem?_eq_none h'] at h1
      have htj : tl.contains j = false := by
        cases hcj : tl.contains j with
        | false => rfl
        | true => exact absurd (waits_listed hc _ j oj hoj hall (ht j hcj)) hno
      have h1 := H.2 j (ready_mono hj hji)
      have hnot : ∀ e ∈ oj.after, Region.binds .any e = true → e.on ≠ i := fun e he hb heq => hno (heq ▸ hall e he hb)
      have h2 := wpOp_putIf hoj (hfree j oj hoj hji hjun hnot) (fun cs b => Region.noSelect_spec hsel i oi cs b hi) (fun cs b => Region.noSelect_spec hsel j oj cs b hoj) hQ hy h1
      have hfree' : ∀ k ok, ops[k]? = some ok → k ≠ i → (listed.setIfInBounds j true).getD k true = false →
          (∀ e ∈ ok.after, Region.binds .any e = true → e.on ≠ i) → oi.apart ops ok = true := fun k ok hk hki hun hn => by
        refine hfree k ok hk hki ?_ hn
        by_cases hjk : j = k
        · subst hjk; exact hjun
        · rw [getD_set_ne true hjk] at hun; exact hun
      refine wpOp_mono (fun a' w' h3 => ?_) h2
      obtain ⟨hy', hor, h4⟩ := h3
      have hS' : S w' := by
        rcases hor hS with h | h
        · rw [htj] at h; cases h
        · exact h
      refine ⟨fun _ => .inr hS', ih (listed.setIfInBounds j true) a' w' (hc.set hj) hfree' (ready_mono hr (Ne.symm hji)) hy' hS' ?_⟩
      rw [Array.setIfInBounds_comm _ _ hji]
      exact h4
theorem wpAnyH_pureX {i : Nat} {oi : Oper} {v : Value} (hi : ops[i]? = some oi) (hsel : Region.noSelect ops = true)
    (hQ : ∀ c a w, Q (.panic c) (a.put oi.dst v) w → Q (.panic c) a w) :
    ∀ (fuel : Nat) (listed : Array Bool) (a : Act) (w : World), Closed ops listed →
      (∀ j oj, ops[j]? = some oj → j ≠ i → listed.getD j true = false → (∀ e ∈ oj.after, Region.binds .any e = true → e.on ≠ i) → oi.apart ops oj = true) →
      i ∈ Region.ready .any ops listed → YieldsIf P ops (fun _ => True) oi v a →
      wpAnyHX P ops Q S tl fuel (listed.setIfInBounds i true) (a.put oi.dst v) w → wpAnyHX P ops Q S tl (fuel + 1) listed a w := by
  intro fuel
  induction fuel with
  | zero =>
    intro listed a w _ _ hr hy H
    refine ⟨fun h => (by rw [h] at hr; cases hr), fun j hj => ?_⟩
    by_cases hji : j = i
    · subst hji; exact hy.wpOp hi trivial ⟨fun h => .inr h, H⟩
    · have hm := ready_mono hj hji
      rw [H.1] at hm
      cases hm
  | succ fuel ih =>
    intro listed a w hc hfree hr hy H
    refine ⟨fun h => (by rw [h] at hr; cases hr), fun j hj => ?_⟩
    by_cases hji : j = i
    · subst hji; exact hy.wpOp hi trivial ⟨fun h => .inr h, H⟩
    · obtain ⟨hjun, oj, hoj, hall⟩ := mem_ready.1 hj
      have hiun := (mem_ready.1 hr).1
      have hno : ¬ listed.getD i false = true := fun h1 => by
        rcases Nat.lt_or_ge i listed.size with h' | h'
        · simp [h'] at h1 hiun; rw [hiun] at h1; cases h1
        · simp [Array.getElem?_eq_none h'] at h1
      have h1 := H.2 j (ready_mono hj hji)
      have hnot : ∀ e ∈ oj.after, Region.binds .any e = true → e.on ≠ i := fun e he hb heq => hno (heq ▸ hall e he hb)
      have h2 := wpOp_putIf hoj (hfree j oj hoj hji hjun hnot) (fun cs b => Region.noSelect_spec hsel i oi cs b hi) (fun cs b => Region.noSelect_spec hsel j oj cs b hoj) hQ hy h1
      have hfree' : ∀ k ok, ops[k]? = some ok → k ≠ i → (listed.setIfInBounds j true).getD k true = false →
          (∀ e ∈ ok.after, Region.binds .any e = true → e.on ≠ i) → oi.apart ops ok = true := fun k ok hk hki hun hn => by
        refine hfree k ok hk hki ?_ hn
        by_cases hjk : j = k
        · subst hjk; exact hjun
        · rw [getD_set_ne true hjk] at hun; exact hun
      refine wpOp_mono (fun a' w' h3 => ?_) h2
      obtain ⟨hy', hor, h4⟩ := h3
      refine ⟨hor, ih (listed.setIfInBounds j true) a' w' (hc.set hj) hfree' (ready_mono hr (Ne.symm hji)) hy' ?_⟩
      rw [Array.setIfInBounds_comm _ _ hji]
      exact h4
def planCX (ops : Array Oper) (tl : List Nat) : Bool → Array Bool → List (Nat × Bool) → Bool
  | _, listed, [] => (Region.ready .any ops listed).isEmpty
  | s, listed, (i, true) :: r => (moveBX ops i || (s && tl.all (fun j => waitsB ops ops.size j i))) && (Region.ready .any ops listed).contains i && Region.free .any ops listed i && planCX ops tl s (listed.setIfInBounds i true) r
  | s, listed, (i, false) :: r => decide (Region.ready .any ops listed = [i]) && planCX ops tl (s && !tl.contains i) (listed.setIfInBounds i true) r
theorem wpAnyH_of_planX (hsat : ∃ w, S w) (hs : Region.noSelect ops = true) (hQ : ∀ c a d v w, Q (.panic c) (a.put d v) w → Q (.panic c) a w) : ∀ (plan : List (Nat × Bool)) (s : Bool) (fuel : Nat) (listed : Array Bool) (a : Act) (w : World), Closed ops listed →
    plan.length ≤ fuel → planCX ops tl s listed plan = true → (s = true → S w) → wpPlan P ops Q S tl plan a w → wpAnyHX P ops Q S tl fuel listed a w
  | [], s, fuel, listed, a, w, _, hf, hB, _, h => by
    have hB' : Region.ready .any ops listed = [] := by simpa [planCX] using hB
    cases fuel with
    | zero => exact ⟨hB', h⟩
    | succ f => exact ⟨fun _ => h, fun i hi => by rw [hB'] at hi; cases hi⟩
  | (i, true) :: rest, s, fuel, listed, a, w, hc, hf, hB, hS, h => by
    obtain ⟨f, rfl⟩ : ∃ f, fuel = f + 1 := ⟨fuel - 1, by simp at hf; omega⟩
    simp only [planCX, Bool.and_eq_true, Bool.or_eq_true] at hB
    obtain ⟨⟨⟨b1, b2⟩, b3⟩, b5⟩ := hB
    obtain ⟨o, v, ho, hy, hr⟩ := h
    have hr0 : i ∈ Region.ready .any ops listed := by simpa using b2
    have hrest := wpAnyH_of_planX hsat hs hQ rest s f _ _ w (hc.set hr0) (by simp at hf; omega) b5 hS hr
    rcases b1 with b1 | ⟨b1, b4⟩
    · exact wpAnyH_pureX ho hs (fun c a w h => hQ c a _ v w h) f listed a w hc (Region.free_spec ho b3) hr0 (YieldsIf.pureX ho b1 hsat hy) hrest
    · have ht : ∀ j, tl.contains j = true → waitsB ops ops.size j i = true := fun j hj => by
        have := List.all_eq_true.1 b4 j (by simpa using hj)
        exact this
      exact wpAnyH_takeX ho hs (fun c a w h => hQ c a _ v w h) ht f listed a w hc (Region.free_spec ho b3) hr0 hy (hS b1) hrest
  | (i, false) :: rest, s, fuel, listed, a, w, hc, hf, hB, hS, h => by
    obtain ⟨f, rfl⟩ : ∃ f, fuel = f + 1 := ⟨fuel - 1, by simp at hf; omega⟩
    simp only [planCX, Bool.and_eq_true, decide_eq_true_eq] at hB
    obtain ⟨o, ho, hr⟩ := h
    have hr0 : i ∈ Region.ready .any ops listed := by rw [hB.1]; simp
    refine ⟨fun h0 => (by rw [h0] at hr0; cases hr0), fun j hj => ?_⟩
    rw [hB.1] at hj
    obtain rfl : j = i := by simpa using hj
    have h1 := wpList_one hr
    have h2 : wpOp P ops Q j (fun a' w' => (tl.contains j = true ∨ S w') ∧ wpPlan P ops Q S tl rest a' w') a w := by
      unfold wpOp; simp only [ho]; exact h1
    refine wpOp_mono (fun a' w' h' => ⟨fun _ => h'.1, wpAnyH_of_planX hsat hs hQ rest _ f _ a' w' (hc.set hr0) (by simp at hf; omega) hB.2 ?_ h'.2⟩) h2
    intro hs1
    simp only [Bool.and_eq_true, Bool.not_eq_true'] at hs1
    rcases h'.1 with h3 | h3
    · rw [hs1.2] at h3; cases h3
    · exact h3
theorem wp_region_keepsPX {id : Nat} {a : Act} {w w0 : World} {B : Nat} {l : List Oper} (M : List Blk) (hS : Keeps B w0 M w.drew) (tl : List Nat) (plan : List (Nat × Bool)) (hm : P.follows .mixedOrders = true) (hs : Region.noSelect l.toArray = true)
    (hl : plan.length = l.length) (hB : planCX l.toArray tl true (Array.replicate l.length false) plan = true) (hQ : ∀ c a d v w, Q (.panic c) (a.put d v) w → Q (.panic c) a w)
    (h : wpPlan P l.toArray Q (Keeps B w0 M) tl plan a w.drew) : (Code.region id l.toArray true).wp P Q a w :=
  wp_region_any hm (by
    have := wpAnyH_of_planX ⟨_, hS⟩ hs hQ plan true l.length (Array.replicate l.length false) a w.drew (Closed.start _ _) (by omega) hB (fun _ => hS) h
    have := wpAny_of_HX _ _ _ _ this
    simpa using this)
end
end Go.Proofs.Ytcjbepaclbhjaaa
