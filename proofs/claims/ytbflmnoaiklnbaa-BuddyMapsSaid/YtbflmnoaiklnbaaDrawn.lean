/- A region that draws its order, carried out by a plan: a list of its operations, each either taken first (it yields the same value in every world that meets S) or the one operation that may come up. No program in sight. -/
import Derived.Test.YtbflmnoaiklnbaaHp
import Derived.OrdersHeld
set_option linter.unusedSimpArgs false
set_option linter.unusedVariables false
namespace Go.Proofs.Ytbflmnoaiklnbaa
open Go.RowKit
section
variable {P : Program} {ops : Array Oper} {Q : Exit → Act → World → Prop} {S : World → Prop} {tl : List Nat}

/-- What has come up has come up behind all that it waits for. -/
def Closed (ops : Array Oper) (listed : Array Bool) : Prop := ∀ j o, ops[j]? = some o → listed.getD j false = true → ∀ e ∈ o.after, Region.binds .any e = true → listed.getD e.on false = true

theorem Closed.start (ops : Array Oper) (n : Nat) : Closed ops (Array.replicate n false) := fun j o _ hl => by
  rw [getD_replicate_no] at hl; cases hl
where
  getD_replicate_no {n j : Nat} : (Array.replicate n false).getD j false = false := by
    rcases Nat.lt_or_ge j n with h | h <;> simp [h]

theorem Closed.set {listed : Array Bool} (hc : Closed ops listed) {i : Nat} (hi : i ∈ Region.ready .any ops listed) : Closed ops (listed.setIfInBounds i true) := by
  obtain ⟨_, oi, hoi, hall⟩ := mem_ready.1 hi
  intro j o hj hl e he hb
  by_cases hij : i = j
  · subst hij
    have : o = oi := Option.some.inj (hj.symm.trans hoi)
    subst this
    exact getD_set_true (hall e he hb)
  · rw [getD_set_ne false hij] at hl
    exact getD_set_true (hc j o hj hl e he hb)

/-- Does an operation wait for another one, straight or through others? -/
def waitsB (ops : Array Oper) : Nat → Nat → Nat → Bool
  | 0, _, _ => false
  | n + 1, j, i => match ops[j]? with
    | none => false
    | some o => o.after.any fun e => Region.binds .any e && (e.on == i || waitsB ops n e.on i)

theorem waits_listed {listed : Array Bool} (hc : Closed ops listed) {i : Nat} : ∀ (n j : Nat) (o : Oper), ops[j]? = some o → (∀ e ∈ o.after, Region.binds .any e = true → listed.getD e.on false = true) → waitsB ops n j i = true → listed.getD i false = true
  | 0, _, _, _, _, h => by simp [waitsB] at h
  | n + 1, j, o, ho, hall, h => by
    simp only [waitsB, ho, Array.any_eq_true'] at h
    obtain ⟨e, he, hx⟩ := h
    simp only [Bool.and_eq_true, Bool.or_eq_true, beq_iff_eq] at hx
    obtain ⟨hb, hx⟩ := hx
    have hl := hall e he hb
    rcases hx with hx | hx
    · rw [← hx]; exact hl
    · cases hq : ops[e.on]? with
      | none => cases n <;> simp [waitsB, hq] at hx
      | some o' => exact waits_listed hc n e.on o' hq (hc e.on o' hq hl) hx

/-- Whatever order is picked from here on; S holds behind each operation that is not among the last ones. -/
def wpAnyG (P : Program) (ops : Array Oper) (Q : Exit → Act → World → Prop) (S : World → Prop) (tl : List Nat) : Nat → Array Bool → Act → World → Prop
  | 0, listed, a, w => Region.ready .any ops listed = [] ∧ Q .normal a w
  | fuel + 1, listed, a, w =>
    (Region.ready .any ops listed = [] → Q .normal a w) ∧
    ∀ i ∈ Region.ready .any ops listed, wpOp P ops Q i (fun a' w' => (tl.contains i = true ∨ S w') ∧ wpAnyG P ops Q S tl fuel (listed.setIfInBounds i true) a' w') a w

theorem wpAny_of_G : ∀ (fuel : Nat) (listed : Array Bool) (a : Act) (w : World), wpAnyG P ops Q S tl fuel listed a w → wpAny P .any ops Q fuel listed a w
  | 0, _, _, _, h => h
  | fuel + 1, _, _, _, h => ⟨h.1, fun i hi => wpOp_mono (fun a' w' h' => wpAny_of_G fuel _ a' w' h'.2) (h.2 i hi)⟩

theorem wpAnyG_take {i : Nat} {oi : Oper} {v : Value} (hi : ops[i]? = some oi) (hsel : Region.noSelect ops = true)
    (hQ : ∀ c a w, Q (.panic c) (a.put oi.dst v) w → Q (.panic c) a w) (ht : ∀ j, tl.contains j = true → waitsB ops ops.size j i = true) :
    ∀ (fuel : Nat) (listed : Array Bool) (a : Act) (w : World), Closed ops listed →
      (∀ j oj, ops[j]? = some oj → j ≠ i → listed.getD j true = false → (∀ e ∈ oj.after, Region.binds .any e = true → e.on ≠ i) → oi.apart ops oj = true) →
      i ∈ Region.ready .any ops listed → YieldsIf P ops S oi v a → S w →
      wpAnyG P ops Q S tl fuel (listed.setIfInBounds i true) (a.put oi.dst v) w → wpAnyG P ops Q S tl (fuel + 1) listed a w := by
  intro fuel
  induction fuel with
  | zero =>
    intro listed a w _ _ hr hy hS H
    refine ⟨fun h => (by rw [h] at hr; cases hr), fun j hj => ?_⟩
    by_cases hji : j = i
    · subst hji; exact hy.wpOp hi hS ⟨.inr hS, H⟩
    · have hm := ready_mono hj hji
      rw [H.1] at hm
      cases hm
  | succ fuel ih =>
    intro listed a w hc hfree hr hy hS H
    refine ⟨fun h => (by rw [h] at hr; cases hr), fun j hj => ?_⟩
    by_cases hji : j = i
    · subst hji; exact hy.wpOp hi hS ⟨.inr hS, H⟩
    · obtain ⟨hjun, oj, hoj, hall⟩ := mem_ready.1 hj
      have hiun := (mem_ready.1 hr).1
      have hno : ¬ listed.getD i false = true := fun h1 => by
        rcases Nat.lt_or_ge i listed.size with h' | h'
        · simp [h'] at h1 hiun; rw [hiun] at h1; cases h1
        · simp [Array.getElem?_eq_none h'] at h1
      have htj : tl.contains j = false := by
        cases hcj : tl.contains j with
        | false => rfl
        | true => exact absurd (waits_listed hc _ j oj hoj hall (ht j hcj)) hno
      have h1 := H.2 j (ready_mono hj hji)
      have hnot : ∀ e ∈ oj.after, Region.binds .any e = true → e.on ≠ i := fun e he hb heq => hno (heq ▸ hall e he hb)
      have h2 := wpOp_putIf hoj (hfree j oj hoj hji hjun hnot) (fun cs b => Region.noSelect_spec hsel i oi cs b hi) (fun cs b => Region.noSelect_spec hsel j oj cs b hoj) hQ hy h1
      have hfree' : ∀ k ok, ops[k]? = some ok → k ≠ i → (listed.setIfInBounds j true).getD k true = false →
          (∀ e ∈ ok.after, Region.binds .any e = true → e.on ≠ i) → oi.apart ops ok = true := fun k ok hk hki hun hn => by
        refine hfree k ok hk hki ?_ hn
        by_cases hjk : j = k
        · subst hjk; exact hjun
        · rw [getD_set_ne true hjk] at hun; exact hun
      refine wpOp_mono (fun a' w' h3 => ?_) h2
      obtain ⟨hy', hor, h4⟩ := h3
      have hS' : S w' := by
        rcases hor with h | h
        · rw [htj] at h; cases h
        · exact h
      refine ⟨.inr hS', ih (listed.setIfInBounds j true) a' w' (hc.set hj) hfree' (ready_mono hr (Ne.symm hji)) hy' hS' ?_⟩
      rw [Array.setIfInBounds_comm _ _ hji]
      exact h4

def wpPlan (P : Program) (ops : Array Oper) (Q : Exit → Act → World → Prop) (S : World → Prop) (tl : List Nat) : List (Nat × Bool) → Act → World → Prop
  | [], a, w => Q .normal a w
  | (i, true) :: rest, a, w => ∃ o v, ops[i]? = some o ∧ YieldsIf P ops S o v a ∧ wpPlan P ops Q S tl rest (a.put o.dst v) w
  | (i, false) :: rest, a, w => ∃ o, ops[i]? = some o ∧ wpList P ops (Exit.then (fun a' w' => (tl.contains i = true ∨ S w') ∧ wpPlan P ops Q S tl rest a' w') Q) [o] a w

/-- The plan is one: 's' says whether S is still known to hold. -/
def planB (ops : Array Oper) (tl : List Nat) : Bool → Array Bool → List (Nat × Bool) → Bool
  | _, listed, [] => (Region.ready .any ops listed).isEmpty
  | s, listed, (i, true) :: r => s && (Region.ready .any ops listed).contains i && Region.free .any ops listed i && tl.all (fun j => waitsB ops ops.size j i) && planB ops tl s (listed.setIfInBounds i true) r
  | s, listed, (i, false) :: r => decide (Region.ready .any ops listed = [i]) && planB ops tl (s && !tl.contains i) (listed.setIfInBounds i true) r

theorem wpList_one {o : Oper} {K : Act → World → Prop} {a : Act} {w : World} (h : wpList P ops (Exit.then K Q) [o] a w) :
    if Region.wanted o (yielded ops a.tmps) then o.wp P a w K Q ∨ (o.asks P a w ∧ LetsOut Q) else K (a.put o.dst undef) w := by
  unfold wpList at h
  have e1 : wpList P ops (Exit.then K Q) [] = K := by funext a' w'; rfl
  rw [e1] at h
  split at h
  · rename_i hw
    rw [if_pos hw]
    rcases h with h | ⟨h1, h2⟩
    · left
      unfold Oper.wp at h ⊢
      generalize (execOp a.eval o).run P w = r at h ⊢
      cases r with
      | ok n w' =>
        cases n <;> simp only [Oper.upon] at h ⊢ <;> exact h
      | halt x w' =>
        cases x <;> simp only [Oper.upon] at h ⊢ <;> exact h
    · exact .inr ⟨h1, h2⟩
  · rename_i hw
    rw [if_neg hw]; exact h

theorem wpAnyG_of_plan (hs : Region.noSelect ops = true) (hQ : ∀ c a d v w, Q (.panic c) (a.put d v) w → Q (.panic c) a w) : ∀ (plan : List (Nat × Bool)) (s : Bool) (fuel : Nat) (listed : Array Bool) (a : Act) (w : World), Closed ops listed →
    plan.length ≤ fuel → planB ops tl s listed plan = true → (s = true → S w) → wpPlan P ops Q S tl plan a w → wpAnyG P ops Q S tl fuel listed a w
  | [], s, fuel, listed, a, w, _, hf, hB, _, h => by
    have hB' : Region.ready .any ops listed = [] := by simpa [planB] using hB
    cases fuel with
    | zero => exact ⟨hB', h⟩
    | succ f => exact ⟨fun _ => h, fun i hi => by rw [hB'] at hi; cases hi⟩
  | (i, true) :: rest, s, fuel, listed, a, w, hc, hf, hB, hS, h => by
    obtain ⟨f, rfl⟩ : ∃ f, fuel = f + 1 := ⟨fuel - 1, by simp at hf; omega⟩
    simp only [planB, Bool.and_eq_true] at hB
    obtain ⟨⟨⟨⟨b1, b2⟩, b3⟩, b4⟩, b5⟩ := hB
    obtain ⟨o, v, ho, hy, hr⟩ := h
    have hr0 : i ∈ Region.ready .any ops listed := by simpa using b2
    have ht : ∀ j, tl.contains j = true → waitsB ops ops.size j i = true := fun j hj => by
      have := List.all_eq_true.1 b4 j (by simpa using hj)
      exact this
    exact wpAnyG_take ho hs (fun c a w h => hQ c a _ v w h) ht f listed a w hc (Region.free_spec ho b3) hr0 hy (hS b1) (wpAnyG_of_plan hs hQ rest s f _ _ w (hc.set hr0) (by simp at hf; omega) b5 hS hr)
  | (i, false) :: rest, s, fuel, listed, a, w, hc, hf, hB, hS, h => by
    obtain ⟨f, rfl⟩ : ∃ f, fuel = f + 1 := ⟨fuel - 1, by simp at hf; omega⟩
    simp only [planB, Bool.and_eq_true, decide_eq_true_eq] at hB
    obtain ⟨o, ho, hr⟩ := h
    have hr0 : i ∈ Region.ready .any ops listed := by rw [hB.1]; simp
    refine ⟨fun h0 => (by rw [h0] at hr0; cases hr0), fun j hj => ?_⟩
    rw [hB.1] at hj
    obtain rfl : j = i := by simpa using hj
    have h1 := wpList_one hr
    have h2 : wpOp P ops Q j (fun a' w' => (tl.contains j = true ∨ S w') ∧ wpPlan P ops Q S tl rest a' w') a w := by
      unfold wpOp; simp only [ho]; exact h1
    refine wpOp_mono (fun a' w' h' => ⟨h'.1, wpAnyG_of_plan hs hQ rest _ f _ a' w' (hc.set hr0) (by simp at hf; omega) hB.2 ?_ h'.2⟩) h2
    intro hs1
    simp only [Bool.and_eq_true, Bool.not_eq_true'] at hs1
    rcases h'.1 with h3 | h3
    · rw [hs1.2] at h3; cases h3
    · exact h3

/-- A region that draws its order, by a plan. -/
theorem wp_region_plan {id : Nat} {a : Act} {w : World} {l : List Oper} (S : World → Prop) (tl : List Nat) (plan : List (Nat × Bool)) (hm : P.follows .mixedOrders = true) (hs : Region.noSelect l.toArray = true)
    (hl : plan.length = l.length) (hB : planB l.toArray tl true (Array.replicate l.length false) plan = true) (hQ : ∀ c a d v w, Q (.panic c) (a.put d v) w → Q (.panic c) a w) (hS : S w.drew)
    (h : wpPlan P l.toArray Q S tl plan a w.drew) : (Code.region id l.toArray true).wp P Q a w :=
  wp_region_any hm (by
    have := wpAnyG_of_plan hs hQ plan true l.length (Array.replicate l.length false) a w.drew (Closed.start _ _) (by omega) hB (fun _ => hS) h
    have := wpAny_of_G _ _ _ _ this
    simpa using this)

theorem plan_nil {a : Act} {w : World} (h : Q .normal a w) : wpPlan P ops Q S tl [] a w := h
theorem at_drop {l : List Oper} {i : Nat} {o : Oper} {r : List Oper} (h : l.drop i = o :: r) : l.toArray[i]? = some o := by
  have : (l.drop i)[0]? = some o := by rw [h]; rfl
  simpa [List.getElem?_drop] using this
variable {l : List Oper}
theorem plan_take {i : Nat} {rest : List (Nat × Bool)} {a : Act} {w : World} {o : Oper} {r : List Oper} {v : Value} (ho : l.drop i = o :: r) (hw : Region.wanted o (yielded l.toArray a.tmps) = true)
    (hr : ∀ w, S w → (execOp a.eval o).run P w = .ok (.value v) w) (h : wpPlan P l.toArray Q S tl rest (a.put o.dst v) w) : wpPlan P l.toArray Q S tl ((i, true) :: rest) a w :=
  ⟨o, v, at_drop ho, .inl ⟨hw, hr⟩, h⟩
theorem plan_skip {i : Nat} {rest : List (Nat × Bool)} {a : Act} {w : World} {o : Oper} {r : List Oper} (ho : l.drop i = o :: r) (hw : Region.wanted o (yielded l.toArray a.tmps) = false)
    (h : wpPlan P l.toArray Q S tl rest (a.put o.dst undef) w) : wpPlan P l.toArray Q S tl ((i, true) :: rest) a w :=
  ⟨o, undef, at_drop ho, .inr ⟨hw, rfl⟩, h⟩
/-- The way back into the plan: closed to the walk. -/
def Back (p : Prop) : Prop := p
theorem Back.out {p : Prop} (h : Back p) : p := h
theorem plan_do {i : Nat} {rest : List (Nat × Bool)} {a : Act} {w : World} {o : Oper} {r : List Oper} (ho : l.drop i = o :: r)
    (h : ∀ K : Act → World → Prop, Back (∀ a' w', (tl.contains i = true ∨ S w') → wpPlan P l.toArray Q S tl rest a' w' → K a' w') → wpList P l.toArray (Exit.then K Q) [o] a w) : wpPlan P l.toArray Q S tl ((i, false) :: rest) a w :=
  ⟨o, at_drop ho, h _ fun _ _ hS hr => ⟨hS, hr⟩⟩
theorem eval_tmp (l : List Value) (ds : List Deferred) (t : Nat) : (Act.eval ⟨l.toArray, ds⟩ (.tmp t)) = l.getD t undef := by simp [Act.eval]
theorem eval_const (a : Act) (v : Value) : a.eval (.const v) = v := rfl

/-- 'move': what a slot holds. -/
theorem plan_move {i : Nat} {rest : List (Nat × Bool)} {a : Act} {w : World} {o : Oper} {r : List Oper} (ho : l.drop i = o :: r) (x : Operand) (hx : o.op = .move x) (hw : Region.wanted o (yielded l.toArray a.tmps) = true)
    (h : wpPlan P l.toArray Q S tl rest (a.put o.dst (a.eval x)) w) : wpPlan P l.toArray Q S tl ((i, true) :: rest) a w :=
  plan_take ho hw (fun w _ => by unfold execOp; rw [hx]; rfl) h
theorem plan_loadAgg {i : Nat} {rest : List (Nat × Bool)} {a : Act} {w : World} {o : Oper} {r : List Oper} (ho : l.drop i = o :: r) (ty : TypeId) (x : Operand) (hx : o.op = .load ty x) (hw : Region.wanted o (yielded l.toArray a.tmps) = true)
    (b off : Nat) (he : a.eval x = .pointer (some ⟨b, off, none⟩)) (v : Value) (hv : ∀ w, S w → (loadVar ty ⟨b, off, none⟩).run P w = .ok v w)
    (h : wpPlan P l.toArray Q S tl rest (a.put o.dst v) w) : wpPlan P l.toArray Q S tl ((i, true) :: rest) a w :=
  plan_take ho hw (fun w hS => by unfold execOp; rw [hx]; simp [he, Instr.loadAt, Instr.sureAddr, hv w hS]) h
end

/-- What a world must meet: these blocks of the call's own stand, whatever else there is. -/
def Keeps (B : Nat) (w0 : World) (M : List Blk) (w : World) : Prop := ∃ L, Hp B w0 w L ∧ ∀ p ∈ M, p ∈ L
theorem Keeps.start {B : Nat} {w0 w : World} {L : List Blk} (h : Hp B w0 w L) (M : List Blk) (hm : ∀ p ∈ M, p ∈ L) : Keeps B w0 M w := ⟨L, h, hm⟩

theorem Keeps.zero {B : Nat} {w0 w : World} {L : List Blk} (h : Hp B w0 w L) : Keeps B w0 [] w := ⟨L, h, by simp⟩
theorem Keeps.one {B : Nat} {w0 w : World} {L : List Blk} (h : Hp B w0 w L) {i : Nat} {p : Blk} (hi : L[i]? = some p) : Keeps B w0 [p] w := ⟨L, h, fun q hq => by
  rw [List.mem_singleton.1 hq]; exact Hp.mem hi⟩
theorem Keeps.two {B : Nat} {w0 w : World} {L : List Blk} (h : Hp B w0 w L) {i j : Nat} {p q : Blk} (hi : L[i]? = some p) (hj : L[j]? = some q) : Keeps B w0 [p, q] w := ⟨L, h, fun r hr => by
  rcases List.mem_cons.1 hr with rfl | hr
  · exact Hp.mem hi
  · rw [List.mem_singleton.1 hr]; exact Hp.mem hj⟩
theorem wp_region_keeps {P : Program} {Q : Exit → Act → World → Prop} {id : Nat} {a : Act} {w w0 : World} {B : Nat} {l : List Oper} (M : List Blk) (hS : Keeps B w0 M w.drew) (tl : List Nat) (plan : List (Nat × Bool)) (hm : P.follows .mixedOrders = true) (hs : Region.noSelect l.toArray = true)
    (hl : plan.length = l.length) (hB : planB l.toArray tl true (Array.replicate l.length false) plan = true) (hQ : ∀ c a d v w, Q (.panic c) (a.put d v) w → Q (.panic c) a w)
    (h : wpPlan P l.toArray Q (Keeps B w0 M) tl plan a w.drew) : (Code.region id l.toArray true).wp P Q a w :=
  wp_region_plan _ tl plan hm hs hl hB hQ hS h

theorem Keeps.loadAgg {P : Program} {B : Nat} {w0 w : World} {M : List Blk} (h : Keeps B w0 M w) {ty : TypeId} {k : Nat} (ha : aggB P ty k = true) {i b : Nat} {l : List Value} {t : TypeId} {n : Nat} (hi : M[i]? = some ⟨b, l, t, n⟩) (off : Nat) (vs : List Value) (hv : (l.drop off).take k = vs) (hk : vs.length = k) :
    (loadVar ty ⟨b, off, none⟩).run P w = .ok (.agg vs.toArray) w := by
  obtain ⟨L, hp, hm⟩ := h
  obtain ⟨j, hj, hjl⟩ := List.getElem_of_mem (hm _ (Hp.mem hi))
  exact hp.loadAgg ha (i := j) (by rw [List.getElem?_eq_getElem hj, hjl]) off vs hv hk
theorem Keeps.loadOne {P : Program} {B : Nat} {w0 w : World} {M : List Blk} (h : Keeps B w0 M w) {ty : TypeId} (ha : cellB P ty = true) {i b : Nat} {l : List Value} {t : TypeId} {n : Nat} (hi : M[i]? = some ⟨b, l, t, n⟩) (off : Nat) (v : Value) (hv : l[off]? = some v) :
    (loadVar ty ⟨b, off, none⟩).run P w = .ok v w := by
  obtain ⟨L, hp, hm⟩ := h
  obtain ⟨j, hj, hjl⟩ := List.getElem_of_mem (hm _ (Hp.mem hi))
  exact hp.loadOne ha (i := j) (by rw [List.getElem?_eq_getElem hj, hjl]) off v hv

/-- Out of a row of cells that was there. -/
theorem Keeps.oldOne {P : Program} {B : Nat} {w0 w : World} {M : List Blk} (h : Keeps B w0 M w) {ty : TypeId} (ha : cellB P ty = true) {b : Nat} (hb : b < B) {l : List Value} (hc : ∀ j v, l[j]? = some v → w0.cell? ⟨b, j, none⟩ = some v) (off : Nat) (v : Value) (hv : l[off]? = some v) :
    (loadVar ty ⟨b, off, none⟩).run P w = .ok v w := by
  obtain ⟨L, hp, _⟩ := h
  obtain ⟨h1, _⟩ := run_isAgg_cell ha w
  have hcc := (hp.below.cell (p := ⟨b, off, none⟩) hb).trans (hc _ _ hv)
  simp [loadVar, Sem.run_bind, h1, load, Sem.run, hcc]
theorem Keeps.oldAgg {P : Program} {B : Nat} {w0 w : World} {M : List Blk} (h : Keeps B w0 M w) {ty : TypeId} {k : Nat} (ha : aggB P ty k = true) {b : Nat} (hb : b < B) {l : List Value} (hc : ∀ j v, l[j]? = some v → w0.cell? ⟨b, j, none⟩ = some v) (off : Nat) (vs : List Value) (hv : (l.drop off).take k = vs) (hk : vs.length = k) :
    (loadVar ty ⟨b, off, none⟩).run P w = .ok (.agg vs.toArray) w := by
  obtain ⟨L, hp, _⟩ := h
  obtain ⟨h1, h2⟩ := run_isAgg_agg ha w
  have := run_loadCells_list (P := P) w ⟨b, off, none⟩ vs (fun j v hj => by
    rw [add_addr]
    refine (hp.below.cell (p := ⟨b, off + j, none⟩) hb).trans (hc _ _ ?_)
    rw [← hv, List.getElem?_take] at hj
    split at hj
    · rw [List.getElem?_drop] at hj; exact hj
    · cases hj)
  rw [hk] at this
  simp [loadVar, Sem.run_bind, h1, h2, this]
/-- The same, of a block of the call's own, as a row that 'was there' for a callee. -/
theorem Hp.row {B : Nat} {w0 w : World} {L : List Blk} (h : Hp B w0 w L) {i b : Nat} {l : List Value} {t : TypeId} {n : Nat} (hi : L[i]? = some ⟨b, l, t, n⟩) : ∀ j v, l[j]? = some v → w.cell? ⟨b, j, none⟩ = some v :=
  fun _ _ hv => h.cell hi hv
/-- An operation whose guard's own operation was not wanted. -/
theorem wanted_nu {ops : List Oper} {l : List Value} {o oj : Oper} {j d : Nat} {want : Bool} {r : List Oper} {r' : List Value} (hg : o.guard = some (j, want)) (hj : ops.drop j = oj :: r) (hd : oj.dst = some d)
    (ht : l.drop d = undef :: r') : Region.wanted o (yielded ops.toArray l.toArray) = false := by
  have h1 : (ops.drop j)[0]? = some oj := by rw [hj]; rfl
  have h2 : (l.drop d)[0]? = some undef := by rw [ht]; rfl
  rw [List.getElem?_drop] at h1 h2
  simp only [Nat.add_zero] at h1 h2
  have : yielded ops.toArray l.toArray j = none := by simp [yielded, h1, hd, h2, undef]
  simp [Region.wanted, hg, this]
theorem Keeps.all {B : Nat} {w0 w : World} {L : List Blk} (h : Hp B w0 w L) : Keeps B w0 L w := ⟨L, h, fun _ hp => hp⟩

theorem Hp.tail {B : Nat} {w0 w : World} {p : Blk} {L : List Blk} (h : Hp B w0 w (p :: L)) : Hp B w0 w L :=
  ⟨h.below, h.size, (List.nodup_cons.1 (by simpa using h.nodup)).2, fun q hq => h.own q (List.mem_cons_of_mem _ hq)⟩

section
variable {P : Program} {Q : Exit → Act → World → Prop} {B : Nat} {w0 : World} {M : List Blk} {tl : List Nat} {i j k b off n : Nat} {rest : List (Nat × Bool)} {a : Act} {w : World} {o : Oper} {lo r : List Oper} {ty t : TypeId} {x : Operand} {l vs : List Value} {v : Value}
theorem pA (ho : lo.drop i = o :: r) (hx : o.op = .load ty x) (he : a.eval x = .pointer (some ⟨b, off, none⟩)) (ha : aggB P ty k = true) (hi : M[j]? = some ⟨b, l, t, n⟩)
    (h : wpPlan P lo.toArray Q (Keeps B w0 M) tl rest (a.put o.dst (.agg vs.toArray)) w) (hw : Region.wanted o (yielded lo.toArray a.tmps) = true := by exact wy) (hv : (l.drop off).take k = vs := by exact rr) (hk : vs.length = k := by rfl) :
    wpPlan P lo.toArray Q (Keeps B w0 M) tl ((i, true) :: rest) a w := plan_loadAgg ho ty x hx hw b off he _ (fun _ hS => hS.loadAgg ha hi off vs hv hk) h
theorem pO (ho : lo.drop i = o :: r) (hx : o.op = .load ty x) (he : a.eval x = .pointer (some ⟨b, off, none⟩)) (ha : cellB P ty = true) (hi : M[j]? = some ⟨b, l, t, n⟩)
    (h : wpPlan P lo.toArray Q (Keeps B w0 M) tl rest (a.put o.dst v) w) (hw : Region.wanted o (yielded lo.toArray a.tmps) = true := by exact wy) (hv : l[off]? = some v := by rfl) :
    wpPlan P lo.toArray Q (Keeps B w0 M) tl ((i, true) :: rest) a w := plan_loadAgg ho ty x hx hw b off he _ (fun _ hS => hS.loadOne ha hi off v hv) h
/-- What stands is kept: all of it, or all but what has come on. -/
theorem kall {B : Nat} {w0 w : World} {L M : List Blk} (hp : Hp B w0 w L) (hm : ∀ p ∈ M, p ∈ L := by first | exact fun p h => h | exact fun p h => List.mem_cons_of_mem _ h | exact fun p h => List.mem_cons_of_mem _ (List.mem_cons_of_mem _ h) | exact fun p h => by (simp only [List.mem_cons, List.mem_append] at h ⊢; rcases h with h | h | h <;> simp [h]) | exact fun p h => by (simp only [List.mem_cons, List.mem_append] at h ⊢; rcases h with h | h | h | h <;> simp [h])) : Keeps B w0 M w := ⟨L, hp, hm⟩
end
end Go.Proofs.Ytbflmnoaiklnbaa
