/- The frame of a law's row: arguments by their cells, and the end 'true; each argument reads as it did' out of 'Below'. No program in sight. -/
import Derived.WalkKit
import Derived.ProofKit
import Derived.OpenShut
set_option linter.unusedSimpArgs false
set_option linter.unusedVariables false
namespace Go.Proofs.Ytbflmnoaiklnbaa
open Go.RowKit Go.ChangeShapes Go.WideShapes Go.ChangeAt

def AllCells (P : Program) (W : World) (r : Reach) (b : Nat) : List TypeId → List Value → Prop
  | [], [] => True
  | t :: ts, v :: vs => Cell.okWide P W r b t v ∧ AllCells P W r b ts vs
  | _, _ => False

theorem allCells_of {P : Program} {W : World} {r : Reach} {b : Nat} : ∀ (ts : List TypeId) (cs : List Value), cs.length = ts.length →
    (∀ (i : Nat) (v : Value) (u : TypeId), cs[i]? = some v → ts[i]? = some u → Cell.okWide P W r b u v) → AllCells P W r b ts cs
  | [], [], _, _ => trivial
  | [], _ :: _, h, _ => by simp at h
  | _ :: _, [], h, _ => by simp at h
  | t :: ts, v :: vs, h, H => ⟨H 0 v t rfl rfl, allCells_of ts vs (by simpa using h) fun i x u hx hu => H (i + 1) x u (by simpa using hx) (by simpa using hu)⟩

theorem open_agg {P : Program} {W : World} {r : Reach} {b : Nat} {t : TypeId} {v : Value} {fs : Array Field} {ts : List TypeId} (hs : P.underlying t = some (.struct fs)) (hts : P.cellTypes P.depth t = some ts)
    (hC : P.cellsOf t = ts.length) (hv : Value.okWide P W r b t v) : ∃ cs : List Value, v = .agg cs.toArray ∧ AllCells P W r b ts cs := by
  simp only [Value.okWide, hs] at hv
  obtain ⟨cs, rfl, hsz, ts', hts', _, hall⟩ := hv
  rw [hts] at hts'
  obtain rfl := Option.some.inj hts'
  refine ⟨cs.toList, by simp, allCells_of _ _ (by simp [hsz, hC]) fun i v u hi hu => ?_⟩
  have hi' : cs[i]? = some v := by simpa using hi
  obtain ⟨u', hu', hc⟩ := hall i v hi'
  have hlt : i < ts.length := by
    have := (Array.getElem?_eq_some_iff.1 hi').1
    omega
  rw [Nat.mod_eq_of_lt hlt] at hu'
  rw [hu] at hu'
  obtain rfl := Option.some.inj hu'
  exact hc

theorem all_nil {P : Program} {W : World} {r : Reach} {b : Nat} {cs : List Value} (h : AllCells P W r b [] cs) : cs = [] := by
  cases cs with
  | nil => rfl
  | cons => exact h.elim

theorem all_int {P : Program} {W : World} {r : Reach} {b : Nat} {t : TypeId} {ts : List TypeId} {cs : List Value} {k : IntKind} (hu : P.underlying t = some (.int k)) (h : AllCells P W r b (t :: ts) cs) :
    ∃ n cs', cs = .int k n :: cs' ∧ k.has n ∧ AllCells P W r b ts cs' := by
  cases cs with
  | nil => exact h.elim
  | cons v vs =>
    obtain ⟨h1, h2⟩ := h
    unfold Cell.okWide at h1
    rw [hu] at h1
    cases v <;> simp [Cell.ok, hu] at h1
    obtain ⟨rfl, h1⟩ := h1
    exact ⟨_, vs, rfl, h1, h2⟩

theorem all_bool {P : Program} {W : World} {r : Reach} {b : Nat} {t : TypeId} {ts : List TypeId} {cs : List Value} (hu : P.underlying t = some .bool) (h : AllCells P W r b (t :: ts) cs) :
    ∃ x cs', cs = .bool x :: cs' ∧ AllCells P W r b ts cs' := by
  cases cs with
  | nil => exact h.elim
  | cons v vs =>
    obtain ⟨h1, h2⟩ := h
    unfold Cell.okWide at h1
    rw [hu] at h1
    cases v <;> simp [Cell.ok, hu] at h1
    exact ⟨_, vs, rfl, h2⟩

theorem all_string {P : Program} {W : World} {r : Reach} {b : Nat} {t : TypeId} {ts : List TypeId} {cs : List Value} (hu : P.underlying t = some .string) (h : AllCells P W r b (t :: ts) cs) :
    ∃ s cs', cs = .string s :: cs' ∧ (s.size : Int) ≤ 9223372036854775807 ∧ AllCells P W r b ts cs' := by
  cases cs with
  | nil => exact h.elim
  | cons v vs =>
    obtain ⟨h1, h2⟩ := h
    unfold Cell.okWide at h1
    rw [hu] at h1
    cases v <;> simp [Cell.ok, hu] at h1
    exact ⟨_, vs, rfl, h1, h2⟩

theorem all_slice {P : Program} {W : World} {r : Reach} {b : Nat} {t e : TypeId} {ts : List TypeId} {cs : List Value} (hu : P.underlying t = some (.slice e)) (h : AllCells P W r b (t :: ts) cs) :
    ∃ a n k cs', cs = .slice a n k :: cs' ∧ Cell.okWide P W r b t (.slice a n k) ∧ AllCells P W r b ts cs' := by
  cases cs with
  | nil => exact h.elim
  | cons v vs =>
    obtain ⟨h1, h2⟩ := h
    have h1' := h1
    unfold Cell.okWide at h1
    rw [hu] at h1
    cases v <;> simp [Cell.ok, hu] at h1
    exact ⟨_, _, _, vs, rfl, h1', h2⟩

theorem ok_int {P : Program} {W : World} {r : Reach} {b : Nat} {t : TypeId} {v : Value} {k : IntKind} (hu : P.underlying t = some (.int k)) (hv : Value.okWide P W r b t v) : ∃ n, v = .int k n ∧ k.has n := by
  simp only [Value.okWide, hu] at hv
  unfold Cell.okWide at hv
  rw [hu] at hv
  cases v <;> simp [Cell.ok, hu] at hv
  obtain ⟨rfl, hv⟩ := hv
  exact ⟨_, rfl, hv⟩
theorem ok_bool {P : Program} {W : World} {r : Reach} {b : Nat} {t : TypeId} {v : Value} (hu : P.underlying t = some .bool) (hv : Value.okWide P W r b t v) : ∃ x, v = .bool x := by
  simp only [Value.okWide, hu] at hv
  unfold Cell.okWide at hv
  rw [hu] at hv
  cases v <;> simp [Cell.ok, hu] at hv
  exact ⟨_, rfl⟩

section
variable {H : Type} {enc : TypeId × Value → H} {P : Program}
theorem trodAll_below (hl : laidOutB P = true) {W W' : World} (hb : Below W.heap.size W W') : ∀ (ts : List TypeId) (vs : List Value) (ds : List (DataW H)) (ps : List MemPlace),
    (∀ t ∈ ts, P.readableRec t = true ∧ t < P.types.size) → (∀ x ∈ ps, x.block < W.heap.size) →
    DataW.TrodAll enc P W 0 (fun _ => true) true ts vs ds ps → DataW.TrodAll enc P W' 0 (fun b => decide (b < W.heap.size)) true ts vs ds ps
  | [], vs, ds, ps, _, _, h => by
    obtain ⟨rfl, rfl, rfl⟩ := trodAll_nil h
    exact trodAll_mk0
  | t :: ts, vs, ds, ps, hr, hlt, h => by
    obtain ⟨v, vs', d, ds', p, q, rfl, rfl, rfl, h0, h1⟩ := trodAll_cons h
    have hr0 := hr t (by simp)
    exact trodAll_cons_mk (Below.trod hl hr0.1 hr0.2 h0 hb (fun x hx => hlt x (by simp [hx]))) (trodAll_below hl hb ts vs' ds' q (fun u hu => hr u (by simp [hu])) (fun x hx => hlt x (by simp [hx])) h1)

/-- THE END OF A LAW: true; each argument reads as it did. -/
theorem post_law {f : Func} {s : ChangeSpec} {W W' : World} {args : Array Value} {ds gs : List (DataW H)} {before : List MemPlace} {tb : TypeId} (hl : laidOutB P = true)
    (hr : ∀ t ∈ f.params.toList, P.readableRec t = true ∧ t < P.types.size) (hv : s.vars = []) (hres : f.resultTypes = #[tb]) (hu : P.underlying tb = some .bool)
    (hfn : s.fn H (ds ++ gs) = { results := [.lit (.bool true)], args := ds })
    (hW : DataW.Whole enc P f.params.toList s.vars false W args.toList ds gs before) (hb : Below W.heap.size W W') :
    s.post enc P f false true false false W args (.bool true) W' := by
  have hW' := hW
  obtain ⟨p, q, hA, hV, rfl, _, _⟩ := hW
  rw [hv] at hV
  obtain ⟨rfl, rfl⟩ := trodVars_none hV
  have hlt : ∀ x ∈ p, x.block < W.heap.size := fun x hx => hW'.lt x (by simp [hx])
  refine ⟨ds, [], p ++ [], [], p, [], hW', ?_, ?_, ?_, World.keptBut_mono (fun x hx => ⟨hx, .inr (.inl (by simpa using hx))⟩) (hb.frame (· ∈ p ++ [])), fun h => by cases h⟩
  · rw [hfn, hres]
    exact trodAll_mk1 (shut_bool hu true)
  · rw [hfn]
    exact trodAll_below hl hb _ _ _ _ hr hlt hA
  · rw [hfn, hv]; trivial
end
end Go.Proofs.Ytbflmnoaiklnbaa
