/- The call's own blocks as a list beside a world that is a variable: laws on alloc, box, load, store and calls over it. No program in sight. -/
import Derived.WalkKit
import Derived.WalkSpells
import Derived.WalkLawsBesides
set_option linter.unusedSimpArgs false
set_option linter.unusedVariables false
namespace Go.Proofs.Ytbflmnoaiklnbaa
open Go.RowKit

/-- A block of the call's own: its number, the cells that are known (the first ones), the element type, how many cells there are in all. -/
structure Blk where
  id : Nat
  l : List Value
  t : TypeId
  n : Nat

structure Hp (B : Nat) (w0 w : World) (L : List Blk) : Prop where
  below : Below B w0 w
  size : B ≤ w.heap.size
  nodup : (L.map (·.id)).Nodup
  own : ∀ p ∈ L, B ≤ p.id ∧ ∃ c, w.heap[p.id]? = some (.cells c p.t) ∧ c.size = p.n ∧ c.toList.take p.l.length = p.l

theorem Hp.start (w : World) : Hp w.heap.size w w [] := ⟨Below.refl _ _, Nat.le_refl _, by simp, by simp⟩

theorem lt_of_heap {w : World} {b : Nat} {o : Obj} (h : w.heap[b]? = some o) : b < w.heap.size := (Array.getElem?_eq_some_iff.1 h).1

theorem Hp.lt {B : Nat} {w0 w : World} {L : List Blk} (h : Hp B w0 w L) {p : Blk} (hp : p ∈ L) : B ≤ p.id ∧ p.id < w.heap.size := by
  obtain ⟨h1, c, h2, _⟩ := h.own p hp
  exact ⟨h1, lt_of_heap h2⟩

/-- What a callee leaves: nothing that was there has turned. -/
theorem Hp.call {B : Nat} {w0 w w' : World} {L : List Blk} (h : Hp B w0 w L) (hb : Below w.heap.size w w') : Hp B w0 w' L :=
  ⟨h.below.trans (hb.mono h.size), Nat.le_trans h.size hb.size, h.nodup, fun p hp => by
    obtain ⟨h1, c, h2, h3⟩ := h.own p hp
    exact ⟨h1, c, (hb.block p.id (lt_of_heap h2)).trans h2, h3⟩⟩

theorem Hp.drew {B : Nat} {w0 w : World} {L : List Blk} (h : Hp B w0 w L) : Hp B w0 w.drew L :=
  ⟨h.below.drew, h.size, h.nodup, h.own⟩

theorem Hp.drewN {B : Nat} {w0 w : World} {L : List Blk} (h : Hp B w0 w L) (n : Nat) : Hp B w0 (w.drewN n) L :=
  h.call ⟨rfl, rfl, rfl, Nat.le_refl _, fun _ _ => rfl⟩

theorem Hp.alloc {B : Nat} {w0 w : World} {L : List Blk} (h : Hp B w0 w L) (c : Array Value) (l : List Value) (t : TypeId) (n : Nat) (hn : c.size = n) (hl : c.toList.take l.length = l) :
    Hp B w0 (w.alloc (.cells c t)) (⟨w.heap.size, l, t, n⟩ :: L) := by
  refine ⟨h.below.alloc h.size _, by simp; exact Nat.le_succ_of_le h.size, ?_, ?_⟩
  · simp only [List.map_cons, List.nodup_cons]
    refine ⟨?_, h.nodup⟩
    intro hm
    obtain ⟨p, hp, he⟩ := List.mem_map.1 hm
    have := (h.lt hp).2
    omega
  · intro p hp
    rcases List.mem_cons.1 hp with rfl | hp
    · exact ⟨h.size, c, heap_alloc_new w _, hn, hl⟩
    · obtain ⟨h1, c', h2, h3⟩ := h.own p hp
      exact ⟨h1, c', (heap_alloc_old w _ (lt_of_heap h2)).trans h2, h3⟩

theorem Hp.mem {L : List Blk} {i : Nat} {p : Blk} (hi : L[i]? = some p) : p ∈ L := List.mem_of_getElem? hi

theorem take_getElem? {l c : List Value} (h : c.take l.length = l) {i : Nat} {v : Value} (hi : l[i]? = some v) : c[i]? = some v := by
  have hlt : i < l.length := (List.getElem?_eq_some_iff.1 hi).1
  rw [← h, List.getElem?_take, if_pos hlt] at hi
  exact hi

theorem Hp.cell {B : Nat} {w0 w : World} {L : List Blk} (h : Hp B w0 w L) {i b : Nat} {l : List Value} {t : TypeId} {n : Nat} (hi : L[i]? = some ⟨b, l, t, n⟩) {off : Nat} {v : Value} (hv : l[off]? = some v) :
    w.cell? ⟨b, off, none⟩ = some v := by
  obtain ⟨_, c, h2, _, h4⟩ := h.own _ (Hp.mem hi)
  have := take_getElem? h4 hv
  simp [World.cell?, h2] at this ⊢
  exact this

theorem Hp.free {B : Nat} {w0 w : World} {L : List Blk} (h : Hp B w0 w L) {i b : Nat} {l : List Value} {t : TypeId} {n : Nat} (hi : L[i]? = some ⟨b, l, t, n⟩) (off : Nat) :
    w.frozen? ⟨b, off, none⟩ = false := by
  obtain ⟨_, c, h2, _⟩ := h.own _ (Hp.mem hi)
  simp [World.frozen?, h2]

theorem nodup_ids {L : List Blk} (h : (L.map (·.id)).Nodup) {i j : Nat} {p q : Blk} (hi : L[i]? = some p) (hj : L[j]? = some q) (he : p.id = q.id) : i = j := by
  have a1 : i < (L.map (·.id)).length := by simpa using (List.getElem?_eq_some_iff.1 hi).1
  refine (List.getElem?_inj a1 h).1 ?_
  simp [List.getElem?_map, hi, hj, he]

theorem take_set (c l : List Value) (off : Nat) (v : Value) (h : c.take l.length = l) : (c.set off v).take (l.set off v).length = l.set off v := by
  rw [List.length_set, List.take_set, h]

theorem set_same {α : Type} {L : List α} {i : Nat} {x : α} (h : L[i]? = some x) : L.set i x = L := by
  apply List.ext_getElem?
  intro j
  rw [List.getElem?_set]
  split
  · rename_i hj; subst hj
    have him : i < L.length := (List.getElem?_eq_some_iff.1 h).1
    rw [if_pos him, h]
  · rfl

theorem Hp.setCell {B : Nat} {w0 w : World} {L : List Blk} (h : Hp B w0 w L) {i b : Nat} {l : List Value} {t : TypeId} {n : Nat} (hi : L[i]? = some ⟨b, l, t, n⟩) (off : Nat) (v : Value) :
    Hp B w0 (w.setCell ⟨b, off, none⟩ v) (L.set i ⟨b, l.set off v, t, n⟩) := by
  have hlt := h.lt (Hp.mem hi)
  have him : i < L.length := (List.getElem?_eq_some_iff.1 hi).1
  refine ⟨h.below.setCell hlt.1 _, by simpa using h.size, ?_, ?_⟩
  · have : (L.set i ⟨b, l.set off v, t, n⟩).map (·.id) = L.map (·.id) := by
      rw [List.map_set]
      exact set_same (by simp [List.getElem?_map, hi])
    rw [this]; exact h.nodup
  · intro p hp
    obtain ⟨k, hk, hpk⟩ := List.getElem_of_mem hp
    have hk' : (L.set i ⟨b, l.set off v, t, n⟩)[k]? = some p := by rw [List.getElem?_eq_getElem hk, hpk]
    rw [List.getElem?_set] at hk'
    split at hk'
    · rename_i hik
      subst hik
      cases hk'
      obtain ⟨h1, c, h2, h3, h4⟩ := h.own _ (Hp.mem hi)
      refine ⟨h1, c.setIfInBounds off v, ?_, by simpa using h3, ?_⟩
      · exact heap_setCell_same w b off c t v h2
      · rw [Array.toList_setIfInBounds]
        exact take_set _ _ _ _ h4
    · rename_i hik
      obtain ⟨h1, c, h2, h3⟩ := h.own _ (Hp.mem hk')
      refine ⟨h1, c, ?_, h3⟩
      rw [heap_setCell_other]
      · exact h2
      · intro e
        exact hik (nodup_ids h.nodup hi hk' e.symm)

/-- A row of cells stored from a place on. -/
def spl (l : List Value) (off : Nat) : List Value → List Value
  | [] => l
  | v :: vs => spl (l.set off v) (off + 1) vs

theorem spl_append (vs : List Value) : ∀ (l1 l2 : List Value), l2.length = vs.length → spl (l1 ++ l2) l1.length vs = l1 ++ vs := by
  induction vs with
  | nil => intro l1 l2 h; simp at h; subst h; rfl
  | cons v vs ih =>
    intro l1 l2 h
    match l2, h with
    | x :: l2, h =>
      simp only [spl]
      have := ih (l1 ++ [v]) l2 (by simpa using h)
      simp only [List.append_assoc, List.singleton_append, List.length_append, List.length_singleton] at this
      rw [← this]
      congr 1
      rw [List.set_append]
      simp

theorem spl_all (l vs : List Value) (h : l.length = vs.length) : spl l 0 vs = vs := by
  simpa using spl_append vs [] l h

theorem length_spl (vs : List Value) : ∀ (l : List Value) (off : Nat), (spl l off vs).length = l.length := by
  induction vs with
  | nil => intros; rfl
  | cons v vs ih => intro l off; simp only [spl]; rw [ih]; simp

theorem add_addr (b off j : Nat) : (⟨b, off, none⟩ : Addr).add j = ⟨b, off + j, none⟩ := by
  unfold Addr.add; split <;> simp_all

section
variable {P : Program}

theorem Hp.storeCells {B : Nat} {w0 : World} {b : Nat} {t : TypeId} {n i : Nat} (off : Nat) (vs : List Value) : ∀ (w : World) (L : List Blk) (l : List Value) (k : Nat), Hp B w0 w L → L[i]? = some ⟨b, l, t, n⟩ →
    off + k + vs.length ≤ l.length → vs.all (·.oneCell') = true →
    ∃ w', (Go.storeCells ⟨b, off, none⟩ vs k).run P w = .ok () w' ∧ Hp B w0 w' (L.set i ⟨b, spl l (off + k) vs, t, n⟩) := by
  induction vs with
  | nil =>
    intro w L l k h hi _ _
    refine ⟨w, rfl, ?_⟩
    have : L.set i ⟨b, spl l (off + k) [], t, n⟩ = L := set_same hi
    rw [this]; exact h
  | cons v vs ih =>
    intro w L l k h hi hlen hone
    simp only [List.all_cons, Bool.and_eq_true] at hone
    have him : i < L.length := (List.getElem?_eq_some_iff.1 hi).1
    have h1 := h.setCell hi (off + k) v
    have hi' : (L.set i ⟨b, l.set (off + k) v, t, n⟩)[i]? = some ⟨b, l.set (off + k) v, t, n⟩ := by simp [him]
    obtain ⟨w', hr, hp'⟩ := ih _ _ _ (k + 1) h1 hi' (by simp at hlen ⊢; omega) hone.2
    have hlt : off + k < l.length := by simp at hlen; omega
    have hc := h.cell hi (off := off + k) (v := l[off + k]) (by simp [hlt])
    have hf := h.free hi (off + k)
    refine ⟨w', ?_, ?_⟩
    · have hst : (store (⟨b, off + k, none⟩ : Addr) v).run P w = .ok () (w.setCell ⟨b, off + k, none⟩ v) := by
        cases v <;> simp_all [store, Sem.run, Value.oneCell']
      simp only [Go.storeCells, add_addr, Sem.run_bind, hst, Result.andThen_ok]
      exact hr
    · simpa [spl, Nat.add_assoc, List.set_set] using hp'

theorem Hp.loadCells {B : Nat} {w0 w : World} {L : List Blk} (h : Hp B w0 w L) {i b : Nat} {l : List Value} {t : TypeId} {n : Nat} (hi : L[i]? = some ⟨b, l, t, n⟩) (off k : Nat) (vs : List Value) (hv : (l.drop off).take k = vs) (hk : vs.length = k) :
    (Go.loadCells ⟨b, off, none⟩ k).run P w = .ok vs.toArray w := by
  have := run_loadCells_list (P := P) w ⟨b, off, none⟩ vs (fun j v hj => by
    rw [add_addr]
    refine h.cell hi ?_
    rw [← hv, List.getElem?_take] at hj
    split at hj
    · rw [List.getElem?_drop] at hj; exact hj
    · cases hj)
  rw [hk] at this
  exact this

/-- A type of structs or arrays, of n cells. -/
def aggB (P : Program) (t : TypeId) (n : Nat) : Bool := (match P.underlying t with | some (.struct _) | some (.array _ _) => true | _ => false) && ((P.info? t).map (·.size) == some n)
/-- A type of one cell. -/
def cellB (P : Program) (t : TypeId) : Bool := (match P.underlying t with | some (.struct _) | some (.array _ _) => false | some _ => true | _ => false) && ((P.info? t).map (·.size) == some 1)
def zeroL (P : Program) (t : TypeId) : Option (List Value × Nat) := ((P.info? t).bind (·.zero)).map fun z => (z.cells.toList, z.cells.size)

theorem run_isAgg_agg {t : TypeId} {n : Nat} (h : aggB P t n = true) (w : World) : (isAgg t).run P w = .ok true w ∧ (sizeOf t).run P w = .ok n w := by
  simp only [aggB, Bool.and_eq_true, beq_iff_eq] at h
  obtain ⟨h1, h2⟩ := h
  refine ⟨?_, ?_⟩
  · cases hu : P.underlying t with
    | none => simp [hu] at h1
    | some d =>
      rw [hu] at h1
      cases d <;> simp at h1 <;> simp [isAgg, Sem.run_bind, run_underlying hu w]
  · cases hq : P.info? t with
    | none => simp [hq] at h2
    | some i => simp [hq] at h2; simp [sizeOf, typeInfo, hq, h2]

theorem run_isAgg_cell {t : TypeId} (h : cellB P t = true) (w : World) : (isAgg t).run P w = .ok false w ∧ (sizeOf t).run P w = .ok 1 w := by
  simp only [cellB, Bool.and_eq_true, beq_iff_eq] at h
  obtain ⟨h1, h2⟩ := h
  refine ⟨?_, ?_⟩
  · cases hu : P.underlying t with
    | none => simp [hu] at h1
    | some d =>
      rw [hu] at h1
      cases d <;> simp at h1 <;> simp [isAgg, Sem.run_bind, run_underlying hu w]
  · cases hq : P.info? t with
    | none => simp [hq] at h2
    | some i => simp [hq] at h2; simp [sizeOf, typeInfo, hq, h2]

theorem Hp.loadAgg {B : Nat} {w0 w : World} {L : List Blk} (h : Hp B w0 w L) {ty : TypeId} {k : Nat} (ha : aggB P ty k = true) {i b : Nat} {l : List Value} {t : TypeId} {n : Nat} (hi : L[i]? = some ⟨b, l, t, n⟩) (off : Nat) (vs : List Value) (hv : (l.drop off).take k = vs) (hk : vs.length = k) :
    (loadVar ty ⟨b, off, none⟩).run P w = .ok (.agg vs.toArray) w := by
  obtain ⟨h1, h2⟩ := run_isAgg_agg ha w
  simp [loadVar, Sem.run_bind, h1, h2, h.loadCells hi off k vs hv hk]

theorem Hp.loadOne {B : Nat} {w0 w : World} {L : List Blk} (h : Hp B w0 w L) {ty : TypeId} (ha : cellB P ty = true) {i b : Nat} {l : List Value} {t : TypeId} {n : Nat} (hi : L[i]? = some ⟨b, l, t, n⟩) (off : Nat) (v : Value) (hv : l[off]? = some v) :
    (loadVar ty ⟨b, off, none⟩).run P w = .ok v w := by
  obtain ⟨h1, _⟩ := run_isAgg_cell ha w
  have hc := h.cell hi hv
  simp [loadVar, Sem.run_bind, h1, load, Sem.run, hc]

theorem Hp.storeAgg {B : Nat} {w0 w : World} {L : List Blk} (h : Hp B w0 w L) {ty : TypeId} {k : Nat} (ha : aggB P ty k = true) {i b : Nat} {l : List Value} {t : TypeId} {n : Nat} (hi : L[i]? = some ⟨b, l, t, n⟩) (off : Nat) (vs : List Value) (hk : vs.length = k) (ho : off + k ≤ l.length) (h1 : vs.all (·.oneCell') = true) :
    ∃ w', (storeVar ty ⟨b, off, none⟩ (.agg vs.toArray)).run P w = .ok () w' ∧ Hp B w0 w' (L.set i ⟨b, spl l off vs, t, n⟩) := by
  obtain ⟨_, h2⟩ := run_isAgg_agg ha w
  obtain ⟨w', hr, hp⟩ := Hp.storeCells (P := P) off vs w L l 0 h hi (by omega) h1
  refine ⟨w', ?_, by simpa using hp⟩
  simp [storeVar, Sem.run_bind, h2, Value.cells, hk, hr]

theorem Hp.storeOne {B : Nat} {w0 w : World} {L : List Blk} (h : Hp B w0 w L) {ty : TypeId} (ha : cellB P ty = true) {i b : Nat} {l : List Value} {t : TypeId} {n : Nat} (hi : L[i]? = some ⟨b, l, t, n⟩) (off : Nat) (v : Value) (ho : off < l.length) (h1 : v.oneCell' = true) :
    ∃ w', (storeVar ty ⟨b, off, none⟩ v).run P w = .ok () w' ∧ Hp B w0 w' (L.set i ⟨b, l.set off v, t, n⟩) := by
  obtain ⟨_, h2⟩ := run_isAgg_cell ha w
  obtain ⟨w', hr, hp⟩ := Hp.storeCells (P := P) off [v] w L l 0 h hi (by simp; omega) (by simp [h1])
  have hcs : v.cells = #[v] := by cases v <;> simp_all [Value.oneCell', Value.cells]
  refine ⟨w', ?_, by simpa [spl] using hp⟩
  simp [storeVar, Sem.run_bind, h2, hcs, hr]

/-! ### The laws at a list of operations. 'hw': the guard, if there is one, says yes. -/
section
variable {ops : Array Oper} {rest : List Oper} {o : Oper} {a : Act} {w : World} {Q : Exit → Act → World → Prop} {B : Nat} {w0 : World} {L : List Blk}

theorem wpList_skip' (hw : Region.wanted o (yielded ops a.tmps) = false) (h : wpList P ops Q rest (a.put o.dst undef) w) : wpList P ops Q (o :: rest) a w := by
  simp only [wpList, hw]; exact h

theorem wpList_cases {j : Nat} {want t : Bool} (hg : o.guard = some (j, want)) (hy : yielded ops a.tmps j = some t)
    (h1 : t = want → Region.wanted o (yielded ops a.tmps) = true → wpList P ops Q (o :: rest) a w) (h2 : t = !want → wpList P ops Q rest (a.put o.dst undef) w) : wpList P ops Q (o :: rest) a w := by
  by_cases ht : t = want
  · exact h1 ht (by simp [Region.wanted, hg, hy, ht])
  · refine wpList_skip' ?_ (h2 (by cases t <;> cases want <;> simp_all))
    simp [Region.wanted, hg, hy, ht]

theorem wpList_alloc_hp (hp : Hp B w0 w L) (e : TypeId) (ho : o.op = .alloc e) (hw : Region.wanted o (yielded ops a.tmps) = true) (l : List Value) (n : Nat) (hz : zeroL P e = some (l, n))
    (h : ∀ b w', Hp B w0 w' (⟨b, l, e, n⟩ :: L) → wpList P ops Q rest (a.put o.dst (.pointer (some ⟨b, 0, none⟩))) w') : wpList P ops Q (o :: rest) a w := by
  refine BigFrame.wpList_want hw fun K hK => ?_
  unfold Oper.wp execOp
  unfold zeroL at hz
  cases hq : P.info? e with
  | none => simp [hq] at hz
  | some inf =>
    cases hzz : inf.zero with
    | none => simp [hq, hzz] at hz
    | some z =>
      simp [hq, hzz] at hz
      have hr : (Instr.alloc e true (.tuple #[])).run P w = .ok (.pointer (some ⟨w.heap.size, 0, none⟩)) (w.alloc (.cells z.cells e)) := by
        simp [Instr.alloc, zeroValue, typeInfo, hq, hzz, newVar, newRow, newObj]; rfl
      simp only [ho, Sem.run_bind, hr, Result.andThen_ok, Sem.run_pure]
      exact hK _ _ (h _ _ (hp.alloc _ l e n (by simp [← hz.2]) (by rw [← hz.1]; exact List.take_of_length_le (Nat.le_refl _))))

theorem wpList_box_hp (hp : Hp B w0 w L) (e : TypeId) (x : Operand) (ho : o.op = .box e x) (hw : Region.wanted o (yielded ops a.tmps) = true) (v : Value) (hv : a.eval x = v) (l : List Value) (hx : v.cells = l.toArray) (n : Nat) (hn : l.length = n)
    (h : ∀ b w', Hp B w0 w' (⟨b, l, e, n⟩ :: L) → wpList P ops Q rest (a.put o.dst (.pointer (some ⟨b, 0, none⟩))) w') : wpList P ops Q (o :: rest) a w := by
  refine BigFrame.wpList_want hw fun K hK => ?_
  unfold Oper.wp execOp
  subst hv
  have hr : (Instr.box e (a.eval x)).run P w = .ok (.pointer (some ⟨w.heap.size, 0, none⟩)) (w.alloc (.cells l.toArray e)) := by
    simp [Instr.box, newVar, newRow, newObj, hx]; rfl
  simp only [ho, Sem.run_bind, hr, Result.andThen_ok, Sem.run_pure]
  exact hK _ _ (h _ _ (hp.alloc _ l e n (by simp [hn]) (by simp)))

theorem wpList_loadAgg_hp (hp : Hp B w0 w L) (ty : TypeId) (x : Operand) (ho : o.op = .load ty x) (hw : Region.wanted o (yielded ops a.tmps) = true) (b off : Nat) (hx : a.eval x = .pointer (some ⟨b, off, none⟩))
    (k : Nat) (ha : aggB P ty k = true) (i : Nat) (l : List Value) (t : TypeId) (n : Nat) (hi : L[i]? = some ⟨b, l, t, n⟩) (vs : List Value) (hv : (l.drop off).take k = vs) (hk : vs.length = k)
    (h : wpList P ops Q rest (a.put o.dst (.agg vs.toArray)) w) : wpList P ops Q (o :: rest) a w := by
  refine BigFrame.wpList_want hw fun K hK => ?_
  unfold Oper.wp execOp
  simp only [ho, hx, Instr.loadAt, Instr.sureAddr, Sem.run_bind, Sem.run_pure, Result.andThen_ok, hp.loadAgg ha hi off vs hv hk]
  exact hK _ _ h

theorem wpList_loadOne_hp (hp : Hp B w0 w L) (ty : TypeId) (x : Operand) (ho : o.op = .load ty x) (hw : Region.wanted o (yielded ops a.tmps) = true) (b off : Nat) (hx : a.eval x = .pointer (some ⟨b, off, none⟩))
    (ha : cellB P ty = true) (i : Nat) (l : List Value) (t : TypeId) (n : Nat) (hi : L[i]? = some ⟨b, l, t, n⟩) (v : Value) (hv : l[off]? = some v)
    (h : wpList P ops Q rest (a.put o.dst v) w) : wpList P ops Q (o :: rest) a w := by
  refine BigFrame.wpList_want hw fun K hK => ?_
  unfold Oper.wp execOp
  simp only [ho, hx, Instr.loadAt, Instr.sureAddr, Sem.run_bind, Sem.run_pure, Result.andThen_ok, hp.loadOne ha hi off v hv]
  exact hK _ _ h

/-- A load out of memory that was there. -/
theorem wpList_loadOld_hp (hp : Hp B w0 w L) (ty : TypeId) (x : Operand) (ho : o.op = .load ty x) (hw : Region.wanted o (yielded ops a.tmps) = true) (b off : Nat) (hx : a.eval x = .pointer (some ⟨b, off, none⟩))
    (ha : cellB P ty = true) (hb : b < B) (v : Value) (hv : w0.cell? ⟨b, off, none⟩ = some v)
    (h : wpList P ops Q rest (a.put o.dst v) w) : wpList P ops Q (o :: rest) a w := by
  refine BigFrame.wpList_want hw fun K hK => ?_
  unfold Oper.wp execOp
  obtain ⟨h1, _⟩ := run_isAgg_cell ha w
  have hc := (hp.below.cell (p := ⟨b, off, none⟩) hb).trans hv
  have hr : (loadVar ty ⟨b, off, none⟩).run P w = .ok v w := by simp [loadVar, Sem.run_bind, h1, load, Sem.run, hc]
  simp only [ho, hx, Instr.loadAt, Instr.sureAddr, Sem.run_bind, Sem.run_pure, Result.andThen_ok, hr]
  exact hK _ _ h

theorem wpList_loadOldAgg_hp (hp : Hp B w0 w L) (ty : TypeId) (x : Operand) (ho : o.op = .load ty x) (hw : Region.wanted o (yielded ops a.tmps) = true) (b off : Nat) (hx : a.eval x = .pointer (some ⟨b, off, none⟩))
    (k : Nat) (ha : aggB P ty k = true) (hb : b < B) (vs : List Value) (hk : vs.length = k) (hv : ∀ j v, vs[j]? = some v → w0.cell? ⟨b, off + j, none⟩ = some v)
    (h : wpList P ops Q rest (a.put o.dst (.agg vs.toArray)) w) : wpList P ops Q (o :: rest) a w := by
  refine BigFrame.wpList_want hw fun K hK => ?_
  unfold Oper.wp execOp
  obtain ⟨h1, h2⟩ := run_isAgg_agg ha w
  have hl := run_loadCells_list (P := P) w ⟨b, off, none⟩ vs (fun j v hj => by rw [add_addr]; exact (hp.below.cell (p := ⟨b, off + j, none⟩) hb).trans (hv j v hj))
  rw [hk] at hl
  have hr : (loadVar ty ⟨b, off, none⟩).run P w = .ok (.agg vs.toArray) w := by simp [loadVar, Sem.run_bind, h1, h2, hl]
  simp only [ho, hx, Instr.loadAt, Instr.sureAddr, Sem.run_bind, Sem.run_pure, Result.andThen_ok, hr]
  exact hK _ _ h

theorem wpList_storeAgg_hp (hp : Hp B w0 w L) (ty : TypeId) (x y : Operand) (ho : o.op = .store ty x y) (hw : Region.wanted o (yielded ops a.tmps) = true) (b off : Nat) (hx : a.eval x = .pointer (some ⟨b, off, none⟩))
    (vs : List Value) (hy : a.eval y = .agg vs.toArray) (ha : aggB P ty vs.length = true) (i : Nat) (l : List Value) (t : TypeId) (n : Nat) (hi : L[i]? = some ⟨b, l, t, n⟩)
    (hlen : off + vs.length ≤ l.length) (h1 : vs.all (·.oneCell') = true)
    (h : ∀ w', Hp B w0 w' (L.set i ⟨b, spl l off vs, t, n⟩) → wpList P ops Q rest (a.put o.dst undef) w') : wpList P ops Q (o :: rest) a w := by
  refine BigFrame.wpList_want hw fun K hK => ?_
  unfold Oper.wp execOp
  obtain ⟨w', hr, hp'⟩ := hp.storeAgg ha hi off vs rfl hlen h1
  simp only [ho, hx, hy, Instr.storeAt, Instr.sureAddr, Sem.run_bind, Sem.run_pure, Result.andThen_ok, hr]
  exact hK _ _ (h w' hp')

theorem wpList_storeAll_hp (hp : Hp B w0 w L) (ty : TypeId) (x y : Operand) (ho : o.op = .store ty x y) (hw : Region.wanted o (yielded ops a.tmps) = true) (b : Nat) (hx : a.eval x = .pointer (some ⟨b, 0, none⟩))
    (vs : List Value) (hy : a.eval y = .agg vs.toArray) (ha : aggB P ty vs.length = true) (i : Nat) (l : List Value) (t : TypeId) (n : Nat) (hi : L[i]? = some ⟨b, l, t, n⟩)
    (hlen : l.length = vs.length) (h1 : vs.all (·.oneCell') = true)
    (h : ∀ w', Hp B w0 w' (L.set i ⟨b, vs, t, n⟩) → wpList P ops Q rest (a.put o.dst undef) w') : wpList P ops Q (o :: rest) a w :=
  wpList_storeAgg_hp hp ty x y ho hw b 0 hx vs hy ha i l t n hi (by omega) h1 (by rw [spl_all l vs hlen]; exact h)

theorem wpList_storeOne_hp (hp : Hp B w0 w L) (ty : TypeId) (x y : Operand) (ho : o.op = .store ty x y) (hw : Region.wanted o (yielded ops a.tmps) = true) (b off : Nat) (hx : a.eval x = .pointer (some ⟨b, off, none⟩))
    (v : Value) (hy : a.eval y = v) (ha : cellB P ty = true) (i : Nat) (l : List Value) (t : TypeId) (n : Nat) (hi : L[i]? = some ⟨b, l, t, n⟩)
    (hlen : off < l.length) (h1 : v.oneCell' = true)
    (h : ∀ w', Hp B w0 w' (L.set i ⟨b, l.set off v, t, n⟩) → wpList P ops Q rest (a.put o.dst undef) w') : wpList P ops Q (o :: rest) a w := by
  refine BigFrame.wpList_want hw fun K hK => ?_
  unfold Oper.wp execOp
  obtain ⟨w', hr, hp'⟩ := hp.storeOne (P := P) ha hi off v hlen h1
  simp only [ho, hx, hy, Instr.storeAt, Instr.sureAddr, Sem.run_bind, Sem.run_pure, Result.andThen_ok, hr]
  exact hK _ _ (h w' hp')
end

theorem wrap_eq (n : Int) : IntKind.i64.wrap n = wrap64 n := by rw [IntKind.wrap_i64, wrap64]

/-- A slot of a frame that is written out. -/
theorem slot_tmp {l : List Value} {ds : List Deferred} {t : Nat} {v : Value} {r : List Value} (h : l.drop t = v :: r) : Act.eval ⟨l.toArray, ds⟩ (.tmp t) = v := by
  have : (l.drop t)[0]? = some v := by rw [h]; rfl
  rw [List.getElem?_drop, Nat.add_zero] at this
  simp [Act.eval, this]
section
variable {P : Program} {ops : Array Oper} {rest : List Oper} {o : Oper} {a : Act} {w : World} {Q : Exit → Act → World → Prop}
/- Which operation stands here: each falls at once where another one stands. -/
theorem pre_load (ty : TypeId) (x : Operand) (_ : o.op = .load ty x) (h : wpList P ops Q (o :: rest) a w) : wpList P ops Q (o :: rest) a w := h
theorem pre_store (ty : TypeId) (x v : Operand) (_ : o.op = .store ty x v) (h : wpList P ops Q (o :: rest) a w) : wpList P ops Q (o :: rest) a w := h
theorem pre_alloc (ty : TypeId) (_ : o.op = .alloc ty) (h : wpList P ops Q (o :: rest) a w) : wpList P ops Q (o :: rest) a w := h
theorem pre_box (ty : TypeId) (x : Operand) (_ : o.op = .box ty x) (h : wpList P ops Q (o :: rest) a w) : wpList P ops Q (o :: rest) a w := h
theorem pre_build (t : TypeId) (len : Nat) (parts : Array (Nat × Operand)) (_ : o.op = .buildSlice t len parts) (h : wpList P ops Q (o :: rest) a w) : wpList P ops Q (o :: rest) a w := h
theorem pre_append (s x : Operand) (t : TypeId) (_ : o.op = .call { callee := .builtin .append, args := #[s, x], argTypes := #[t, t] }) (h : wpList P ops Q (o :: rest) a w) : wpList P ops Q (o :: rest) a w := h
end
theorem slot_const {a : Act} {v : Value} : a.eval (.const v) = v := rfl
theorem wanted_none {o : Oper} {f : Nat → Option Bool} (h : o.guard = none) : Region.wanted o f = true := by simp [Region.wanted, h]
theorem yielded_of {ops : List Oper} {l : List Value} {oj : Oper} {j d : Nat} {b : Bool} {r : List Oper} {r' : List Value} (hj : ops.drop j = oj :: r) (hd : oj.dst = some d)
    (ht : l.drop d = .bool b :: r') : yielded ops.toArray l.toArray j = some b := by
  have h1 : (ops.drop j)[0]? = some oj := by rw [hj]; rfl
  have h2 : (l.drop d)[0]? = some (.bool b) := by rw [ht]; rfl
  rw [List.getElem?_drop] at h1 h2
  simp only [Nat.add_zero] at h1 h2
  simp [yielded, h1, hd, h2]
theorem wanted_yes {ops : List Oper} {l : List Value} {o oj : Oper} {j d : Nat} {want : Bool} {r : List Oper} {r' : List Value} (hg : o.guard = some (j, want)) (hj : ops.drop j = oj :: r) (hd : oj.dst = some d)
    (ht : l.drop d = .bool want :: r') : Region.wanted o (yielded ops.toArray l.toArray) = true := by
  simp [Region.wanted, hg, yielded_of hj hd ht]
theorem wanted_no {ops : List Oper} {l : List Value} {o oj : Oper} {j d : Nat} {want : Bool} {r : List Oper} {r' : List Value} (hg : o.guard = some (j, want)) (hj : ops.drop j = oj :: r) (hd : oj.dst = some d)
    (ht : l.drop d = .bool (!want) :: r') : Region.wanted o (yielded ops.toArray l.toArray) = false := by
  simp [Region.wanted, hg, yielded_of hj hd ht]

/-- A frame that is written out, with a slot written. -/
theorem put_some (l : List Value) (ds : List Deferred) (d : Nat) (v : Value) : (Act.put ⟨l.toArray, ds⟩ (some d) v) = ⟨(l.set d v).toArray, ds⟩ := by simp [Act.put]
theorem put_none (a : Act) (v : Value) : a.put none v = a := rfl

theorem at0 {x : Blk} {r : List Blk} : (x :: r)[0]? = some x := rfl
theorem at1 {x0 x : Blk} {r : List Blk} : (x0 :: x :: r)[1]? = some x := rfl
theorem at2 {x0 x1 x : Blk} {r : List Blk} : (x0 :: x1 :: x :: r)[2]? = some x := rfl
theorem at3 {x0 x1 x2 x : Blk} {r : List Blk} : (x0 :: x1 :: x2 :: x :: r)[3]? = some x := rfl
theorem at4 {x0 x1 x2 x3 x : Blk} {r : List Blk} : (x0 :: x1 :: x2 :: x3 :: x :: r)[4]? = some x := rfl
theorem at5 {x0 x1 x2 x3 x4 x : Blk} {r : List Blk} : (x0 :: x1 :: x2 :: x3 :: x4 :: x :: r)[5]? = some x := rfl
theorem at6 {x0 x1 x2 x3 x4 x5 x : Blk} {r : List Blk} : (x0 :: x1 :: x2 :: x3 :: x4 :: x5 :: x :: r)[6]? = some x := rfl
theorem at7 {x0 x1 x2 x3 x4 x5 x6 x : Blk} {r : List Blk} : (x0 :: x1 :: x2 :: x3 :: x4 :: x5 :: x6 :: x :: r)[7]? = some x := rfl
theorem at8 {x0 x1 x2 x3 x4 x5 x6 x7 x : Blk} {r : List Blk} : (x0 :: x1 :: x2 :: x3 :: x4 :: x5 :: x6 :: x7 :: x :: r)[8]? = some x := rfl
theorem at9 {x0 x1 x2 x3 x4 x5 x6 x7 x8 x : Blk} {r : List Blk} : (x0 :: x1 :: x2 :: x3 :: x4 :: x5 :: x6 :: x7 :: x8 :: x :: r)[9]? = some x := rfl
theorem at10 {x0 x1 x2 x3 x4 x5 x6 x7 x8 x9 x : Blk} {r : List Blk} : (x0 :: x1 :: x2 :: x3 :: x4 :: x5 :: x6 :: x7 :: x8 :: x9 :: x :: r)[10]? = some x := rfl
theorem at11 {x0 x1 x2 x3 x4 x5 x6 x7 x8 x9 x10 x : Blk} {r : List Blk} : (x0 :: x1 :: x2 :: x3 :: x4 :: x5 :: x6 :: x7 :: x8 :: x9 :: x10 :: x :: r)[11]? = some x := rfl
theorem at12 {x0 x1 x2 x3 x4 x5 x6 x7 x8 x9 x10 x11 x : Blk} {r : List Blk} : (x0 :: x1 :: x2 :: x3 :: x4 :: x5 :: x6 :: x7 :: x8 :: x9 :: x10 :: x11 :: x :: r)[12]? = some x := rfl
theorem at13 {x0 x1 x2 x3 x4 x5 x6 x7 x8 x9 x10 x11 x12 x : Blk} {r : List Blk} : (x0 :: x1 :: x2 :: x3 :: x4 :: x5 :: x6 :: x7 :: x8 :: x9 :: x10 :: x11 :: x12 :: x :: r)[13]? = some x := rfl

/-! ### The results -/
inductive ResIs (P : Program) (tmps : Array Value) (w : World) : List ResultVar → List Value → Prop
  | nil : ResIs P tmps w [] []
  | tmp {t : Tmp} {v : Value} {rs : List ResultVar} {vs : List Value} : tmps.getD t undef = v → ResIs P tmps w rs vs → ResIs P tmps w (.tmp t :: rs) (v :: vs)
  | cell {p : Tmp} {ty : TypeId} {x : Addr} {v : Value} {rs : List ResultVar} {vs : List Value} : tmps.getD p undef = .pointer (some x) → (loadVar ty x).run P w = .ok v w → ResIs P tmps w rs vs → ResIs P tmps w (.cell p ty :: rs) (v :: vs)

def resOne (tmps : Array Value) : ResultVar → Sem Value
  | .tmp t => pure (tmps.getD t undef)
  | .cell a t => do loadVar t (← asAddr (tmps.getD a undef))

theorem ResIs.run {tmps : Array Value} {w : World} {rs : List ResultVar} {vs : List Value} (h : ResIs P tmps w rs vs) :
    (rs.mapM (resOne tmps)).run P w = .ok vs w := by
  induction h with
  | nil => simp
  | @tmp t v rs vs h1 _ ih =>
    have h0 : (resOne tmps (.tmp t)).run P w = .ok v w := by simp only [resOne, Sem.run_pure, h1]
    simp only [List.mapM_cons, Sem.run_bind, Sem.run_pure, Result.andThen_ok, ih, h0]
  | @cell p ty x v rs vs h1 h2 _ ih =>
    have ha : (asAddr (tmps.getD p undef)).run P w = .ok x w := by rw [h1]; rfl
    have h0 : (resOne tmps (.cell p ty)).run P w = .ok v w := by simp only [resOne, Sem.run_bind, ha, Result.andThen_ok, h2]
    simp only [List.mapM_cons, Sem.run_bind, Sem.run_pure, Result.andThen_ok, ih, h0]

theorem results_eq (fn : Func) (tmps : Array Value) : results fn tmps = (do
    let vs ← fn.results.mapM (resOne tmps)
    pure (if h : vs.size = 1 then vs[0] else .tuple vs)) := by
  unfold results
  have : (fun x => match x with | ResultVar.tmp t => pure (tmps.getD t undef) | .cell a t => do loadVar t (← asAddr (tmps.getD a undef))) = resOne tmps := by
    funext x; cases x <;> rfl
  exact congrArg (fun f => (do let vs ← fn.results.mapM f; pure (if h : vs.size = 1 then vs[0] else .tuple vs) : Sem Value)) this

theorem results_many {fn : Func} {tmps : Array Value} {w : World} {rs : List ResultVar} {v0 v1 : Value} {vs : List Value} (hf : fn.results = rs.toArray) (h : ResIs P tmps w rs (v0 :: v1 :: vs)) :
    (results fn tmps).run P w = .ok (.tuple (v0 :: v1 :: vs).toArray) w := by
  have := h.run
  rw [results_eq, hf, List.mapM_toArray]
  simp [this]

theorem results_one {fn : Func} {tmps : Array Value} {w : World} {rs : List ResultVar} {v0 : Value} (hf : fn.results = rs.toArray) (h : ResIs P tmps w rs [v0]) :
    (results fn tmps).run P w = .ok v0 w := by
  have := h.run
  rw [results_eq, hf, List.mapM_toArray]
  simp [this]
end

/-! ### The same laws with the sure parts left out: what is left out is found where the law is used. -/
theorem wy {o : Oper} {f : Nat → Option Bool} (h : Region.wanted o f = true := by first | exact wanted_none rfl | exact wanted_yes rfl rfl rfl rfl) : Region.wanted o f = true := h
theorem aa5 {L : List Blk} {i : Nat} {p : Blk} (h : L[i]? = some p := by first | exact at0 | exact at1 | exact at2 | exact at3 | exact at4) : L[i]? = some p := h
theorem aa14 {L : List Blk} {i : Nat} {p : Blk} (h : L[i]? = some p := by first | exact at0 | exact at1 | exact at2 | exact at3 | exact at4 | exact at5 | exact at6 | exact at7 | exact at8 | exact at9 | exact at10 | exact at11 | exact at12 | exact at13) : L[i]? = some p := h
theorem rr {l vs : List Value} {off k : Nat} (h : (l.drop off).take k = vs := by simp only [List.drop_zero, List.drop_succ_cons, List.take_succ_cons, List.take_zero, List.take_nil]; rfl) : (l.drop off).take k = vs := h
theorem sv {a : Act} {x : Operand} {v : Value} (h : a.eval x = v := by first | exact slot_tmp rfl | exact slot_const) : a.eval x = v := h
section
variable {P : Program} {ops : Array Oper} {rest : List Oper} {o : Oper} {a : Act} {w : World} {Q : Exit → Act → World → Prop} {B : Nat} {w0 : World} {L : List Blk} {e ty t : TypeId} {x y : Operand} {l vs : List Value} {v : Value} {i k b off n : Nat}
theorem lZ (hp : Hp B w0 w L) (ho : o.op = .alloc e) (hz : zeroL P e = some (l, n)) (h : ∀ b w', Hp B w0 w' (⟨b, l, e, n⟩ :: L) → wpList P ops Q rest (a.put o.dst (.pointer (some ⟨b, 0, none⟩))) w')
    (hw : Region.wanted o (yielded ops a.tmps) = true := by exact wy) : wpList P ops Q (o :: rest) a w := wpList_alloc_hp hp e ho hw l n hz h
theorem lB (hp : Hp B w0 w L) (ho : o.op = .box e x) (hv : a.eval x = v) (hx : v.cells = l.toArray) (h : ∀ b w', Hp B w0 w' (⟨b, l, e, n⟩ :: L) → wpList P ops Q rest (a.put o.dst (.pointer (some ⟨b, 0, none⟩))) w')
    (hw : Region.wanted o (yielded ops a.tmps) = true := by exact wy) (hn : l.length = n := by simp only [List.length_cons, List.length_nil, Nat.reduceAdd]; rfl) : wpList P ops Q (o :: rest) a w := wpList_box_hp hp e x ho hw v hv l hx n hn h
theorem lA (hp : Hp B w0 w L) (ho : o.op = .load ty x) (hx : a.eval x = .pointer (some ⟨b, off, none⟩)) (ha : aggB P ty k = true) (hi : L[i]? = some ⟨b, l, t, n⟩)
    (h : wpList P ops Q rest (a.put o.dst (.agg vs.toArray)) w) (hw : Region.wanted o (yielded ops a.tmps) = true := by exact wy) (hv : (l.drop off).take k = vs := by exact rr) (hk : vs.length = k := by rfl) : wpList P ops Q (o :: rest) a w :=
  wpList_loadAgg_hp hp ty x ho hw b off hx k ha i l t n hi vs hv hk h
theorem lO (hp : Hp B w0 w L) (ho : o.op = .load ty x) (hx : a.eval x = .pointer (some ⟨b, off, none⟩)) (ha : cellB P ty = true) (hi : L[i]? = some ⟨b, l, t, n⟩)
    (h : wpList P ops Q rest (a.put o.dst v) w) (hw : Region.wanted o (yielded ops a.tmps) = true := by exact wy) (hv : l[off]? = some v := by rfl) : wpList P ops Q (o :: rest) a w :=
  wpList_loadOne_hp hp ty x ho hw b off hx ha i l t n hi v hv h
theorem sO (hp : Hp B w0 w L) (ho : o.op = .store ty x y) (hx : a.eval x = .pointer (some ⟨b, off, none⟩)) (ha : cellB P ty = true) (hi : L[i]? = some ⟨b, l, t, n⟩)
    (h : ∀ w', Hp B w0 w' (L.set i ⟨b, l.set off v, t, n⟩) → wpList P ops Q rest (a.put o.dst undef) w') (hy : a.eval y = v := by exact sv) (hw : Region.wanted o (yielded ops a.tmps) = true := by exact wy)
    (hlen : off < l.length := by simp only [List.length_cons, List.length_nil]; omega) (h1 : v.oneCell' = true := by first | rfl | assumption) : wpList P ops Q (o :: rest) a w :=
  wpList_storeOne_hp hp ty x y ho hw b off hx v hy ha i l t n hi hlen h1 h
theorem sA (hp : Hp B w0 w L) (ho : o.op = .store ty x y) (hx : a.eval x = .pointer (some ⟨b, 0, none⟩)) (hy : a.eval y = .agg vs.toArray) (ha : aggB P ty k = true) (hi : L[i]? = some ⟨b, l, t, n⟩)
    (h : ∀ w', Hp B w0 w' (L.set i ⟨b, vs, t, n⟩) → wpList P ops Q rest (a.put o.dst undef) w') (hw : Region.wanted o (yielded ops a.tmps) = true := by exact wy) (hk : k = vs.length := by rfl)
    (hlen : l.length = vs.length := by rfl) (h1 : vs.all (·.oneCell') = true := by first | rfl | simp [*]) : wpList P ops Q (o :: rest) a w :=
  wpList_storeAll_hp hp ty x y ho hw b hx vs hy (hk ▸ ha) i l t n hi hlen h1 h
theorem sG (hp : Hp B w0 w L) (ho : o.op = .store ty x y) (hx : a.eval x = .pointer (some ⟨b, off, none⟩)) (hy : a.eval y = .agg vs.toArray) (ha : aggB P ty k = true) (hi : L[i]? = some ⟨b, l, t, n⟩)
    (h : ∀ w', Hp B w0 w' (L.set i ⟨b, spl l off vs, t, n⟩) → wpList P ops Q rest (a.put o.dst undef) w') (hw : Region.wanted o (yielded ops a.tmps) = true := by exact wy) (hk : k = vs.length := by rfl)
    (hlen : off + vs.length ≤ l.length := by simp only [List.length_cons, List.length_nil]; omega) (h1 : vs.all (·.oneCell') = true := by first | rfl | simp [*]) : wpList P ops Q (o :: rest) a w :=
  wpList_storeAgg_hp hp ty x y ho hw b off hx vs hy (hk ▸ ha) i l t n hi hlen h1 h
end
end Go.Proofs.Ytbflmnoaiklnbaa
