/- Parts of the proof. -/
import Derived.WalkKit
import Derived.WalkSpells
import Derived.WalkLawsBesides
import Derived.OrdersHeld
import Derived.ProofKit
import Derived.OpenShut
import Derived.Maps.AppendAt
import Derived.Deep.Slices
import Derived.Deep.Fields
import Derived.Laws.MakeOwn
import Derived.Laws.StructEq
import Derived.Lib.AppendZerosOnto
import Derived.Lib.Overlaps
open List renaming set_cons_zero → zSet, set_cons_succ → sSet
/- Texts merged: base:Hp base:Drawn base:Drawn2 base:Frame base:Sl base:Open base:Ap base:Mk base:Hv base:Arr base:Dec base:DecS base:By base:Ins base:Cmp base:Clr. -/
set_option linter.unusedSimpArgs false
set_option linter.unusedVariables false
namespace Go.Proofs.YtcjbepaclbhjaaaGreat
open Go.RowKit
structure Blk where
  id : Nat
  l : List Value
  t : TypeId
  n : Nat
structure Hp (B : Nat) (w0 w : World) (L : List Blk) : Prop where
  below : Below B w0 w
  size : B ≤ w.heap.size
  nodup : (L.map (·.id)).Nodup
  own : ∀ p ∈ L, B ≤ p.id ∧ ∃ c, w.heap[p.id]? = some (.cells c p.t) ∧ c.size = p.n ∧ c.toList.take p.l.length = p.l
theorem Hp.start (w : World) : Hp w.heap.size w w [] := ⟨Below.refl _ _, Nat.le_refl _, by simp, by simp⟩
theorem lt_of_heap {w : World} {b : Nat} {o : Obj} (h : w.heap[b]? = some o) : b < w.heap.size := (Array.getElem?_eq_some_iff.1 h).1
theorem Hp.lt {B : Nat} {w0 w : World} {L : List Blk} (h : Hp B w0 w L) {p : Blk} (hp : p ∈ L) : B ≤ p.id ∧ p.id < w.heap.size := by
  obtain ⟨h1, c, h2, _⟩ := h.own p hp
  exact ⟨h1, lt_of_heap h2⟩
theorem Hp.call {B : Nat} {w0 w w' : World} {L : List Blk} (h : Hp B w0 w L) (hb : Below w.heap.size w w') : Hp B w0 w' L :=
  ⟨h.below.trans (hb.mono h.size), Nat.le_trans h.size hb.size, h.nodup, fun p hp => by
    obtain ⟨h1, c, h2, h3⟩ := h.own p hp
    exact ⟨h1, c, (hb.block p.id (lt_of_heap h2)).trans h2, h3⟩⟩
theorem Hp.drew {B : Nat} {w0 w : World} {L : List Blk} (h : Hp B w0 w L) : Hp B w0 w.drew L :=
  ⟨h.below.drew, h.size, h.nodup, h.own⟩
theorem Hp.drewN {B : Nat} {w0 w : World} {L : List Blk} (h : Hp B w0 w L) (n : Nat) : Hp B w0 (w.drewN n) L :=
  h.call ⟨rfl, rfl, rfl, Nat.le_refl _, fun _ _ => rfl⟩
theorem Hp.alloc {B : Nat} {w0 w : World} {L : List Blk} (h : Hp B w0 w L) (c : Array Value) (l : List Value) (t : TypeId) (n : Nat) (hn : c.size = n) (hl : c.toList.take l.length = l) :
    Hp B w0 (w.alloc (.cells c t)) (⟨w.heap.size, l, t, n⟩ :: L) := by
  refine ⟨h.below.alloc h.size _, by simp; exact Nat.le_succ_of_le h.size, ?_, ?_⟩
  · simp only [List.map_cons, List.nodup_cons]
    refine ⟨?_, h.nodup⟩
    intro hm
    obtain ⟨p, hp, he⟩ := List.mem_map.1 hm
    have := (h.lt hp).2
    omega
  · intro p hp
    rcases List.mem_cons.1 hp with rfl | hp
    · exact ⟨h.size, c, heap_alloc_new w _, hn, hl⟩
    · obtain ⟨h1, c', h2, h3⟩ := h.own p hp
      exact ⟨h1, c', (heap_alloc_old w _ (lt_of_heap h2)).trans h2, h3⟩
theorem Hp.mem {L : List Blk} {i : Nat} {p : Blk} (hi : L[i]? = some p) : p ∈ L := List.mem_of_getElem? hi
theorem take_getElem? {l c : List Value} (h : c.take l.length = l) {i : Nat} {v : Value} (hi : l[i]? = some v) : c[i]? = some v := by
  have hlt : i < l.length := (List.getElem?_eq_some_iff.1 hi).1
  rw [← h, List.getElem?_take, if_pos hlt] at hi
  exact hi
theorem Hp.cell {B : Nat} {w0 w : World} {L : List Blk} (h : Hp B w0 w L) {i b : Nat} {l : List Value} {t : TypeId} {n : Nat} (hi : L[i]? = some ⟨b, l, t, n⟩) {off : Nat} {v : Value} (hv : l[off]? = some v) :
    w.cell? ⟨b, off, none⟩ = some v := by
  obtain ⟨_, c, h2, _, h4⟩ := h.own _ (Hp.mem hi)
  have := take_getElem? h4 hv
  simp [World.cell?, h2] at this ⊢
  exact this
theorem Hp.free {B : Nat} {w0 w : World} {L : List Blk} (h : Hp B w0 w L) {i b : Nat} {l : List Value} {t : TypeId} {n : Nat} (hi : L[i]? = some ⟨b, l, t, n⟩) (off : Nat) :
    w.frozen? ⟨b, off, none⟩ = false := by
  obtain ⟨_, c, h2, _⟩ := h.own _ (Hp.mem hi)
  simp [World.frozen?, h2]
theorem nodup_ids {L : List Blk} (h : (L.map (·.id)).Nodup) {i j : Nat} {p q : Blk} (hi : L[i]? = some p) (hj : L[j]? = some q) (he : p.id = q.id) : i = j := by
  have a1 : i < (L.map (·.id)).length := by simpa using (List.getElem?_eq_some_iff.1 hi).1
  refine (List.getElem?_inj a1 h).1 ?_
  simp [List.getElem?_map, hi, hj, he]
theorem take_set (c l : List Value) (off : Nat) (v : Value) (h : c.take l.length = l) : (c.set off v).take (l.set off v).length = l.set off v := by
  rw [List.length_set, List.take_set, h]
theorem set_same {α : Type} {L : List α} {i : Nat} {x : α} (h : L[i]? = some x) : L.set i x = L := by
  apply List.ext_getElem?
  intro j
  rw [List.getElem?_set]
  split
  · rename_i hj; subst hj
    have him : i < L.length := (List.getElem?_eq_some_iff.1 h).1
    rw [if_pos him, h]
  · rfl
theorem Hp.setCell {B : Nat} {w0 w : World} {L : List Blk} (h : Hp B w0 w L) {i b : Nat} {l : List Value} {t : TypeId} {n : Nat} (hi : L[i]? = some ⟨b, l, t, n⟩) (off : Nat) (v : Value) :
    Hp B w0 (w.setCell ⟨b, off, none⟩ v) (L.set i ⟨b, l.set off v, t, n⟩) := by
  have hlt := h.lt (Hp.mem hi)
  have him : i < L.length := (List.getElem?_eq_some_iff.1 hi).1
  refine ⟨h.below.setCell hlt.1 _, by simpa using h.size, ?_, ?_⟩
  · have : (L.set i ⟨b, l.set off v, t, n⟩).map (·.id) = L.map (·.id) := by
      rw [List.map_set]
      exact set_same (by simp [List.getElem?_map, hi])
    rw [this]; exact h.nodup
  · intro p hp
    obtain ⟨k, hk, hpk⟩ := List.getElem_of_mem hp
    have hk' : (L.set i ⟨b, l.set off v, t, n⟩)[k]? = some p := by rw [List.getElem?_eq_getElem hk, hpk]
    rw [List.getElem?_set] at hk'
    split at hk'
    · rename_i hik
      subst hik
      cases hk'
      obtain ⟨h1, c, h2, h3, h4⟩ := h.own _ (Hp.mem hi)
      refine ⟨h1, c.setIfInBounds off v, ?_, by simpa using h3, ?_⟩
      · exact heap_setCell_same w b off c t v h2
      · rw [Array.toList_setIfInBounds]
        exact take_set _ _ _ _ h4
    · rename_i hik
      obtain ⟨h1, c, h2, h3⟩ := h.own _ (Hp.mem hk')
      refine ⟨h1, c, ?_, h3⟩
      rw [heap_setCell_other]
      · exact h2
      · intro e
        exact hik (nodup_ids h.nodup hi hk' e.symm)
def spl (l : List Value) (off : Nat) : List Value → List Value
  | [] => l
  | v :: vs => spl (l.set off v) (off + 1) vs
theorem spl_append (vs : List Value) : ∀ (l1 l2 : List Value), l2.length = vs.length → spl (l1 ++ l2) l1.length vs = l1 ++ vs := by
  induction vs with
  | nil => intro l1 l2 h; simp at h; subst h; rfl
  | cons v vs ih =>
    intro l1 l2 h
    match l2, h with
    | x :: l2, h =>
      simp only [spl]
      have := ih (l1 ++ [v]) l2 (by simpa using h)
      simp only [List.append_assoc, List.singleton_append, List.length_append, List.length_singleton] at this
      rw [← this]
      congr 1
      rw [List.set_append]
      simp
theorem spl_all (l vs : List Value) (h : l.length = vs.length) : spl l 0 vs = vs := by
  simpa using spl_append vs [] l h
theorem add_addr (b off j : Nat) : (⟨b, off, none⟩ : Addr).add j = ⟨b, off + j, none⟩ := by
  unfold Addr.add; split <;> simp_all
section
variable {P : Program}
theorem Hp.storeCells {B : Nat} {w0 : World} {b : Nat} {t : TypeId} {n i : Nat} (off : Nat) (vs : List Value) : ∀ (w : World) (L : List Blk) (l : List Value) (k : Nat), Hp B w0 w L → L[i]? = some ⟨b, l, t, n⟩ →
    off + k + vs.length ≤ l.length → vs.all (·.oneCell') = true →
    ∃ w', (Go.storeCells ⟨b, off, none⟩ vs k).run P w = .ok () w' ∧ Hp B w0 w' (L.set i ⟨b, spl l (off + k) vs, t, n⟩) := by
  induction vs with
  | nil =>
    intro w L l k h hi _ _
    refine ⟨w, rfl, ?_⟩
    have : L.set i ⟨b, spl l (off + k) [], t, n⟩ = L := set_same hi
    rw [this]; exact h
  | cons v vs ih =>
    intro w L l k h hi hlen hone
    simp only [List.all_cons, Bool.and_eq_true] at hone
    have him : i < L.length := (List.getElem?_eq_some_iff.1 hi).1
    have h1 := h.setCell hi (off + k) v
    have hi' : (L.set i ⟨b, l.set (off + k) v, t, n⟩)[i]? = some ⟨b, l.set (off + k) v, t, n⟩ := by simp [him]
    obtain ⟨w', hr, hp'⟩ := ih _ _ _ (k + 1) h1 hi' (by simp at hlen ⊢; omega) hone.2
    have hlt : off + k < l.length := by simp at hlen; omega
    have hc := h.cell hi (off := off + k) (v := l[off + k]) (by simp [hlt])
    have hf := h.free hi (off + k)
    refine ⟨w', ?_, ?_⟩
    · have hst : (store (⟨b, off + k, none⟩ : Addr) v).run P w = .ok () (w.setCell ⟨b, off + k, none⟩ v) := by
        cases v <;> simp_all [store, Sem.run, Value.oneCell']
      simp only [Go.storeCells, add_addr, Sem.run_bind, hst, Result.andThen_ok]
      exact hr
    · simpa [spl, Nat.add_assoc, List.set_set] using hp'
theorem Hp.loadCells {B : Nat} {w0 w : World} {L : List Blk} (h : Hp B w0 w L) {i b : Nat} {l : List Value} {t : TypeId} {n : Nat} (hi : L[i]? = some ⟨b, l, t, n⟩) (off k : Nat) (vs : List Value) (hv : (l.drop off).take k = vs) (hk : vs.length = k) :
    (Go.loadCells ⟨b, off, none⟩ k).run P w = .ok vs.toArray w := by
  have := run_loadCells_list (P := P) w ⟨b, off, none⟩ vs (fun j v hj => by
    rw [add_addr]
    refine h.cell hi ?_
    rw [← hv, List.getElem?_take] at hj
    split at hj
    · rw [List.getElem?_drop] at hj; exact hj
    · cases hj)
  rw [hk] at this
  exact this
def aggB (P : Program) (t : TypeId) (n : Nat) : Bool := (match P.underlying t with | some (.struct _) | some (.array _ _) => true | _ => false) && ((P.info? t).map (·.size) == some n)
def cellB (P : Program) (t : TypeId) : Bool := (match P.underlying t with | some (.struct _) | some (.array _ _) => false | some _ => true | _ => false) && ((P.info? t).map (·.size) == some 1)
def zeroL (P : Program) (t : TypeId) : Option (List Value × Nat) := ((P.info? t).bind (·.zero)).map fun z => (z.cells.toList, z.cells.size)
theorem run_isAgg_agg {t : TypeId} {n : Nat} (h : aggB P t n = true) (w : World) : (isAgg t).run P w = .ok true w ∧ (sizeOf t).run P w = .ok n w := by
  simp only [aggB, Bool.and_eq_true, beq_iff_eq] at h
  obtain ⟨h1, h2⟩ := h
  refine ⟨?_, ?_⟩
  · cases hu : P.underlying t with
    | none => simp [hu] at h1
    | some d =>
      rw [hu] at h1
      cases d <;> simp at h1 <;> simp [isAgg, Sem.run_bind, run_underlying hu w]
  · cases hq : P.info? t with
    | none => simp [hq] at h2
    | some i => simp [hq] at h2; simp [sizeOf, typeInfo, hq, h2]
theorem run_isAgg_cell {t : TypeId} (h : cellB P t = true) (w : World) : (isAgg t).run P w = .ok false w ∧ (sizeOf t).run P w = .ok 1 w := by
  simp only [cellB, Bool.and_eq_true, beq_iff_eq] at h
  obtain ⟨h1, h2⟩ := h
  refine ⟨?_, ?_⟩
  · cases hu : P.underlying t with
    | none => simp [hu] at h1
    | some d =>
      rw [hu] at h1
      cases d <;> simp at h1 <;> simp [isAgg, Sem.run_bind, run_underlying hu w]
  · cases hq : P.info? t with
    | none => simp [hq] at h2
    | some i => simp [hq] at h2; simp [sizeOf, typeInfo, hq, h2]
theorem Hp.loadAgg {B : Nat} {w0 w : World} {L : List Blk} (h : Hp B w0 w L) {ty : TypeId} {k : Nat} (ha : aggB P ty k = true) {i b : Nat} {l : List Value} {t : TypeId} {n : Nat} (hi : L[i]? = some ⟨b, l, t, n⟩) (off : Nat) (vs : List Value) (hv : (l.drop off).take k = vs) (hk : vs.length = k) :
    (loadVar ty ⟨b, off, none⟩).run P w = .ok (.agg vs.toArray) w := by
  obtain ⟨h1, h2⟩ := run_isAgg_agg ha w
  simp [loadVar, Sem.run_bind, h1, h2, h.loadCells hi off k vs hv hk]
theorem Hp.loadOne {B : Nat} {w0 w : World} {L : List Blk} (h : Hp B w0 w L) {ty : TypeId} (ha : cellB P ty = true) {i b : Nat} {l : List Value} {t : TypeId} {n : Nat} (hi : L[i]? = some ⟨b, l, t, n⟩) (off : Nat) (v : Value) (hv : l[off]? = some v) :
    (loadVar ty ⟨b, off, none⟩).run P w = .ok v w := by
  obtain ⟨h1, _⟩ := run_isAgg_cell ha w
  have hc := h.cell hi hv
  simp [loadVar, Sem.run_bind, h1, load, Sem.run, hc]
theorem Hp.storeAgg {B : Nat} {w0 w : World} {L : List Blk} (h : Hp B w0 w L) {ty : TypeId} {k : Nat} (ha : aggB P ty k = true) {i b : Nat} {l : List Value} {t : TypeId} {n : Nat} (hi : L[i]? = some ⟨b, l, t, n⟩) (off : Nat) (vs : List Value) (hk : vs.length = k) (ho : off + k ≤ l.length) (h1 : vs.all (·.oneCell') = true) :
    ∃ w', (storeVar ty ⟨b, off, none⟩ (.agg vs.toArray)).run P w = .ok () w' ∧ Hp B w0 w' (L.set i ⟨b, spl l off vs, t, n⟩) := by
  obtain ⟨_, h2⟩ := run_isAgg_agg ha w
  obtain ⟨w', hr, hp⟩ := Hp.storeCells (P := P) off vs w L l 0 h hi (by omega) h1
  refine ⟨w', ?_, by simpa using hp⟩
  simp [storeVar, Sem.run_bind, h2, Value.cells, hk, hr]
theorem Hp.storeOne {B : Nat} {w0 w : World} {L : List Blk} (h : Hp B w0 w L) {ty : TypeId} (ha : cellB P ty = true) {i b : Nat} {l : List Value} {t : TypeId} {n : Nat} (hi : L[i]? = some ⟨b, l, t, n⟩) (off : Nat) (v : Value) (ho : off < l.length) (h1 : v.oneCell' = true) :
    ∃ w', (storeVar ty ⟨b, off, none⟩ v).run P w = .ok () w' ∧ Hp B w0 w' (L.set i ⟨b, l.set off v, t, n⟩) := by
  obtain ⟨_, h2⟩ := run_isAgg_cell ha w
  obtain ⟨w', hr, hp⟩ := Hp.storeCells (P := P) off [v] w L l 0 h hi (by simp; omega) (by simp [h1])
  have hcs : v.cells = #[v] := by cases v <;> simp_all [Value.oneCell', Value.cells]
  refine ⟨w', ?_, by simpa [spl] using hp⟩
  simp [storeVar, Sem.run_bind, h2, hcs, hr]
section
variable {ops : Array Oper} {rest : List Oper} {o : Oper} {a : Act} {w : World} {Q : Exit → Act → World → Prop} {B : Nat} {w0 : World} {L : List Blk}
theorem wpList_alloc_hp (hp : Hp B w0 w L) (e : TypeId) (ho : o.op = .alloc e) (hw : Region.wanted o (yielded ops a.tmps) = true) (l : List Value) (n : Nat) (hz : zeroL P e = some (l, n))
    (h : ∀ b w', Hp B w0 w' (⟨b, l, e, n⟩ :: L) → wpList P ops Q rest (a.put o.dst (.pointer (some ⟨b, 0, none⟩))) w') : wpList P ops Q (o :: rest) a w := by
  refine BigFrame.wpList_want hw fun K hK => ?_
  unfold Oper.wp execOp
  unfold zeroL at hz
  cases hq : P.info? e with
  | none => simp [hq] at hz
  | some inf =>
    cases hzz : inf.zero with
    | none => simp [hq, hzz] at hz
    | some z =>
      simp [hq, hzz] at hz
      have hr : (Instr.alloc e true (.tuple #[])).run P w = .ok (.pointer (some ⟨w.heap.size, 0, none⟩)) (w.alloc (.cells z.cells e)) := by
        simp [Instr.alloc, zeroValue, typeInfo, hq, hzz, newVar, newRow, newObj]; rfl
      simp only [ho, Sem.run_bind, hr, Result.andThen_ok, Sem.run_pure]
      exact hK _ _ (h _ _ (hp.alloc _ l e n (by simp [← hz.2]) (by rw [← hz.1]; exact List.take_of_length_le (Nat.le_refl _))))
theorem wpList_box_hp (hp : Hp B w0 w L) (e : TypeId) (x : Operand) (ho : o.op = .box e x) (hw : Region.wanted o (yielded ops a.tmps) = true) (v : Value) (hv : a.eval x = v) (l : List Value) (hx : v.cells = l.toArray) (n : Nat) (hn : l.length = n)
    (h : ∀ b w', Hp B w0 w' (⟨b, l, e, n⟩ :: L) → wpList P ops Q rest (a.put o.dst (.pointer (some ⟨b, 0, none⟩))) w') : wpList P ops Q (o :: rest) a w := by
  refine BigFrame.wpList_want hw fun K hK => ?_
  unfold Oper.wp execOp
  subst hv
  have hr : (Instr.box e (a.eval x)).run P w = .ok (.pointer (some ⟨w.heap.size, 0, none⟩)) (w.alloc (.cells l.toArray e)) := by
    simp [Instr.box, newVar, newRow, newObj, hx]; rfl
  simp only [ho, Sem.run_bind, hr, Result.andThen_ok, Sem.run_pure]
  exact hK _ _ (h _ _ (hp.alloc _ l e n (by simp [hn]) (by simp)))
theorem wpList_loadAgg_hp (hp : Hp B w0 w L) (ty : TypeId) (x : Operand) (ho : o.op = .load ty x) (hw : Region.wanted o (yielded ops a.tmps) = true) (b off : Nat) (hx : a.eval x = .pointer (some ⟨b, off, none⟩))
    (k : Nat) (ha : aggB P ty k = true) (i : Nat) (l : List Value) (t : TypeId) (n : Nat) (hi : L[i]? = some ⟨b, l, t, n⟩) (vs : List Value) (hv : (l.drop off).take k = vs) (hk : vs.length = k)
    (h : wpList P ops Q rest (a.put o.dst (.agg vs.toArray)) w) : wpList P ops Q (o :: rest) a w := by
  refine BigFrame.wpList_want hw fun K hK => ?_
  unfold Oper.wp execOp
  simp only [ho, hx, Instr.loadAt, Instr.sureAddr, Sem.run_bind, Sem.run_pure, Result.andThen_ok, hp.loadAgg ha hi off vs hv hk]
  exact hK _ _ h
theorem wpList_loadOne_hp (hp : Hp B w0 w L) (ty : TypeId) (x : Operand) (ho : o.op = .load ty x) (hw : Region.wanted o (yielded ops a.tmps) = true) (b off : Nat) (hx : a.eval x = .pointer (some ⟨b, off, none⟩))
    (ha : cellB P ty = true) (i : Nat) (l : List Value) (t : TypeId) (n : Nat) (hi : L[i]? = some ⟨b, l, t, n⟩) (v : Value) (hv : l[off]? = some v)
    (h : wpList P ops Q rest (a.put o.dst v) w) : wpList P ops Q (o :: rest) a w := by
  refine BigFrame.wpList_want hw fun K hK => ?_
  unfold Oper.wp execOp
  simp only [ho, hx, Instr.loadAt, Instr.sureAddr, Sem.run_bind, Sem.run_pure, Result.andThen_ok, hp.loadOne ha hi off v hv]
  exact hK _ _ h
theorem wpList_storeAgg_hp (hp : Hp B w0 w L) (ty : TypeId) (x y : Operand) (ho : o.op = .store ty x y) (hw : Region.wanted o (yielded ops a.tmps) = true) (b off : Nat) (hx : a.eval x = .pointer (some ⟨b, off, none⟩))
    (vs : List Value) (hy : a.eval y = .agg vs.toArray) (ha : aggB P ty vs.length = true) (i : Nat) (l : List Value) (t : TypeId) (n : Nat) (hi : L[i]? = some ⟨b, l, t, n⟩)
    (hlen : off + vs.length ≤ l.length) (h1 : vs.all (·.oneCell') = true)
    (h : ∀ w', Hp B w0 w' (L.set i ⟨b, spl l off vs, t, n⟩) → wpList P ops Q rest (a.put o.dst undef) w') : wpList P ops Q (o :: rest) a w := by
  refine BigFrame.wpList_want hw fun K hK => ?_
  unfold Oper.wp execOp
  obtain ⟨w', hr, hp'⟩ := hp.storeAgg ha hi off vs rfl hlen h1
  simp only [ho, hx, hy, Instr.storeAt, Instr.sureAddr, Sem.run_bind, Sem.run_pure, Result.andThen_ok, hr]
  exact hK _ _ (h w' hp')
theorem wpList_storeAll_hp (hp : Hp B w0 w L) (ty : TypeId) (x y : Operand) (ho : o.op = .store ty x y) (hw : Region.wanted o (yielded ops a.tmps) = true) (b : Nat) (hx : a.eval x = .pointer (some ⟨b, 0, none⟩))
    (vs : List Value) (hy : a.eval y = .agg vs.toArray) (ha : aggB P ty vs.length = true) (i : Nat) (l : List Value) (t : TypeId) (n : Nat) (hi : L[i]? = some ⟨b, l, t, n⟩)
    (hlen : l.length = vs.length) (h1 : vs.all (·.oneCell') = true)
    (h : ∀ w', Hp B w0 w' (L.set i ⟨b, vs, t, n⟩) → wpList P ops Q rest (a.put o.dst undef) w') : wpList P ops Q (o :: rest) a w :=
  wpList_storeAgg_hp hp ty x y ho hw b 0 hx vs hy ha i l t n hi (by omega) h1 (by rw [spl_all l vs hlen]; exact h)
theorem wpList_storeOne_hp (hp : Hp B w0 w L) (ty : TypeId) (x y : Operand) (ho : o.op = .store ty x y) (hw : Region.wanted o (yielded ops a.tmps) = true) (b off : Nat) (hx : a.eval x = .pointer (some ⟨b, off, none⟩))
    (v : Value) (hy : a.eval y = v) (ha : cellB P ty = true) (i : Nat) (l : List Value) (t : TypeId) (n : Nat) (hi : L[i]? = some ⟨b, l, t, n⟩)
    (hlen : off < l.length) (h1 : v.oneCell' = true)
    (h : ∀ w', Hp B w0 w' (L.set i ⟨b, l.set off v, t, n⟩) → wpList P ops Q rest (a.put o.dst undef) w') : wpList P ops Q (o :: rest) a w := by
  refine BigFrame.wpList_want hw fun K hK => ?_
  unfold Oper.wp execOp
  obtain ⟨w', hr, hp'⟩ := hp.storeOne (P := P) ha hi off v hlen h1
  simp only [ho, hx, hy, Instr.storeAt, Instr.sureAddr, Sem.run_bind, Sem.run_pure, Result.andThen_ok, hr]
  exact hK _ _ (h w' hp')
end
theorem wrap_eq (n : Int) : IntKind.i64.wrap n = wrap64 n := by rw [IntKind.wrap_i64, wrap64]
theorem sTm {l : List Value} {ds : List Deferred} {t : Nat} {v : Value} {r : List Value} (h : l.drop t = v :: r) : Act.eval ⟨l.toArray, ds⟩ (.tmp t) = v := by
  have : (l.drop t)[0]? = some v := by rw [h]; rfl
  rw [List.getElem?_drop, Nat.add_zero] at this
  simp [Act.eval, this]
section
variable {P : Program} {ops : Array Oper} {rest : List Oper} {o : Oper} {a : Act} {w : World} {Q : Exit → Act → World → Prop}
theorem pre_load (ty : TypeId) (x : Operand) (_ : o.op = .load ty x) (h : wpList P ops Q (o :: rest) a w) : wpList P ops Q (o :: rest) a w := h
theorem pre_store (ty : TypeId) (x v : Operand) (_ : o.op = .store ty x v) (h : wpList P ops Q (o :: rest) a w) : wpList P ops Q (o :: rest) a w := h
theorem pre_alloc (ty : TypeId) (_ : o.op = .alloc ty) (h : wpList P ops Q (o :: rest) a w) : wpList P ops Q (o :: rest) a w := h
theorem pre_box (ty : TypeId) (x : Operand) (_ : o.op = .box ty x) (h : wpList P ops Q (o :: rest) a w) : wpList P ops Q (o :: rest) a w := h
theorem pre_build (t : TypeId) (len : Nat) (parts : Array (Nat × Operand)) (_ : o.op = .buildSlice t len parts) (h : wpList P ops Q (o :: rest) a w) : wpList P ops Q (o :: rest) a w := h
theorem pre_append (s x : Operand) (t : TypeId) (_ : o.op = .call { callee := .builtin .append, args := #[s, x], argTypes := #[t, t] }) (h : wpList P ops Q (o :: rest) a w) : wpList P ops Q (o :: rest) a w := h
end
theorem slot_const {a : Act} {v : Value} : a.eval (.const v) = v := rfl
theorem wanted_none {o : Oper} {f : Nat → Option Bool} (h : o.guard = none) : Region.wanted o f = true := by simp [Region.wanted, h]
theorem yielded_of {ops : List Oper} {l : List Value} {oj : Oper} {j d : Nat} {b : Bool} {r : List Oper} {r' : List Value} (hj : ops.drop j = oj :: r) (hd : oj.dst = some d)
    (ht : l.drop d = .bool b :: r') : yielded ops.toArray l.toArray j = some b := by
  have h1 : (ops.drop j)[0]? = some oj := by rw [hj]; rfl
  have h2 : (l.drop d)[0]? = some (.bool b) := by rw [ht]; rfl
  rw [List.getElem?_drop] at h1 h2
  simp only [Nat.add_zero] at h1 h2
  simp [yielded, h1, hd, h2]
theorem wanted_yes {ops : List Oper} {l : List Value} {o oj : Oper} {j d : Nat} {want : Bool} {r : List Oper} {r' : List Value} (hg : o.guard = some (j, want)) (hj : ops.drop j = oj :: r) (hd : oj.dst = some d)
    (ht : l.drop d = .bool want :: r') : Region.wanted o (yielded ops.toArray l.toArray) = true := by
  simp [Region.wanted, hg, yielded_of hj hd ht]
theorem wanted_no {ops : List Oper} {l : List Value} {o oj : Oper} {j d : Nat} {want : Bool} {r : List Oper} {r' : List Value} (hg : o.guard = some (j, want)) (hj : ops.drop j = oj :: r) (hd : oj.dst = some d)
    (ht : l.drop d = .bool (!want) :: r') : Region.wanted o (yielded ops.toArray l.toArray) = false := by
  simp [Region.wanted, hg, yielded_of hj hd ht]
theorem put_some (l : List Value) (ds : List Deferred) (d : Nat) (v : Value) : (Act.put ⟨l.toArray, ds⟩ (some d) v) = ⟨(l.set d v).toArray, ds⟩ := by simp [Act.put]
theorem put_none (a : Act) (v : Value) : a.put none v = a := rfl
theorem at0 {x : Blk} {r : List Blk} : (x :: r)[0]? = some x := rfl
theorem at1 {x0 x : Blk} {r : List Blk} : (x0 :: x :: r)[1]? = some x := rfl
theorem at2 {x0 x1 x : Blk} {r : List Blk} : (x0 :: x1 :: x :: r)[2]? = some x := rfl
theorem at3 {x0 x1 x2 x : Blk} {r : List Blk} : (x0 :: x1 :: x2 :: x :: r)[3]? = some x := rfl
theorem at4 {x0 x1 x2 x3 x : Blk} {r : List Blk} : (x0 :: x1 :: x2 :: x3 :: x :: r)[4]? = some x := rfl
theorem at5 {x0 x1 x2 x3 x4 x : Blk} {r : List Blk} : (x0 :: x1 :: x2 :: x3 :: x4 :: x :: r)[5]? = some x := rfl
theorem at6 {x0 x1 x2 x3 x4 x5 x : Blk} {r : List Blk} : (x0 :: x1 :: x2 :: x3 :: x4 :: x5 :: x :: r)[6]? = some x := rfl
theorem at7 {x0 x1 x2 x3 x4 x5 x6 x : Blk} {r : List Blk} : (x0 :: x1 :: x2 :: x3 :: x4 :: x5 :: x6 :: x :: r)[7]? = some x := rfl
theorem at8 {x0 x1 x2 x3 x4 x5 x6 x7 x : Blk} {r : List Blk} : (x0 :: x1 :: x2 :: x3 :: x4 :: x5 :: x6 :: x7 :: x :: r)[8]? = some x := rfl
theorem at9 {x0 x1 x2 x3 x4 x5 x6 x7 x8 x : Blk} {r : List Blk} : (x0 :: x1 :: x2 :: x3 :: x4 :: x5 :: x6 :: x7 :: x8 :: x :: r)[9]? = some x := rfl
theorem at10 {x0 x1 x2 x3 x4 x5 x6 x7 x8 x9 x : Blk} {r : List Blk} : (x0 :: x1 :: x2 :: x3 :: x4 :: x5 :: x6 :: x7 :: x8 :: x9 :: x :: r)[10]? = some x := rfl
theorem at11 {x0 x1 x2 x3 x4 x5 x6 x7 x8 x9 x10 x : Blk} {r : List Blk} : (x0 :: x1 :: x2 :: x3 :: x4 :: x5 :: x6 :: x7 :: x8 :: x9 :: x10 :: x :: r)[11]? = some x := rfl
theorem at12 {x0 x1 x2 x3 x4 x5 x6 x7 x8 x9 x10 x11 x : Blk} {r : List Blk} : (x0 :: x1 :: x2 :: x3 :: x4 :: x5 :: x6 :: x7 :: x8 :: x9 :: x10 :: x11 :: x :: r)[12]? = some x := rfl
theorem at13 {x0 x1 x2 x3 x4 x5 x6 x7 x8 x9 x10 x11 x12 x : Blk} {r : List Blk} : (x0 :: x1 :: x2 :: x3 :: x4 :: x5 :: x6 :: x7 :: x8 :: x9 :: x10 :: x11 :: x12 :: x :: r)[13]? = some x := rfl
inductive ResIs (P : Program) (tmps : Array Value) (w : World) : List ResultVar → List Value → Prop
  | nil : ResIs P tmps w [] []
  | tmp {t : Tmp} {v : Value} {rs : List ResultVar} {vs : List Value} : tmps.getD t undef = v → ResIs P tmps w rs vs → ResIs P tmps w (.tmp t :: rs) (v :: vs)
  | cell {p : Tmp} {ty : TypeId} {x : Addr} {v : Value} {rs : List ResultVar} {vs : List Value} : tmps.getD p undef = .pointer (some x) → (loadVar ty x).run P w = .ok v w → ResIs P tmps w rs vs → ResIs P tmps w (.cell p ty :: rs) (v :: vs)
def resOne (tmps : Array Value) : ResultVar → Sem Value
  | .tmp t => pure (tmps.getD t undef)
  | .cell a t => do loadVar t (← asAddr (tmps.getD a undef))
theorem ResIs.run {tmps : Array Value} {w : World} {rs : List ResultVar} {vs : List Value} (h : ResIs P tmps w rs vs) :
    (rs.mapM (resOne tmps)).run P w = .ok vs w := by
  induction h with
  | nil => simp
  | @tmp t v rs vs h1 _ ih =>
    have h0 : (resOne tmps (.tmp t)).run P w = .ok v w := by simp only [resOne, Sem.run_pure, h1]
    simp only [List.mapM_cons, Sem.run_bind, Sem.run_pure, Result.andThen_ok, ih, h0]
  | @cell p ty x v rs vs h1 h2 _ ih =>
    have ha : (asAddr (tmps.getD p undef)).run P w = .ok x w := by rw [h1]; rfl
    have h0 : (resOne tmps (.cell p ty)).run P w = .ok v w := by simp only [resOne, Sem.run_bind, ha, Result.andThen_ok, h2]
    simp only [List.mapM_cons, Sem.run_bind, Sem.run_pure, Result.andThen_ok, ih, h0]
theorem results_eq (fn : Func) (tmps : Array Value) : results fn tmps = (do
    let vs ← fn.results.mapM (resOne tmps)
    pure (if h : vs.size = 1 then vs[0] else .tuple vs)) := by
  unfold results
  have : (fun x => match x with | ResultVar.tmp t => pure (tmps.getD t undef) | .cell a t => do loadVar t (← asAddr (tmps.getD a undef))) = resOne tmps := by
    funext x; cases x <;> rfl
  exact congrArg (fun f => (do let vs ← fn.results.mapM f; pure (if h : vs.size = 1 then vs[0] else .tuple vs) : Sem Value)) this
theorem results_many {fn : Func} {tmps : Array Value} {w : World} {rs : List ResultVar} {v0 v1 : Value} {vs : List Value} (hf : fn.results = rs.toArray) (h : ResIs P tmps w rs (v0 :: v1 :: vs)) :
    (results fn tmps).run P w = .ok (.tuple (v0 :: v1 :: vs).toArray) w := by
  have := h.run
  rw [results_eq, hf, List.mapM_toArray]
  simp [this]
theorem results_one {fn : Func} {tmps : Array Value} {w : World} {rs : List ResultVar} {v0 : Value} (hf : fn.results = rs.toArray) (h : ResIs P tmps w rs [v0]) :
    (results fn tmps).run P w = .ok v0 w := by
  have := h.run
  rw [results_eq, hf, List.mapM_toArray]
  simp [this]
end
theorem wy {o : Oper} {f : Nat → Option Bool} (h : Region.wanted o f = true := by first | exact wanted_none rfl | exact wanted_yes rfl rfl rfl rfl) : Region.wanted o f = true := h
theorem aa5 {L : List Blk} {i : Nat} {p : Blk} (h : L[i]? = some p := by first | exact at0 | exact at1 | exact at2 | exact at3 | exact at4) : L[i]? = some p := h
theorem aa14 {L : List Blk} {i : Nat} {p : Blk} (h : L[i]? = some p := by first | exact at0 | exact at1 | exact at2 | exact at3 | exact at4 | exact at5 | exact at6 | exact at7 | exact at8 | exact at9 | exact at10 | exact at11 | exact at12 | exact at13) : L[i]? = some p := h
theorem rr {l vs : List Value} {off k : Nat} (h : (l.drop off).take k = vs := by simp only [List.drop_zero, List.drop_succ_cons, List.take_succ_cons, List.take_zero, List.take_nil]; rfl) : (l.drop off).take k = vs := h
theorem sv {a : Act} {x : Operand} {v : Value} (h : a.eval x = v := by first | exact sTm rfl | exact slot_const) : a.eval x = v := h
section
variable {P : Program} {ops : Array Oper} {rest : List Oper} {o : Oper} {a : Act} {w : World} {Q : Exit → Act → World → Prop} {B : Nat} {w0 : World} {L : List Blk} {e ty t : TypeId} {x y : Operand} {l vs : List Value} {v : Value} {i k b off n : Nat}
theorem lZ (hp : Hp B w0 w L) (ho : o.op = .alloc e) (hz : zeroL P e = some (l, n)) (h : ∀ b w', Hp B w0 w' (⟨b, l, e, n⟩ :: L) → wpList P ops Q rest (a.put o.dst (.pointer (some ⟨b, 0, none⟩))) w')
    (hw : Region.wanted o (yielded ops a.tmps) = true := by exact wy) : wpList P ops Q (o :: rest) a w := wpList_alloc_hp hp e ho hw l n hz h
theorem lB (hp : Hp B w0 w L) (ho : o.op = .box e x) (hv : a.eval x = v) (hx : v.cells = l.toArray) (h : ∀ b w', Hp B w0 w' (⟨b, l, e, n⟩ :: L) → wpList P ops Q rest (a.put o.dst (.pointer (some ⟨b, 0, none⟩))) w')
    (hw : Region.wanted o (yielded ops a.tmps) = true := by exact wy) (hn : l.length = n := by simp only [List.length_cons, List.length_nil, Nat.reduceAdd]; rfl) : wpList P ops Q (o :: rest) a w := wpList_box_hp hp e x ho hw v hv l hx n hn h
theorem lA (hp : Hp B w0 w L) (ho : o.op = .load ty x) (hx : a.eval x = .pointer (some ⟨b, off, none⟩)) (ha : aggB P ty k = true) (hi : L[i]? = some ⟨b, l, t, n⟩)
    (h : wpList P ops Q rest (a.put o.dst (.agg vs.toArray)) w) (hw : Region.wanted o (yielded ops a.tmps) = true := by exact wy) (hv : (l.drop off).take k = vs := by exact rr) (hk : vs.length = k := by rfl) : wpList P ops Q (o :: rest) a w :=
  wpList_loadAgg_hp hp ty x ho hw b off hx k ha i l t n hi vs hv hk h
theorem lO (hp : Hp B w0 w L) (ho : o.op = .load ty x) (hx : a.eval x = .pointer (some ⟨b, off, none⟩)) (ha : cellB P ty = true) (hi : L[i]? = some ⟨b, l, t, n⟩)
    (h : wpList P ops Q rest (a.put o.dst v) w) (hw : Region.wanted o (yielded ops a.tmps) = true := by exact wy) (hv : l[off]? = some v := by rfl) : wpList P ops Q (o :: rest) a w :=
  wpList_loadOne_hp hp ty x ho hw b off hx ha i l t n hi v hv h
theorem sO (hp : Hp B w0 w L) (ho : o.op = .store ty x y) (hx : a.eval x = .pointer (some ⟨b, off, none⟩)) (ha : cellB P ty = true) (hi : L[i]? = some ⟨b, l, t, n⟩)
    (h : ∀ w', Hp B w0 w' (L.set i ⟨b, l.set off v, t, n⟩) → wpList P ops Q rest (a.put o.dst undef) w') (hy : a.eval y = v := by exact sv) (hw : Region.wanted o (yielded ops a.tmps) = true := by exact wy)
    (hlen : off < l.length := by simp only [List.length_cons, List.length_nil]; omega) (h1 : v.oneCell' = true := by first | rfl | assumption) : wpList P ops Q (o :: rest) a w :=
  wpList_storeOne_hp hp ty x y ho hw b off hx v hy ha i l t n hi hlen h1 h
theorem sA (hp : Hp B w0 w L) (ho : o.op = .store ty x y) (hx : a.eval x = .pointer (some ⟨b, 0, none⟩)) (hy : a.eval y = .agg vs.toArray) (ha : aggB P ty k = true) (hi : L[i]? = some ⟨b, l, t, n⟩)
    (h : ∀ w', Hp B w0 w' (L.set i ⟨b, vs, t, n⟩) → wpList P ops Q rest (a.put o.dst undef) w') (hw : Region.wanted o (yielded ops a.tmps) = true := by exact wy) (hk : k = vs.length := by rfl)
    (hlen : l.length = vs.length := by rfl) (h1 : vs.all (·.oneCell') = true := by first | rfl | simp [*]) : wpList P ops Q (o :: rest) a w :=
  wpList_storeAll_hp hp ty x y ho hw b hx vs hy (hk ▸ ha) i l t n hi hlen h1 h
theorem sG (hp : Hp B w0 w L) (ho : o.op = .store ty x y) (hx : a.eval x = .pointer (some ⟨b, off, none⟩)) (hy : a.eval y = .agg vs.toArray) (ha : aggB P ty k = true) (hi : L[i]? = some ⟨b, l, t, n⟩)
    (h : ∀ w', Hp B w0 w' (L.set i ⟨b, spl l off vs, t, n⟩) → wpList P ops Q rest (a.put o.dst undef) w') (hw : Region.wanted o (yielded ops a.tmps) = true := by exact wy) (hk : k = vs.length := by rfl)
    (hlen : off + vs.length ≤ l.length := by simp only [List.length_cons, List.length_nil]; omega) (h1 : vs.all (·.oneCell') = true := by first | rfl | simp [*]) : wpList P ops Q (o :: rest) a w :=
  wpList_storeAgg_hp hp ty x y ho hw b off hx vs hy (hk ▸ ha) i l t n hi hlen h1 h
end
end Go.Proofs.YtcjbepaclbhjaaaGreat
namespace Go.Proofs.YtcjbepaclbhjaaaGreat
open Go.RowKit
section
variable {P : Program} {ops : Array Oper} {Q : Exit → Act → World → Prop} {S : World → Prop} {tl : List Nat}
def Closed (ops : Array Oper) (listed : Array Bool) : Prop := ∀ j o, ops[j]? = some o → listed.getD j false = true → ∀ e ∈ o.after, Region.binds .any e = true → listed.getD e.on false = true
theorem Closed.start (ops : Array Oper) (n : Nat) : Closed ops (Array.replicate n false) := fun j o _ hl => by
  rw [getD_replicate_no] at hl; cases hl
where
  getD_replicate_no {n j : Nat} : (Array.replicate n false).getD j false = false := by
    rcases Nat.lt_or_ge j n with h | h <;> simp [h]
theorem Closed.set {listed : Array Bool} (hc : Closed ops listed) {i : Nat} (hi : i ∈ Region.ready .any ops listed) : Closed ops (listed.setIfInBounds i true) := by
  obtain ⟨_, oi, hoi, hall⟩ := mem_ready.1 hi
  intro j o hj hl e he hb
  by_cases hij : i = j
  · subst hij
    have : o = oi := Option.some.inj (hj.symm.trans hoi)
    subst this
    exact getD_set_true (hall e he hb)
  · rw [getD_set_ne false hij] at hl
    exact getD_set_true (hc j o hj hl e he hb)
def waitsB (ops : Array Oper) : Nat → Nat → Nat → Bool
  | 0, _, _ => false
  | n + 1, j, i => match ops[j]? with
    | none => false
    | some o => o.after.any fun e => Region.binds .any e && (e.on == i || waitsB ops n e.on i)
theorem waits_listed {listed : Array Bool} (hc : Closed ops listed) {i : Nat} : ∀ (n j : Nat) (o : Oper), ops[j]? = some o → (∀ e ∈ o.after, Region.binds .any e = true → listed.getD e.on false = true) → waitsB ops n j i = true → listed.getD i false = true
  | 0, _, _, _, _, h => by simp [waitsB] at h
  | n + 1, j, o, ho, hall, h => by
    simp only [waitsB, ho, Array.any_eq_true'] at h
    obtain ⟨e, he, hx⟩ := h
    simp only [Bool.and_eq_true, Bool.or_eq_true, beq_iff_eq] at hx
    obtain ⟨hb, hx⟩ := hx
    have hl := hall e he hb
    rcases hx with hx | hx
    · rw [← hx]; exact hl
    · cases hq : ops[e.on]? with
      | none => cases n <;> simp [waitsB, hq] at hx
      | some o' => exact waits_listed hc n e.on o' hq (hc e.on o' hq hl) hx
def wpAnyG (P : Program) (ops : Array Oper) (Q : Exit → Act → World → Prop) (S : World → Prop) (tl : List Nat) : Nat → Array Bool → Act → World → Prop
  | 0, listed, a, w => Region.ready .any ops listed = [] ∧ Q .normal a w
  | fuel + 1, listed, a, w =>
    (Region.ready .any ops listed = [] → Q .normal a w) ∧
    ∀ i ∈ Region.ready .any ops listed, wpOp P ops Q i (fun a' w' => (tl.contains i = true ∨ S w') ∧ wpAnyG P ops Q S tl fuel (listed.setIfInBounds i true) a' w') a w
theorem wpAny_of_G : ∀ (fuel : Nat) (listed : Array Bool) (a : Act) (w : World), wpAnyG P ops Q S tl fuel listed a w → wpAny P .any ops Q fuel listed a w
  | 0, _, _, _, h => h
  | fuel + 1, _, _, _, h => ⟨h.1, fun i hi => wpOp_mono (fun a' w' h' => wpAny_of_G fuel _ a' w' h'.2) (h.2 i hi)⟩
theorem wpAnyG_take {i : Nat} {oi : Oper} {v : Value} (hi : ops[i]? = some oi) (hsel : Region.noSelect ops = true)
    (hQ : ∀ c a w, Q (.panic c) (a.put oi.dst v) w → Q (.panic c) a w) (ht : ∀ j, tl.contains j = true → waitsB ops ops.size j i = true) :
    ∀ (fuel : Nat) (listed : Array Bool) (a : Act) (w : World), Closed ops listed →
      (∀ j oj, ops[j]? = some oj → j ≠ i → listed.getD j true = false → (∀ e ∈ oj.after, Region.binds .any e = true → e.on ≠ i) → oi.apart ops oj = true) →
      i ∈ Region.ready .any ops listed → YieldsIf P ops S oi v a → S w →
      wpAnyG P ops Q S tl fuel (listed.setIfInBounds i true) (a.put oi.dst v) w → wpAnyG P ops Q S tl (fuel + 1) listed a w := by
  intro fuel
  induction fuel with
  | zero =>
    intro listed a w _ _ hr hy hS H
    refine ⟨fun h => (by rw [h] at hr; cases hr), fun j hj => ?_⟩
    by_cases hji : j = i
    · subst hji; exact hy.wpOp hi hS ⟨.inr hS, H⟩
    · have hm := ready_mono hj hji
      rw [H.1] at hm
      cases hm
  | succ fuel ih =>
    intro listed a w hc hfree hr hy hS H
    refine ⟨fun h => (by rw [h] at hr; cases hr), fun j hj => ?_⟩
    by_cases hji : j = i
    · subst hji; exact hy.wpOp hi hS ⟨.inr hS, H⟩
    · obtain ⟨hjun, oj, hoj, hall⟩ := mem_ready.1 hj
      have hiun := (mem_ready.1 hr).1
      have hno : ¬ listed.getD i false = true := fun h1 => by
        rcases Nat.lt_or_ge i listed.size with h' | h'
        · simp [h'] at h1 hiun; rw [hiun] at h1; cases h1
        · simp [Array.getElem?_eq_none h'] at h1
      have htj : tl.contains j = false := by
        cases hcj : tl.contains j with
        | false => rfl
        | true => exact absurd (waits_listed hc _ j oj hoj hall (ht j hcj)) hno
      have h1 := H.2 j (ready_mono hj hji)
      have hnot : ∀ e ∈ oj.after, Region.binds .any e = true → e.on ≠ i := fun e he hb heq => hno (heq ▸ hall e he hb)
      have h2 := wpOp_putIf hoj (hfree j oj hoj hji hjun hnot) (fun cs b => Region.noSelect_spec hsel i oi cs b hi) (fun cs b => Region.noSelect_spec hsel j oj cs b hoj) hQ hy h1
      have hfree' : ∀ k ok, ops[k]? = some ok → k ≠ i → (listed.setIfInBounds j true).getD k true = false →
          (∀ e ∈ ok.after, Region.binds .any e = true → e.on ≠ i) → oi.apart ops ok = true := fun k ok hk hki hun hn => by
        refine hfree k ok hk hki ?_ hn
        by_cases hjk : j = k
        · subst hjk; exact hjun
        · rw [getD_set_ne true hjk] at hun; exact hun
      refine wpOp_mono (fun a' w' h3 => ?_) h2
      obtain ⟨hy', hor, h4⟩ := h3
      have hS' : S w' := by
        rcases hor with h | h
        · rw [htj] at h; cases h
        · exact h
      refine ⟨.inr hS', ih (listed.setIfInBounds j true) a' w' (hc.set hj) hfree' (ready_mono hr (Ne.symm hji)) hy' hS' ?_⟩
      rw [Array.setIfInBounds_comm _ _ hji]
      exact h4
def wpPlan (P : Program) (ops : Array Oper) (Q : Exit → Act → World → Prop) (S : World → Prop) (tl : List Nat) : List (Nat × Bool) → Act → World → Prop
  | [], a, w => Q .normal a w
  | (i, true) :: rest, a, w => ∃ o v, ops[i]? = some o ∧ YieldsIf P ops S o v a ∧ wpPlan P ops Q S tl rest (a.put o.dst v) w
  | (i, false) :: rest, a, w => ∃ o, ops[i]? = some o ∧ wpList P ops (Exit.then (fun a' w' => (tl.contains i = true ∨ S w') ∧ wpPlan P ops Q S tl rest a' w') Q) [o] a w
def planB (ops : Array Oper) (tl : List Nat) : Bool → Array Bool → List (Nat × Bool) → Bool
  | _, listed, [] => (Region.ready .any ops listed).isEmpty
  | s, listed, (i, true) :: r => s && (Region.ready .any ops listed).contains i && Region.free .any ops listed i && tl.all (fun j => waitsB ops ops.size j i) && planB ops tl s (listed.setIfInBounds i true) r
  | s, listed, (i, false) :: r => decide (Region.ready .any ops listed = [i]) && planB ops tl (s && !tl.contains i) (listed.setIfInBounds i true) r
theorem wpList_one {o : Oper} {K : Act → World → Prop} {a : Act} {w : World} (h : wpList P ops (Exit.then K Q) [o] a w) :
    if Region.wanted o (yielded ops a.tmps) then o.wp P a w K Q ∨ (o.asks P a w ∧ LetsOut Q) else K (a.put o.dst undef) w := by
  unfold wpList at h
  have e1 : wpList P ops (Exit.then K Q) [] = K := by funext a' w'; rfl
  rw [e1] at h
  split at h
  · rename_i hw
    rw [if_pos hw]
    rcases h with h | ⟨h1, h2⟩
    · left
      unfold Oper.wp at h ⊢
      generalize (execOp a.eval o).run P w = r at h ⊢
      cases r with
      | ok n w' =>
        cases n <;> simp only [Oper.upon] at h ⊢ <;> exact h
      | halt x w' =>
        cases x <;> simp only [Oper.upon] at h ⊢ <;> exact h
    · exact .inr ⟨h1, h2⟩
  · rename_i hw
    rw [if_neg hw]; exact h
theorem wpAnyG_of_plan (hs : Region.noSelect ops = true) (hQ : ∀ c a d v w, Q (.panic c) (a.put d v) w → Q (.panic c) a w) : ∀ (plan : List (Nat × Bool)) (s : Bool) (fuel : Nat) (listed : Array Bool) (a : Act) (w : World), Closed ops listed →
    plan.length ≤ fuel → planB ops tl s listed plan = true → (s = true → S w) → wpPlan P ops Q S tl plan a w → wpAnyG P ops Q S tl fuel listed a w
  | [], s, fuel, listed, a, w, _, hf, hB, _, h => by
    have hB' : Region.ready .any ops listed = [] := by simpa [planB] using hB
    cases fuel with
    | zero => exact ⟨hB', h⟩
    | succ f => exact ⟨fun _ => h, fun i hi => by rw [hB'] at hi; cases hi⟩
  | (i, true) :: rest, s, fuel, listed, a, w, hc, hf, hB, hS, h => by
    obtain ⟨f, rfl⟩ : ∃ f, fuel = f + 1 := ⟨fuel - 1, by simp at hf; omega⟩
    simp only [planB, Bool.and_eq_true] at hB
    obtain ⟨⟨⟨⟨b1, b2⟩, b3⟩, b4⟩, b5⟩ := hB
    obtain ⟨o, v, ho, hy, hr⟩ := h
    have hr0 : i ∈ Region.ready .any ops listed := by simpa using b2
    have ht : ∀ j, tl.contains j = true → waitsB ops ops.size j i = true := fun j hj => by
      have := List.all_eq_true.1 b4 j (by simpa using hj)
      exact this
    exact wpAnyG_take ho hs (fun c a w h => hQ c a _ v w h) ht f listed a w hc (Region.free_spec ho b3) hr0 hy (hS b1) (wpAnyG_of_plan hs hQ rest s f _ _ w (hc.set hr0) (by simp at hf; omega) b5 hS hr)
  | (i, false) :: rest, s, fuel, listed, a, w, hc, hf, hB, hS, h => by
    obtain ⟨f, rfl⟩ : ∃ f, fuel = f + 1 := ⟨fuel - 1, by simp at hf; omega⟩
    simp only [planB, Bool.and_eq_true, decide_eq_true_eq] at hB
    obtain ⟨o, ho, hr⟩ := h
    have hr0 : i ∈ Region.ready .any ops listed := by rw [hB.1]; simp
    refine ⟨fun h0 => (by rw [h0] at hr0; cases hr0), fun j hj => ?_⟩
    rw [hB.1] at hj
    obtain rfl : j = i := by simpa using hj
    have h1 := wpList_one hr
    have h2 : wpOp P ops Q j (fun a' w' => (tl.contains j = true ∨ S w') ∧ wpPlan P ops Q S tl rest a' w') a w := by
      unfold wpOp; simp only [ho]; exact h1
    refine wpOp_mono (fun a' w' h' => ⟨h'.1, wpAnyG_of_plan hs hQ rest _ f _ a' w' (hc.set hr0) (by simp at hf; omega) hB.2 ?_ h'.2⟩) h2
    intro hs1
    simp only [Bool.and_eq_true, Bool.not_eq_true'] at hs1
    rcases h'.1 with h3 | h3
    · rw [hs1.2] at h3; cases h3
    · exact h3
theorem wp_region_plan {id : Nat} {a : Act} {w : World} {l : List Oper} (S : World → Prop) (tl : List Nat) (plan : List (Nat × Bool)) (hm : P.follows .mixedOrders = true) (hs : Region.noSelect l.toArray = true)
    (hl : plan.length = l.length) (hB : planB l.toArray tl true (Array.replicate l.length false) plan = true) (hQ : ∀ c a d v w, Q (.panic c) (a.put d v) w → Q (.panic c) a w) (hS : S w.drew)
    (h : wpPlan P l.toArray Q S tl plan a w.drew) : (Code.region id l.toArray true).wp P Q a w :=
  wp_region_any hm (by
    have := wpAnyG_of_plan hs hQ plan true l.length (Array.replicate l.length false) a w.drew (Closed.start _ _) (by omega) hB (fun _ => hS) h
    have := wpAny_of_G _ _ _ _ this
    simpa using this)
theorem plan_is {r : List (Nat × Bool)} {a : Act} {w : World} (h : wpPlan P ops Q S tl r a w) : wpPlan P ops Q S tl r a w := h
theorem plan_nil {a : Act} {w : World} (h : Q .normal a w) : wpPlan P ops Q S tl [] a w := h
theorem at_drop {l : List Oper} {i : Nat} {o : Oper} {r : List Oper} (h : l.drop i = o :: r) : l.toArray[i]? = some o := by
  have : (l.drop i)[0]? = some o := by rw [h]; rfl
  simpa [List.getElem?_drop] using this
variable {l : List Oper}
def Back (p : Prop) : Prop := p
theorem Back.out {p : Prop} (h : Back p) : p := h
theorem plan_do {i : Nat} {rest : List (Nat × Bool)} {a : Act} {w : World} {o : Oper} {r : List Oper} (ho : l.drop i = o :: r)
    (h : ∀ K : Act → World → Prop, Back (∀ a' w', (tl.contains i = true ∨ S w') → wpPlan P l.toArray Q S tl rest a' w' → K a' w') → wpList P l.toArray (Exit.then K Q) [o] a w) : wpPlan P l.toArray Q S tl ((i, false) :: rest) a w :=
  ⟨o, at_drop ho, h _ fun _ _ hS hr => ⟨hS, hr⟩⟩
theorem eval_tmp (l : List Value) (ds : List Deferred) (t : Nat) : (Act.eval ⟨l.toArray, ds⟩ (.tmp t)) = l.getD t undef := by simp [Act.eval]
theorem eval_const (a : Act) (v : Value) : a.eval (.const v) = v := rfl
end
section
variable {P : Program} {Q : Exit → Act → World → Prop} {S : World → Prop} {tl : List Nat} {l r : List Oper} {i : Nat} {rest : List (Nat × Bool)} {a : Act} {w : World} {o : Oper} {ty : TypeId} {x : Operand} {b off : Nat} {v : Value}
def TkG (P : Program) (ops : Array Oper) (Q : Exit → Act → World → Prop) (S : World → Prop) (tl : List Nat) (rest : List (Nat × Bool)) (o : Oper) (a : Act) (w : World) : Prop := ∃ v, YieldsIf P ops S o v a ∧ wpPlan P ops Q S tl rest (a.put o.dst v) w
theorem plan_t (h : wpPlan P l.toArray Q S tl ((i, true) :: rest) a w) : wpPlan P l.toArray Q S tl ((i, true) :: rest) a w := h
theorem plan_tk (ho : l.drop i = o :: r) (h : TkG P l.toArray Q S tl rest o a w) : wpPlan P l.toArray Q S tl ((i, true) :: rest) a w := by
  obtain ⟨v, h1, h2⟩ := h
  exact ⟨o, v, at_drop ho, h1, h2⟩
theorem tk_ld (ty : TypeId) (x : Operand) (_ : o.op = .load ty x) (h : TkG P l.toArray Q S tl rest o a w) : TkG P l.toArray Q S tl rest o a w := h
theorem tk_mv (x : Operand) (_ : o.op = .move x) (h : TkG P l.toArray Q S tl rest o a w) : TkG P l.toArray Q S tl rest o a w := h
theorem tk_gd (j : Nat) (q : Bool) (_ : o.guard = some (j, q)) (h : TkG P l.toArray Q S tl rest o a w) : TkG P l.toArray Q S tl rest o a w := h
theorem tS (hw : Region.wanted o (yielded l.toArray a.tmps) = false) (h : wpPlan P l.toArray Q S tl rest (a.put o.dst undef) w) : TkG P l.toArray Q S tl rest o a w := ⟨undef, .inr ⟨hw, rfl⟩, h⟩
theorem tG (hr : ∀ w, S w → (execOp a.eval o).run P w = .ok (.value v) w) (h : wpPlan P l.toArray Q S tl rest (a.put o.dst v) w) (hw : Region.wanted o (yielded l.toArray a.tmps) = true := by exact wy) : TkG P l.toArray Q S tl rest o a w := ⟨v, .inl ⟨hw, hr⟩, h⟩
theorem tM (hx : o.op = .move x) (h : wpPlan P l.toArray Q S tl rest (a.put o.dst (a.eval x)) w) (hw : Region.wanted o (yielded l.toArray a.tmps) = true := by exact wy) : TkG P l.toArray Q S tl rest o a w :=
  ⟨_, .inl ⟨hw, fun w _ => by unfold execOp; rw [hx]; rfl⟩, h⟩
theorem tL (hx : o.op = .load ty x) (he : a.eval x = .pointer (some ⟨b, off, none⟩)) (hv : ∀ w, S w → (loadVar ty ⟨b, off, none⟩).run P w = .ok v w)
    (h : wpPlan P l.toArray Q S tl rest (a.put o.dst v) w) (hw : Region.wanted o (yielded l.toArray a.tmps) = true := by exact wy) : TkG P l.toArray Q S tl rest o a w :=
  ⟨_, .inl ⟨hw, fun w hS => by unfold execOp; rw [hx]; simp [he, Instr.loadAt, Instr.sureAddr, hv w hS]⟩, h⟩
end
def Keeps (B : Nat) (w0 : World) (M : List Blk) (w : World) : Prop := ∃ L, Hp B w0 w L ∧ ∀ p ∈ M, p ∈ L
theorem Keeps.start {B : Nat} {w0 w : World} {L : List Blk} (h : Hp B w0 w L) (M : List Blk) (hm : ∀ p ∈ M, p ∈ L) : Keeps B w0 M w := ⟨L, h, hm⟩
theorem Keeps.zero {B : Nat} {w0 w : World} {L : List Blk} (h : Hp B w0 w L) : Keeps B w0 [] w := ⟨L, h, by simp⟩
theorem Keeps.one {B : Nat} {w0 w : World} {L : List Blk} (h : Hp B w0 w L) {i : Nat} {p : Blk} (hi : L[i]? = some p) : Keeps B w0 [p] w := ⟨L, h, fun q hq => by
  rw [List.mem_singleton.1 hq]; exact Hp.mem hi⟩
theorem Keeps.two {B : Nat} {w0 w : World} {L : List Blk} (h : Hp B w0 w L) {i j : Nat} {p q : Blk} (hi : L[i]? = some p) (hj : L[j]? = some q) : Keeps B w0 [p, q] w := ⟨L, h, fun r hr => by
  rcases List.mem_cons.1 hr with rfl | hr
  · exact Hp.mem hi
  · rw [List.mem_singleton.1 hr]; exact Hp.mem hj⟩
theorem wp_region_keeps {P : Program} {Q : Exit → Act → World → Prop} {id : Nat} {a : Act} {w w0 : World} {B : Nat} {l : List Oper} (M : List Blk) (hS : Keeps B w0 M w.drew) (tl : List Nat) (plan : List (Nat × Bool)) (hm : P.follows .mixedOrders = true) (hs : Region.noSelect l.toArray = true)
    (hl : plan.length = l.length) (hB : planB l.toArray tl true (Array.replicate l.length false) plan = true) (hQ : ∀ c a d v w, Q (.panic c) (a.put d v) w → Q (.panic c) a w)
    (h : wpPlan P l.toArray Q (Keeps B w0 M) tl plan a w.drew) : (Code.region id l.toArray true).wp P Q a w :=
  wp_region_plan _ tl plan hm hs hl hB hQ hS h
theorem Keeps.loadAgg {P : Program} {B : Nat} {w0 w : World} {M : List Blk} (h : Keeps B w0 M w) {ty : TypeId} {k : Nat} (ha : aggB P ty k = true) {i b : Nat} {l : List Value} {t : TypeId} {n : Nat} (hi : M[i]? = some ⟨b, l, t, n⟩) (off : Nat) (vs : List Value) (hv : (l.drop off).take k = vs) (hk : vs.length = k) :
    (loadVar ty ⟨b, off, none⟩).run P w = .ok (.agg vs.toArray) w := by
  obtain ⟨L, hp, hm⟩ := h
  obtain ⟨j, hj, hjl⟩ := List.getElem_of_mem (hm _ (Hp.mem hi))
  exact hp.loadAgg ha (i := j) (by rw [List.getElem?_eq_getElem hj, hjl]) off vs hv hk
theorem Keeps.loadOne {P : Program} {B : Nat} {w0 w : World} {M : List Blk} (h : Keeps B w0 M w) {ty : TypeId} (ha : cellB P ty = true) {i b : Nat} {l : List Value} {t : TypeId} {n : Nat} (hi : M[i]? = some ⟨b, l, t, n⟩) (off : Nat) (v : Value) (hv : l[off]? = some v) :
    (loadVar ty ⟨b, off, none⟩).run P w = .ok v w := by
  obtain ⟨L, hp, hm⟩ := h
  obtain ⟨j, hj, hjl⟩ := List.getElem_of_mem (hm _ (Hp.mem hi))
  exact hp.loadOne ha (i := j) (by rw [List.getElem?_eq_getElem hj, hjl]) off v hv
theorem Hp.row {B : Nat} {w0 w : World} {L : List Blk} (h : Hp B w0 w L) {i b : Nat} {l : List Value} {t : TypeId} {n : Nat} (hi : L[i]? = some ⟨b, l, t, n⟩) : ∀ j v, l[j]? = some v → w.cell? ⟨b, j, none⟩ = some v :=
  fun _ _ hv => h.cell hi hv
theorem wanted_nu {ops : List Oper} {l : List Value} {o oj : Oper} {j d : Nat} {want : Bool} {r : List Oper} {r' : List Value} (hg : o.guard = some (j, want)) (hj : ops.drop j = oj :: r) (hd : oj.dst = some d)
    (ht : l.drop d = undef :: r') : Region.wanted o (yielded ops.toArray l.toArray) = false := by
  have h1 : (ops.drop j)[0]? = some oj := by rw [hj]; rfl
  have h2 : (l.drop d)[0]? = some undef := by rw [ht]; rfl
  rw [List.getElem?_drop] at h1 h2
  simp only [Nat.add_zero] at h1 h2
  have : yielded ops.toArray l.toArray j = none := by simp [yielded, h1, hd, h2, undef]
  simp [Region.wanted, hg, this]
theorem Keeps.all {B : Nat} {w0 w : World} {L : List Blk} (h : Hp B w0 w L) : Keeps B w0 L w := ⟨L, h, fun _ hp => hp⟩
theorem Hp.tail {B : Nat} {w0 w : World} {p : Blk} {L : List Blk} (h : Hp B w0 w (p :: L)) : Hp B w0 w L :=
  ⟨h.below, h.size, (List.nodup_cons.1 (by simpa using h.nodup)).2, fun q hq => h.own q (List.mem_cons_of_mem _ hq)⟩
section
variable {P : Program} {Q : Exit → Act → World → Prop} {B : Nat} {w0 : World} {M : List Blk} {tl : List Nat} {i j k b off n : Nat} {rest : List (Nat × Bool)} {a : Act} {w : World} {o : Oper} {lo r : List Oper} {ty t : TypeId} {x : Operand} {l vs : List Value} {v : Value}
theorem tA (hx : o.op = .load ty x) (he : a.eval x = .pointer (some ⟨b, off, none⟩)) (ha : aggB P ty k = true) (hi : M[j]? = some ⟨b, l, t, n⟩)
    (h : wpPlan P lo.toArray Q (Keeps B w0 M) tl rest (a.put o.dst (.agg vs.toArray)) w) (hw : Region.wanted o (yielded lo.toArray a.tmps) = true := by exact wy) (hv : (l.drop off).take k = vs := by exact rr) (hk : vs.length = k := by rfl) :
    TkG P lo.toArray Q (Keeps B w0 M) tl rest o a w := tL hx he (fun _ hS => hS.loadAgg ha hi off vs hv hk) h hw
theorem tO (hx : o.op = .load ty x) (he : a.eval x = .pointer (some ⟨b, off, none⟩)) (ha : cellB P ty = true) (hi : M[j]? = some ⟨b, l, t, n⟩)
    (h : wpPlan P lo.toArray Q (Keeps B w0 M) tl rest (a.put o.dst v) w) (hw : Region.wanted o (yielded lo.toArray a.tmps) = true := by exact wy) (hv : l[off]? = some v := by rfl) :
    TkG P lo.toArray Q (Keeps B w0 M) tl rest o a w := tL hx he (fun _ hS => hS.loadOne ha hi off v hv) h hw
theorem kall {B : Nat} {w0 w : World} {L M : List Blk} (hp : Hp B w0 w L) (hm : ∀ p ∈ M, p ∈ L := by first | exact fun p h => h | exact fun p h => List.mem_cons_of_mem _ h | exact fun p h => List.mem_cons_of_mem _ (List.mem_cons_of_mem _ h) | exact fun p h => by (simp only [List.mem_cons, List.mem_append] at h ⊢; rcases h with h | h | h <;> simp [h]) | exact fun p h => by (simp only [List.mem_cons, List.mem_append] at h ⊢; rcases h with h | h | h | h <;> simp [h])) : Keeps B w0 M w := ⟨L, hp, hm⟩
end
end Go.Proofs.YtcjbepaclbhjaaaGreat
namespace Go.Proofs.YtcjbepaclbhjaaaGreat
open Go.RowKit
section
variable {P : Program} {ops : Array Oper} {Q : Exit → Act → World → Prop} {S : World → Prop} {tl : List Nat}
def moveB (ops : Array Oper) (i : Nat) : Bool := match ops[i]? with
  | some o => (match o.op with | .move _ => true | _ => false)
  | none => false
theorem YieldsIf.pure {i : Nat} {o : Oper} {v : Value} {a : Act} (hi : ops[i]? = some o) (hm : moveB ops i = true) (hs : ∃ w, S w) (hy : YieldsIf P ops S o v a) : YieldsIf P ops (fun _ => True) o v a := by
  rcases hy with ⟨hw, hr⟩ | h
  · obtain ⟨w1, h1⟩ := hs
    have h2 := hr w1 h1
    unfold moveB at hm
    rw [hi] at hm
    simp only at hm
    split at hm
    · rename_i x hx
      have e : ∀ w, (execOp a.eval o).run P w = .ok (.value (a.eval x)) w := fun w => by unfold execOp; rw [hx]; rfl
      rw [e] at h2
      injection h2 with h2
      injection h2 with h2
      subst h2
      exact .inl ⟨hw, fun w _ => e w⟩
    · cases hm
  · exact .inr h
end
end Go.Proofs.YtcjbepaclbhjaaaGreat
namespace Go.Proofs.YtcjbepaclbhjaaaGreat
open Go.RowKit Go.ChangeShapes Go.WideShapes Go.ChangeAt
def AllCells (P : Program) (W : World) (r : Reach) (b : Nat) : List TypeId → List Value → Prop
  | [], [] => True
  | t :: ts, v :: vs => Cell.okWide P W r b t v ∧ AllCells P W r b ts vs
  | _, _ => False
theorem allCells_of {P : Program} {W : World} {r : Reach} {b : Nat} : ∀ (ts : List TypeId) (cs : List Value), cs.length = ts.length →
    (∀ (i : Nat) (v : Value) (u : TypeId), cs[i]? = some v → ts[i]? = some u → Cell.okWide P W r b u v) → AllCells P W r b ts cs
  | [], [], _, _ => trivial
  | [], _ :: _, h, _ => by simp at h
  | _ :: _, [], h, _ => by simp at h
  | t :: ts, v :: vs, h, H => ⟨H 0 v t rfl rfl, allCells_of ts vs (by simpa using h) fun i x u hx hu => H (i + 1) x u (by simpa using hx) (by simpa using hu)⟩
theorem open_agg {P : Program} {W : World} {r : Reach} {b : Nat} {t : TypeId} {v : Value} {fs : Array Field} {ts : List TypeId} (hs : P.underlying t = some (.struct fs)) (hts : P.cellTypes P.depth t = some ts)
    (hC : P.cellsOf t = ts.length) (hv : Value.okWide P W r b t v) : ∃ cs : List Value, v = .agg cs.toArray ∧ AllCells P W r b ts cs := by
  simp only [Value.okWide, hs] at hv
  obtain ⟨cs, rfl, hsz, ts', hts', _, hall⟩ := hv
  rw [hts] at hts'
  obtain rfl := Option.some.inj hts'
  refine ⟨cs.toList, by simp, allCells_of _ _ (by simp [hsz, hC]) fun i v u hi hu => ?_⟩
  have hi' : cs[i]? = some v := by simpa using hi
  obtain ⟨u', hu', hc⟩ := hall i v hi'
  have hlt : i < ts.length := by
    have := (Array.getElem?_eq_some_iff.1 hi').1
    omega
  rw [Nat.mod_eq_of_lt hlt] at hu'
  rw [hu] at hu'
  obtain rfl := Option.some.inj hu'
  exact hc
theorem all_nil {P : Program} {W : World} {r : Reach} {b : Nat} {cs : List Value} (h : AllCells P W r b [] cs) : cs = [] := by
  cases cs with
  | nil => rfl
  | cons => exact h.elim
theorem all_int {P : Program} {W : World} {r : Reach} {b : Nat} {t : TypeId} {ts : List TypeId} {cs : List Value} {k : IntKind} (hu : P.underlying t = some (.int k)) (h : AllCells P W r b (t :: ts) cs) :
    ∃ n cs', cs = .int k n :: cs' ∧ k.has n ∧ AllCells P W r b ts cs' := by
  cases cs with
  | nil => exact h.elim
  | cons v vs =>
    obtain ⟨h1, h2⟩ := h
    unfold Cell.okWide at h1
    rw [hu] at h1
    cases v <;> simp [Cell.ok, hu] at h1
    obtain ⟨rfl, h1⟩ := h1
    exact ⟨_, vs, rfl, h1, h2⟩
theorem all_string {P : Program} {W : World} {r : Reach} {b : Nat} {t : TypeId} {ts : List TypeId} {cs : List Value} (hu : P.underlying t = some .string) (h : AllCells P W r b (t :: ts) cs) :
    ∃ s cs', cs = .string s :: cs' ∧ (s.size : Int) ≤ 9223372036854775807 ∧ AllCells P W r b ts cs' := by
  cases cs with
  | nil => exact h.elim
  | cons v vs =>
    obtain ⟨h1, h2⟩ := h
    unfold Cell.okWide at h1
    rw [hu] at h1
    cases v <;> simp [Cell.ok, hu] at h1
    exact ⟨_, vs, rfl, h1, h2⟩
theorem all_slice {P : Program} {W : World} {r : Reach} {b : Nat} {t e : TypeId} {ts : List TypeId} {cs : List Value} (hu : P.underlying t = some (.slice e)) (h : AllCells P W r b (t :: ts) cs) :
    ∃ a n k cs', cs = .slice a n k :: cs' ∧ Cell.okWide P W r b t (.slice a n k) ∧ AllCells P W r b ts cs' := by
  cases cs with
  | nil => exact h.elim
  | cons v vs =>
    obtain ⟨h1, h2⟩ := h
    have h1' := h1
    unfold Cell.okWide at h1
    rw [hu] at h1
    cases v <;> simp [Cell.ok, hu] at h1
    exact ⟨_, _, _, vs, rfl, h1', h2⟩
theorem ok_int {P : Program} {W : World} {r : Reach} {b : Nat} {t : TypeId} {v : Value} {k : IntKind} (hu : P.underlying t = some (.int k)) (hv : Value.okWide P W r b t v) : ∃ n, v = .int k n ∧ k.has n := by
  simp only [Value.okWide, hu] at hv
  unfold Cell.okWide at hv
  rw [hu] at hv
  cases v <;> simp [Cell.ok, hu] at hv
  obtain ⟨rfl, hv⟩ := hv
  exact ⟨_, rfl, hv⟩
section
variable {H : Type} {enc : TypeId × Value → H} {P : Program}
theorem trodAll_below (hl : laidOutB P = true) {W W' : World} (hb : Below W.heap.size W W') : ∀ (ts : List TypeId) (vs : List Value) (ds : List (DataW H)) (ps : List MemPlace),
    (∀ t ∈ ts, P.readableRec t = true ∧ t < P.types.size) → (∀ x ∈ ps, x.block < W.heap.size) →
    DataW.TrodAll enc P W 0 (fun _ => true) true ts vs ds ps → DataW.TrodAll enc P W' 0 (fun b => decide (b < W.heap.size)) true ts vs ds ps
  | [], vs, ds, ps, _, _, h => by
    obtain ⟨rfl, rfl, rfl⟩ := trodAll_nil h
    exact trodAll_mk0
  | t :: ts, vs, ds, ps, hr, hlt, h => by
    obtain ⟨v, vs', d, ds', p, q, rfl, rfl, rfl, h0, h1⟩ := trodAll_cons h
    have hr0 := hr t (by simp)
    exact trodAll_cons_mk (Below.trod hl hr0.1 hr0.2 h0 hb (fun x hx => hlt x (by simp [hx]))) (trodAll_below hl hb ts vs' ds' q (fun u hu => hr u (by simp [hu])) (fun x hx => hlt x (by simp [hx])) h1)
theorem post_law {f : Func} {s : ChangeSpec} {W W' : World} {args : Array Value} {ds gs : List (DataW H)} {before : List MemPlace} {tb : TypeId} (hl : laidOutB P = true)
    (hr : ∀ t ∈ f.params.toList, P.readableRec t = true ∧ t < P.types.size) (hv : s.vars = []) (hres : f.resultTypes = #[tb]) (hu : P.underlying tb = some .bool)
    (hfn : s.fn H (ds ++ gs) = { results := [.lit (.bool true)], args := ds })
    (hW : DataW.Whole enc P f.params.toList s.vars false W args.toList ds gs before) (hb : Below W.heap.size W W') :
    s.post enc P f false true false false W args (.bool true) W' := by
  have hW' := hW
  obtain ⟨p, q, hA, hV, rfl, _, _⟩ := hW
  rw [hv] at hV
  obtain ⟨rfl, rfl⟩ := trodVars_none hV
  have hlt : ∀ x ∈ p, x.block < W.heap.size := fun x hx => hW'.lt x (by simp [hx])
  refine ⟨ds, [], p ++ [], [], p, [], hW', ?_, ?_, ?_, World.keptBut_mono (fun x hx => ⟨hx, .inr (.inl (by simpa using hx))⟩) (hb.frame (· ∈ p ++ [])), fun h => by cases h⟩
  · rw [hfn, hres]
    exact trodAll_mk1 (shut_bool hu true)
  · rw [hfn]
    exact trodAll_below hl hb _ _ _ _ hr hlt hA
  · rw [hfn, hv]; trivial
end
end Go.Proofs.YtcjbepaclbhjaaaGreat
namespace Go.Proofs.YtcjbepaclbhjaaaGreat
open Go.RowKit
def RowIs (w : World) (a : Option Addr) (xs : List Value) : Prop := ∀ j v, xs[j]? = some v → ∃ b off, a = some ⟨b, off, none⟩ ∧ w.cell? ⟨b, off + j, none⟩ = some v
theorem RowIs.nil (w : World) (a : Option Addr) : RowIs w a [] := by intro j v h; simp at h
theorem RowIs.below {w w' : World} {a : Option Addr} {xs : List Value} (h : RowIs w a xs) (hb : Below w.heap.size w w') : RowIs w' a xs := fun j v hj => by
  obtain ⟨b, off, ha, hc⟩ := h j v hj
  exact ⟨b, off, ha, (hb.cell (World.block_lt_of_cell? w _ hc)).trans hc⟩
theorem RowIs.hp {B : Nat} {w0 w : World} {L : List Blk} {a : Option Addr} {xs : List Value} (h : RowIs w0 a xs) (hp : Hp w0.heap.size w0 w L) : RowIs w a xs := h.below hp.below
theorem RowIs.addr {w : World} {a : Option Addr} {xs : List Value} (h : RowIs w a xs) (hne : 0 < xs.length) : ∃ b off, a = some ⟨b, off, none⟩ ∧ ∀ j v, xs[j]? = some v → w.cell? ⟨b, off + j, none⟩ = some v := by
  obtain ⟨b, off, rfl, _⟩ := h 0 xs[0] (by simp [hne])
  refine ⟨b, off, rfl, fun j v hj => ?_⟩
  obtain ⟨b', off', he, hc⟩ := h j v hj
  injection he with he
  injection he with h1 h2
  subst h1; subst h2
  exact hc
theorem flat_len {α : Type} (f : α → List Value) (c : Nat) (hf : ∀ x, (f x).length = c) (l : List α) : (l.flatMap f).length = l.length * c := by
  induction l with
  | nil => simp
  | cons x l ih => simp [ih, hf, Nat.add_mul, Nat.add_comm]
theorem flat_get {α : Type} (f : α → List Value) (c : Nat) (hf : ∀ x, (f x).length = c) : ∀ (l : List α) (i j : Nat) (x : α) (v : Value), l[i]? = some x → (f x)[j]? = some v → (l.flatMap f)[i * c + j]? = some v
  | [], i, _, _, _, h, _ => by simp at h
  | y :: l, 0, j, x, v, h, hv => by
    simp only [List.getElem?_cons_zero, Option.some.injEq] at h
    subst h
    have hj : j < (f y).length := (List.getElem?_eq_some_iff.1 hv).1
    rw [List.flatMap_cons, Nat.zero_mul, Nat.zero_add, List.getElem?_append_left hj]; exact hv
  | y :: l, i + 1, j, x, v, h, hv => by
    rw [List.getElem?_cons_succ] at h
    have := flat_get f c hf l i j x v h hv
    rw [List.flatMap_cons, List.getElem?_append_right (by rw [hf, Nat.succ_mul]; omega), hf, show (i + 1) * c + j - c = i * c + j by rw [Nat.succ_mul]; omega]
    exact this
theorem RowIs.elems {α : Type} {f : α → List Value} {w : World} {a : Option Addr} {l : List α} (c : Nat) (hf : ∀ x, (f x).length = c) (h : RowIs w a (l.flatMap f)) (hl : 0 < l.length) (h0 : 0 < c) :
    ∃ b off, a = some ⟨b, off, none⟩ ∧ ∀ (i : Nat) x, l[i]? = some x → ∀ j v, (f x)[j]? = some v → w.cell? ⟨b, off + i * c + j, none⟩ = some v := by
  obtain ⟨b, off, rfl, hc⟩ := h.addr (by rw [flat_len f c hf]; exact Nat.mul_pos hl h0)
  exact ⟨b, off, rfl, fun i x hi j v hj => by rw [Nat.add_assoc]; exact hc _ v (flat_get f c hf l i j x v hi hj)⟩
section
variable {P : Program}
theorem Keeps.rowAgg {w0 w : World} {M : List Blk} (h : Keeps w0.heap.size w0 M w) {ty : TypeId} {k : Nat} (ha : aggB P ty k = true) {b off : Nat} {vs : List Value} (hc : ∀ j v, vs[j]? = some v → w0.cell? ⟨b, off + j, none⟩ = some v) (hk : vs.length = k) :
    (loadVar ty ⟨b, off, none⟩).run P w = .ok (.agg vs.toArray) w := by
  obtain ⟨L, hp, _⟩ := h
  obtain ⟨h1, h2⟩ := run_isAgg_agg ha w
  have := run_loadCells_list (P := P) w ⟨b, off, none⟩ vs (fun j v hj => by
    rw [add_addr]
    have := hc j v hj
    exact (hp.below.cell (World.block_lt_of_cell? w0 _ this)).trans this)
  rw [hk] at this
  simp [loadVar, Sem.run_bind, h1, h2, this]
theorem Keeps.rowOne {w0 w : World} {M : List Blk} (h : Keeps w0.heap.size w0 M w) {ty : TypeId} (ha : cellB P ty = true) {b off : Nat} {v : Value} (hc : w0.cell? ⟨b, off, none⟩ = some v) :
    (loadVar ty ⟨b, off, none⟩).run P w = .ok v w := by
  obtain ⟨L, hp, _⟩ := h
  obtain ⟨h1, _⟩ := run_isAgg_cell ha w
  have hcc := (hp.below.cell (World.block_lt_of_cell? w0 _ hc)).trans hc
  simp [loadVar, Sem.run_bind, h1, load, Sem.run, hcc]
variable {ops : Array Oper} {rest : List Oper} {o : Oper} {a : Act} {w : World} {Q : Exit → Act → World → Prop} {w0 : World} {L : List Blk}
theorem wpList_loadRow_hp (hp : Hp w0.heap.size w0 w L) (ty : TypeId) (x : Operand) (ho : o.op = .load ty x) (hw : Region.wanted o (yielded ops a.tmps) = true) (b off : Nat) (hx : a.eval x = .pointer (some ⟨b, off, none⟩))
    (k : Nat) (ha : aggB P ty k = true) (vs : List Value) (hc : ∀ j v, vs[j]? = some v → w0.cell? ⟨b, off + j, none⟩ = some v) (hk : vs.length = k)
    (h : wpList P ops Q rest (a.put o.dst (.agg vs.toArray)) w) : wpList P ops Q (o :: rest) a w := by
  refine BigFrame.wpList_want hw fun K hK => ?_
  unfold Oper.wp execOp
  have hr := (Keeps.all hp).rowAgg ha hc hk
  simp only [ho, hx, Instr.loadAt, Instr.sureAddr, Sem.run_bind, Sem.run_pure, Result.andThen_ok, hr]
  exact hK _ _ h
theorem wpList_loadRowOne_hp (hp : Hp w0.heap.size w0 w L) (ty : TypeId) (x : Operand) (ho : o.op = .load ty x) (hw : Region.wanted o (yielded ops a.tmps) = true) (b off : Nat) (hx : a.eval x = .pointer (some ⟨b, off, none⟩))
    (ha : cellB P ty = true) (v : Value) (hc : w0.cell? ⟨b, off, none⟩ = some v)
    (h : wpList P ops Q rest (a.put o.dst v) w) : wpList P ops Q (o :: rest) a w := by
  refine BigFrame.wpList_want hw fun K hK => ?_
  unfold Oper.wp execOp
  have hr := (Keeps.all hp).rowOne ha hc
  simp only [ho, hx, Instr.loadAt, Instr.sureAddr, Sem.run_bind, Sem.run_pure, Result.andThen_ok, hr]
  exact hK _ _ h
theorem wpList_buildSlice_hp {B : Nat} (hp : Hp B w0 w L) (t : TypeId) (len : Nat) (parts : Array (Nat × Operand)) (ho : o.op = .buildSlice t len parts) (hw : Region.wanted o (yielded ops a.tmps) = true) (l : List Value) (e : TypeId)
    (hrun : ∀ w, (Instr.buildSlice t len (parts.map fun (i, x) => (i, a.eval x))).run P w = .ok (.slice (some ⟨w.heap.size, 0, none⟩) len len) (w.alloc (.cells l.toArray e)))
    (h : ∀ b w', Hp B w0 w' (⟨b, l, e, l.length⟩ :: L) → wpList P ops Q rest (a.put o.dst (.slice (some ⟨b, 0, none⟩) len len)) w') : wpList P ops Q (o :: rest) a w := by
  refine BigFrame.wpList_want hw fun K hK => ?_
  unfold Oper.wp execOp
  simp only [ho, Sem.run_bind, hrun, Result.andThen_ok, Sem.run_pure]
  exact hK _ _ (h _ _ (hp.alloc _ l e _ (by simp) (by simp)))
def Fresh (w w' : World) (p : Blk) : Prop := w.heap.size ≤ p.id ∧ ∃ c, w'.heap[p.id]? = some (.cells c p.t) ∧ c.size = p.n ∧ c.toList.take p.l.length = p.l
theorem Hp.fresh {w0 w : World} {L : List Blk} (hp : Hp w0.heap.size w0 w L) {i : Nat} {p : Blk} (hi : L[i]? = some p) : Fresh w0 w p := hp.own p (Hp.mem hi)
theorem Hp.adopt {B : Nat} {w0 w w' : World} {L : List Blk} {p : Blk} (hp : Hp B w0 w L) (hb : Below w.heap.size w w') (hf : Fresh w w' p) : Hp B w0 w' (p :: L) := by
  have h := hp.call hb
  refine ⟨h.below, h.size, ?_, ?_⟩
  · simp only [List.map_cons, List.nodup_cons]
    refine ⟨?_, h.nodup⟩
    intro hm
    obtain ⟨q, hq, he⟩ := List.mem_map.1 hm
    have := (hp.lt hq).2
    have := hf.1
    omega
  · intro q hq
    rcases List.mem_cons.1 hq with rfl | hq
    · exact ⟨Nat.le_trans hp.size hf.1, hf.2⟩
    · exact h.own q hq
theorem Hp.rowIs {B : Nat} (hp : Hp B w0 w L) {i b : Nat} {l : List Value} {t : TypeId} {n : Nat} (hi : L[i]? = some ⟨b, l, t, n⟩) : RowIs w (some ⟨b, 0, none⟩) l :=
  fun j v hj => ⟨b, 0, rfl, by rw [Nat.zero_add]; exact hp.cell hi hj⟩
end
section
variable {P : Program} {ops : Array Oper} {rest : List Oper} {o : Oper} {a : Act} {w : World} {Q : Exit → Act → World → Prop} {w0 : World} {L : List Blk} {ty : TypeId} {x : Operand} {b off k : Nat} {vs : List Value} {v : Value}
theorem lR (hp : Hp w0.heap.size w0 w L) (ho : o.op = .load ty x) (hx : a.eval x = .pointer (some ⟨b, off, none⟩)) (ha : aggB P ty k = true) (hc : ∀ j v, vs[j]? = some v → w0.cell? ⟨b, off + j, none⟩ = some v)
    (h : wpList P ops Q rest (a.put o.dst (.agg vs.toArray)) w) (hw : Region.wanted o (yielded ops a.tmps) = true := by exact wy) (hk : vs.length = k := by rfl) : wpList P ops Q (o :: rest) a w := wpList_loadRow_hp hp ty x ho hw b off hx k ha vs hc hk h
theorem lRO (hp : Hp w0.heap.size w0 w L) (ho : o.op = .load ty x) (hx : a.eval x = .pointer (some ⟨b, off, none⟩)) (ha : cellB P ty = true) (hc : w0.cell? ⟨b, off, none⟩ = some v)
    (h : wpList P ops Q rest (a.put o.dst v) w) (hw : Region.wanted o (yielded ops a.tmps) = true := by exact wy) : wpList P ops Q (o :: rest) a w := wpList_loadRowOne_hp hp ty x ho hw b off hx ha v hc h
theorem lS {B len : Nat} {t e : TypeId} {parts : Array (Nat × Operand)} {l : List Value} (hp : Hp B w0 w L) (ho : o.op = .buildSlice t len parts)
    (hrun : ∀ w, (Instr.buildSlice t len (parts.map fun (i, x) => (i, a.eval x))).run P w = .ok (.slice (some ⟨w.heap.size, 0, none⟩) len len) (w.alloc (.cells l.toArray e)))
    (h : ∀ b w', Hp B w0 w' (⟨b, l, e, l.length⟩ :: L) → wpList P ops Q rest (a.put o.dst (.slice (some ⟨b, 0, none⟩) len len)) w') (hw : Region.wanted o (yielded ops a.tmps) = true := by exact wy) : wpList P ops Q (o :: rest) a w :=
  wpList_buildSlice_hp hp t len parts ho hw l e hrun h
variable {lo r : List Oper} {tl : List Nat} {i : Nat} {rest : List (Nat × Bool)} {M : List Blk}
theorem tR (hx : o.op = .load ty x) (he : a.eval x = .pointer (some ⟨b, off, none⟩)) (ha : aggB P ty k = true) (hc : ∀ j v, vs[j]? = some v → w0.cell? ⟨b, off + j, none⟩ = some v)
    (h : wpPlan P lo.toArray Q (Keeps w0.heap.size w0 M) tl rest (a.put o.dst (.agg vs.toArray)) w) (hw : Region.wanted o (yielded lo.toArray a.tmps) = true := by exact wy) (hk : vs.length = k := by rfl) :
    TkG P lo.toArray Q (Keeps w0.heap.size w0 M) tl rest o a w := tL hx he (fun _ hS => hS.rowAgg ha hc hk) h hw
theorem tRO (hx : o.op = .load ty x) (he : a.eval x = .pointer (some ⟨b, off, none⟩)) (ha : cellB P ty = true) (hc : w0.cell? ⟨b, off, none⟩ = some v)
    (h : wpPlan P lo.toArray Q (Keeps w0.heap.size w0 M) tl rest (a.put o.dst v) w) (hw : Region.wanted o (yielded lo.toArray a.tmps) = true := by exact wy) :
    TkG P lo.toArray Q (Keeps w0.heap.size w0 M) tl rest o a w := tL hx he (fun _ hS => hS.rowOne ha hc) h hw
end
end Go.Proofs.YtcjbepaclbhjaaaGreat
namespace Go.Proofs.YtcjbepaclbhjaaaGreat
open Go.RowKit Go.ChangeShapes Go.WideShapes Go.ChangeAt Go.Deep
theorem ok_slice {P : Program} {W : World} {r : Reach} {b : Nat} {t e : TypeId} {v : Value} (hu : P.underlying t = some (.slice e)) (hv : Value.okWide P W r b t v) : ∃ a n k, v = .slice a n k := by
  simp only [Value.okWide, hu] at hv
  unfold Cell.okWide at hv
  rw [hu] at hv
  cases v <;> simp [Cell.ok, hu] at hv
  exact ⟨_, _, _, rfl⟩
section
variable {H : Type} {enc : TypeId × Value → H} {P : Program} {w : World} {base : Nat} {spare : Nat → Bool} {held : Bool}
end
end Go.Proofs.YtcjbepaclbhjaaaGreat
namespace Go.Proofs.YtcjbepaclbhjaaaGreat
open Go.RowKit
theorem Hp.grown {B : Nat} {w0 w w' : World} {L : List Blk} {row : Option Nat} (hp : Hp B w0 w L) (hg : w.grownBy w' row) (hr : ∀ k, row = some k → B ≤ k ∧ ∀ p ∈ L, p.id ≠ k) : Hp B w0 w' L := by
  refine ⟨hp.below.grown hg hp.size (fun k hk => (hr k hk).1), Nat.le_trans hp.size hg.size, hp.nodup, fun p h => ?_⟩
  obtain ⟨h1, c, h2, h3⟩ := hp.own p h
  exact ⟨h1, c, (hg.block p.id (lt_of_heap h2) (fun e => (hr _ e.symm).2 p h rfl)).trans h2, h3⟩
section
variable {P : Program} {ops : Array Oper} {rest : List Oper} {o : Oper} {a : Act} {w : World} {Q : Exit → Act → World → Prop} {w0 : World} {L : List Blk}
theorem append_core {B : Nat} (hp : Hp B w0 w L) (t ty e : TypeId) (i : TypeInfo) (z : Value) (c bytes : Nat) (ht : P.underlying t = some (.slice e)) (hi : P.info? e = some i) (hz : i.zero = some z)
    (hsize : i.size = c) (hby : i.bytes = bytes) (hzs : z.cells.size = c) (hc0 : 0 < c) (v : Value) (n : Nat) (xs : List Value) (hown : w.ownsRow B e c v n xs) (hap : ∀ k, v.ownBlock = some k → ∀ p ∈ L, p.id ≠ k)
    (ad : Addr) (m cc : Nat) (news : List Value) (hl : news.length = m * c) (hm : 0 < m) (hnews : ∀ j u, news[j]? = some u → w.cell? (ad.add j) = some u) (h1 : news.all (·.oneCell') = true)
    (h63 : n + m ≤ maxLen) (hbytes : (n + m) * bytes ≤ 140737488355328) :
    ∃ g cap w', (Builtin.append_ #[t, t] ty #[v, .slice (some ad) m cc]).run P w = .ok (.slice (some ⟨g, 0, none⟩) (n + m) cap) w' ∧ n + m ≤ cap ∧ cap ≤ maxLen ∧ Hp B w0 w' (⟨g, xs ++ news, e, cap * c⟩ :: L) := by
  obtain ⟨v', w', hrun, h2, h3, _, h5⟩ := run_append_own_at (P := P) w B t ty e i z c bytes ht hi hz hsize hby hzs hc0 v n xs hown ad m cc news hl hnews (fun u hu => List.all_eq_true.1 h1 u hu) h63 hbytes hp.size
  rcases h2.2 with ⟨_, hn⟩ | ⟨g, cap, cur, rfl, hbg, hg, hnc, hcm, hcs, htake⟩
  · omega
  · refine ⟨g, cap, w', hrun, hnc, hcm, ?_⟩
    have hL := hp.grown h3 (fun k hk => ⟨(hown.lt k hk).1, hap k hk⟩)
    have hgL : ∀ p ∈ L, p.id ≠ g := by
      intro p hpL
      rcases h5 with h5 | h5
      · exact hap g (by rw [← h5]; rfl) p hpL
      · simp only [Value.ownBlock, Option.some.injEq] at h5
        have := (hp.lt hpL).2
        omega
    refine ⟨hL.below, hL.size, ?_, ?_⟩
    · simp only [List.map_cons, List.nodup_cons]
      refine ⟨?_, hL.nodup⟩
      intro h
      obtain ⟨p, hpL, he⟩ := List.mem_map.1 h
      exact hgL p hpL he
    · intro p hpL
      rcases List.mem_cons.1 hpL with rfl | hpL
      · exact ⟨hbg, cur, hg, hcs, by rw [h2.1]; exact htake⟩
      · exact hL.own p hpL
theorem wpList_appendNew_hp {B : Nat} {bx ex mx : Nat} {news : List Value} (hp : Hp B w0 w (⟨bx, news, ex, mx⟩ :: L)) (s x : Operand) (t : TypeId)
    (ho : o.op = .call { callee := .builtin .append, args := #[s, x], argTypes := #[t, t] }) (hw : Region.wanted o (yielded ops a.tmps) = true)
    (e : TypeId) (i : TypeInfo) (z : Value) (c bytes : Nat) (ht : P.underlying t = some (.slice e)) (hi : P.info? e = some i) (hz : i.zero = some z)
    (hsize : i.size = c) (hby : i.bytes = bytes) (hzs : z.cells.size = c) (hc0 : 0 < c) (hs : a.eval s = .slice none 0 0) (m cc : Nat) (hx : a.eval x = .slice (some ⟨bx, 0, none⟩) m cc) (hl : news.length = m * c) (hm : 0 < m)
    (h1 : news.all (·.oneCell') = true) (h63 : m ≤ maxLen) (hbytes : m * bytes ≤ 140737488355328)
    (h : ∀ g cap w', m ≤ cap → cap ≤ maxLen → Hp B w0 w' (⟨g, news, e, cap * c⟩ :: L) → wpList P ops Q rest (a.put o.dst (.slice (some ⟨g, 0, none⟩) m cap)) w') : wpList P ops Q (o :: rest) a w := by
  refine BigFrame.wpList_want hw fun K hK => ?_
  obtain ⟨g, cap, w', hrun, hc, hcm, hp'⟩ := append_core (P := P) hp.tail t o.type e i z c bytes ht hi hz hsize hby hzs hc0 (.slice none 0 0) 0 [] (World.ownsRow_nil _ _ _ _) (fun k hk => by simp [Value.ownBlock] at hk) ⟨bx, 0, none⟩ m cc news hl hm
    (fun j u hu => by rw [add_addr, Nat.zero_add]; exact hp.cell at0 hu) h1 (by omega) (by rw [Nat.zero_add]; exact hbytes)
  rw [Nat.zero_add] at hrun hc
  unfold Oper.wp execOp
  simp only [ho, resolve, invoke, builtin, Sem.run_bind, Sem.run_pure, Result.andThen_ok, List.map_toArray, List.map_cons, List.map_nil, hs, hx, hrun]
  exact hK _ _ (h g cap w' hc hcm hp')
theorem wpList_appendOn_hp {B : Nat} {bx ex mx g0 n cap0 e c : Nat} {news xs : List Value} (hp : Hp B w0 w (⟨bx, news, ex, mx⟩ :: ⟨g0, xs, e, cap0 * c⟩ :: L)) (s x : Operand) (t : TypeId)
    (ho : o.op = .call { callee := .builtin .append, args := #[s, x], argTypes := #[t, t] }) (hw : Region.wanted o (yielded ops a.tmps) = true)
    (i : TypeInfo) (z : Value) (bytes : Nat) (ht : P.underlying t = some (.slice e)) (hi : P.info? e = some i) (hz : i.zero = some z)
    (hsize : i.size = c) (hby : i.bytes = bytes) (hzs : z.cells.size = c) (hc0 : 0 < c) (hs : a.eval s = .slice (some ⟨g0, 0, none⟩) n cap0) (hnc : n ≤ cap0) (hcm : cap0 ≤ maxLen) (hxs : xs.length = n * c)
    (m cc : Nat) (hx : a.eval x = .slice (some ⟨bx, 0, none⟩) m cc) (hl : news.length = m * c) (hm : 0 < m)
    (h1 : news.all (·.oneCell') = true) (h63 : n + m ≤ maxLen) (hbytes : (n + m) * bytes ≤ 140737488355328)
    (h : ∀ g cap w', n + m ≤ cap → cap ≤ maxLen → Hp B w0 w' (⟨g, xs ++ news, e, cap * c⟩ :: L) → wpList P ops Q rest (a.put o.dst (.slice (some ⟨g, 0, none⟩) (n + m) cap)) w') : wpList P ops Q (o :: rest) a w := by
  refine BigFrame.wpList_want hw fun K hK => ?_
  have hown : w.ownsRow B e c (.slice (some ⟨g0, 0, none⟩) n cap0) n xs := by
    obtain ⟨hB, cur, hg, hsz, htk⟩ := hp.own ⟨g0, xs, e, cap0 * c⟩ (by simp)
    exact ⟨hxs, .inr ⟨g0, cap0, cur, rfl, hB, hg, hnc, hcm, hsz, by rw [← hxs]; exact htk⟩⟩
  have hnd := hp.tail.nodup
  simp only [List.map_cons, List.nodup_cons] at hnd
  obtain ⟨g, cap, w', hrun, hc, hcm', hp'⟩ := append_core (P := P) hp.tail.tail t o.type e i z c bytes ht hi hz hsize hby hzs hc0 _ n xs hown
    (fun k hk p hpL he => by
      simp only [Value.ownBlock, Option.some.injEq] at hk
      subst hk
      exact hnd.1 (List.mem_map.2 ⟨p, hpL, he⟩)) ⟨bx, 0, none⟩ m cc news hl hm
    (fun j u hu => by rw [add_addr, Nat.zero_add]; exact hp.cell at0 hu) h1 h63 hbytes
  unfold Oper.wp execOp
  simp only [ho, resolve, invoke, builtin, Sem.run_bind, Sem.run_pure, Result.andThen_ok, List.map_toArray, List.map_cons, List.map_nil, hs, hx, hrun]
  exact hK _ _ (h g cap w' hc hcm' hp')
end
end Go.Proofs.YtcjbepaclbhjaaaGreat
namespace Go.Proofs.YtcjbepaclbhjaaaGreat
open Go.RowKit
theorem made_one (z : Value) (m : Nat) : madeCells #[z] m = (List.replicate m z).toArray := by
  unfold madeCells
  apply Array.ext
  · simp
  · intro i h1 h2
    simp [Nat.mod_one]
section
variable {P : Program} {ops : Array Oper} {rest : List Oper} {o : Oper} {a : Act} {w : World} {Q : Exit → Act → World → Prop} {w0 : World} {L : List Blk}
end
end Go.Proofs.YtcjbepaclbhjaaaGreat
namespace Go.Proofs.YtcjbepaclbhjaaaGreat
open Go.RowKit
theorem Hp.reorder {B : Nat} {w0 w : World} {L L' : List Blk} (hp : Hp B w0 w L) (h : L.Perm L') : Hp B w0 w L' :=
  ⟨hp.below, hp.size, (h.map _).nodup_iff.1 hp.nodup, fun p hpL => hp.own p (h.mem_iff.2 hpL)⟩
theorem Hp.join {B : Nat} {w0 w w' : World} {L L2 : List Blk} (hp : Hp B w0 w L) (h2 : Hp w.heap.size w w' L2) : Hp B w0 w' (L ++ L2) := by
  have h := hp.call h2.below
  refine ⟨h.below, h.size, ?_, ?_⟩
  · rw [List.map_append, List.nodup_append]
    refine ⟨h.nodup, h2.nodup, ?_⟩
    intro a ha b hb he
    obtain ⟨p, hpL, rfl⟩ := List.mem_map.1 ha
    obtain ⟨q, hqL, rfl⟩ := List.mem_map.1 hb
    have h1 := (hp.lt hpL).2
    have h2 := (h2.lt hqL).1
    omega
  · intro q hq
    rcases List.mem_append.1 hq with hq | hq
    · exact h.own q hq
    · obtain ⟨h1, h3⟩ := h2.own q hq
      exact ⟨Nat.le_trans hp.size h1, h3⟩
def Kept (L2 : List Blk) (Q : World → Prop) : Prop := ∀ (B : Nat) (w0 w : World) (L : List Blk), Hp B w0 w L → (∀ p ∈ L2, p ∈ L) → Q w
theorem Kept.at {R : List Blk} {Q : World → Prop} (h : Kept R Q) {B : Nat} {w0 w : World} {L : List Blk} (hp : Hp B w0 w L) (hm : ∀ p ∈ R, p ∈ L) : Q w := h B w0 w L hp hm
theorem Kept.mono {L2 L3 : List Blk} {Q R : World → Prop} (h : Kept L2 Q) (hs : ∀ p ∈ L2, p ∈ L3) (hr : ∀ w, Q w → R w) : Kept L3 R :=
  fun B w0 w L hp hm => hr w (h B w0 w L hp (fun p hp2 => hm p (hs p hp2)))
theorem Kept.and {L2 L3 : List Blk} {Q R : World → Prop} (h : Kept L2 Q) (h' : Kept L3 R) : Kept (L2 ++ L3) fun w => Q w ∧ R w :=
  fun B w0 w L hp hm => ⟨h B w0 w L hp (fun p hp2 => hm p (List.mem_append_left _ hp2)), h' B w0 w L hp (fun p hp2 => hm p (List.mem_append_right _ hp2))⟩
theorem Kept.row (b : Nat) (l : List Value) (t : TypeId) (n : Nat) : Kept [⟨b, l, t, n⟩] fun w => RowIs w (some ⟨b, 0, none⟩) l := fun B w0 w L hp hm => by
  obtain ⟨k, hk, hkl⟩ := List.getElem_of_mem (hm _ (List.mem_singleton.2 rfl))
  exact hp.rowIs (i := k) (by rw [List.getElem?_eq_getElem hk, hkl])
theorem Kept.none_ {Q : World → Prop} (h : ∀ w, Q w) (L2 : List Blk) : Kept L2 Q := fun _ _ _ _ _ _ => h _
def OwnRow (e : TypeId) (c : Nat) (v : Value) (n : Nat) (xs : List Value) (R : List Blk) : Prop :=
  xs.length = n * c ∧ ((n = 0 ∧ v = .slice none 0 0 ∧ xs = [] ∧ R = []) ∨ ∃ g cap, v = .slice (some ⟨g, 0, none⟩) n cap ∧ n ≤ cap ∧ cap ≤ maxLen ∧ R = [⟨g, xs, e, cap * c⟩])
theorem OwnRow.nil (e : TypeId) (c : Nat) : OwnRow e c (.slice none 0 0) 0 [] [] := ⟨by simp, .inl ⟨rfl, rfl, rfl, rfl⟩⟩
theorem OwnRow.kept {e : TypeId} {c n : Nat} {v : Value} {xs : List Value} {R : List Blk} (h : OwnRow e c v n xs R) : ∃ a k, v = .slice a n k ∧ Kept R fun w => RowIs w a xs := by
  obtain ⟨_, ⟨h0, hv, hx, hr⟩ | ⟨g, cap, hv, _, _, hr⟩⟩ := h
  · subst hr; exact ⟨none, 0, by rw [h0]; exact hv, Kept.none_ (fun w => by rw [hx]; exact RowIs.nil _ _) _⟩
  · subst hr; exact ⟨_, _, hv, Kept.row _ _ _ _⟩
section
variable {P : Program} {ops : Array Oper} {rest : List Oper} {o : Oper} {a : Act} {w : World} {Q : Exit → Act → World → Prop} {w0 : World} {L : List Blk}
theorem wpList_appendGrow {B : Nat} {bx ex mx n e c : Nat} {news xs : List Value} {K R M : List Blk} {v : Value} (hp : Hp B w0 w (⟨bx, news, ex, mx⟩ :: (K ++ (R ++ M)))) (s x : Operand) (t : TypeId)
    (ho : o.op = .call { callee := .builtin .append, args := #[s, x], argTypes := #[t, t] }) (hw : Region.wanted o (yielded ops a.tmps) = true)
    (i : TypeInfo) (z : Value) (bytes : Nat) (ht : P.underlying t = some (.slice e)) (hi : P.info? e = some i) (hz : i.zero = some z)
    (hsize : i.size = c) (hby : i.bytes = bytes) (hzs : z.cells.size = c) (hc0 : 0 < c) (hs : a.eval s = v) (hR : OwnRow e c v n xs R)
    (m cc : Nat) (hx : a.eval x = .slice (some ⟨bx, 0, none⟩) m cc) (hl : news.length = m * c) (hm : 0 < m)
    (h1 : news.all (·.oneCell') = true) (h63 : n + m ≤ maxLen) (hbytes : (n + m) * bytes ≤ 140737488355328)
    (h : ∀ v' R' w', OwnRow e c v' (n + m) (xs ++ news) R' → Hp B w0 w' (K ++ (R' ++ M)) → wpList P ops Q rest (a.put o.dst v') w') : wpList P ops Q (o :: rest) a w := by
  obtain ⟨hxl, ⟨h0, hv, hxs, hr⟩ | ⟨g, cap, hv, hnc, hcm, hr⟩⟩ := hR
  · subst h0 hr hxs
    rw [hv] at hs
    refine wpList_appendNew_hp (L := K ++ M) (by simpa using hp) s x t ho hw e i z c bytes ht hi hz hsize hby hzs hc0 hs m cc hx hl hm h1 (by omega) (by rw [Nat.zero_add] at hbytes; exact hbytes) ?_
    intro g cap w' hc hcm hp'
    refine h _ [⟨g, news, e, cap * c⟩] w' ⟨by simp [hl], .inr ⟨g, cap, by rw [Nat.zero_add], by omega, hcm, by rw [List.nil_append]⟩⟩ (hp'.reorder ?_)
    exact (List.perm_middle (a := (⟨g, news, e, cap * c⟩ : Blk)) (l₁ := K) (l₂ := M)).symm
  · subst hr
    rw [hv] at hs
    refine wpList_appendOn_hp (L := K ++ M) (g0 := g) (cap0 := cap) (hp.reorder (List.Perm.cons _ (List.perm_middle (a := (⟨g, xs, e, cap * c⟩ : Blk)) (l₁ := K) (l₂ := M)))) s x t ho hw i z bytes ht hi hz hsize hby hzs hc0 hs hnc hcm hxl m cc hx hl hm h1 h63 hbytes ?_
    intro g' cap' w' hc hcm' hp'
    refine h _ [⟨g', xs ++ news, e, cap' * c⟩] w' ⟨by rw [List.length_append, hxl, hl, Nat.add_mul], .inr ⟨g', cap', rfl, hc, hcm', rfl⟩⟩ (hp'.reorder ?_)
    exact (List.perm_middle (a := (⟨g', xs ++ news, e, cap' * c⟩ : Blk)) (l₁ := K) (l₂ := M)).symm
end
def iV (x : Int) : List Value := [.int .i64 x]
theorem iV_len (x : Int) : (iV x).length = 1 := rfl
structure Ob where
  h : Int
  p : Int
  o : Int
  wa : Option Addr
  ws : List Int
  wc : Nat
  la : Option Addr
  ls : List Int
  lc : Nat
def obV (x : Ob) : List Value := [.int .i64 x.h, .int .i64 x.p, .int .i64 x.o, .slice x.wa x.ws.length x.wc, .slice x.la x.ls.length x.lc]
theorem obV_len (x : Ob) : (obV x).length = 5 := rfl
def Ob.Is (w : World) (x : Ob) : Prop := RowIs w x.wa (x.ws.flatMap iV) ∧ RowIs w x.la (x.ls.flatMap iV)
def Ob.Sm (x y : Ob) : Prop := x.h = y.h ∧ x.p = y.p ∧ x.o = y.o ∧ x.ws = y.ws ∧ x.ls = y.ls
theorem Ob.Sm.rfl_ (x : Ob) : x.Sm x := ⟨rfl, rfl, rfl, rfl, rfl⟩
theorem Ob.Sm.symm {x y : Ob} (h : x.Sm y) : y.Sm x := by
  obtain ⟨h1, h2, h3, h4, h5⟩ := h
  exact ⟨h1.symm, h2.symm, h3.symm, h4.symm, h5.symm⟩
theorem Ob.Is.below {w w' : World} {x : Ob} (h : x.Is w) (hb : Below w.heap.size w w') : x.Is w' := ⟨h.1.below hb, h.2.below hb⟩
theorem sum_ids (a : Nat) (K : List Blk) : (K.map (·.id)).count a = (K.map fun p : Blk => if p.id = a then 1 else 0).sum := by
  induction K with
  | nil => rfl
  | cons b K ih =>
    rw [List.map_cons, List.count_cons, ih, List.map_cons, List.sum_cons]
    by_cases hb : b.id = a <;> simp [hb]; omega
theorem Hp.keep {B : Nat} {w0 w : World} {L L' : List Blk} (hp : Hp B w0 w L) (h : ∀ f : Blk → Nat, (L'.map f).sum ≤ (L.map f).sum) : Hp B w0 w L' := by
  classical
  refine ⟨hp.below, hp.size, List.nodup_iff_count.2 fun a => ?_, fun p hpL => hp.own p ?_⟩
  · rw [sum_ids]
    have h1 := h fun p => if p.id = a then 1 else 0
    rw [← sum_ids, ← sum_ids] at h1
    rw [← sum_ids]
    exact Nat.le_trans h1 (List.nodup_iff_count.1 hp.nodup a)
  · refine Classical.byContradiction fun hn => ?_
    have h1 := h fun q => if q = p then 1 else 0
    have h2 : (L.map fun q => if q = p then 1 else 0).sum = 0 := by
      rw [List.sum_eq_zero_iff_forall_eq_nat]
      intro x hx
      obtain ⟨q, hq, rfl⟩ := List.mem_map.1 hx
      rw [if_neg]; rintro rfl; exact hn hq
    have h3 : 1 ≤ (L'.map fun q => if q = p then 1 else 0).sum := by
      obtain ⟨K1, K2, rfl⟩ := List.append_of_mem hpL
      rw [List.map_append, List.map_cons, List.sum_append, List.sum_cons, if_pos rfl]; omega
    omega
theorem Hp.kp {B : Nat} {w0 w : World} {L L' : List Blk} (hp : Hp B w0 w L) (h : ∀ f : Blk → Nat, (L'.map f).sum ≤ (L.map f).sum := by intro f; simp only [List.map_append, List.map_cons, List.map_nil, List.sum_append, List.sum_cons, List.sum_nil, List.cons_append, List.nil_append, List.append_nil]; omega) : Hp B w0 w L' := hp.keep h
end Go.Proofs.YtcjbepaclbhjaaaGreat
namespace Go.Proofs.YtcjbepaclbhjaaaGreat
open Go.RowKit
theorem Hp.id0 {B : Nat} {w0 w : World} {L : List Blk} {j : Nat} {l : List Value} {t : TypeId} {n : Nat} (_ : Hp B w0 w (⟨j, l, t, n⟩ :: L)) : ∃ x, x = j := ⟨_, rfl⟩
theorem Hp.id1 {B : Nat} {w0 w : World} {L : List Blk} {p : Blk} {j : Nat} {l : List Value} {t : TypeId} {n : Nat} (_ : Hp B w0 w (p :: ⟨j, l, t, n⟩ :: L)) : ∃ x, x = j := ⟨_, rfl⟩
theorem Hp.id2 {B : Nat} {w0 w : World} {L : List Blk} {p q : Blk} {j : Nat} {l : List Value} {t : TypeId} {n : Nat} (_ : Hp B w0 w (p :: q :: ⟨j, l, t, n⟩ :: L)) : ∃ x, x = j := ⟨_, rfl⟩
theorem Hp.id3 {B : Nat} {w0 w : World} {L : List Blk} {p q r : Blk} {j : Nat} {l : List Value} {t : TypeId} {n : Nat} (_ : Hp B w0 w (p :: q :: r :: ⟨j, l, t, n⟩ :: L)) : ∃ x, x = j := ⟨_, rfl⟩
section
variable {P : Program}
variable {ops : Array Oper} {rest : List Oper} {o : Oper} {a : Act} {w : World} {Q : Exit → Act → World → Prop}
end
end Go.Proofs.YtcjbepaclbhjaaaGreat
namespace Go.Proofs.YtcjbepaclbhjaaaGreat
open Go.RowKit Go.ChangeShapes Go.WideShapes Go.ChangeAt Go.Deep
section
variable {H : Type} {enc : TypeId × Value → H} {P : Program} {w : World} {base : Nat} {spare : Nat → Bool} {held : Bool}
end
end Go.Proofs.YtcjbepaclbhjaaaGreat
namespace Go.Proofs.YtcjbepaclbhjaaaGreat
open Go.RowKit Go.ChangeShapes Go.WideShapes Go.ChangeAt Go.Deep
section
variable {H : Type} {enc : TypeId × Value → H} {P : Program} {w : World} {base : Nat} {spare : Nat → Bool} {held : Bool}
def Reads (H : Type) (enc : TypeId × Value → H) (P : Program) (w : World) (base : Nat) (spare : Nat → Bool) (held : Bool) (t : TypeId) (cs : List Value) : Prop := ∃ m y, DataW.trod enc P w base spare held m t cs = some y
theorem Reads.of {m : Nat} {t : TypeId} {cs : List Value} {y : DataW H × List MemPlace} (h : DataW.trod enc P w base spare held m t cs = some y) : Reads H enc P w base spare held t cs := ⟨m, y, h⟩
theorem Reads.struct {t : TypeId} {cs : List Value} {fs : Array Field} (h : Reads H enc P w base spare held t cs) (ht : P.underlying t = some (.struct fs)) :
    cs.length = P.cellsOf t ∧ ∀ (i : Nat) (f : Field), fs[i]? = some f → ∀ o k, f.offset = o → P.cellsOf f.type = k → Reads H enc P w base spare held f.type ((cs.drop o).take k) := by
  obtain ⟨m, y, h⟩ := h
  obtain ⟨xs, n, _, _, hl, hx, hf⟩ := DataW.trod_struct ht h
  refine ⟨hl, fun i f hi o k ho hk => ?_⟩
  subst ho hk
  have h1 := hf i f hi
  have hlt : i < xs.length := by rw [hx]; exact (Array.getElem?_eq_some_iff.1 hi).1
  rw [List.getElem?_eq_getElem hlt] at h1
  exact ⟨n, _, h1⟩
theorem Reads.int {t : TypeId} {cs : List Value} {k : IntKind} (h : Reads H enc P w base spare held t cs) (ht : P.underlying t = some (.int k)) : ∃ n, cs = [.int k n] ∧ k.has n := by
  obtain ⟨m, y, h⟩ := h
  obtain ⟨n, hn, _, hw⟩ := DataW.trod_int ht h
  refine ⟨n, hn, ?_⟩
  simpa [Lit.wf, IntKind.has] using hw
theorem Reads.bool {t : TypeId} {cs : List Value} (h : Reads H enc P w base spare held t cs) (ht : P.underlying t = some .bool) : ∃ b, cs = [.bool b] := by
  obtain ⟨m, y, h⟩ := h
  obtain ⟨b, hb, _⟩ := DataW.trod_bool ht h
  exact ⟨b, hb⟩
theorem Reads.slice {α : Type} (f : α → List Value) (G : α → Prop) (k : Nat) (hk : 0 < k) (hf : ∀ x, (f x).length = k) {t e : TypeId} {cs : List Value} (h : Reads H enc P w base spare held t cs) (ht : P.underlying t = some (.slice e)) (hC : P.cellsOf e = k)
    (hdec : ∀ cs, Reads H enc P w base spare held e cs → ∃ x, cs = f x ∧ G x) :
    ∃ (a : Option Addr) (l : List α) (c : Nat), cs = [.slice a l.length c] ∧ RowIs w a (l.flatMap f) ∧ ∀ x ∈ l, G x := by
  obtain ⟨m, y, h⟩ := h
  rcases open_slice ht h with ⟨rfl, _⟩ | ⟨ad, n, cap, m, nn, D, Pl, rfl, _, hl, _, hmm, _, hi⟩
  · exact ⟨none, [], 0, rfl, RowIs.nil _ _, fun x hx => by cases hx⟩
  · have hle : n ≤ m := by rw [hmm]; split <;> omega
    have hx : ∀ i : Fin n, ∃ x, w.cells? base (ad.add (i.val * k)) k = some (f x) ∧ G x := fun i => by
      obtain ⟨cs', hc, htr⟩ := hi i.val (by omega)
      rw [hC] at hc
      obtain ⟨x, rfl, hg⟩ := hdec _ ⟨_, _, htr⟩
      exact ⟨x, hc, hg⟩
    let g : Fin n → α := fun i => (hx i).choose
    have hg : ∀ i, w.cells? base (ad.add (i.val * k)) k = some (f (g i)) := fun i => (hx i).choose_spec.1
    refine ⟨some ad, List.ofFn g, cap, by simp, fun j v hj => ?_, fun x hx' => ?_⟩
    · have hjl : j < n * k := by
        have := (List.getElem?_eq_some_iff.1 hj).1
        rw [flat_len f k hf] at this
        simpa using this
      have hik : j / k < n := Nat.div_lt_of_lt_mul (by rw [Nat.mul_comm]; exact hjl)
      have hrk : j % k < k := Nat.mod_lt _ hk
      have hgi : (List.ofFn g)[j / k]? = some (g ⟨j / k, hik⟩) := by simp [hik]
      obtain ⟨_, hcl, hat⟩ := World.cells?_some (hg ⟨j / k, hik⟩)
      have hr : (f (g ⟨j / k, hik⟩))[j % k]? = some ((f (g ⟨j / k, hik⟩))[j % k]'(by rw [hf]; exact hrk)) := List.getElem?_eq_getElem _
      have hdm : j / k * k + j % k = j := by rw [Nat.mul_comm]; exact Nat.div_add_mod j k
      have hfl := flat_get f k hf (List.ofFn g) (j / k) (j % k) _ _ hgi hr
      rw [hdm] at hfl
      rw [hj] at hfl
      injection hfl with hfl
      have hcell := hat (j % k) hrk
      rw [hr, ← hfl, add_add] at hcell
      simp only at hcell
      rw [hdm] at hcell
      have h0 : 0 < n := Nat.lt_of_le_of_lt (Nat.zero_le _) hik
      obtain ⟨b, off, spot⟩ := ad
      have hs : spot = none := by
        obtain ⟨_, _, hat0⟩ := World.cells?_some (hg ⟨0, h0⟩)
        have := hat0 0 hk
        rw [List.getElem?_eq_getElem (by rw [hf]; exact hk)] at this
        have := World.cell?_spot this
        simpa [Addr.add] using this
      subst hs
      exact ⟨b, off, rfl, by rw [add_addr] at hcell; exact hcell⟩
    · obtain ⟨i, rfl⟩ := List.mem_ofFn.1 hx'
      exact (hx i).choose_spec.2
end
end Go.Proofs.YtcjbepaclbhjaaaGreat
namespace Go.Proofs.YtcjbepaclbhjaaaGreat
open Go.RowKit
section
variable {P : Program} {ops : Array Oper} {rest : List Oper} {o : Oper} {a : Act} {w : World} {Q : Exit → Act → World → Prop} {w0 : World} {L : List Blk}
theorem pre_make (t : TypeId) (x y : Operand) (_ : o.op = .makeSlice t x y) (h : wpList P ops Q (o :: rest) a w) : wpList P ops Q (o :: rest) a w := h
theorem wpList_make0_hp {B : Nat} (hp : Hp B w0 w L) (t : TypeId) (x y : Operand) (ho : o.op = .makeSlice t x y) (hw : Region.wanted o (yielded ops a.tmps) = true) (e : TypeId) (i : TypeInfo) (z : Value)
    (ht : P.underlying t = some (.slice e)) (hi : P.info? e = some i) (hz : i.zero = some z) (hs : i.size = 1) (hzc : z.cells = #[z]) (zz : Int) (hx : a.eval x = .int .i64 0) (hy : a.eval y = .int .i64 zz)
    (m : Nat) (hm : zz = m) (hb : i.bytes * m ≤ 281474976710656) (h63 : m ≤ maxLen)
    (h : ∀ v R w', OwnRow e 1 v 0 [] R → Hp B w0 w' (L ++ R) → wpList P ops Q rest (a.put o.dst v) w') : wpList P ops Q (o :: rest) a w := by
  refine BigFrame.wpList_want hw fun K hK => ?_
  unfold Oper.wp execOp
  subst hm
  have hr := run_make (P := P) w t e i z ht hi hz .i64 .i64 0 (m : Int) (by omega) (by omega) (by have := Int.ofNat_le.2 hb; rw [Int.natCast_mul] at this; exact this) (by unfold maxLen at h63; omega)
  rw [hzc, hs, Int.toNat_natCast, Nat.mul_one, made_one] at hr
  simp only [ho, hx, hy, Sem.run_bind, hr, Result.andThen_ok, Sem.run_pure]
  refine hK _ _ (h _ [⟨w.heap.size, [], e, m * 1⟩] _ ⟨by simp, .inr ⟨w.heap.size, m, rfl, by omega, h63, rfl⟩⟩ ?_)
  exact (hp.alloc (List.replicate m z).toArray [] e (m * 1) (by rw [List.size_toArray, List.length_replicate, Nat.mul_one]) (by simp)).reorder (by simpa using (List.perm_append_comm (l₁ := [(⟨w.heap.size, [], e, m * 1⟩ : Blk)]) (l₂ := L)))
theorem wpList_appendGrowRow {B : Nat} {n e c : Nat} {xs : List Value} {K R M : List Blk} {v : Value} (hp : Hp B w0 w (K ++ (R ++ M))) (s x : Operand) (t : TypeId)
    (ho : o.op = .call { callee := .builtin .append, args := #[s, x], argTypes := #[t, t] }) (hw : Region.wanted o (yielded ops a.tmps) = true)
    (i : TypeInfo) (z : Value) (bytes : Nat) (ht : P.underlying t = some (.slice e)) (hi : P.info? e = some i) (hz : i.zero = some z)
    (hsize : i.size = c) (hby : i.bytes = bytes) (hzs : z.cells.size = c) (hc0 : 0 < c) (hs : a.eval s = v) (hR : OwnRow e c v n xs R)
    (ad : Option Addr) (m cc : Nat) (hx : a.eval x = .slice ad m cc) (news : List Value) (hl : news.length = m * c) (hr : RowIs w ad news)
    (h1 : news.all (·.oneCell') = true) (h63 : n + m ≤ maxLen) (hbytes : (n + m) * bytes ≤ 140737488355328)
    (h : ∀ v' R' w', OwnRow e c v' (n + m) (xs ++ news) R' → Hp B w0 w' (K ++ (R' ++ M)) → wpList P ops Q rest (a.put o.dst v') w') : wpList P ops Q (o :: rest) a w := by
  refine BigFrame.wpList_want hw fun Kk hK => ?_
  rcases Nat.eq_zero_or_pos m with hm | hm
  · subst hm
    have hn : news = [] := List.eq_nil_of_length_eq_zero (by simpa using hl)
    subst hn
    have hrun : (Builtin.append_ #[t, t] o.type #[v, .slice ad 0 cc]).run P w = .ok v w := by
      obtain ⟨_, ⟨_, hv, _⟩ | ⟨g, cap, hv, hnc, _⟩⟩ := hR
      · subst hv; cases ad <;> simp [Builtin.append_, run_underlying ht, sizeOf, typeInfo, hi, Builtin.lenOf, Builtin.firstCells, loadCells, loadCellsFrom]
      · subst hv; cases ad <;> simp [Builtin.append_, run_underlying ht, sizeOf, typeInfo, hi, Builtin.lenOf, Builtin.firstCells, loadCells, loadCellsFrom, hnc, storeCells]
    unfold Oper.wp execOp
    simp only [ho, resolve, invoke, builtin, Sem.run_bind, Sem.run_pure, Result.andThen_ok, List.map_toArray, List.map_cons, List.map_nil, hs, hx, hrun]
    exact hK _ _ (h v R w (by rw [Nat.add_zero, List.append_nil]; exact hR) hp)
  · obtain ⟨b, off, rfl, hc⟩ := hr.addr (by rw [hl]; exact Nat.mul_pos hm hc0)
    have hnews : ∀ j u, news[j]? = some u → w.cell? ((⟨b, off, none⟩ : Addr).add j) = some u := fun j u hj => by rw [add_addr]; exact hc j u hj
    have key : ∃ g cap w', (Builtin.append_ #[t, t] o.type #[v, .slice (some ⟨b, off, none⟩) m cc]).run P w = .ok (.slice (some ⟨g, 0, none⟩) (n + m) cap) w' ∧ n + m ≤ cap ∧ cap ≤ maxLen ∧ Hp B w0 w' (⟨g, xs ++ news, e, cap * c⟩ :: (K ++ M)) := by
      obtain ⟨hxl, ⟨h0, hv, hxs, hr0⟩ | ⟨g0, cap0, hv, hnc, hcm, hr0⟩⟩ := hR
      · subst h0 hv hxs hr0
        exact append_core (P := P) (L := K ++ M) (by simpa using hp) t o.type e i z c bytes ht hi hz hsize hby hzs hc0 (.slice none 0 0) 0 [] (World.ownsRow_nil _ _ _ _) (fun k hk => by simp [Value.ownBlock] at hk) ⟨b, off, none⟩ m cc news hl hm hnews h1 h63 hbytes
      · subst hv hr0
        have hp1 : Hp B w0 w (⟨g0, xs, e, cap0 * c⟩ :: (K ++ M)) := hp.reorder (List.perm_middle (a := (⟨g0, xs, e, cap0 * c⟩ : Blk)) (l₁ := K) (l₂ := M))
        have hown : w.ownsRow B e c (.slice (some ⟨g0, 0, none⟩) n cap0) n xs := by
          obtain ⟨hB, cur, hg, hsz, htk⟩ := hp1.own ⟨g0, xs, e, cap0 * c⟩ (by simp)
          exact ⟨hxl, .inr ⟨g0, cap0, cur, rfl, hB, hg, hnc, hcm, hsz, by rw [← hxl]; exact htk⟩⟩
        have hnd := hp1.nodup
        simp only [List.map_cons, List.nodup_cons] at hnd
        exact append_core (P := P) hp1.tail t o.type e i z c bytes ht hi hz hsize hby hzs hc0 _ n xs hown
          (fun k hk p hpL he => by
            simp only [Value.ownBlock, Option.some.injEq] at hk
            subst hk
            exact hnd.1 (List.mem_map.2 ⟨p, hpL, he⟩)) ⟨b, off, none⟩ m cc news hl hm hnews h1 h63 hbytes
    obtain ⟨g, cap, w', hrun, hnc, hcm, hp'⟩ := key
    unfold Oper.wp execOp
    simp only [ho, resolve, invoke, builtin, Sem.run_bind, Sem.run_pure, Result.andThen_ok, List.map_toArray, List.map_cons, List.map_nil, hs, hx, hrun]
    refine hK _ _ (h _ [⟨g, xs ++ news, e, cap * c⟩] w' ⟨by rw [List.length_append, hR.1, hl, Nat.add_mul], .inr ⟨g, cap, rfl, hnc, hcm, rfl⟩⟩ (hp'.reorder ?_))
    exact (List.perm_middle (a := (⟨g, xs ++ news, e, cap * c⟩ : Blk)) (l₁ := K) (l₂ := M)).symm
end
section
variable {P : Program}
theorem conv_row {w : World} {src dst e : TypeId} (hs : P.underlying src = some (.slice e)) (he : P.underlying e = some (.int .u8)) (hd : P.underlying dst = some .string) {a : Option Addr} {n : Nat} (c : Nat) {xs : List Int} (hx : xs.length = n) (hr : RowIs w a (xs.map (Value.int .u8))) :
    (convert src dst (.slice a n c)).run P w = .ok (.string (strOfNums xs)) w := by
  rcases Nat.eq_zero_or_pos n with h0 | h0
  · subst h0
    have : xs = [] := List.eq_nil_of_length_eq_zero hx
    subst this
    cases a with
    | none => exact run_convert_bytes_nil w src e hs he 0 c dst hd
    | some ad =>
      have hl : (loadCells ad 0).run P w = .ok (([] : List Int).map (Value.int .u8)).toArray w := by simp [loadCells, loadCellsFrom]
      rw [run_convert_bytes_string w src dst e _ 0 c hs he hd, run_bytesToString w ad 0 c [] hl, foldl_push_bytes]
      simp [strOfNums, ByteArray.empty, ByteArray.emptyWithCapacity]
      rfl
  · obtain ⟨b, off, rfl, hc⟩ := hr.addr (by rw [List.length_map]; omega)
    refine run_convert_bytes_arg w src e hs he b off n c xs hx (fun i hi => ?_) dst hd
    refine hc i _ ?_
    rw [List.getElem?_map, List.getElem?_eq_getElem (by omega)]
    simp [List.getD, List.getElem?_eq_getElem (show i < xs.length by omega)]
variable {ops : Array Oper} {Q : Exit → Act → World → Prop} {S : World → Prop} {tl : List Nat} {l : List Oper}
variable {rest : List Oper} {o : Oper} {a : Act} {w : World}
theorem wpList_conv_row (src dst e : TypeId) (x : Operand) (ho : o.op = .convert src dst x) (hw : Region.wanted o (yielded ops a.tmps) = true)
    (hs : P.underlying src = some (.slice e)) (he : P.underlying e = some (.int .u8)) (hd : P.underlying dst = some .string) (A : Option Addr) (n c : Nat) (hx : a.eval x = .slice A n c) (xs : List Int) (hl : xs.length = n) (hr : RowIs w A (xs.map (Value.int .u8)))
    (h : wpList P ops Q rest (a.put o.dst (.string (strOfNums xs))) w) : wpList P ops Q (o :: rest) a w := by
  refine BigFrame.wpList_want hw fun K hK => ?_
  unfold Oper.wp execOp
  have hr' := conv_row (P := P) hs he hd c hl hr
  simp only [ho, hx, Sem.run_bind, hr', Result.andThen_ok, Sem.run_pure]
  exact hK _ _ h
end
theorem Keeps.row {w0 w : World} {M : List Blk} {a : Option Addr} {xs : List Value} (hS : Keeps w0.heap.size w0 M w) (h : RowIs w0 a xs) : RowIs w a xs := by
  obtain ⟨L, hp, _⟩ := hS
  exact h.below hp.below
def byV (x : Nat) : List Value := [.int .u8 ((x : Nat) : Int)]
theorem byV_len (x : Nat) : (byV x).length = 1 := rfl
theorem fl_by (l : List Nat) : l.flatMap byV = l.map fun x => Value.int .u8 ((x : Nat) : Int) := by
  induction l with
  | nil => rfl
  | cons x l ih => simp [List.flatMap_cons, byV, ih]
theorem by_one (l : List Nat) : (l.flatMap byV).all (·.oneCell') = true := by
  rw [List.all_eq_true]; intro u hu; obtain ⟨x, _, hx⟩ := List.mem_flatMap.1 hu; simp [byV] at hx; subst hx; rfl
theorem Kept.elem {α : Type} {f : α → List Value} {l : List α} {L L0 : List Blk} {a : Option Addr} {j : Nat} {x : α} (c : Nat) (hf : ∀ x, (f x).length = c) (hc0 : 0 < c) (h : Kept L fun w => RowIs w a (l.flatMap f)) (hj : l[j]? = some x) {B : Nat} {w0 w : World} (hp : Hp B w0 w L0) (hm : ∀ p ∈ L, p ∈ L0) :
    ∃ b off, a = some ⟨b, off, none⟩ ∧ Kept L fun w => ∀ k v, (f x)[k]? = some v → w.cell? ⟨b, off + j * c + k, none⟩ = some v := by
  have hl : 0 < l.length := by have := (List.getElem?_eq_some_iff.1 hj).1; omega
  obtain ⟨b, off, rfl, _⟩ := (h.at hp hm).elems c hf hl hc0
  refine ⟨b, off, rfl, fun B' w0' w' L' hp' hm' k v hk => ?_⟩
  obtain ⟨b', off', he, hx⟩ := (h.at hp' hm').elems c hf hl hc0
  injection he with he
  injection he with h1 h2
  subst h1; subst h2
  exact hx j x hj k v hk
theorem OwnRow.keptC {e : TypeId} {c n : Nat} {v : Value} {xs : List Value} {R : List Blk} (h : OwnRow e c v n xs R) : ∃ a k, v = .slice a n k ∧ n ≤ k ∧ Kept R fun w => RowIs w a xs := by
  obtain ⟨_, ⟨h0, hv, hx, hr⟩ | ⟨g, cap, hv, hc, _, hr⟩⟩ := h
  · subst hr; exact ⟨none, 0, by rw [h0]; exact hv, by omega, Kept.none_ (fun w => by rw [hx]; exact RowIs.nil _ _) _⟩
  · subst hr; exact ⟨_, _, hv, hc, Kept.row _ _ _ _⟩
def nI (l : List Nat) : List Int := l.map fun x => ((x : Nat) : Int)
theorem nI_len (l : List Nat) : (nI l).length = l.length := by simp [nI]
theorem nI_cells (l : List Nat) : (nI l).map (Value.int .u8) = l.flatMap byV := by rw [fl_by]; simp [nI]
def uN (n : Int) : Nat := (n % 18446744073709551616).toNat
theorem uN_lt (n : Int) : uN n < 18446744073709551616 := by unfold uN; omega
theorem uN_cast (n : Int) : ((uN n : Nat) : Int) = n % 18446744073709551616 := by unfold uN; omega
theorem wrapU (n : Int) : IntKind.u64.wrap n = ((uN n : Nat) : Int) := by rw [uN_cast]; simp [IntKind.wrap, IntKind.bits, IntKind.signed]
end Go.Proofs.YtcjbepaclbhjaaaGreat
namespace Go.Proofs.YtcjbepaclbhjaaaGreat
open Go.RowKit
theorem Hp.shape {B : Nat} {w0 w : World} {L : List Blk} (hp : Hp B w0 w L) {i b n : Nat} {l : List Value} {t : TypeId} (hi : L[i]? = some ⟨b, l, t, n⟩) : w.shape? b = some (t, n) := by
  obtain ⟨_, c, h2, h3, _⟩ := hp.own _ (Hp.mem hi)
  simp only at h2 h3
  simp [World.shape?, h2, h3]
theorem Hp.more {B : Nat} {w0 w : World} {L : List Blk} {b n : Nat} {l : List Value} {t : TypeId} (hp : Hp B w0 w (⟨b, l, t, n⟩ :: L)) (k : Nat) (hk : l.length + k ≤ n) : ∃ l2 : List Value, l2.length = k ∧ Hp B w0 w (⟨b, l ++ l2, t, n⟩ :: L) := by
  obtain ⟨h1, c, h2, h3, h4⟩ := hp.own ⟨b, l, t, n⟩ (by simp)
  simp only at h2 h3 h4
  have hcl : c.toList.length = n := by rw [Array.length_toList]; exact h3
  refine ⟨(c.toList.drop l.length).take k, by rw [List.length_take, List.length_drop, hcl]; omega, hp.below, hp.size, hp.nodup, fun p hpL => ?_⟩
  rcases List.mem_cons.1 hpL with rfl | hpL
  · refine ⟨h1, c, h2, h3, ?_⟩
    simp only
    have hl : (l ++ (c.toList.drop l.length).take k) = c.toList.take (l.length + k) := by
      rw [List.take_add, h4]
    rw [hl, List.length_take, hcl, Nat.min_eq_left hk]
  · exact hp.own p (List.mem_cons_of_mem _ hpL)
theorem spl_at (vs : List Value) : ∀ (l1 l2 l3 : List Value), l2.length = vs.length → spl (l1 ++ (l2 ++ l3)) l1.length vs = l1 ++ (vs ++ l3) := by
  induction vs with
  | nil => intro l1 l2 l3 h; have : l2 = [] := List.eq_nil_of_length_eq_zero h; subst this; simp [spl]
  | cons v vs ih =>
    intro l1 l2 l3 h
    match l2, h with
    | x :: l2, h =>
      simp only [spl]
      have e : (l1 ++ (x :: l2 ++ l3)).set l1.length v = (l1 ++ [v]) ++ (l2 ++ l3) := by rw [List.set_append]; simp
      have := ih (l1 ++ [v]) l2 l3 (by simpa using h)
      rw [List.length_append, List.length_singleton] at this
      rw [e, this]; simp
theorem spl_mid (vs l : List Value) (k : Nat) (h : k + vs.length ≤ l.length) : spl l k vs = l.take k ++ (vs ++ l.drop (k + vs.length)) := by
  have e : l = l.take k ++ ((l.drop k).take vs.length ++ l.drop (k + vs.length)) := by
    rw [← List.drop_drop, List.take_append_drop, List.take_append_drop]
  have hk : (l.take k).length = k := by rw [List.length_take]; omega
  have := spl_at vs (l.take k) ((l.drop k).take vs.length) (l.drop (k + vs.length)) (by rw [List.length_take, List.length_drop]; omega)
  rw [← e, hk] at this
  exact this
section
variable {P : Program} {ops : Array Oper} {rest : List Oper} {o : Oper} {a : Act} {w : World} {Q : Exit → Act → World → Prop} {w0 : World} {L : List Blk}
theorem pre_copy (x y : Operand) (t t' : TypeId) (_ : o.op = .call { callee := .builtin .copy, args := #[x, y], argTypes := #[t, t'] }) (h : wpList P ops Q (o :: rest) a w) : wpList P ops Q (o :: rest) a w := h
theorem wpList_copyAt {B : Nat} (hp : Hp B w0 w L) (t t' e : TypeId) (x y : Operand) (ho : o.op = .call { callee := .builtin .copy, args := #[x, y], argTypes := #[t, t'] }) (hw : Region.wanted o (yielded ops a.tmps) = true)
    (ht : P.underlying t = some (.slice e)) (sz : Nat) (hs : (P.info? e).map (·.size) = some sz) (b od n c : Nat) (hx : a.eval x = .slice (some ⟨b, od, none⟩) n c) (ab ao k c' : Nat) (hy : a.eval y = .slice (some ⟨ab, ao, none⟩) k c')
    (i : Nat) (l : List Value) (m : Nat) (hL : L[i]? = some ⟨b, l, e, m⟩) (q : Nat) (hq : Nat.min k n = q) (xs : List Value) (hxs : xs.length = q * sz) (hfit : od + q * sz ≤ l.length)
    (hr : ∀ j u, xs[j]? = some u → w.cell? ⟨ab, ao + j, none⟩ = some u) (h1 : xs.all (·.oneCell') = true)
    (h : ∀ v w', Hp B w0 w' (L.set i ⟨b, l.take od ++ (xs ++ l.drop (od + q * sz)), e, m⟩) → wpList P ops Q rest (a.put o.dst v) w') : wpList P ops Q (o :: rest) a w := by
  refine BigFrame.wpList_want hw fun K hK => ?_
  obtain ⟨w', hst, hp'⟩ := Hp.storeCells (P := P) od xs w L l 0 hp hL (by rw [hxs, Nat.add_zero]; exact hfit) h1
  rw [Nat.add_zero, spl_mid xs l od (by rw [hxs]; exact hfit), hxs] at hp'
  have hfc : (Builtin.firstCells sz q (.slice (some ⟨ab, ao, none⟩) k c')).run P w = .ok xs.toArray w :=
    run_firstCells_some (P := P) w sz q ⟨ab, ao, none⟩ k c' xs hxs (fun j u hu => by rw [add_addr]; exact hr j u hu)
  have key : (Builtin.copy_ #[t, t'] o.type #[.slice (some ⟨b, od, none⟩) n c, .slice (some ⟨ab, ao, none⟩) k c']).run P w = .ok (goInt (q : Int)) w' := by
    cases hinf : P.info? e with
    | none => rw [hinf] at hs; simp at hs
    | some inf =>
      rw [hinf] at hs
      simp only [Option.map_some, Option.some.injEq] at hs
      subst hs
      simp [Builtin.copy_, run_underlying ht, Builtin.lenOf, sizeOf, typeInfo, hinf, hq, hfc, hst]
  unfold Oper.wp execOp
  simp only [ho, resolve, invoke, builtin, Sem.run_bind, Sem.run_pure, Result.andThen_ok, List.map_toArray, List.map_cons, List.map_nil, hx, hy, key]
  exact hK _ _ (h _ w' hp')
end
end Go.Proofs.YtcjbepaclbhjaaaGreat
namespace Go.Proofs.YtcjbepaclbhjaaaGreat
def cmpI (a b : Int) : Int := if a < b then -1 else if b < a then 1 else 0
theorem cmpI_lt {a b : Int} : cmpI a b < 0 ↔ a < b := by unfold cmpI; (repeat' split) <;> omega
end Go.Proofs.YtcjbepaclbhjaaaGreat
namespace Go.Proofs.YtcjbepaclbhjaaaGreat
open Go.RowKit Go.Lib
section
variable {P : Program} {ops : Array Oper} {rest : List Oper} {o : Oper} {a : Act} {w : World} {Q : Exit → Act → World → Prop} {w0 : World} {L : List Blk}
end
end Go.Proofs.YtcjbepaclbhjaaaGreat
