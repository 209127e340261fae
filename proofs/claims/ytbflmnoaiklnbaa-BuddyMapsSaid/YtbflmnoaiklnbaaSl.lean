/- Slices as rows of cells: reading what came in, appending to nothing. No program in sight. -/
import Derived.Test.YtbflmnoaiklnbaaDrawn
import Derived.Maps.AppendAt
set_option linter.unusedSimpArgs false
set_option linter.unusedVariables false
namespace Go.Proofs.Ytbflmnoaiklnbaa
open Go.RowKit

/-- The cells of a slice whose address is a, in world w. -/
def RowIs (w : World) (a : Option Addr) (xs : List Value) : Prop := ∀ j v, xs[j]? = some v → ∃ b off, a = some ⟨b, off, none⟩ ∧ w.cell? ⟨b, off + j, none⟩ = some v

theorem RowIs.nil (w : World) (a : Option Addr) : RowIs w a [] := by intro j v h; simp at h
theorem RowIs.below {w w' : World} {a : Option Addr} {xs : List Value} (h : RowIs w a xs) (hb : Below w.heap.size w w') : RowIs w' a xs := fun j v hj => by
  obtain ⟨b, off, ha, hc⟩ := h j v hj
  exact ⟨b, off, ha, (hb.cell (World.block_lt_of_cell? w _ hc)).trans hc⟩
theorem RowIs.hp {B : Nat} {w0 w : World} {L : List Blk} {a : Option Addr} {xs : List Value} (h : RowIs w0 a xs) (hp : Hp w0.heap.size w0 w L) : RowIs w a xs := h.below hp.below
theorem RowIs.addr {w : World} {a : Option Addr} {xs : List Value} (h : RowIs w a xs) (hne : 0 < xs.length) : ∃ b off, a = some ⟨b, off, none⟩ ∧ ∀ j v, xs[j]? = some v → w.cell? ⟨b, off + j, none⟩ = some v := by
  obtain ⟨b, off, rfl, _⟩ := h 0 xs[0] (by simp [hne])
  refine ⟨b, off, rfl, fun j v hj => ?_⟩
  obtain ⟨b', off', he, hc⟩ := h j v hj
  injection he with he
  injection he with h1 h2
  subst h1; subst h2
  exact hc

theorem flat_len {α : Type} (f : α → List Value) (c : Nat) (hf : ∀ x, (f x).length = c) (l : List α) : (l.flatMap f).length = l.length * c := by
  induction l with
  | nil => simp
  | cons x l ih => simp [ih, hf, Nat.add_mul, Nat.add_comm]
theorem flat_get {α : Type} (f : α → List Value) (c : Nat) (hf : ∀ x, (f x).length = c) : ∀ (l : List α) (i j : Nat) (x : α) (v : Value), l[i]? = some x → (f x)[j]? = some v → (l.flatMap f)[i * c + j]? = some v
  | [], i, _, _, _, h, _ => by simp at h
  | y :: l, 0, j, x, v, h, hv => by
    simp only [List.getElem?_cons_zero, Option.some.injEq] at h
    subst h
    have hj : j < (f y).length := (List.getElem?_eq_some_iff.1 hv).1
    rw [List.flatMap_cons, Nat.zero_mul, Nat.zero_add, List.getElem?_append_left hj]; exact hv
  | y :: l, i + 1, j, x, v, h, hv => by
    rw [List.getElem?_cons_succ] at h
    have := flat_get f c hf l i j x v h hv
    rw [List.flatMap_cons, List.getElem?_append_right (by rw [hf, Nat.succ_mul]; omega), hf, show (i + 1) * c + j - c = i * c + j by rw [Nat.succ_mul]; omega]
    exact this

theorem RowIs.elems {α : Type} {f : α → List Value} {w : World} {a : Option Addr} {l : List α} (c : Nat) (hf : ∀ x, (f x).length = c) (h : RowIs w a (l.flatMap f)) (hl : 0 < l.length) (h0 : 0 < c) :
    ∃ b off, a = some ⟨b, off, none⟩ ∧ ∀ (i : Nat) x, l[i]? = some x → ∀ j v, (f x)[j]? = some v → w.cell? ⟨b, off + i * c + j, none⟩ = some v := by
  obtain ⟨b, off, rfl, hc⟩ := h.addr (by rw [flat_len f c hf]; exact Nat.mul_pos hl h0)
  exact ⟨b, off, rfl, fun i x hi j v hj => by rw [Nat.add_assoc]; exact hc _ v (flat_get f c hf l i j x v hi hj)⟩

section
variable {P : Program}
theorem Keeps.rowAgg {w0 w : World} {M : List Blk} (h : Keeps w0.heap.size w0 M w) {ty : TypeId} {k : Nat} (ha : aggB P ty k = true) {b off : Nat} {vs : List Value} (hc : ∀ j v, vs[j]? = some v → w0.cell? ⟨b, off + j, none⟩ = some v) (hk : vs.length = k) :
    (loadVar ty ⟨b, off, none⟩).run P w = .ok (.agg vs.toArray) w := by
  obtain ⟨L, hp, _⟩ := h
  obtain ⟨h1, h2⟩ := run_isAgg_agg ha w
  have := run_loadCells_list (P := P) w ⟨b, off, none⟩ vs (fun j v hj => by
    rw [add_addr]
    have := hc j v hj
    exact (hp.below.cell (World.block_lt_of_cell? w0 _ this)).trans this)
  rw [hk] at this
  simp [loadVar, Sem.run_bind, h1, h2, this]
theorem Keeps.rowOne {w0 w : World} {M : List Blk} (h : Keeps w0.heap.size w0 M w) {ty : TypeId} (ha : cellB P ty = true) {b off : Nat} {v : Value} (hc : w0.cell? ⟨b, off, none⟩ = some v) :
    (loadVar ty ⟨b, off, none⟩).run P w = .ok v w := by
  obtain ⟨L, hp, _⟩ := h
  obtain ⟨h1, _⟩ := run_isAgg_cell ha w
  have hcc := (hp.below.cell (World.block_lt_of_cell? w0 _ hc)).trans hc
  simp [loadVar, Sem.run_bind, h1, load, Sem.run, hcc]

variable {ops : Array Oper} {rest : List Oper} {o : Oper} {a : Act} {w : World} {Q : Exit → Act → World → Prop} {w0 : World} {L : List Blk}
theorem wpList_loadRow_hp (hp : Hp w0.heap.size w0 w L) (ty : TypeId) (x : Operand) (ho : o.op = .load ty x) (hw : Region.wanted o (yielded ops a.tmps) = true) (b off : Nat) (hx : a.eval x = .pointer (some ⟨b, off, none⟩))
    (k : Nat) (ha : aggB P ty k = true) (vs : List Value) (hc : ∀ j v, vs[j]? = some v → w0.cell? ⟨b, off + j, none⟩ = some v) (hk : vs.length = k)
    (h : wpList P ops Q rest (a.put o.dst (.agg vs.toArray)) w) : wpList P ops Q (o :: rest) a w := by
  refine BigFrame.wpList_want hw fun K hK => ?_
  unfold Oper.wp execOp
  have hr := (Keeps.all hp).rowAgg ha hc hk
  simp only [ho, hx, Instr.loadAt, Instr.sureAddr, Sem.run_bind, Sem.run_pure, Result.andThen_ok, hr]
  exact hK _ _ h
theorem wpList_loadRowOne_hp (hp : Hp w0.heap.size w0 w L) (ty : TypeId) (x : Operand) (ho : o.op = .load ty x) (hw : Region.wanted o (yielded ops a.tmps) = true) (b off : Nat) (hx : a.eval x = .pointer (some ⟨b, off, none⟩))
    (ha : cellB P ty = true) (v : Value) (hc : w0.cell? ⟨b, off, none⟩ = some v)
    (h : wpList P ops Q rest (a.put o.dst v) w) : wpList P ops Q (o :: rest) a w := by
  refine BigFrame.wpList_want hw fun K hK => ?_
  unfold Oper.wp execOp
  have hr := (Keeps.all hp).rowOne ha hc
  simp only [ho, hx, Instr.loadAt, Instr.sureAddr, Sem.run_bind, Sem.run_pure, Result.andThen_ok, hr]
  exact hK _ _ h

theorem wpList_buildSlice_hp {B : Nat} (hp : Hp B w0 w L) (t : TypeId) (len : Nat) (parts : Array (Nat × Operand)) (ho : o.op = .buildSlice t len parts) (hw : Region.wanted o (yielded ops a.tmps) = true) (l : List Value) (e : TypeId)
    (hrun : ∀ w, (Instr.buildSlice t len (parts.map fun (i, x) => (i, a.eval x))).run P w = .ok (.slice (some ⟨w.heap.size, 0, none⟩) len len) (w.alloc (.cells l.toArray e)))
    (h : ∀ b w', Hp B w0 w' (⟨b, l, e, l.length⟩ :: L) → wpList P ops Q rest (a.put o.dst (.slice (some ⟨b, 0, none⟩) len len)) w') : wpList P ops Q (o :: rest) a w := by
  refine BigFrame.wpList_want hw fun K hK => ?_
  unfold Oper.wp execOp
  simp only [ho, Sem.run_bind, hrun, Result.andThen_ok, Sem.run_pure]
  exact hK _ _ (h _ _ (hp.alloc _ l e _ (by simp) (by simp)))

/-- A block that a callee has made. -/
def Fresh (w w' : World) (p : Blk) : Prop := w.heap.size ≤ p.id ∧ ∃ c, w'.heap[p.id]? = some (.cells c p.t) ∧ c.size = p.n ∧ c.toList.take p.l.length = p.l
theorem Hp.fresh {w0 w : World} {L : List Blk} (hp : Hp w0.heap.size w0 w L) {i : Nat} {p : Blk} (hi : L[i]? = some p) : Fresh w0 w p := hp.own p (Hp.mem hi)
theorem Hp.adopt {B : Nat} {w0 w w' : World} {L : List Blk} {p : Blk} (hp : Hp B w0 w L) (hb : Below w.heap.size w w') (hf : Fresh w w' p) : Hp B w0 w' (p :: L) := by
  have h := hp.call hb
  refine ⟨h.below, h.size, ?_, ?_⟩
  · simp only [List.map_cons, List.nodup_cons]
    refine ⟨?_, h.nodup⟩
    intro hm
    obtain ⟨q, hq, he⟩ := List.mem_map.1 hm
    have := (hp.lt hq).2
    have := hf.1
    omega
  · intro q hq
    rcases List.mem_cons.1 hq with rfl | hq
    · exact ⟨Nat.le_trans hp.size hf.1, hf.2⟩
    · exact h.own q hq

/-- A row of the call's own. -/
theorem Hp.rowIs {B : Nat} (hp : Hp B w0 w L) {i b : Nat} {l : List Value} {t : TypeId} {n : Nat} (hi : L[i]? = some ⟨b, l, t, n⟩) : RowIs w (some ⟨b, 0, none⟩) l :=
  fun j v hj => ⟨b, 0, rfl, by rw [Nat.zero_add]; exact hp.cell hi hj⟩

/-- 'append(nil, l...)': a row of the call's own with the same cells. -/
theorem wpList_appendNil (hg : o.guard = none) (s x : Operand) (t : TypeId)
    (ho : o.op = .call { callee := .builtin .append, args := #[s, x], argTypes := #[t, t] })
    (e : TypeId) (i : TypeInfo) (z : Value) (size bytes : Nat) (ht : P.underlying t = some (.slice e)) (hi : P.info? e = some i) (hz : i.zero = some z)
    (hsize : i.size = size) (hby : i.bytes = bytes) (hzs : z.cells.size = size) (hsz : 0 < size)
    (hs : a.eval s = .slice none 0 0) (ad : Option Addr) (n c : Nat) (xs : List Value) (hx : a.eval x = .slice ad n c) (hl : xs.length = n * size) (hr : RowIs w ad xs) (h1 : ∀ u ∈ xs, u.oneCell' = true)
    (h63 : n ≤ maxLen) (hbytes : n * bytes ≤ 140737488355328)
    (h : ∀ ad' c' w', RowIs w' ad' xs → Below w.heap.size w w' → wpList P ops Q rest (a.put o.dst (.slice ad' n c')) w') : wpList P ops Q (o :: rest) a w := by
  refine wpList_plain hg fun K hK => ?_
  have key : ∃ ad' c' w', (Builtin.append_ #[t, t] o.type #[.slice none 0 0, .slice ad n c]).run P w = .ok (.slice ad' n c') w' ∧ RowIs w' ad' xs ∧ Below w.heap.size w w' := by
    rcases Nat.eq_zero_or_pos n with h0 | h0
    · subst h0
      have hn : xs = [] := List.eq_nil_of_length_eq_zero (by simpa using hl)
      subst hn
      refine ⟨none, 0, w, ?_, RowIs.nil _ _, Below.refl _ _⟩
      cases ad <;> simp [Builtin.append_, run_underlying ht, sizeOf, typeInfo, hi, Builtin.lenOf, Builtin.firstCells, loadCells, loadCellsFrom]
    · obtain ⟨b, off, rfl, hc⟩ := hr.addr (by rw [hl]; exact Nat.mul_pos h0 hsz)
      obtain ⟨v', w', hrun, h2, h3, _, _⟩ := run_append_own_at (P := P) w w.heap.size t o.type e i z size bytes ht hi hz hsize hby hzs hsz (.slice none 0 0) 0 [] (World.ownsRow_nil _ _ _ _) ⟨b, off, none⟩ n c xs hl (fun j u hu => by rw [add_addr]; exact hc j u hu) h1 (by omega) (by rw [Nat.zero_add]; exact hbytes) (Nat.le_refl _)
      rw [Nat.zero_add, List.nil_append] at h2
      rcases h2.2 with ⟨_, hn⟩ | ⟨g, cap, cur, rfl, hbg, hg, _⟩
      · omega
      · refine ⟨_, _, w', hrun, fun j v hj => ⟨g, 0, rfl, ?_⟩, (Below.refl _ _).grown h3 (Nat.le_refl _) (by simp [Value.ownBlock])⟩
        have := h2.cells (g := g) rfl j v hj
        rw [add_addr] at this
        exact this
  obtain ⟨ad', c', w', hrun, h2, h3⟩ := key
  unfold Oper.wp execOp
  simp only [ho, resolve, invoke, builtin, Sem.run_bind, Sem.run_pure, Result.andThen_ok, List.map_toArray, List.map_cons, List.map_nil, hs, hx, hrun]
  exact hK _ _ (h ad' c' w' h2 h3)
end

section
variable {P : Program} {ops : Array Oper} {rest : List Oper} {o : Oper} {a : Act} {w : World} {Q : Exit → Act → World → Prop} {w0 : World} {L : List Blk} {ty : TypeId} {x : Operand} {b off k : Nat} {vs : List Value} {v : Value}
theorem lR (hp : Hp w0.heap.size w0 w L) (ho : o.op = .load ty x) (hx : a.eval x = .pointer (some ⟨b, off, none⟩)) (ha : aggB P ty k = true) (hc : ∀ j v, vs[j]? = some v → w0.cell? ⟨b, off + j, none⟩ = some v)
    (h : wpList P ops Q rest (a.put o.dst (.agg vs.toArray)) w) (hw : Region.wanted o (yielded ops a.tmps) = true := by exact wy) (hk : vs.length = k := by rfl) : wpList P ops Q (o :: rest) a w := wpList_loadRow_hp hp ty x ho hw b off hx k ha vs hc hk h
theorem lRO (hp : Hp w0.heap.size w0 w L) (ho : o.op = .load ty x) (hx : a.eval x = .pointer (some ⟨b, off, none⟩)) (ha : cellB P ty = true) (hc : w0.cell? ⟨b, off, none⟩ = some v)
    (h : wpList P ops Q rest (a.put o.dst v) w) (hw : Region.wanted o (yielded ops a.tmps) = true := by exact wy) : wpList P ops Q (o :: rest) a w := wpList_loadRowOne_hp hp ty x ho hw b off hx ha v hc h
theorem lS {B len : Nat} {t e : TypeId} {parts : Array (Nat × Operand)} {l : List Value} (hp : Hp B w0 w L) (ho : o.op = .buildSlice t len parts)
    (hrun : ∀ w, (Instr.buildSlice t len (parts.map fun (i, x) => (i, a.eval x))).run P w = .ok (.slice (some ⟨w.heap.size, 0, none⟩) len len) (w.alloc (.cells l.toArray e)))
    (h : ∀ b w', Hp B w0 w' (⟨b, l, e, l.length⟩ :: L) → wpList P ops Q rest (a.put o.dst (.slice (some ⟨b, 0, none⟩) len len)) w') (hw : Region.wanted o (yielded ops a.tmps) = true := by exact wy) : wpList P ops Q (o :: rest) a w :=
  wpList_buildSlice_hp hp t len parts ho hw l e hrun h
variable {lo r : List Oper} {tl : List Nat} {i : Nat} {rest : List (Nat × Bool)} {M : List Blk}
theorem pR (ho : lo.drop i = o :: r) (hx : o.op = .load ty x) (he : a.eval x = .pointer (some ⟨b, off, none⟩)) (ha : aggB P ty k = true) (hc : ∀ j v, vs[j]? = some v → w0.cell? ⟨b, off + j, none⟩ = some v)
    (h : wpPlan P lo.toArray Q (Keeps w0.heap.size w0 M) tl rest (a.put o.dst (.agg vs.toArray)) w) (hw : Region.wanted o (yielded lo.toArray a.tmps) = true := by exact wy) (hk : vs.length = k := by rfl) :
    wpPlan P lo.toArray Q (Keeps w0.heap.size w0 M) tl ((i, true) :: rest) a w := plan_loadAgg ho ty x hx hw b off he _ (fun _ hS => hS.rowAgg ha hc hk) h
theorem pRO (ho : lo.drop i = o :: r) (hx : o.op = .load ty x) (he : a.eval x = .pointer (some ⟨b, off, none⟩)) (ha : cellB P ty = true) (hc : w0.cell? ⟨b, off, none⟩ = some v)
    (h : wpPlan P lo.toArray Q (Keeps w0.heap.size w0 M) tl rest (a.put o.dst v) w) (hw : Region.wanted o (yielded lo.toArray a.tmps) = true := by exact wy) :
    wpPlan P lo.toArray Q (Keeps w0.heap.size w0 M) tl ((i, true) :: rest) a w := plan_loadAgg ho ty x hx hw b off he _ (fun _ hS => hS.rowOne ha hc) h
end
end Go.Proofs.Ytbflmnoaiklnbaa
