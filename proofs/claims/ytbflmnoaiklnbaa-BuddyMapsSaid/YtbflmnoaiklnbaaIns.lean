/- What slices.Insert needs: copy to a place in a block of the call's own; append of zeros without room; more of a block's cells. No program in sight. -/
import Derived.Test.YtbflmnoaiklnbaaHv
import Derived.Lib.AppendZerosOnto
import Derived.Lib.Overlaps
set_option linter.unusedSimpArgs false
set_option linter.unusedVariables false
namespace Go.Proofs.Ytbflmnoaiklnbaa
open Go.RowKit
theorem Hp.shape {B : Nat} {w0 w : World} {L : List Blk} (hp : Hp B w0 w L) {i b n : Nat} {l : List Value} {t : TypeId} (hi : L[i]? = some ⟨b, l, t, n⟩) : w.shape? b = some (t, n) := by
  obtain ⟨_, c, h2, h3, _⟩ := hp.own _ (Hp.mem hi)
  simp only at h2 h3
  simp [World.shape?, h2, h3]
/-- More of a block's cells: whatever they hold. -/
theorem Hp.more {B : Nat} {w0 w : World} {L : List Blk} {b n : Nat} {l : List Value} {t : TypeId} (hp : Hp B w0 w (⟨b, l, t, n⟩ :: L)) (k : Nat) (hk : l.length + k ≤ n) : ∃ l2 : List Value, l2.length = k ∧ Hp B w0 w (⟨b, l ++ l2, t, n⟩ :: L) := by
  obtain ⟨h1, c, h2, h3, h4⟩ := hp.own ⟨b, l, t, n⟩ (by simp)
  simp only at h2 h3 h4
  have hcl : c.toList.length = n := by rw [Array.length_toList]; exact h3
  refine ⟨(c.toList.drop l.length).take k, by rw [List.length_take, List.length_drop, hcl]; omega, hp.below, hp.size, hp.nodup, fun p hpL => ?_⟩
  rcases List.mem_cons.1 hpL with rfl | hpL
  · refine ⟨h1, c, h2, h3, ?_⟩
    simp only
    have hl : (l ++ (c.toList.drop l.length).take k) = c.toList.take (l.length + k) := by
      rw [List.take_add, h4]
    rw [hl, List.length_take, hcl, Nat.min_eq_left hk]
  · exact hp.own p (List.mem_cons_of_mem _ hpL)
theorem spl_at (vs : List Value) : ∀ (l1 l2 l3 : List Value), l2.length = vs.length → spl (l1 ++ (l2 ++ l3)) l1.length vs = l1 ++ (vs ++ l3) := by
  induction vs with
  | nil => intro l1 l2 l3 h; have : l2 = [] := List.eq_nil_of_length_eq_zero h; subst this; simp [spl]
  | cons v vs ih =>
    intro l1 l2 l3 h
    match l2, h with
    | x :: l2, h =>
      simp only [spl]
      have e : (l1 ++ (x :: l2 ++ l3)).set l1.length v = (l1 ++ [v]) ++ (l2 ++ l3) := by rw [List.set_append]; simp
      have := ih (l1 ++ [v]) l2 l3 (by simpa using h)
      rw [List.length_append, List.length_singleton] at this
      rw [e, this]; simp
theorem spl_mid (vs l : List Value) (k : Nat) (h : k + vs.length ≤ l.length) : spl l k vs = l.take k ++ (vs ++ l.drop (k + vs.length)) := by
  have e : l = l.take k ++ ((l.drop k).take vs.length ++ l.drop (k + vs.length)) := by
    rw [← List.drop_drop, List.take_append_drop, List.take_append_drop]
  have hk : (l.take k).length = k := by rw [List.length_take]; omega
  have := spl_at vs (l.take k) ((l.drop k).take vs.length) (l.drop (k + vs.length)) (by rw [List.length_take, List.length_drop]; omega)
  rw [← e, hk] at this
  exact this
section
variable {P : Program} {ops : Array Oper} {rest : List Oper} {o : Oper} {a : Act} {w : World} {Q : Exit → Act → World → Prop} {w0 : World} {L : List Blk}
theorem pre_copy (x y : Operand) (t t' : TypeId) (_ : o.op = .call { callee := .builtin .copy, args := #[x, y], argTypes := #[t, t'] }) (h : wpList P ops Q (o :: rest) a w) : wpList P ops Q (o :: rest) a w := h
theorem wpList_copyAt {B : Nat} (hp : Hp B w0 w L) (t t' e : TypeId) (x y : Operand) (ho : o.op = .call { callee := .builtin .copy, args := #[x, y], argTypes := #[t, t'] }) (hw : Region.wanted o (yielded ops a.tmps) = true)
    (ht : P.underlying t = some (.slice e)) (sz : Nat) (hs : (P.info? e).map (·.size) = some sz) (b od n c : Nat) (hx : a.eval x = .slice (some ⟨b, od, none⟩) n c) (ab ao k c' : Nat) (hy : a.eval y = .slice (some ⟨ab, ao, none⟩) k c')
    (i : Nat) (l : List Value) (m : Nat) (hL : L[i]? = some ⟨b, l, e, m⟩) (q : Nat) (hq : Nat.min k n = q) (xs : List Value) (hxs : xs.length = q * sz) (hfit : od + q * sz ≤ l.length)
    (hr : ∀ j u, xs[j]? = some u → w.cell? ⟨ab, ao + j, none⟩ = some u) (h1 : xs.all (·.oneCell') = true)
    (h : ∀ v w', Hp B w0 w' (L.set i ⟨b, l.take od ++ (xs ++ l.drop (od + q * sz)), e, m⟩) → wpList P ops Q rest (a.put o.dst v) w') : wpList P ops Q (o :: rest) a w := by
  refine BigFrame.wpList_want hw fun K hK => ?_
  obtain ⟨w', hst, hp'⟩ := Hp.storeCells (P := P) od xs w L l 0 hp hL (by rw [hxs, Nat.add_zero]; exact hfit) h1
  rw [Nat.add_zero, spl_mid xs l od (by rw [hxs]; exact hfit), hxs] at hp'
  have hfc : (Builtin.firstCells sz q (.slice (some ⟨ab, ao, none⟩) k c')).run P w = .ok xs.toArray w :=
    run_firstCells_some (P := P) w sz q ⟨ab, ao, none⟩ k c' xs hxs (fun j u hu => by rw [add_addr]; exact hr j u hu)
  have key : (Builtin.copy_ #[t, t'] o.type #[.slice (some ⟨b, od, none⟩) n c, .slice (some ⟨ab, ao, none⟩) k c']).run P w = .ok (goInt (q : Int)) w' := by
    cases hinf : P.info? e with
    | none => rw [hinf] at hs; simp at hs
    | some inf =>
      rw [hinf] at hs
      simp only [Option.map_some, Option.some.injEq] at hs
      subst hs
      simp [Builtin.copy_, run_underlying ht, Builtin.lenOf, sizeOf, typeInfo, hinf, hq, hfc, hst]
  unfold Oper.wp execOp
  simp only [ho, resolve, invoke, builtin, Sem.run_bind, Sem.run_pure, Result.andThen_ok, List.map_toArray, List.map_cons, List.map_nil, hx, hy, key]
  exact hK _ _ (h _ w' hp')
/-- 'append(s, make([]T, k)...)' where there is no room: a new row, zeros behind what was there. -/
theorem wpList_appendZeros {B : Nat} (hp : Hp B w0 w L) (t tn e : TypeId) (x y : Operand) (ho : o.op = .call { callee := .builtin .append, args := #[x, y], argTypes := #[t, tn] }) (hw : Region.wanted o (yielded ops a.tmps) = true)
    (ht : P.underlying t = some (.slice e)) (kn : IntKind) (htn : P.underlying tn = some (.int kn)) (i : TypeInfo) (z : Value) (hi : P.info? e = some i) (hz : i.zero = some z) (sz bytes : Nat) (hsz : i.size = sz) (hby : i.bytes = bytes) (hzs : z.cells.size = sz) (hs0 : 0 < sz)
    (g n cap : Nat) (hx : a.eval x = .slice (some ⟨g, 0, none⟩) n cap) (olds : List Value) (hol : olds.length = n * sz) (hold : ∀ j u, olds[j]? = some u → w.cell? ⟨g, j, none⟩ = some u) (kz : Int) (k : Nat) (hkz : kz = k) (hy : a.eval y = .int .i64 kz) (h0 : 0 < k)
    (hg : cap < n + k) (h63 : n + k ≤ maxLen) (hby2 : (n + k) * bytes ≤ 100000000)
    (h : ∀ g2 cap2 w', n + k ≤ cap2 → cap2 ≤ maxLen → Hp B w0 w' (⟨g2, olds ++ (Builtin.zeroCells z.cells k).toList, e, cap2 * sz⟩ :: L) → wpList P ops Q rest (a.put o.dst (.slice (some ⟨g2, 0, none⟩) (n + k) cap2)) w') : wpList P ops Q (o :: rest) a w := by
  refine BigFrame.wpList_want hw fun K hK => ?_
  subst hkz hsz hby
  have hfc : (Builtin.firstCells i.size n (.slice (some ⟨g, 0, none⟩) n cap)).run P w.drew = .ok olds.toArray w.drew :=
    run_firstCells_some (P := P) w.drew i.size n ⟨g, 0, none⟩ n cap olds hol (fun j u hu => by rw [add_addr, Nat.zero_add]; exact hold j u hu)
  have hfit : Builtin.nextslicecap (n + k) cap * i.bytes ≤ 281474976710656 := growslice_fits hg (by omega)
  have hrun := Lib.run_append_grow_zeros (P := P) w t tn o.type e i z .i64 kn ht htn hi hz (some ⟨g, 0, none⟩) n cap olds hfc k h0 hs0 hg (by unfold maxLen at h63; omega) (by have : k * i.bytes ≤ (n + k) * i.bytes := Nat.mul_le_mul_right _ (by omega); omega) hfit
  unfold Oper.wp execOp
  simp only [ho, resolve, invoke, builtin, Sem.run_bind, Sem.run_pure, Result.andThen_ok, List.map_toArray, List.map_cons, List.map_nil, hx, hy, hrun]
  have hge := grownCap_ge w (n + k) cap e
  refine hK _ _ (h w.heap.size (grownCap w (n + k) cap e) _ hge (grownCap_le_maxLen w (n + k) cap e h63) ?_)
  have hzl : (Builtin.zeroCells z.cells k).toList.length = k * i.size := by rw [Array.length_toList, size_zeroCells, hzs]
  refine hp.drew.alloc _ _ e _ ?_ ?_
  · simp only [Array.size_append, List.size_toArray, size_zeroCells, hzs, hol, ← Nat.add_mul]
    congr 1; omega
  · simp only [Array.toList_append, List.append_assoc]
    rw [← List.append_assoc]
    exact List.take_left
end
end Go.Proofs.Ytbflmnoaiklnbaa
