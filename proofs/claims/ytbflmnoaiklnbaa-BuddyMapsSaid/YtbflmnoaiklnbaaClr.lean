/- 'clear' of a part of a row of the call's own. No program in sight. -/
import Derived.Test.YtbflmnoaiklnbaaIns
set_option linter.unusedSimpArgs false
set_option linter.unusedVariables false
namespace Go.Proofs.Ytbflmnoaiklnbaa
open Go.RowKit Go.Lib
section
variable {P : Program} {ops : Array Oper} {rest : List Oper} {o : Oper} {a : Act} {w : World} {Q : Exit → Act → World → Prop} {w0 : World} {L : List Blk}
theorem pre_clear (x : Operand) (t : TypeId) (_ : o.op = .call { callee := .builtin .clear, args := #[x], argTypes := #[t] }) (h : wpList P ops Q (o :: rest) a w) : wpList P ops Q (o :: rest) a w := h
theorem wpList_clearOne {B : Nat} {e : TypeId} {g off cap c : Nat} {l : List Value} {M : List Blk} (hp : Hp B w0 w (⟨g, l, e, cap * c⟩ :: M)) (t : TypeId) (x : Operand) (ho : o.op = .call { callee := .builtin .clear, args := #[x], argTypes := #[t] }) (hw : Region.wanted o (yielded ops a.tmps) = true)
    (ht : P.underlying t = some (.slice e)) (z : Value) (hz : ∀ w, (zeroValue e).run P w = .ok z w) (q cc : Nat) (hx : a.eval x = .slice (some ⟨g, off, none⟩) q cc) (hq : q = 1) (zs : List Value) (hzs : (Builtin.zeroCells z.cells 1).toList = zs) (h1 : zs.all (·.oneCell') = true)
    (hlen : zs.length = c) (hoff : off = l.length) (hfit : l.length + c ≤ cap * c)
    (h : ∀ v w', Hp B w0 w' (⟨g, l, e, cap * c⟩ :: M) → wpList P ops Q rest (a.put o.dst v) w') : wpList P ops Q (o :: rest) a w := by
  refine BigFrame.wpList_want hw fun K hK => ?_
  subst hoff hq
  obtain ⟨l2, hl2, hp2⟩ := hp.more c hfit
  obtain ⟨w', hst, hp'⟩ := Hp.storeCells (P := P) l.length zs w _ (l ++ l2) 0 hp2 (i := 0) rfl (by rw [List.length_append, hl2, hlen]; omega) h1
  rw [Nat.add_zero] at hp'
  have key : (Builtin.clear_ #[t] o.type #[.slice (some ⟨g, l.length, none⟩) 1 cc]).run P w = .ok (.tuple #[]) w' := by
    simp [Builtin.clear_, run_underlying ht, hz, hzs, hst]
  have hp3 : Hp B w0 w' (⟨g, spl (l ++ l2) l.length zs, e, cap * c⟩ :: M) := hp'
  rw [spl_append _ _ _ (by rw [hl2, hlen])] at hp3
  unfold Oper.wp execOp
  simp only [ho, resolve, invoke, builtin, Sem.run_bind, Sem.run_pure, Result.andThen_ok, List.map_toArray, List.map_cons, List.map_nil, hx, key]
  refine hK _ _ (h _ w' ?_)
  refine ⟨hp3.below, hp3.size, by simpa using hp3.nodup, fun p hp => ?_⟩
  rcases List.mem_cons.1 hp with rfl | hp
  · obtain ⟨h1, cs, h2, h3, h4⟩ := hp3.own _ (List.mem_cons_self ..)
    refine ⟨h1, cs, h2, h3, ?_⟩
    simp only at h4 ⊢
    have := congrArg (List.take l.length) h4
    rw [List.take_take, List.length_append, Nat.min_eq_left (by omega), List.take_append_of_le_length (Nat.le_refl _), List.take_length] at this
    exact this
  · exact hp3.own p (List.mem_cons_of_mem _ hp)
/-- 'append(s[:n], l...)' where there is room: in place, whatever row l is. -/
theorem wpList_appendFit {B : Nat} {e : TypeId} {g cap c n : Nat} {l : List Value} {M : List Blk} (hp : Hp B w0 w (⟨g, l, e, cap * c⟩ :: M)) (s x : Operand) (t : TypeId) (ho : o.op = .call { callee := .builtin .append, args := #[s, x], argTypes := #[t, t] }) (hw : Region.wanted o (yielded ops a.tmps) = true)
    (ht : P.underlying t = some (.slice e)) (i : TypeInfo) (hi : P.info? e = some i) (hsize : i.size = c) (hc0 : 0 < c) (hs : a.eval s = .slice (some ⟨g, 0, none⟩) n cap) (ad : Option Addr) (m cc : Nat) (hx : a.eval x = .slice ad m cc) (news : List Value) (hl : news.length = m * c) (hr : RowIs w ad news)
    (h1 : news.all (·.oneCell') = true) (hfit : n + m ≤ cap) (hlen : (n + m) * c ≤ l.length)
    (h : ∀ w', Hp B w0 w' (⟨g, spl l (n * c) news, e, cap * c⟩ :: M) → wpList P ops Q rest (a.put o.dst (.slice (some ⟨g, 0, none⟩) (n + m) cap)) w') : wpList P ops Q (o :: rest) a w := by
  refine BigFrame.wpList_want hw fun K hK => ?_
  obtain ⟨w', hst, hp'⟩ := Hp.storeCells (P := P) (n * c) news w _ l 0 hp (i := 0) rfl (by rw [hl, Nat.add_zero, ← Nat.add_mul]; exact hlen) h1
  rw [Nat.add_zero] at hp'
  have hfc : (Builtin.firstCells i.size m (.slice ad m cc)).run P w = .ok news.toArray w := by
    rcases Nat.eq_zero_or_pos m with hm | hm
    · subst hm
      have hn : news = [] := List.eq_nil_of_length_eq_zero (by simpa using hl)
      subst hn
      cases ad <;> simp [Builtin.firstCells, loadCells, loadCellsFrom]
    · obtain ⟨b, off, rfl, hc⟩ := hr.addr (by rw [hl]; exact Nat.mul_pos hm hc0)
      exact run_firstCells_some (P := P) w i.size m ⟨b, off, none⟩ m cc news (by rw [hsize]; exact hl) (fun j u hj => by rw [add_addr]; exact hc j u hj)
  have e1 : (⟨g, 0, none⟩ : Addr).add (n * i.size) = ⟨g, n * c, none⟩ := by rw [add_addr, Nat.zero_add, hsize]
  have key : (Builtin.append_ #[t, t] o.type #[.slice (some ⟨g, 0, none⟩) n cap, .slice ad m cc]).run P w = .ok (.slice (some ⟨g, 0, none⟩) (n + m) cap) w' := by
    cases ad <;> simp [Builtin.append_, run_underlying ht, sizeOf, typeInfo, hi, Builtin.lenOf, hfc, hfit, e1, hst]
  unfold Oper.wp execOp
  simp only [ho, resolve, invoke, builtin, Sem.run_bind, Sem.run_pure, Result.andThen_ok, List.map_toArray, List.map_cons, List.map_nil, hs, hx, key]
  exact hK _ _ (h w' hp')
end
end Go.Proofs.Ytbflmnoaiklnbaa
