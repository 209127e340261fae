/- append onto a row of the call's own, the row being a block of the list. No program in sight. -/
import Derived.Test.YtbflmnoaiklnbaaSl
set_option linter.unusedSimpArgs false
set_option linter.unusedVariables false
namespace Go.Proofs.Ytbflmnoaiklnbaa
open Go.RowKit
theorem Hp.grown {B : Nat} {w0 w w' : World} {L : List Blk} {row : Option Nat} (hp : Hp B w0 w L) (hg : w.grownBy w' row) (hr : ∀ k, row = some k → B ≤ k ∧ ∀ p ∈ L, p.id ≠ k) : Hp B w0 w' L := by
  refine ⟨hp.below.grown hg hp.size (fun k hk => (hr k hk).1), Nat.le_trans hp.size hg.size, hp.nodup, fun p h => ?_⟩
  obtain ⟨h1, c, h2, h3⟩ := hp.own p h
  exact ⟨h1, c, (hg.block p.id (lt_of_heap h2) (fun e => (hr _ e.symm).2 p h rfl)).trans h2, h3⟩
section
variable {P : Program} {ops : Array Oper} {rest : List Oper} {o : Oper} {a : Act} {w : World} {Q : Exit → Act → World → Prop} {w0 : World} {L : List Blk}
theorem append_core {B : Nat} (hp : Hp B w0 w L) (t ty e : TypeId) (i : TypeInfo) (z : Value) (c bytes : Nat) (ht : P.underlying t = some (.slice e)) (hi : P.info? e = some i) (hz : i.zero = some z)
    (hsize : i.size = c) (hby : i.bytes = bytes) (hzs : z.cells.size = c) (hc0 : 0 < c) (v : Value) (n : Nat) (xs : List Value) (hown : w.ownsRow B e c v n xs) (hap : ∀ k, v.ownBlock = some k → ∀ p ∈ L, p.id ≠ k)
    (ad : Addr) (m cc : Nat) (news : List Value) (hl : news.length = m * c) (hm : 0 < m) (hnews : ∀ j u, news[j]? = some u → w.cell? (ad.add j) = some u) (h1 : news.all (·.oneCell') = true)
    (h63 : n + m ≤ maxLen) (hbytes : (n + m) * bytes ≤ 140737488355328) :
    ∃ g cap w', (Builtin.append_ #[t, t] ty #[v, .slice (some ad) m cc]).run P w = .ok (.slice (some ⟨g, 0, none⟩) (n + m) cap) w' ∧ n + m ≤ cap ∧ cap ≤ maxLen ∧ Hp B w0 w' (⟨g, xs ++ news, e, cap * c⟩ :: L) := by
  obtain ⟨v', w', hrun, h2, h3, _, h5⟩ := run_append_own_at (P := P) w B t ty e i z c bytes ht hi hz hsize hby hzs hc0 v n xs hown ad m cc news hl hnews (fun u hu => List.all_eq_true.1 h1 u hu) h63 hbytes hp.size
  rcases h2.2 with ⟨_, hn⟩ | ⟨g, cap, cur, rfl, hbg, hg, hnc, hcm, hcs, htake⟩
  · omega
  · refine ⟨g, cap, w', hrun, hnc, hcm, ?_⟩
    have hL := hp.grown h3 (fun k hk => ⟨(hown.lt k hk).1, hap k hk⟩)
    have hgL : ∀ p ∈ L, p.id ≠ g := by
      intro p hpL
      rcases h5 with h5 | h5
      · exact hap g (by rw [← h5]; rfl) p hpL
      · simp only [Value.ownBlock, Option.some.injEq] at h5
        have := (hp.lt hpL).2
        omega
    refine ⟨hL.below, hL.size, ?_, ?_⟩
    · simp only [List.map_cons, List.nodup_cons]
      refine ⟨?_, hL.nodup⟩
      intro h
      obtain ⟨p, hpL, he⟩ := List.mem_map.1 h
      exact hgL p hpL he
    · intro p hpL
      rcases List.mem_cons.1 hpL with rfl | hpL
      · exact ⟨hbg, cur, hg, hcs, by rw [h2.1]; exact htake⟩
      · exact hL.own p hpL
theorem wpList_appendNew_hp {B : Nat} {bx ex mx : Nat} {news : List Value} (hp : Hp B w0 w (⟨bx, news, ex, mx⟩ :: L)) (s x : Operand) (t : TypeId)
    (ho : o.op = .call { callee := .builtin .append, args := #[s, x], argTypes := #[t, t] }) (hw : Region.wanted o (yielded ops a.tmps) = true)
    (e : TypeId) (i : TypeInfo) (z : Value) (c bytes : Nat) (ht : P.underlying t = some (.slice e)) (hi : P.info? e = some i) (hz : i.zero = some z)
    (hsize : i.size = c) (hby : i.bytes = bytes) (hzs : z.cells.size = c) (hc0 : 0 < c) (hs : a.eval s = .slice none 0 0) (m cc : Nat) (hx : a.eval x = .slice (some ⟨bx, 0, none⟩) m cc) (hl : news.length = m * c) (hm : 0 < m)
    (h1 : news.all (·.oneCell') = true) (h63 : m ≤ maxLen) (hbytes : m * bytes ≤ 140737488355328)
    (h : ∀ g cap w', m ≤ cap → cap ≤ maxLen → Hp B w0 w' (⟨g, news, e, cap * c⟩ :: L) → wpList P ops Q rest (a.put o.dst (.slice (some ⟨g, 0, none⟩) m cap)) w') : wpList P ops Q (o :: rest) a w := by
  refine BigFrame.wpList_want hw fun K hK => ?_
  obtain ⟨g, cap, w', hrun, hc, hcm, hp'⟩ := append_core (P := P) hp.tail t o.type e i z c bytes ht hi hz hsize hby hzs hc0 (.slice none 0 0) 0 [] (World.ownsRow_nil _ _ _ _) (fun k hk => by simp [Value.ownBlock] at hk) ⟨bx, 0, none⟩ m cc news hl hm
    (fun j u hu => by rw [add_addr, Nat.zero_add]; exact hp.cell at0 hu) h1 (by omega) (by rw [Nat.zero_add]; exact hbytes)
  rw [Nat.zero_add] at hrun hc
  unfold Oper.wp execOp
  simp only [ho, resolve, invoke, builtin, Sem.run_bind, Sem.run_pure, Result.andThen_ok, List.map_toArray, List.map_cons, List.map_nil, hs, hx, hrun]
  exact hK _ _ (h g cap w' hc hcm hp')
theorem wpList_appendOn_hp {B : Nat} {bx ex mx g0 n cap0 e c : Nat} {news xs : List Value} (hp : Hp B w0 w (⟨bx, news, ex, mx⟩ :: ⟨g0, xs, e, cap0 * c⟩ :: L)) (s x : Operand) (t : TypeId)
    (ho : o.op = .call { callee := .builtin .append, args := #[s, x], argTypes := #[t, t] }) (hw : Region.wanted o (yielded ops a.tmps) = true)
    (i : TypeInfo) (z : Value) (bytes : Nat) (ht : P.underlying t = some (.slice e)) (hi : P.info? e = some i) (hz : i.zero = some z)
    (hsize : i.size = c) (hby : i.bytes = bytes) (hzs : z.cells.size = c) (hc0 : 0 < c) (hs : a.eval s = .slice (some ⟨g0, 0, none⟩) n cap0) (hnc : n ≤ cap0) (hcm : cap0 ≤ maxLen) (hxs : xs.length = n * c)
    (m cc : Nat) (hx : a.eval x = .slice (some ⟨bx, 0, none⟩) m cc) (hl : news.length = m * c) (hm : 0 < m)
    (h1 : news.all (·.oneCell') = true) (h63 : n + m ≤ maxLen) (hbytes : (n + m) * bytes ≤ 140737488355328)
    (h : ∀ g cap w', n + m ≤ cap → cap ≤ maxLen → Hp B w0 w' (⟨g, xs ++ news, e, cap * c⟩ :: L) → wpList P ops Q rest (a.put o.dst (.slice (some ⟨g, 0, none⟩) (n + m) cap)) w') : wpList P ops Q (o :: rest) a w := by
  refine BigFrame.wpList_want hw fun K hK => ?_
  have hown : w.ownsRow B e c (.slice (some ⟨g0, 0, none⟩) n cap0) n xs := by
    obtain ⟨hB, cur, hg, hsz, htk⟩ := hp.own ⟨g0, xs, e, cap0 * c⟩ (by simp)
    exact ⟨hxs, .inr ⟨g0, cap0, cur, rfl, hB, hg, hnc, hcm, hsz, by rw [← hxs]; exact htk⟩⟩
  have hnd := hp.tail.nodup
  simp only [List.map_cons, List.nodup_cons] at hnd
  obtain ⟨g, cap, w', hrun, hc, hcm', hp'⟩ := append_core (P := P) hp.tail.tail t o.type e i z c bytes ht hi hz hsize hby hzs hc0 _ n xs hown
    (fun k hk p hpL he => by
      simp only [Value.ownBlock, Option.some.injEq] at hk
      subst hk
      exact hnd.1 (List.mem_map.2 ⟨p, hpL, he⟩)) ⟨bx, 0, none⟩ m cc news hl hm
    (fun j u hu => by rw [add_addr, Nat.zero_add]; exact hp.cell at0 hu) h1 h63 hbytes
  unfold Oper.wp execOp
  simp only [ho, resolve, invoke, builtin, Sem.run_bind, Sem.run_pure, Result.andThen_ok, List.map_toArray, List.map_cons, List.map_nil, hs, hx, hrun]
  exact hK _ _ (h g cap w' hc hcm' hp')
/-- 'append(nil, l...)' of a row that came in. -/
theorem wpList_appendRow_hp {B : Nat} (hp : Hp B w0 w L) (s x : Operand) (t : TypeId)
    (ho : o.op = .call { callee := .builtin .append, args := #[s, x], argTypes := #[t, t] }) (hw : Region.wanted o (yielded ops a.tmps) = true)
    (e : TypeId) (i : TypeInfo) (z : Value) (c bytes : Nat) (ht : P.underlying t = some (.slice e)) (hi : P.info? e = some i) (hz : i.zero = some z)
    (hsize : i.size = c) (hby : i.bytes = bytes) (hzs : z.cells.size = c) (hc0 : 0 < c) (hs : a.eval s = .slice none 0 0) (ad : Option Addr) (m cc : Nat) (hx : a.eval x = .slice ad m cc) (xs : List Value) (hl : xs.length = m * c) (hr : RowIs w ad xs)
    (h1 : xs.all (·.oneCell') = true) (h63 : m ≤ maxLen) (hbytes : m * bytes ≤ 140737488355328)
    (h0 : m = 0 → wpList P ops Q rest (a.put o.dst (.slice none 0 0)) w)
    (h : ∀ g cap w', 0 < m → m ≤ cap → cap ≤ maxLen → Hp B w0 w' (⟨g, xs, e, cap * c⟩ :: L) → wpList P ops Q rest (a.put o.dst (.slice (some ⟨g, 0, none⟩) m cap)) w') : wpList P ops Q (o :: rest) a w := by
  refine BigFrame.wpList_want hw fun K hK => ?_
  rcases Nat.eq_zero_or_pos m with hm | hm
  · subst hm
    have hrun : (Builtin.append_ #[t, t] o.type #[.slice none 0 0, .slice ad 0 cc]).run P w = .ok (.slice none 0 0) w := by
      cases ad <;> simp [Builtin.append_, run_underlying ht, sizeOf, typeInfo, hi, Builtin.lenOf, Builtin.firstCells, loadCells, loadCellsFrom]
    unfold Oper.wp execOp
    simp only [ho, resolve, invoke, builtin, Sem.run_bind, Sem.run_pure, Result.andThen_ok, List.map_toArray, List.map_cons, List.map_nil, hs, hx, hrun]
    exact hK _ _ (h0 rfl)
  · obtain ⟨b, off, rfl, hc⟩ := hr.addr (by rw [hl]; exact Nat.mul_pos hm hc0)
    obtain ⟨g, cap, w', hrun, hnc, hcm, hp'⟩ := append_core (P := P) hp t o.type e i z c bytes ht hi hz hsize hby hzs hc0 (.slice none 0 0) 0 [] (World.ownsRow_nil _ _ _ _) (fun k hk => by simp [Value.ownBlock] at hk) ⟨b, off, none⟩ m cc xs hl hm
      (fun j u hu => by rw [add_addr]; exact hc j u hu) h1 (by omega) (by rw [Nat.zero_add]; exact hbytes)
    rw [Nat.zero_add] at hrun hnc
    unfold Oper.wp execOp
    simp only [ho, resolve, invoke, builtin, Sem.run_bind, Sem.run_pure, Result.andThen_ok, List.map_toArray, List.map_cons, List.map_nil, hs, hx, hrun]
    exact hK _ _ (h g cap w' hm hnc hcm hp')
end
end Go.Proofs.Ytbflmnoaiklnbaa
