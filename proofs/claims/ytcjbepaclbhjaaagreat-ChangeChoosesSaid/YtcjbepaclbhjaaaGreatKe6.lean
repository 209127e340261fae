/- Parts of the proof. -/
import Derived.Test.YtcjbepaclbhjaaaGreatKe1
import Derived.Test.YtcjbepaclbhjaaaGreatKe0
import Derived.Deep.AppendSrc
open List renaming set_cons_zero → zSet, set_cons_succ → sSet
/- Slices of the call's own that begin anywhere in their block; append of rows and strings onto them. No program in sight. -/
set_option linter.unusedSimpArgs false
set_option linter.unusedVariables false
namespace Go.Proofs.YtcjbepaclbhjaaaGreat
open Go.RowKit
def SubRow (e : TypeId) (c : Nat) (v : Value) (n : Nat) (xs : List Value) (R : List Blk) : Prop :=
  xs.length = n * c ∧ ((n = 0 ∧ (∃ a, v = .slice a 0 0) ∧ R = []) ∨ ∃ g off cap pre, v = .slice (some ⟨g, off, none⟩) n cap ∧ n ≤ cap ∧ cap ≤ maxLen ∧ pre.length = off ∧ R = [⟨g, pre ++ xs, e, off + cap * c⟩])
theorem SubRow.of_own {e : TypeId} {c n : Nat} {v : Value} {xs : List Value} {R : List Blk} (h : OwnRow e c v n xs R) : SubRow e c v n xs R := by
  obtain ⟨hl, ⟨h0, hv, hx, hr⟩ | ⟨g, cap, hv, h1, h2, hr⟩⟩ := h
  · exact ⟨hl, .inl ⟨h0, ⟨none, hv⟩, hr⟩⟩
  · exact ⟨hl, .inr ⟨g, 0, cap, [], hv, h1, h2, rfl, by rw [hr, Nat.zero_add, List.nil_append]⟩⟩
theorem SubRow.nil (e : TypeId) (c : Nat) (a : Option Addr) : SubRow e c (.slice a 0 0) 0 [] [] := ⟨by simp, .inl ⟨rfl, ⟨a, rfl⟩, rfl⟩⟩
theorem Kept.rowAt (g off : Nat) (pre xs : List Value) (hp0 : pre.length = off) (t : TypeId) (n : Nat) : Kept [⟨g, pre ++ xs, t, n⟩] fun w => RowIs w (some ⟨g, off, none⟩) xs := fun B w0 w L hp hm => by
  obtain ⟨k, hk, hkl⟩ := List.getElem_of_mem (hm _ (List.mem_singleton.2 rfl))
  intro j v hj
  refine ⟨g, off, rfl, hp.cell (i := k) (by rw [List.getElem?_eq_getElem hk, hkl]) ?_⟩
  rw [List.getElem?_append_right (by omega), show off + j - pre.length = j by omega]; exact hj
theorem SubRow.kept {e : TypeId} {c n : Nat} {v : Value} {xs : List Value} {R : List Blk} (h : SubRow e c v n xs R) : ∃ a k, v = .slice a n k ∧ n ≤ k ∧ Kept R fun w => RowIs w a xs := by
  obtain ⟨hl, ⟨h0, ⟨a, hv⟩, hr⟩ | ⟨g, off, cap, pre, hv, h1, h2, h3, hr⟩⟩ := h
  · subst h0 hv hr
    have : xs = [] := List.eq_nil_of_length_eq_zero (by simpa using hl)
    subst this
    exact ⟨a, 0, rfl, Nat.le_refl _, Kept.none_ (fun w => RowIs.nil _ _) _⟩
  · subst hv hr
    exact ⟨_, _, rfl, h1, Kept.rowAt g off pre xs h3 _ _⟩
section
variable {P : Program}
theorem Src.ofRow {c : Nat} {w : World} {tx e' : TypeId} (hk : P.underlying tx = some (.slice e')) (hc0 : 0 < c) (ad : Option Addr) (m cc : Nat) (news : List Value) (hl : news.length = m * c) (hr : RowIs w ad news) (h1 : news.all (·.oneCell') = true) : Src P c tx (.slice ad m cc) m news w := by
  cases ad with
  | none =>
    have hm : m = 0 := by
      rcases Nat.eq_zero_or_pos m with h | h
      · exact h
      · obtain ⟨b, off, he, _⟩ := hr.addr (by rw [hl]; exact Nat.mul_pos h hc0)
        cases he
    subst hm
    have : news = [] := List.eq_nil_of_length_eq_zero (by simpa using hl)
    subst this
    exact Src.ofNil w hk cc
  | some ad =>
    refine Src.ofSlice w hk ad m cc news hl (fun j u hj => ?_) (fun u hu => List.all_eq_true.1 h1 u hu)
    obtain ⟨b, off, he, hc⟩ := hr j u hj
    injection he with he
    subst he
    rw [add_addr]; exact hc
theorem Hp.newRow {B : Nat} {w0 w : World} {M : List Blk} (hp : Hp B w0 w M) (e : TypeId) (c need gc : Nat) (z : Value) (hzs : z.cells.size = c) (ys : List Value) (hy : ys.length = need * c) (hg : need ≤ gc) :
    Hp B w0 (w.drew.alloc (.cells (ys.toArray ++ Builtin.zeroCells z.cells (gc - need)) e)) (⟨w.heap.size, ys, e, gc * c⟩ :: M) := by
  refine hp.drew.alloc _ ys e _ ?_ ?_
  · rw [Array.size_append, size_zeroCells, hzs, List.size_toArray, hy, ← Nat.add_mul]
    congr 1; omega
  · rw [Array.toList_append]; exact List.take_left
theorem sub_append {B : Nat} {w0 w : World} {R M : List Blk} (hp : Hp B w0 w (R ++ M)) (t tx ty e : TypeId) (i : TypeInfo) (z : Value) (c bytes : Nat) (ht : P.underlying t = some (.slice e)) (hi : P.info? e = some i) (hz : i.zero = some z)
    (hsize : i.size = c) (hby : i.bytes = bytes) (hzs : z.cells.size = c) (v : Value) (n : Nat) (xs : List Value) (hR : SubRow e c v n xs R) (x : Value) (m : Nat) (news : List Value) (hs : Src P c tx x m news w)
    (h63 : n + m ≤ maxLen) (hbytes : (n + m) * bytes ≤ 140737488355328) :
    ∃ v' R' w', (Builtin.append_ #[t, tx] ty #[v, x]).run P w = .ok v' w' ∧ SubRow e c v' (n + m) (xs ++ news) R' ∧ Hp B w0 w' (R' ++ M) := by
  subst hsize hby
  have hnl := hs.newsLen
  obtain ⟨hxl, ⟨h0, ⟨a, hv⟩, hr⟩ | ⟨g, off, cap, pre, hv, hnc, hcm, hpre, hr⟩⟩ := hR
  · subst h0 hv hr
    have hx : xs = [] := List.eq_nil_of_length_eq_zero (by simpa using hxl)
    subst hx
    rcases Nat.eq_zero_or_pos m with hm | hm
    · subst hm
      have hn : news = [] := List.eq_nil_of_length_eq_zero (by simpa using hnl)
      subst hn
      refine ⟨.slice a 0 0, [], w, ?_, SubRow.nil _ _ _, hp⟩
      rcases hs.kind with ⟨e', hk⟩ | hk <;> cases a <;> simp [Builtin.append_, run_underlying ht, run_underlying hk, sizeOf, typeInfo, hi, hs.len, hs.cells, storeCells]
    · have hold : (Builtin.firstCells i.size 0 (.slice a 0 0)).run P w.drew = .ok ([] : List Value).toArray w.drew := by
        cases a with
        | none => exact run_firstCells_none w.drew _ 0 0 0
        | some ad => exact run_firstCells_some w.drew _ 0 ad 0 0 [] (by simp) (by simp)
      have hrun := run_append_grow_src w t tx ty e i z ht hi hz a 0 0 [] hold x m news hs (by omega) (by unfold maxLen at h63; omega) (growslice_fits (by omega) hbytes)
      refine ⟨_, [⟨w.heap.size, [] ++ news, e, grownCap w (0 + m) 0 e * i.size⟩], _, hrun, ⟨by rw [List.nil_append, Nat.zero_add]; exact hnl, .inr ⟨w.heap.size, 0, _, [], rfl, grownCap_ge w (0 + m) 0 e, grownCap_le_maxLen w (0 + m) 0 e h63, rfl, by simp⟩⟩, ?_⟩
      exact Hp.newRow hp e i.size (0 + m) _ z hzs ([] ++ news) (by rw [List.nil_append, Nat.zero_add]; exact hnl) (grownCap_ge w (0 + m) 0 e)
  · subst hv hr
    by_cases hroom : n + m ≤ cap
    · have hcm2 := Nat.mul_le_mul_right i.size hroom
      rw [Nat.add_mul] at hcm2
      obtain ⟨l2, hl2, hp2⟩ := Hp.more (L := M) hp (m * i.size) (by rw [List.length_append, hpre, hxl]; omega)
      have hpl : (pre ++ xs).length = off + n * i.size := by rw [List.length_append, hpre, hxl]
      obtain ⟨w', hst, hp'⟩ := Hp.storeCells (P := P) (off + n * i.size) news w _ _ 0 hp2 (i := 0) rfl (by rw [List.length_append, hpl, hl2, hnl]; omega) (List.all_eq_true.2 hs.one)
      rw [Nat.add_zero, ← hpl, spl_append news (pre ++ xs) l2 (by rw [hl2, hnl]), zSet] at hp'
      refine ⟨_, [⟨g, pre ++ (xs ++ news), e, off + cap * i.size⟩], w', ?_, ⟨by rw [List.length_append, hxl, hnl, Nat.add_mul], .inr ⟨g, off, cap, pre, rfl, hroom, hcm, hpre, rfl⟩⟩, by rw [← List.append_assoc]; exact hp'⟩
      rcases hs.kind with ⟨e', hk⟩ | hk <;> simp [Builtin.append_, run_underlying ht, run_underlying hk, sizeOf, typeInfo, hi, hs.len, hroom, hs.cells, Addr.add_lit, hst]
    · have hold : (Builtin.firstCells i.size n (.slice (some ⟨g, off, none⟩) n cap)).run P w.drew = .ok xs.toArray w.drew :=
        run_firstCells_some w.drew _ n ⟨g, off, none⟩ n cap xs hxl (fun j u hj => by
          rw [add_addr]
          refine hp.drew.cell (i := 0) rfl ?_
          rw [List.getElem?_append_right (by omega), show off + j - pre.length = j by omega]; exact hj)
      have hrun := run_append_grow_src w t tx ty e i z ht hi hz (some ⟨g, off, none⟩) n cap xs hold x m news hs (by omega) (by unfold maxLen at h63; omega) (growslice_fits (by omega) hbytes)
      have hyl : (xs ++ news).length = (n + m) * i.size := by rw [List.length_append, hxl, hnl, Nat.add_mul]
      refine ⟨_, [⟨w.heap.size, xs ++ news, e, grownCap w (n + m) cap e * i.size⟩], _, hrun, ⟨hyl, .inr ⟨w.heap.size, 0, _, [], rfl, grownCap_ge w (n + m) cap e, grownCap_le_maxLen w (n + m) cap e h63, rfl, by rw [Nat.zero_add, List.nil_append]⟩⟩, ?_⟩
      exact Hp.newRow (M := M) (Hp.tail hp) e i.size (n + m) _ z hzs (xs ++ news) hyl (grownCap_ge w (n + m) cap e)
variable {ops : Array Oper} {rest : List Oper} {o : Oper} {a : Act} {w : World} {Q : Exit → Act → World → Prop} {w0 : World}
theorem pre_append2 (s x : Operand) (t tx : TypeId) (_ : o.op = .call { callee := .builtin .append, args := #[s, x], argTypes := #[t, tx] }) (h : wpList P ops Q (o :: rest) a w) : wpList P ops Q (o :: rest) a w := h
theorem wpList_appendSub {B : Nat} {K R M : List Blk} (hp : Hp B w0 w (K ++ (R ++ M))) (s x : Operand) (t tx : TypeId) (ho : o.op = .call { callee := .builtin .append, args := #[s, x], argTypes := #[t, tx] }) (hw : Region.wanted o (yielded ops a.tmps) = true)
    (e : TypeId) (i : TypeInfo) (z : Value) (c bytes : Nat) (ht : P.underlying t = some (.slice e)) (hi : P.info? e = some i) (hz : i.zero = some z)
    (hsize : i.size = c) (hby : i.bytes = bytes) (hzs : z.cells.size = c) (v : Value) (n : Nat) (xs : List Value) (hs : a.eval s = v) (hR : SubRow e c v n xs R) (xv : Value) (hx : a.eval x = xv) (m : Nat) (news : List Value) (hsrc : Src P c tx xv m news w)
    (h63 : n + m ≤ maxLen) (hbytes : (n + m) * bytes ≤ 140737488355328)
    (h : ∀ v' R' w', SubRow e c v' (n + m) (xs ++ news) R' → Hp B w0 w' (K ++ (R' ++ M)) → wpList P ops Q rest (a.put o.dst v') w') : wpList P ops Q (o :: rest) a w := by
  refine BigFrame.wpList_want hw fun Kk hK => ?_
  obtain ⟨v', R', w', hrun, h1, h2⟩ := sub_append (P := P) (R := R) (M := K ++ M) hp.kp t tx o.type e i z c bytes ht hi hz hsize hby hzs v n xs hR xv m news hsrc h63 hbytes
  unfold Oper.wp execOp
  simp only [ho, resolve, invoke, builtin, Sem.run_bind, Sem.run_pure, Result.andThen_ok, List.map_toArray, List.map_cons, List.map_nil, hs, hx, hrun]
  exact hK _ _ (h v' R' w' h1 h2.kp)
theorem wpList_appendZeros0 {B : Nat} {L : List Blk} (hp : Hp B w0 w L) (t tn e : TypeId) (x y : Operand) (ho : o.op = .call { callee := .builtin .append, args := #[x, y], argTypes := #[t, tn] }) (hw : Region.wanted o (yielded ops a.tmps) = true)
    (ht : P.underlying t = some (.slice e)) (kn : IntKind) (htn : P.underlying tn = some (.int kn)) (i : TypeInfo) (z : Value) (hi : P.info? e = some i) (hz : i.zero = some z) (sz bytes : Nat) (hsz : i.size = sz) (hby : i.bytes = bytes) (hzs : z.cells.size = sz) (hs0 : 0 < sz)
    (ad : Option Addr) (cap : Nat) (hx : a.eval x = .slice ad 0 cap) (kz : Int) (k : Nat) (hkz : kz = k) (hy : a.eval y = .int .i64 kz) (h0 : 0 < k)
    (hg : cap < k) (h63 : k ≤ maxLen) (hby2 : k * bytes ≤ 100000000)
    (h : ∀ g2 cap2 w', k ≤ cap2 → cap2 ≤ maxLen → Hp B w0 w' (⟨g2, (Builtin.zeroCells z.cells k).toList, e, cap2 * sz⟩ :: L) → wpList P ops Q rest (a.put o.dst (.slice (some ⟨g2, 0, none⟩) k cap2)) w') : wpList P ops Q (o :: rest) a w := by
  refine BigFrame.wpList_want hw fun K hK => ?_
  subst hkz hsz hby
  have hfc : (Builtin.firstCells i.size 0 (.slice ad 0 cap)).run P w.drew = .ok ([] : List Value).toArray w.drew := by
    cases ad with
    | none => exact run_firstCells_none w.drew _ 0 0 cap
    | some ad => exact run_firstCells_some w.drew _ 0 ad 0 cap [] (by simp) (by simp)
  have hrun := Lib.run_append_grow_zeros (P := P) w t tn o.type e i z .i64 kn ht htn hi hz ad 0 cap [] hfc k h0 hs0 (by omega) (by unfold maxLen at h63; omega) (by omega) (growslice_fits (by omega) (by rw [Nat.zero_add]; omega))
  rw [Nat.zero_add] at hrun
  unfold Oper.wp execOp
  simp only [ho, resolve, invoke, builtin, Sem.run_bind, Sem.run_pure, Result.andThen_ok, List.map_toArray, List.map_cons, List.map_nil, hx, hy, hrun]
  have hge := grownCap_ge w k cap e
  refine hK _ _ (h w.heap.size (grownCap w k cap e) _ hge (grownCap_le_maxLen w k cap e h63) ?_)
  refine hp.drew.alloc _ _ e _ ?_ ?_
  · simp only [Array.size_append, List.size_toArray, List.length_nil, size_zeroCells, hzs, Nat.zero_add, ← Nat.add_mul]
    congr 1; omega
  · simp only [Array.toList_append, List.nil_append]
    exact List.take_left
end
def Stay (B : Nat) (w0 : World) (L : List Blk) (Q : World → Prop) : Prop := ∀ w1 L1, Hp B w0 w1 L1 → (∀ p ∈ L, p ∈ L1) → Q w1
theorem Stay.of_row {w0 : World} {L : List Blk} {a : Option Addr} {xs : List Value} (h : RowIs w0 a xs) : Stay w0.heap.size w0 L fun w => RowIs w a xs := fun w1 L1 hp _ => h.below hp.below
theorem Stay.elem {α : Type} {f : α → List Value} {l : List α} {B : Nat} {w0 w : World} {L L0 : List Blk} {a : Option Addr} {j : Nat} {x : α} (c : Nat) (hf : ∀ x, (f x).length = c) (hc0 : 0 < c) (h : Stay B w0 L fun w => RowIs w a (l.flatMap f)) (hj : l[j]? = some x) (hp : Hp B w0 w L0) (hm : ∀ p ∈ L, p ∈ L0) :
    ∃ b off, a = some ⟨b, off, none⟩ ∧ Stay B w0 L fun w => ∀ k v, (f x)[k]? = some v → w.cell? ⟨b, off + j * c + k, none⟩ = some v := by
  have hl : 0 < l.length := by have := (List.getElem?_eq_some_iff.1 hj).1; omega
  obtain ⟨b, off, rfl, _⟩ := (h _ _ hp hm).elems c hf hl hc0
  refine ⟨b, off, rfl, fun w' L' hp' hm' k v hk => ?_⟩
  obtain ⟨b', off', he, hx⟩ := (h _ _ hp' hm').elems c hf hl hc0
  injection he with he
  injection he with h1 h2
  subst h1; subst h2
  exact hx j x hj k v hk
theorem Stay.at {B : Nat} {w0 w : World} {L L0 : List Blk} {Q : World → Prop} (h : Stay B w0 L Q) (hp : Hp B w0 w L0) (hm : ∀ p ∈ L, p ∈ L0) : Q w := h _ _ hp hm
end Go.Proofs.YtcjbepaclbhjaaaGreat
