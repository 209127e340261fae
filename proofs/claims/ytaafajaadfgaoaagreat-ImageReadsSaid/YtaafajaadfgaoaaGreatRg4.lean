/- Parts of the proof. -/
import Derived.Test.YtaafajaadfgaoaaGreatRg0
import Derived.Deep.AppendSrc
import Derived.Test.YtaafajaadfgaoaaGreatRg3
open List renaming set_cons_zero → zSet, set_cons_succ → sSet
/- Slices of the call's own that begin anywhere in their block; append of rows and strings onto them. No program in sight. -/
set_option linter.unusedSimpArgs false
set_option linter.unusedVariables false
namespace Go.Proofs.YtaafajaadfgaoaaGreat
open Go.RowKit
def SubRow (e : TypeId) (c : Nat) (v : Value) (n : Nat) (xs : List Value) (R : List Blk) : Prop :=
  xs.length = n * c ∧ ((n = 0 ∧ (∃ a, v = .slice a 0 0) ∧ R = []) ∨ ∃ g off cap pre, v = .slice (some ⟨g, off, none⟩) n cap ∧ n ≤ cap ∧ cap ≤ maxLen ∧ pre.length = off ∧ R = [⟨g, pre ++ xs, e, off + cap * c⟩])
theorem SubRow.of_own {e : TypeId} {c n : Nat} {v : Value} {xs : List Value} {R : List Blk} (h : OwnRow e c v n xs R) : SubRow e c v n xs R := by
  obtain ⟨hl, ⟨h0, hv, hx, hr⟩ | ⟨g, cap, hv, h1, h2, hr⟩⟩ := h
  · exact ⟨hl, .inl ⟨h0, ⟨none, hv⟩, hr⟩⟩
  · exact ⟨hl, .inr ⟨g, 0, cap, [], hv, h1, h2, rfl, by rw [hr, Nat.zero_add, List.nil_append]⟩⟩
theorem SubRow.nil (e : TypeId) (c : Nat) (a : Option Addr) : SubRow e c (.slice a 0 0) 0 [] [] := ⟨by simp, .inl ⟨rfl, ⟨a, rfl⟩, rfl⟩⟩
theorem Kept.rowAt (g off : Nat) (pre xs : List Value) (hp0 : pre.length = off) (t : TypeId) (n : Nat) : Kept [⟨g, pre ++ xs, t, n⟩] fun w => RowIs w (some ⟨g, off, none⟩) xs := fun B w0 w L hp hm => by
  obtain ⟨k, hk, hkl⟩ := List.getElem_of_mem (hm _ (List.mem_singleton.2 rfl))
  intro j v hj
  refine ⟨g, off, rfl, hp.cell (i := k) (by rw [List.getElem?_eq_getElem hk, hkl]) ?_⟩
  rw [List.getElem?_append_right (by omega), show off + j - pre.length = j by omega]; exact hj
theorem SubRow.kept {e : TypeId} {c n : Nat} {v : Value} {xs : List Value} {R : List Blk} (h : SubRow e c v n xs R) : ∃ a k, v = .slice a n k ∧ n ≤ k ∧ Kept R fun w => RowIs w a xs := by
  obtain ⟨hl, ⟨h0, ⟨a, hv⟩, hr⟩ | ⟨g, off, cap, pre, hv, h1, h2, h3, hr⟩⟩ := h
  · subst h0 hv hr
    have : xs = [] := List.eq_nil_of_length_eq_zero (by simpa using hl)
    subst this
    exact ⟨a, 0, rfl, Nat.le_refl _, Kept.none_ (fun w => RowIs.nil _ _) _⟩
  · subst hv hr
    exact ⟨_, _, rfl, h1, Kept.rowAt g off pre xs h3 _ _⟩
section
variable {P : Program}
theorem Src.ofRow {c : Nat} {w : World} {tx e' : TypeId} (hk : P.underlying tx = some (.slice e')) (hc0 : 0 < c) (ad : Option Addr) (m cc : Nat) (news : List Value) (hl : news.length = m * c) (hr : RowIs w ad news) (h1 : news.all (·.oneCell') = true) : Src P c tx (.slice ad m cc) m news w := by
  cases ad with
  | none =>
    have hm : m = 0 := by
      rcases Nat.eq_zero_or_pos m with h | h
      · exact h
      · obtain ⟨b, off, he, _⟩ := hr.addr (by rw [hl]; exact Nat.mul_pos h hc0)
        cases he
    subst hm
    have : news = [] := List.eq_nil_of_length_eq_zero (by simpa using hl)
    subst this
    exact Src.ofNil w hk cc
  | some ad =>
    refine Src.ofSlice w hk ad m cc news hl (fun j u hj => ?_) (fun u hu => List.all_eq_true.1 h1 u hu)
    obtain ⟨b, off, he, hc⟩ := hr j u hj
    injection he with he
    subst he
    rw [add_addr]; exact hc
theorem Hp.newRow {B : Nat} {w0 w : World} {M : List Blk} (hp : Hp B w0 w M) (e : TypeId) (c need gc : Nat) (z : Value) (hzs : z.cells.size = c) (ys : List Value) (hy : ys.length = need * c) (hg : need ≤ gc) :
    Hp B w0 (w.drew.alloc (.cells (ys.toArray ++ Builtin.zeroCells z.cells (gc - need)) e)) (⟨w.heap.size, ys, e, gc * c⟩ :: M) := by
  refine hp.drew.alloc _ ys e _ ?_ ?_
  · rw [Array.size_append, size_zeroCells, hzs, List.size_toArray, hy, ← Nat.add_mul]
    congr 1; omega
  · rw [Array.toList_append]; exact List.take_left
theorem sub_append {B : Nat} {w0 w : World} {R M : List Blk} (hp : Hp B w0 w (R ++ M)) (t tx ty e : TypeId) (i : TypeInfo) (z : Value) (c bytes : Nat) (ht : P.underlying t = some (.slice e)) (hi : P.info? e = some i) (hz : i.zero = some z)
    (hsize : i.size = c) (hby : i.bytes = bytes) (hzs : z.cells.size = c) (v : Value) (n : Nat) (xs : List Value) (hR : SubRow e c v n xs R) (x : Value) (m : Nat) (news : List Value) (hs : Src P c tx x m news w)
    (h63 : n + m ≤ maxLen) (hbytes : (n + m) * bytes ≤ 140737488355328) :
    ∃ v' R' w', (Builtin.append_ #[t, tx] ty #[v, x]).run P w = .ok v' w' ∧ SubRow e c v' (n + m) (xs ++ news) R' ∧ Hp B w0 w' (R' ++ M) := by
  subst hsize hby
  have hnl := hs.newsLen
  obtain ⟨hxl, ⟨h0, ⟨a, hv⟩, hr⟩ | ⟨g, off, cap, pre, hv, hnc, hcm, hpre, hr⟩⟩ := hR
  · subst h0 hv hr
    have hx : xs = [] := List.eq_nil_of_length_eq_zero (by simpa using hxl)
    subst hx
    rcases Nat.eq_zero_or_pos m with hm | hm
    · subst hm
      have hn : news = [] := List.eq_nil_of_length_eq_zero (by simpa using hnl)
      subst hn
      refine ⟨.slice a 0 0, [], w, ?_, SubRow.nil _ _ _, hp⟩
      rcases hs.kind with ⟨e', hk⟩ | hk <;> cases a <;> simp [Builtin.append_, run_underlying ht, run_underlying hk, sizeOf, typeInfo, hi, hs.len, hs.cells, storeCells]
    · have hold : (Builtin.firstCells i.size 0 (.slice a 0 0)).run P w.drew = .ok ([] : List Value).toArray w.drew := by
        cases a with
        | none => exact run_firstCells_none w.drew _ 0 0 0
        | some ad => exact run_firstCells_some w.drew _ 0 ad 0 0 [] (by simp) (by simp)
      have hrun := run_append_grow_src w t tx ty e i z ht hi hz a 0 0 [] hold x m news hs (by omega) (by unfold maxLen at h63; omega) (growslice_fits (by omega) hbytes)
      refine ⟨_, [⟨w.heap.size, [] ++ news, e, grownCap w (0 + m) 0 e * i.size⟩], _, hrun, ⟨by rw [List.nil_append, Nat.zero_add]; exact hnl, .inr ⟨w.heap.size, 0, _, [], rfl, grownCap_ge w (0 + m) 0 e, grownCap_le_maxLen w (0 + m) 0 e h63, rfl, by simp⟩⟩, ?_⟩
      exact Hp.newRow hp e i.size (0 + m) _ z hzs ([] ++ news) (by rw [List.nil_append, Nat.zero_add]; exact hnl) (grownCap_ge w (0 + m) 0 e)
  · subst hv hr
    by_cases hroom : n + m ≤ cap
    · have hcm2 := Nat.mul_le_mul_right i.size hroom
      rw [Nat.add_mul] at hcm2
      obtain ⟨l2, hl2, hp2⟩ := Hp.more (L := M) hp (m * i.size) (by rw [List.length_append, hpre, hxl]; omega)
      have hpl : (pre ++ xs).length = off + n * i.size := by rw [List.length_append, hpre, hxl]
      obtain ⟨w', hst, hp'⟩ := Hp.storeCells (P := P) (off + n * i.size) news w _ _ 0 hp2 (i := 0) rfl (by rw [List.length_append, hpl, hl2, hnl]; omega) (List.all_eq_true.2 hs.one)
      rw [Nat.add_zero, ← hpl, spl_append news (pre ++ xs) l2 (by rw [hl2, hnl]), zSet] at hp'
      refine ⟨_, [⟨g, pre ++ (xs ++ news), e, off + cap * i.size⟩], w', ?_, ⟨by rw [List.length_append, hxl, hnl, Nat.add_mul], .inr ⟨g, off, cap, pre, rfl, hroom, hcm, hpre, rfl⟩⟩, by rw [← List.append_assoc]; exact hp'⟩
      rcases hs.kind with ⟨e', hk⟩ | hk <;> simp [Builtin.append_, run_underlying ht, run_underlying hk, sizeOf, typeInfo, hi, hs.len, hroom, hs.cells, Addr.add_lit, hst]
    · have hold : (Builtin.firstCells i.size n (.slice (some ⟨g, off, none⟩) n cap)).run P w.drew = .ok xs.toArray w.drew :=
        run_firstCells_some w.drew _ n ⟨g, off, none⟩ n cap xs hxl (fun j u hj => by
          rw [add_addr]
          refine hp.drew.cell (i := 0) rfl ?_
          rw [List.getElem?_append_right (by omega), show off + j - pre.length = j by omega]; exact hj)
      have hrun := run_append_grow_src w t tx ty e i z ht hi hz (some ⟨g, off, none⟩) n cap xs hold x m news hs (by omega) (by unfold maxLen at h63; omega) (growslice_fits (by omega) hbytes)
      have hyl : (xs ++ news).length = (n + m) * i.size := by rw [List.length_append, hxl, hnl, Nat.add_mul]
      refine ⟨_, [⟨w.heap.size, xs ++ news, e, grownCap w (n + m) cap e * i.size⟩], _, hrun, ⟨hyl, .inr ⟨w.heap.size, 0, _, [], rfl, grownCap_ge w (n + m) cap e, grownCap_le_maxLen w (n + m) cap e h63, rfl, by rw [Nat.zero_add, List.nil_append]⟩⟩, ?_⟩
      exact Hp.newRow (M := M) (Hp.tail hp) e i.size (n + m) _ z hzs (xs ++ news) hyl (grownCap_ge w (n + m) cap e)
variable {ops : Array Oper} {rest : List Oper} {o : Oper} {a : Act} {w : World} {Q : Exit → Act → World → Prop} {w0 : World}
theorem pre_append2 (s x : Operand) (t tx : TypeId) (_ : o.op = .call { callee := .builtin .append, args := #[s, x], argTypes := #[t, tx] }) (h : wpList P ops Q (o :: rest) a w) : wpList P ops Q (o :: rest) a w := h
theorem wpList_appendSub {B : Nat} {K R M : List Blk} (hp : Hp B w0 w (K ++ (R ++ M))) (s x : Operand) (t tx : TypeId) (ho : o.op = .call { callee := .builtin .append, args := #[s, x], argTypes := #[t, tx] }) (hw : Region.wanted o (yielded ops a.tmps) = true)
    (e : TypeId) (i : TypeInfo) (z : Value) (c bytes : Nat) (ht : P.underlying t = some (.slice e)) (hi : P.info? e = some i) (hz : i.zero = some z)
    (hsize : i.size = c) (hby : i.bytes = bytes) (hzs : z.cells.size = c) (v : Value) (n : Nat) (xs : List Value) (hs : a.eval s = v) (hR : SubRow e c v n xs R) (xv : Value) (hx : a.eval x = xv) (m : Nat) (news : List Value) (hsrc : Src P c tx xv m news w)
    (h63 : n + m ≤ maxLen) (hbytes : (n + m) * bytes ≤ 140737488355328)
    (h : ∀ v' R' w', SubRow e c v' (n + m) (xs ++ news) R' → Hp B w0 w' (K ++ (R' ++ M)) → wpList P ops Q rest (a.put o.dst v') w') : wpList P ops Q (o :: rest) a w := by
  refine BigFrame.wpList_want hw fun Kk hK => ?_
  obtain ⟨v', R', w', hrun, h1, h2⟩ := sub_append (P := P) (R := R) (M := K ++ M) hp.kp t tx o.type e i z c bytes ht hi hz hsize hby hzs v n xs hR xv m news hsrc h63 hbytes
  unfold Oper.wp execOp
  simp only [ho, resolve, invoke, builtin, Sem.run_bind, Sem.run_pure, Result.andThen_ok, List.map_toArray, List.map_cons, List.map_nil, hs, hx, hrun]
  exact hK _ _ (h v' R' w' h1 h2.kp)
theorem wpList_appendZeros0 {B : Nat} {L : List Blk} (hp : Hp B w0 w L) (t tn e : TypeId) (x y : Operand) (ho : o.op = .call { callee := .builtin .append, args := #[x, y], argTypes := #[t, tn] }) (hw : Region.wanted o (yielded ops a.tmps) = true)
    (ht : P.underlying t = some (.slice e)) (kn : IntKind) (htn : P.underlying tn = some (.int kn)) (i : TypeInfo) (z : Value) (hi : P.info? e = some i) (hz : i.zero = some z) (sz bytes : Nat) (hsz : i.size = sz) (hby : i.bytes = bytes) (hzs : z.cells.size = sz) (hs0 : 0 < sz)
    (ad : Option Addr) (cap : Nat) (hx : a.eval x = .slice ad 0 cap) (kz : Int) (k : Nat) (hkz : kz = k) (hy : a.eval y = .int .i64 kz) (h0 : 0 < k)
    (hg : cap < k) (h63 : k ≤ maxLen) (hby2 : k * bytes ≤ 100000000)
    (h : ∀ g2 cap2 w', k ≤ cap2 → cap2 ≤ maxLen → Hp B w0 w' (⟨g2, (Builtin.zeroCells z.cells k).toList, e, cap2 * sz⟩ :: L) → wpList P ops Q rest (a.put o.dst (.slice (some ⟨g2, 0, none⟩) k cap2)) w') : wpList P ops Q (o :: rest) a w := by
  refine BigFrame.wpList_want hw fun K hK => ?_
  subst hkz hsz hby
  have hfc : (Builtin.firstCells i.size 0 (.slice ad 0 cap)).run P w.drew = .ok ([] : List Value).toArray w.drew := by
    cases ad with
    | none => exact run_firstCells_none w.drew _ 0 0 cap
    | some ad => exact run_firstCells_some w.drew _ 0 ad 0 cap [] (by simp) (by simp)
  have hrun := Lib.run_append_grow_zeros (P := P) w t tn o.type e i z .i64 kn ht htn hi hz ad 0 cap [] hfc k h0 hs0 (by omega) (by unfold maxLen at h63; omega) (by omega) (growslice_fits (by omega) (by rw [Nat.zero_add]; omega))
  rw [Nat.zero_add] at hrun
  unfold Oper.wp execOp
  simp only [ho, resolve, invoke, builtin, Sem.run_bind, Sem.run_pure, Result.andThen_ok, List.map_toArray, List.map_cons, List.map_nil, hx, hy, hrun]
  have hge := grownCap_ge w k cap e
  refine hK _ _ (h w.heap.size (grownCap w k cap e) _ hge (grownCap_le_maxLen w k cap e h63) ?_)
  refine hp.drew.alloc _ _ e _ ?_ ?_
  · simp only [Array.size_append, List.size_toArray, List.length_nil, size_zeroCells, hzs, Nat.zero_add, ← Nat.add_mul]
    congr 1; omega
  · simp only [Array.toList_append, List.nil_append]
    exact List.take_left
end
def Stay (B : Nat) (w0 : World) (L : List Blk) (Q : World → Prop) : Prop := ∀ w1 L1, Hp B w0 w1 L1 → (∀ p ∈ L, p ∈ L1) → Q w1
theorem Stay.of_row {w0 : World} {L : List Blk} {a : Option Addr} {xs : List Value} (h : RowIs w0 a xs) : Stay w0.heap.size w0 L fun w => RowIs w a xs := fun w1 L1 hp _ => h.below hp.below
theorem Stay.elem {α : Type} {f : α → List Value} {l : List α} {B : Nat} {w0 w : World} {L L0 : List Blk} {a : Option Addr} {j : Nat} {x : α} (c : Nat) (hf : ∀ x, (f x).length = c) (hc0 : 0 < c) (h : Stay B w0 L fun w => RowIs w a (l.flatMap f)) (hj : l[j]? = some x) (hp : Hp B w0 w L0) (hm : ∀ p ∈ L, p ∈ L0) :
    ∃ b off, a = some ⟨b, off, none⟩ ∧ Stay B w0 L fun w => ∀ k v, (f x)[k]? = some v → w.cell? ⟨b, off + j * c + k, none⟩ = some v := by
  have hl : 0 < l.length := by have := (List.getElem?_eq_some_iff.1 hj).1; omega
  obtain ⟨b, off, rfl, _⟩ := (h _ _ hp hm).elems c hf hl hc0
  refine ⟨b, off, rfl, fun w' L' hp' hm' k v hk => ?_⟩
  obtain ⟨b', off', he, hx⟩ := (h _ _ hp' hm').elems c hf hl hc0
  injection he with he
  injection he with h1 h2
  subst h1; subst h2
  exact hx j x hj k v hk
theorem Stay.at {B : Nat} {w0 w : World} {L L0 : List Blk} {Q : World → Prop} (h : Stay B w0 L Q) (hp : Hp B w0 w L0) (hm : ∀ p ∈ L, p ∈ L0) : Q w := h _ _ hp hm
end Go.Proofs.YtaafajaadfgaoaaGreat
/- The walks that lay numbers, ints and texts as bytes (written by mkow.py). -/
namespace Go.Proofs.YtaafajaadfgaoaaGreat
open Go.RowKit
theorem ceOW0 {ty : TypeId} (h : cellB Tryz.prog ty = true := by with_reducible first | exact cell3 | exact cell4 | exact cell57 | exact cell5) : cellB Tryz.prog ty = true := h
theorem info5 : (Tryz.prog.info? 5).map (fun i => (i.zero, i.size, i.bytes)) = some (some (.int .u8 0), 1, 1) := by kernel_rfl
theorem agg116 : aggB Tryz.prog 116 1 = true := by kernel_rfl
def byteS (s u k : Nat) : Nat := u / 2 ^ (8 * (s - 1 - k)) % 256
def beS (s u : Nat) : List Nat := (List.range s).map (byteS s u)
theorem beS_len (s u : Nat) : (beS s u).length = s := by simp [beS]
theorem beS_take (s u j : Nat) (h : j < s) : (beS s u).take (j + 1) = (beS s u).take j ++ [byteS s u j] := by
  rw [List.take_add_one]
  congr 1
  simp [beS, List.getElem?_map, List.getElem?_range h]
theorem beS_bytes (s u : Nat) : Bytes (beS s u) := by
  intro x hx
  obtain ⟨k, _, rfl⟩ := List.mem_map.1 hx
  exact Nat.mod_lt _ (by decide)
theorem Bytes.app {l k : List Nat} (h : Bytes l) (h' : Bytes k) : Bytes (l ++ k) := fun x hx => (List.mem_append.1 hx).elim (h x) (h' x)
theorem Bytes.nil : Bytes [] := fun x hx => by cases hx
def RowO (w : World) (xs : List Nat) (e : Ending) (w' : World) : Prop := ∃ v R, e = .returned v ∧ OwnRow 5 1 v xs.length (xs.flatMap byV) R ∧ Hp w.heap.size w w' R
set_option maxRecDepth 100000 in
set_option maxHeartbeats 4000000 in
theorem puts154_4 (xs : List Nat) (hl : xs.length ≤ 1000000) (u : Nat) (hu : u < 18446744073709551616) (a : Option Addr) (c : Nat) (w : World) (ha : RowIs w a (xs.flatMap byV)) :
    Calls Tryz.prog 154 #[.slice a xs.length c, .int .u64 (u : Int), .int .i64 4] w (RowO w (xs ++ beS 4 u)) := by
  obtain ⟨i0, hi0, hz0, hz1, hz2⟩ := info_parts info5
  have hp := Hp.start w
  have HA := Lib.hid ha
  clear ha
  go_enter Tryz.func154, Tryz.ntmps154
  go_wp2_with (first | ((with_reducible refine pre_make 57 _ _ rfl ?_); refine wpList_make0_hp hp _ _ _ rfl wy 5 i0 _ Tryz.underlying57 hi0 hz0 hz1 rfl _ (by first | exact slot_const | exact sTm rfl) (by first | exact sTm rfl | exact slot_const) (xs.length + 4) (by omega) (by rw [hz2]; omega) (by unfold maxLen; omega) ?_; clear hp; intro v R w1 hR hp; have HR := Lib.hid hR; clear hR; replace hp : Hp _ _ _ ([] ++ (R ++ [])) := (by simpa using hp); simp only [put_some, put_none, sSet, zSet]) | ((with_reducible refine pre_append _ _ 57 rfl ?_); refine wpList_appendGrowRow (K := []) hp _ _ _ rfl wy i0 _ 1 Tryz.underlying57 hi0 hz0 hz1 hz2 rfl (by decide) (sTm rfl) HR.out a xs.length c (sTm rfl) _ (by rw [flat_len byV 1 byV_len]) (HA.out.below hp.below) (by_one xs) (by unfold maxLen; omega) (by omega) ?_; clear hp; intro v' R' w1 hR' hp; have HR' := Lib.hid hR'; clear hR'; simp only [put_some, put_none, sSet, zSet]) | go_skip | ((first | ((with_reducible refine pre_box _ _ rfl ?_); refine lB hp rfl (sTm rfl) rfl ?_; clear hp; intro b w1 hp) | ((with_reducible refine pre_load _ _ rfl ?_); first | refine lO hp rfl (sTm rfl) ceOW0 aa14 ?_ | refine lA hp rfl (sTm rfl) agg116 aa14 ?_) | ((with_reducible refine pre_store _ _ _ rfl ?_); (first | refine sO hp rfl (sTm rfl) ceOW0 aa14 ?_ | refine sA hp rfl (sTm rfl) (sTm rfl) agg116 aa14 ?_ | refine sG hp rfl (sTm rfl) (sTm rfl) agg116 aa14 ?_); clear hp; intro w1 hp; simp only [spl, zSet, sSet] at hp) | ((with_reducible refine pre_build _ _ _ rfl ?_); refine lS hp rfl (by intro w; go_simp; rfl) ?_; clear hp; intro b w1 hp; simp only [List.length_cons, List.length_nil, Nat.reduceAdd] at hp)); simp only [put_some, put_none, sSet, zSet]))
  go_loopg [7, 8] 4 (fun k v i wr => ∃ (j : Nat) (R : List Blk), k + j = 4 ∧ i = .int .i64 (4 - 1 - (j : Int)) ∧ RowKit.Hid (OwnRow 5 1 v (xs.length + j) ((xs ++ (beS 4 u).take j).flatMap byV) R) ∧ Hp w.heap.size w wr ([] ++ (R ++ [])))
  case atStart => exact ⟨0, R', by omega, rfl, Lib.hid (by have := HR'.out; simpa using this), hp⟩
  case round =>
    clear hp HR HR'
    obtain ⟨j, R, hkj, rfl, HR, hp⟩ := hrel
    by_cases hlt : j < 4
    · obtain ⟨m, hm⟩ : ∃ m : Nat, 4 - 1 - (j : Int) = m := ⟨4 - 1 - j, by omega⟩
      have hm7 : m ≤ 7 := by omega
      have HM := Lib.hid hm
      rw [hm]
      have HB : RowKit.Hid ((byteS 4 u j : Nat) = u / 2 ^ (8 * m) % 256) := Lib.hid (by unfold byteS; rw [show 4 - 1 - j = m by omega])
      clear hm
      have e1 : (0 : Int) ≤ (m : Int) := by omega
      have e2 : wrap64 (8 * (m : Int)) = 8 * (m : Int) := by unfold wrap64; omega
      have e3 : (8 * (m : Int)).toNat = 8 * m := by omega
      go_wp2_with (first | ((with_reducible refine pre_append _ _ 57 rfl ?_); refine wpList_appendGrow (K := []) hp _ _ _ rfl wy i0 _ 1 Tryz.underlying57 hi0 hz0 hz1 hz2 rfl (by decide) (sTm rfl) HR.out 1 1 (sTm rfl) (by rfl) (by decide) (by rfl) (by unfold maxLen; omega) (by omega) ?_; clear hp HR; intro v' R' w1 hR' hp; have HR' := Lib.hid hR'; clear hR'; simp only [put_some, put_none, sSet, zSet]) | go_skip | ((first | ((with_reducible refine pre_box _ _ rfl ?_); refine lB hp rfl (sTm rfl) rfl ?_; clear hp; intro b w1 hp) | ((with_reducible refine pre_load _ _ rfl ?_); first | refine lO hp rfl (sTm rfl) ceOW0 aa14 ?_ | refine lA hp rfl (sTm rfl) agg116 aa14 ?_) | ((with_reducible refine pre_store _ _ _ rfl ?_); (first | refine sO hp rfl (sTm rfl) ceOW0 aa14 ?_ | refine sA hp rfl (sTm rfl) (sTm rfl) agg116 aa14 ?_ | refine sG hp rfl (sTm rfl) (sTm rfl) agg116 aa14 ?_); clear hp; intro w1 hp; simp only [spl, zSet, sSet] at hp) | ((with_reducible refine pre_build _ _ _ rfl ?_); refine lS hp rfl (by intro w; go_simp; rfl) ?_; clear hp; intro b w1 hp; simp only [List.length_cons, List.length_nil, Nat.reduceAdd] at hp)); simp only [put_some, put_none, sSet, zSet]))
      go_roundg (gk - 1)
      case measure => omega
      case rel => exact ⟨j + 1, R', by omega, congrArg (Value.int .i64) (by have := HM.out; omega), Lib.hid (by have h := HR'.out; rw [beS_take 4 u j hlt, ← List.append_assoc, List.flatMap_append]; simp only [List.flatMap_cons, List.flatMap_nil, List.append_nil, byV]; rw [HB.out]; push_cast; exact h), hp⟩
    · have hj : j = 4 := by omega
      subst hj
      have e1 : decide ((0 : Int) ≤ 4 - 1 - ((4 : Nat) : Int)) = false := by decide
      go_wp2_with (first | go_skip | ((first | ((with_reducible refine pre_box _ _ rfl ?_); refine lB hp rfl (sTm rfl) rfl ?_; clear hp; intro b w1 hp) | ((with_reducible refine pre_load _ _ rfl ?_); first | refine lO hp rfl (sTm rfl) ceOW0 aa14 ?_ | refine lA hp rfl (sTm rfl) agg116 aa14 ?_) | ((with_reducible refine pre_store _ _ _ rfl ?_); (first | refine sO hp rfl (sTm rfl) ceOW0 aa14 ?_ | refine sA hp rfl (sTm rfl) (sTm rfl) agg116 aa14 ?_ | refine sG hp rfl (sTm rfl) (sTm rfl) agg116 aa14 ?_); clear hp; intro w1 hp; simp only [spl, zSet, sSet] at hp) | ((with_reducible refine pre_build _ _ _ rfl ?_); refine lS hp rfl (by intro w; go_simp; rfl) ?_; clear hp; intro b w1 hp; simp only [List.length_cons, List.length_nil, Nat.reduceAdd] at hp)); simp only [put_some, put_none, sSet, zSet]))
      go_ret
      refine ⟨_, R, rfl, ?_, by simpa using hp⟩
      have h := HR.out
      rw [List.take_of_length_le (by rw [beS_len]; omega)] at h
      rw [List.length_append, beS_len]
      exact h
set_option maxRecDepth 100000 in
set_option maxHeartbeats 4000000 in
theorem puts154_8 (xs : List Nat) (hl : xs.length ≤ 1000000) (u : Nat) (hu : u < 18446744073709551616) (a : Option Addr) (c : Nat) (w : World) (ha : RowIs w a (xs.flatMap byV)) :
    Calls Tryz.prog 154 #[.slice a xs.length c, .int .u64 (u : Int), .int .i64 8] w (RowO w (xs ++ beS 8 u)) := by
  obtain ⟨i0, hi0, hz0, hz1, hz2⟩ := info_parts info5
  have hp := Hp.start w
  have HA := Lib.hid ha
  clear ha
  go_enter Tryz.func154, Tryz.ntmps154
  go_wp2_with (first | ((with_reducible refine pre_make 57 _ _ rfl ?_); refine wpList_make0_hp hp _ _ _ rfl wy 5 i0 _ Tryz.underlying57 hi0 hz0 hz1 rfl _ (by first | exact slot_const | exact sTm rfl) (by first | exact sTm rfl | exact slot_const) (xs.length + 8) (by omega) (by rw [hz2]; omega) (by unfold maxLen; omega) ?_; clear hp; intro v R w1 hR hp; have HR := Lib.hid hR; clear hR; replace hp : Hp _ _ _ ([] ++ (R ++ [])) := (by simpa using hp); simp only [put_some, put_none, sSet, zSet]) | ((with_reducible refine pre_append _ _ 57 rfl ?_); refine wpList_appendGrowRow (K := []) hp _ _ _ rfl wy i0 _ 1 Tryz.underlying57 hi0 hz0 hz1 hz2 rfl (by decide) (sTm rfl) HR.out a xs.length c (sTm rfl) _ (by rw [flat_len byV 1 byV_len]) (HA.out.below hp.below) (by_one xs) (by unfold maxLen; omega) (by omega) ?_; clear hp; intro v' R' w1 hR' hp; have HR' := Lib.hid hR'; clear hR'; simp only [put_some, put_none, sSet, zSet]) | go_skip | ((first | ((with_reducible refine pre_box _ _ rfl ?_); refine lB hp rfl (sTm rfl) rfl ?_; clear hp; intro b w1 hp) | ((with_reducible refine pre_load _ _ rfl ?_); first | refine lO hp rfl (sTm rfl) ceOW0 aa14 ?_ | refine lA hp rfl (sTm rfl) agg116 aa14 ?_) | ((with_reducible refine pre_store _ _ _ rfl ?_); (first | refine sO hp rfl (sTm rfl) ceOW0 aa14 ?_ | refine sA hp rfl (sTm rfl) (sTm rfl) agg116 aa14 ?_ | refine sG hp rfl (sTm rfl) (sTm rfl) agg116 aa14 ?_); clear hp; intro w1 hp; simp only [spl, zSet, sSet] at hp) | ((with_reducible refine pre_build _ _ _ rfl ?_); refine lS hp rfl (by intro w; go_simp; rfl) ?_; clear hp; intro b w1 hp; simp only [List.length_cons, List.length_nil, Nat.reduceAdd] at hp)); simp only [put_some, put_none, sSet, zSet]))
  go_loopg [7, 8] 8 (fun k v i wr => ∃ (j : Nat) (R : List Blk), k + j = 8 ∧ i = .int .i64 (8 - 1 - (j : Int)) ∧ RowKit.Hid (OwnRow 5 1 v (xs.length + j) ((xs ++ (beS 8 u).take j).flatMap byV) R) ∧ Hp w.heap.size w wr ([] ++ (R ++ [])))
  case atStart => exact ⟨0, R', by omega, rfl, Lib.hid (by have := HR'.out; simpa using this), hp⟩
  case round =>
    clear hp HR HR'
    obtain ⟨j, R, hkj, rfl, HR, hp⟩ := hrel
    by_cases hlt : j < 8
    · obtain ⟨m, hm⟩ : ∃ m : Nat, 8 - 1 - (j : Int) = m := ⟨8 - 1 - j, by omega⟩
      have hm7 : m ≤ 7 := by omega
      have HM := Lib.hid hm
      rw [hm]
      have HB : RowKit.Hid ((byteS 8 u j : Nat) = u / 2 ^ (8 * m) % 256) := Lib.hid (by unfold byteS; rw [show 8 - 1 - j = m by omega])
      clear hm
      have e1 : (0 : Int) ≤ (m : Int) := by omega
      have e2 : wrap64 (8 * (m : Int)) = 8 * (m : Int) := by unfold wrap64; omega
      have e3 : (8 * (m : Int)).toNat = 8 * m := by omega
      go_wp2_with (first | ((with_reducible refine pre_append _ _ 57 rfl ?_); refine wpList_appendGrow (K := []) hp _ _ _ rfl wy i0 _ 1 Tryz.underlying57 hi0 hz0 hz1 hz2 rfl (by decide) (sTm rfl) HR.out 1 1 (sTm rfl) (by rfl) (by decide) (by rfl) (by unfold maxLen; omega) (by omega) ?_; clear hp HR; intro v' R' w1 hR' hp; have HR' := Lib.hid hR'; clear hR'; simp only [put_some, put_none, sSet, zSet]) | go_skip | ((first | ((with_reducible refine pre_box _ _ rfl ?_); refine lB hp rfl (sTm rfl) rfl ?_; clear hp; intro b w1 hp) | ((with_reducible refine pre_load _ _ rfl ?_); first | refine lO hp rfl (sTm rfl) ceOW0 aa14 ?_ | refine lA hp rfl (sTm rfl) agg116 aa14 ?_) | ((with_reducible refine pre_store _ _ _ rfl ?_); (first | refine sO hp rfl (sTm rfl) ceOW0 aa14 ?_ | refine sA hp rfl (sTm rfl) (sTm rfl) agg116 aa14 ?_ | refine sG hp rfl (sTm rfl) (sTm rfl) agg116 aa14 ?_); clear hp; intro w1 hp; simp only [spl, zSet, sSet] at hp) | ((with_reducible refine pre_build _ _ _ rfl ?_); refine lS hp rfl (by intro w; go_simp; rfl) ?_; clear hp; intro b w1 hp; simp only [List.length_cons, List.length_nil, Nat.reduceAdd] at hp)); simp only [put_some, put_none, sSet, zSet]))
      go_roundg (gk - 1)
      case measure => omega
      case rel => exact ⟨j + 1, R', by omega, congrArg (Value.int .i64) (by have := HM.out; omega), Lib.hid (by have h := HR'.out; rw [beS_take 8 u j hlt, ← List.append_assoc, List.flatMap_append]; simp only [List.flatMap_cons, List.flatMap_nil, List.append_nil, byV]; rw [HB.out]; push_cast; exact h), hp⟩
    · have hj : j = 8 := by omega
      subst hj
      have e1 : decide ((0 : Int) ≤ 8 - 1 - ((8 : Nat) : Int)) = false := by decide
      go_wp2_with (first | go_skip | ((first | ((with_reducible refine pre_box _ _ rfl ?_); refine lB hp rfl (sTm rfl) rfl ?_; clear hp; intro b w1 hp) | ((with_reducible refine pre_load _ _ rfl ?_); first | refine lO hp rfl (sTm rfl) ceOW0 aa14 ?_ | refine lA hp rfl (sTm rfl) agg116 aa14 ?_) | ((with_reducible refine pre_store _ _ _ rfl ?_); (first | refine sO hp rfl (sTm rfl) ceOW0 aa14 ?_ | refine sA hp rfl (sTm rfl) (sTm rfl) agg116 aa14 ?_ | refine sG hp rfl (sTm rfl) (sTm rfl) agg116 aa14 ?_); clear hp; intro w1 hp; simp only [spl, zSet, sSet] at hp) | ((with_reducible refine pre_build _ _ _ rfl ?_); refine lS hp rfl (by intro w; go_simp; rfl) ?_; clear hp; intro b w1 hp; simp only [List.length_cons, List.length_nil, Nat.reduceAdd] at hp)); simp only [put_some, put_none, sSet, zSet]))
      go_ret
      refine ⟨_, R, rfl, ?_, by simpa using hp⟩
      have h := HR.out
      rw [List.take_of_length_le (by rw [beS_len]; omega)] at h
      rw [List.length_append, beS_len]
      exact h
set_option maxRecDepth 100000 in
set_option maxHeartbeats 4000000 in
theorem putn155 (xs : List Nat) (hl : xs.length ≤ 1000000) (n : Nat) (hn : n ≤ 2147483647) (a : Option Addr) (c : Nat) (w : World) (ha : RowIs w a (xs.flatMap byV)) :
    Calls Tryz.prog 155 #[.slice a xs.length c, .int .i64 n] w fun e w' => ∃ v R, e = .returned (.tuple #[v, .int .i64 0]) ∧ OwnRow 5 1 v (xs ++ beS 4 n).length ((xs ++ beS 4 n).flatMap byV) R ∧ Hp w.heap.size w w' R := by
  have hp := Hp.start w
  have HA := Lib.hid ha
  have hu : n < 18446744073709551616 := by omega
  have e1 : decide ((n : Int) < 0) = false := decide_eq_false (by omega)
  have e2 : decide ((2147483647 : Int) < (n : Int)) = false := by simp; omega
  have e3 : IntKind.u64.wrap (n : Int) = (n : Int) := by rw [wrapU]; unfold uN; omega
  clear ha
  go_enter Tryz.func155, Tryz.ntmps155
  go_wp2_with (first | (go_at_call 154; (with_reducible refine (puts154_4 xs hl _ hu a c _ (HA.out.below hp.below)).mono ?_); rintro e w1 ⟨v2, R2, rfl, hr2, hp2⟩; replace hp := hp.join hp2; have HR2 := Lib.hid hr2; clear hr2 hp2; simp only [List.nil_append] at hp) | go_skip | ((first | ((with_reducible refine pre_box _ _ rfl ?_); refine lB hp rfl (sTm rfl) rfl ?_; clear hp; intro b w1 hp) | ((with_reducible refine pre_load _ _ rfl ?_); first | refine lO hp rfl (sTm rfl) ceOW0 aa14 ?_ | refine lA hp rfl (sTm rfl) agg116 aa14 ?_) | ((with_reducible refine pre_store _ _ _ rfl ?_); (first | refine sO hp rfl (sTm rfl) ceOW0 aa14 ?_ | refine sA hp rfl (sTm rfl) (sTm rfl) agg116 aa14 ?_ | refine sG hp rfl (sTm rfl) (sTm rfl) agg116 aa14 ?_); clear hp; intro w1 hp; simp only [spl, zSet, sSet] at hp) | ((with_reducible refine pre_build _ _ _ rfl ?_); refine lS hp rfl (by intro w; go_simp; rfl) ?_; clear hp; intro b w1 hp; simp only [List.length_cons, List.length_nil, Nat.reduceAdd] at hp)); simp only [put_some, put_none, sSet, zSet]))
  go_ret2
  exact ⟨v2, R2, rfl, HR2.out, hp⟩
set_option maxRecDepth 100000 in
set_option maxHeartbeats 4000000 in
theorem putis156 (xs : List Nat) (hl : xs.length ≤ 1000000) (n : Int) (a : Option Addr) (c : Nat) (w : World) (ha : RowIs w a (xs.flatMap byV)) :
    Calls Tryz.prog 156 #[.slice a xs.length c, .int .i64 n] w (RowO w (xs ++ beS 8 (uN n))) := by
  have hp := Hp.start w
  have HA := Lib.hid ha
  have e1 := wrapU n
  clear ha
  go_enter Tryz.func156, Tryz.ntmps156
  go_wp2_with (first | (go_at_call 154; (with_reducible refine (puts154_8 xs hl _ (uN_lt n) a c _ (HA.out.below hp.below)).mono ?_); rintro e w1 ⟨v2, R2, rfl, hr2, hp2⟩; replace hp := hp.join hp2; have HR2 := Lib.hid hr2; clear hr2 hp2; simp only [List.nil_append] at hp) | go_skip | ((first | ((with_reducible refine pre_box _ _ rfl ?_); refine lB hp rfl (sTm rfl) rfl ?_; clear hp; intro b w1 hp) | ((with_reducible refine pre_load _ _ rfl ?_); first | refine lO hp rfl (sTm rfl) ceOW0 aa14 ?_ | refine lA hp rfl (sTm rfl) agg116 aa14 ?_) | ((with_reducible refine pre_store _ _ _ rfl ?_); (first | refine sO hp rfl (sTm rfl) ceOW0 aa14 ?_ | refine sA hp rfl (sTm rfl) (sTm rfl) agg116 aa14 ?_ | refine sG hp rfl (sTm rfl) (sTm rfl) agg116 aa14 ?_); clear hp; intro w1 hp; simp only [spl, zSet, sSet] at hp) | ((with_reducible refine pre_build _ _ _ rfl ?_); refine lS hp rfl (by intro w; go_simp; rfl) ?_; clear hp; intro b w1 hp; simp only [List.length_cons, List.length_nil, Nat.reduceAdd] at hp)); simp only [put_some, put_none, sSet, zSet]))
  go_ret
  exact ⟨v2, R2, rfl, HR2.out, hp⟩
def strB (s : ByteArray) : List Nat := s.data.toList.map UInt8.toNat
theorem strB_len (s : ByteArray) : (strB s).length = s.size := by unfold strB; rw [List.length_map, Array.length_toList]; rfl
theorem strB_cells (s : ByteArray) : byteCells s = (strB s).flatMap byV := by rw [fl_by]; unfold byteCells strB; rw [List.map_map]; rfl
theorem strB_bytes (s : ByteArray) : Bytes (strB s) := by
  intro x hx
  obtain ⟨u, _, rfl⟩ := List.mem_map.1 hx
  exact u.toNat_lt
theorem strB_of {t : List Nat} (h : Bytes t) : strB (strOfNums (nI t)) = t := by
  unfold strB strOfNums nI
  simp only [List.map_map, Function.comp_def]
  conv => rhs; rw [← List.map_id t]
  apply List.map_congr_left
  intro x hx
  have := h x hx
  simp [UInt8.toNat_ofNat]; omega
set_option maxRecDepth 100000 in
set_option maxHeartbeats 4000000 in
theorem putt78 (xs : List Nat) (hl : xs.length ≤ 1000000) (s : ByteArray) (hs : s.size ≤ 65536) (a : Option Addr) (c : Nat) (w : World) (ha : RowIs w a (xs.flatMap byV)) :
    Calls Tryz.prog 78 #[.slice a xs.length c, .string s] w fun e w' => ∃ v R, e = .returned (.tuple #[v, .int .i64 0]) ∧ SubRow 5 1 v (xs ++ beS 4 s.size ++ strB s).length ((xs ++ beS 4 s.size ++ strB s).flatMap byV) R ∧ Hp w.heap.size w w' R := by
  obtain ⟨i0, hi0, hz0, hz1, hz2⟩ := info_parts info5
  have hp := Hp.start w
  have HA := Lib.hid ha
  have hu : s.size < 18446744073709551616 := by omega
  have e1 : decide ((65536 : Int) < (s.size : Int)) = false := by simp; omega
  have e3 : IntKind.u64.wrap (s.size : Int) = (s.size : Int) := by rw [wrapU]; unfold uN; omega
  have HM1 : RowKit.Hid ((xs ++ beS 4 s.size).length + s.size ≤ maxLen) := Lib.hid (by rw [List.length_append, beS_len]; unfold maxLen; omega)
  have HM2 : RowKit.Hid (((xs ++ beS 4 s.size).length + s.size) * 1 ≤ 140737488355328) := Lib.hid (by rw [List.length_append, beS_len]; omega)
  have HX : RowKit.Hid ((xs ++ beS 4 s.size ++ strB s).length = (xs ++ beS 4 s.size).length + s.size ∧ (xs ++ beS 4 s.size ++ strB s).flatMap byV = (xs ++ beS 4 s.size).flatMap byV ++ byteCells s) := Lib.hid ⟨by rw [List.length_append, strB_len], by rw [List.flatMap_append, strB_cells]⟩
  clear ha
  go_enter Tryz.func78, Tryz.ntmps78
  go_wp2_with (first | (go_at_call 154; (with_reducible refine (puts154_4 xs hl _ hu a c _ (HA.out.below hp.below)).mono ?_); rintro e w1 ⟨v2, R2, rfl, hr2, hp2⟩; replace hp := hp.join hp2; have HR2 := Lib.hid hr2; clear hr2 hp2; replace hp : Hp _ _ _ ([] ++ (R2 ++ [])) := (by simpa using hp)) | ((with_reducible refine pre_append2 _ _ 57 9 rfl ?_); refine wpList_appendSub (K := []) hp _ _ _ _ rfl wy 5 i0 _ 1 1 Tryz.underlying57 hi0 hz0 hz1 hz2 rfl _ _ _ (sTm rfl) (SubRow.of_own HR2.out) _ (sTm rfl) s.size (byteCells s) (Src.ofString _ Tryz.underlying9 s) HM1.out HM2.out ?_; clear hp; intro v3 R3 w1 hr3 hp; have HR3 := Lib.hid hr3; clear hr3; simp only [put_some, put_none, sSet, zSet]) | go_skip | ((first | ((with_reducible refine pre_box _ _ rfl ?_); refine lB hp rfl (sTm rfl) rfl ?_; clear hp; intro b w1 hp) | ((with_reducible refine pre_load _ _ rfl ?_); first | refine lO hp rfl (sTm rfl) ceOW0 aa14 ?_ | refine lA hp rfl (sTm rfl) agg116 aa14 ?_) | ((with_reducible refine pre_store _ _ _ rfl ?_); (first | refine sO hp rfl (sTm rfl) ceOW0 aa14 ?_ | refine sA hp rfl (sTm rfl) (sTm rfl) agg116 aa14 ?_ | refine sG hp rfl (sTm rfl) (sTm rfl) agg116 aa14 ?_); clear hp; intro w1 hp; simp only [spl, zSet, sSet] at hp) | ((with_reducible refine pre_build _ _ _ rfl ?_); refine lS hp rfl (by intro w; go_simp; rfl) ?_; clear hp; intro b w1 hp; simp only [List.length_cons, List.length_nil, Nat.reduceAdd] at hp)); simp only [put_some, put_none, sSet, zSet]))
  go_ret2
  refine ⟨v3, R3, rfl, ?_, by simpa using hp⟩
  rw [HX.out.1, HX.out.2]; exact HR3.out
theorem flat_nat {α : Type} (f : α → List Nat) (c : Nat) (hf : ∀ x, (f x).length = c) (l : List α) : (l.flatMap f).length = l.length * c := by
  induction l with
  | nil => simp
  | cons x l ih => simp [ih, hf, Nat.add_mul, Nat.add_comm]
def OutSt (B : Nat) (w0 : World) (bo : Nat) (xs : List Nat) (L : List Blk) (w : World) : Prop := ∃ a c R, SubRow 5 1 (.slice a xs.length c) xs.length (xs.flatMap byV) R ∧ Hp B w0 w (⟨bo, [.slice a xs.length c], 116, 1⟩ :: (L ++ R))
theorem SubRow.keptS {e : TypeId} {c n : Nat} {a : Option Addr} {k : Nat} {xs : List Value} {R : List Blk} (h : SubRow e c (.slice a n k) n xs R) : Kept R fun w => RowIs w a xs := by
  obtain ⟨a', k', hv, _, hk⟩ := h.kept
  injection hv with h1 h2 h3
  subst h1
  exact hk
theorem OutSt.of {B : Nat} {w0 w : World} {bo n : Nat} {xs : List Nat} {v : Value} {L R : List Blk} (hn : xs.length = n) (h : SubRow 5 1 v n (xs.flatMap byV) R) (hp : Hp B w0 w (⟨bo, [v], 116, 1⟩ :: (L ++ R))) : OutSt B w0 bo xs L w := by
  obtain ⟨a, k, rfl, hk, hkr⟩ := h.kept
  subst hn
  exact ⟨a, k, R, h, hp⟩
def bn4 (l : List Nat) : List Nat := l.flatMap fun n => beS 4 n
def bi8 (l : List Int) : List Nat := l.flatMap fun n => beS 8 (uN n)
theorem bn4_len (l : List Nat) : (bn4 l).length = l.length * 4 := flat_nat _ 4 (fun x => beS_len 4 x) l
theorem bi8_len (l : List Int) : (bi8 l).length = l.length * 8 := flat_nat _ 8 (fun x => beS_len 8 (uN x)) l
theorem bn4_take {l : List Nat} {j : Nat} {x : Nat} (h : l[j]? = some x) : bn4 (l.take (j + 1)) = bn4 (l.take j) ++ beS 4 x := by
  unfold bn4
  rw [List.take_add_one, h]; simp [List.flatMap_append]
theorem bi8_take {l : List Int} {j : Nat} {x : Int} (h : l[j]? = some x) : bi8 (l.take (j + 1)) = bi8 (l.take j) ++ beS 8 (uN x) := by
  unfold bi8
  rw [List.take_add_one, h]; simp [List.flatMap_append]
def natV (n : Nat) : List Value := [.int .i64 (n : Int)]
theorem natV_len (x : Nat) : (natV x).length = 1 := rfl
set_option maxRecDepth 100000 in
set_option maxHeartbeats 4000000 in
theorem outg80 (l : List Int) (hl : l.length ≤ 1000) (xs : List Nat) (hx : xs.length ≤ 900000) {B : Nat} {w0 w : World} {L : List Blk} (bo : Nat) (al : Option Addr) (cl : Nat) (hs : OutSt B w0 bo xs L w) (hk : Stay B w0 L fun w => RowIs w al (l.flatMap iV)) :
    Calls Tryz.prog 80 #[.pointer (some ⟨bo, 0, none⟩), .slice al l.length cl] w fun e w' => e = .returned (.tuple #[]) ∧ OutSt B w0 bo (xs ++ bi8 l) L w' := by
  have HL := Lib.hid hk
  obtain ⟨a0, c0, R0, hk0, hp⟩ := hs
  have HK0 := Lib.hid hk0
  clear hk hk0
  go_enter Tryz.func80, Tryz.ntmps80
  go_wp2_with (first | go_skip | ((first | ((with_reducible refine pre_box _ _ rfl ?_); refine lB hp rfl (sTm rfl) rfl ?_; clear hp; intro b w1 hp) | ((with_reducible refine pre_load _ _ rfl ?_); first | refine lO hp rfl (sTm rfl) ceOW0 aa14 ?_ | refine lA hp rfl (sTm rfl) agg116 aa14 ?_) | ((with_reducible refine pre_store _ _ _ rfl ?_); (first | refine sO hp rfl (sTm rfl) ceOW0 aa14 ?_ | refine sA hp rfl (sTm rfl) (sTm rfl) agg116 aa14 ?_ | refine sG hp rfl (sTm rfl) (sTm rfl) agg116 aa14 ?_); clear hp; intro w1 hp; simp only [spl, zSet, sSet] at hp) | ((with_reducible refine pre_build _ _ _ rfl ?_); refine lS hp rfl (by intro w; go_simp; rfl) ?_; clear hp; intro b w1 hp; simp only [List.length_cons, List.length_nil, Nat.reduceAdd] at hp)); simp only [put_some, put_none, sSet, zSet]))
  go_loopg [8] l.length (fun k i wr => ∃ (j : Nat) (zs : List Nat) (a1 : Option Addr) (c1 : Nat) (R : List Blk), k + j = l.length ∧ i = .int .i64 j ∧ RowKit.Hid (zs = xs ++ bi8 (l.take j)) ∧ RowKit.Hid (SubRow 5 1 (.slice a1 zs.length c1) zs.length (zs.flatMap byV) R) ∧ Hp B w0 wr (⟨bo, [.slice a1 zs.length c1], 116, 1⟩ :: (L ++ R)))
  case atStart => exact ⟨0, xs, a0, c0, R0, by omega, rfl, Lib.hid (by rw [List.take_zero]; exact (List.append_nil xs).symm), HK0, hp⟩
  case round =>
    clear hp HK0
    obtain ⟨j, ys, a1, c1, R, hkj, rfl, HZ, HSR, hp⟩ := hrel
    have HK := Lib.hid HSR.out.keptS
    by_cases hlt : j < l.length
    · have hj := List.getElem?_eq_getElem hlt
      generalize l[j] = x at hj
      obtain ⟨bq, off, rfl, hE⟩ := HL.out.elem 1 iV_len (by decide) hj hp (by intro p hp2; simp [hp2])
      have HE := Lib.hid hE
      have HT := Lib.hid (bi8_take hj)
      have HSM : RowKit.Hid (ys.length ≤ 1000000) := Lib.hid (by rw [HZ.out, List.length_append, bi8_len, List.length_take]; omega)
      clear hE hj
      simp only [Nat.mul_one] at HE
      have e1 : (0 : Int) ≤ (j : Int) := by omega
      have e2 : (j : Int) < (l.length : Int) := by omega
      go_wp2_with (first | (go_at_call 156; (with_reducible refine (putis156 ys HSM.out x  a1 c1 _ (HK.out.at hp (by intro p hp2; simp [hp2]))).mono ?_); rintro e w1 ⟨v2, R2, rfl, hr2, hp2⟩; obtain ⟨a3, c3, rfl, hc3, hk3⟩ := hr2.keptC; replace hp := hp.join hp2; have HR2 := Lib.hid hr2; clear hr2 hp2 hk3 hc3; simp only [List.cons_append, List.append_assoc] at hp) | ((with_reducible refine pre_load 3 _ rfl ?_); refine wpList_loadRowOne_hp (Hp.start _) _ _ rfl wy _ _ (sTm rfl) cell3 _ (HE.out.at hp (by intro p hp2; simp [hp2]) 0 _ rfl) ?_; simp only [put_some, put_none, sSet, zSet]) | go_skip | ((first | ((with_reducible refine pre_box _ _ rfl ?_); refine lB hp rfl (sTm rfl) rfl ?_; clear hp; intro b w1 hp) | ((with_reducible refine pre_load _ _ rfl ?_); first | refine lO hp rfl (sTm rfl) ceOW0 aa14 ?_ | refine lA hp rfl (sTm rfl) agg116 aa14 ?_) | ((with_reducible refine pre_store _ _ _ rfl ?_); (first | refine sO hp rfl (sTm rfl) ceOW0 aa14 ?_ | refine sA hp rfl (sTm rfl) (sTm rfl) agg116 aa14 ?_ | refine sG hp rfl (sTm rfl) (sTm rfl) agg116 aa14 ?_); clear hp; intro w1 hp; simp only [spl, zSet, sSet] at hp) | ((with_reducible refine pre_build _ _ _ rfl ?_); refine lS hp rfl (by intro w; go_simp; rfl) ?_; clear hp; intro b w1 hp; simp only [List.length_cons, List.length_nil, Nat.reduceAdd] at hp)); simp only [put_some, put_none, sSet, zSet]))
      go_roundg (gk - 1)
      case measure => omega
      case rel =>
        exact ⟨j + 1, ys ++ beS 8 (uN x), a3, c3, R2, by omega, by go_num, Lib.hid (by rw [HT.out, HZ.out, List.append_assoc]), Lib.hid (SubRow.of_own HR2.out), by rw [List.length_append]; exact hp.kp⟩
    · have e2 : decide ((j : Int) < (l.length : Int)) = false := by simp; omega
      have hj : j = l.length := by omega
      have HJ := Lib.hid hj
      clear hj
      go_wp2_with fail
      refine bodyPost_end (results_none Tryz.results80 _ _ _) rfl ⟨rfl, ?_⟩
      have h := HZ.out
      rw [HJ.out, List.take_length] at h
      subst h
      exact ⟨a1, c1, R, HSR.out, hp⟩
set_option maxRecDepth 100000 in
set_option maxHeartbeats 4000000 in
theorem outg79 (l : List Nat) (hl : l.length ≤ 1000) (hb : ∀ x ∈ l, x ≤ 2147483647) (xs : List Nat) (hx : xs.length ≤ 900000) {B : Nat} {w0 w : World} {L : List Blk} (bo : Nat) (al : Option Addr) (cl : Nat) (hs : OutSt B w0 bo xs L w) (hk : Stay B w0 L fun w => RowIs w al (l.flatMap natV)) :
    Calls Tryz.prog 79 #[.pointer (some ⟨bo, 0, none⟩), .slice al l.length cl] w fun e w' => e = .returned (.tuple #[]) ∧ OutSt B w0 bo (xs ++ bn4 l) L w' := by
  have HL := Lib.hid hk
  obtain ⟨a0, c0, R0, hk0, hp⟩ := hs
  have HK0 := Lib.hid hk0
  clear hk hk0
  go_enter Tryz.func79, Tryz.ntmps79
  go_wp2_with (first | go_skip | ((first | ((with_reducible refine pre_box _ _ rfl ?_); refine lB hp rfl (sTm rfl) rfl ?_; clear hp; intro b w1 hp) | ((with_reducible refine pre_load _ _ rfl ?_); first | refine lO hp rfl (sTm rfl) ceOW0 aa14 ?_ | refine lA hp rfl (sTm rfl) agg116 aa14 ?_) | ((with_reducible refine pre_store _ _ _ rfl ?_); (first | refine sO hp rfl (sTm rfl) ceOW0 aa14 ?_ | refine sA hp rfl (sTm rfl) (sTm rfl) agg116 aa14 ?_ | refine sG hp rfl (sTm rfl) (sTm rfl) agg116 aa14 ?_); clear hp; intro w1 hp; simp only [spl, zSet, sSet] at hp) | ((with_reducible refine pre_build _ _ _ rfl ?_); refine lS hp rfl (by intro w; go_simp; rfl) ?_; clear hp; intro b w1 hp; simp only [List.length_cons, List.length_nil, Nat.reduceAdd] at hp)); simp only [put_some, put_none, sSet, zSet]))
  go_loopg [8] l.length (fun k i wr => ∃ (j : Nat) (zs : List Nat) (a1 : Option Addr) (c1 : Nat) (R : List Blk), k + j = l.length ∧ i = .int .i64 j ∧ RowKit.Hid (zs = xs ++ bn4 (l.take j)) ∧ RowKit.Hid (SubRow 5 1 (.slice a1 zs.length c1) zs.length (zs.flatMap byV) R) ∧ Hp B w0 wr (⟨bo, [.slice a1 zs.length c1], 116, 1⟩ :: (L ++ R)))
  case atStart => exact ⟨0, xs, a0, c0, R0, by omega, rfl, Lib.hid (by rw [List.take_zero]; exact (List.append_nil xs).symm), HK0, hp⟩
  case round =>
    clear hp HK0
    obtain ⟨j, ys, a1, c1, R, hkj, rfl, HZ, HSR, hp⟩ := hrel
    have HK := Lib.hid HSR.out.keptS
    by_cases hlt : j < l.length
    · have hj := List.getElem?_eq_getElem hlt
      have hbx := hb _ (List.getElem_mem hlt)
      generalize l[j] = x at hj hbx
      obtain ⟨bq, off, rfl, hE⟩ := HL.out.elem 1 natV_len (by decide) hj hp (by intro p hp2; simp [hp2])
      have HE := Lib.hid hE
      have HT := Lib.hid (bn4_take hj)
      have HSM : RowKit.Hid (ys.length ≤ 1000000) := Lib.hid (by rw [HZ.out, List.length_append, bn4_len, List.length_take]; omega)
      clear hE hj
      simp only [Nat.mul_one] at HE
      have e1 : (0 : Int) ≤ (j : Int) := by omega
      have e2 : (j : Int) < (l.length : Int) := by omega
      go_wp2_with (first | (go_at_call 155; (with_reducible refine (putn155 ys HSM.out x hbx a1 c1 _ (HK.out.at hp (by intro p hp2; simp [hp2]))).mono ?_); rintro e w1 ⟨v2, R2, rfl, hr2, hp2⟩; obtain ⟨a3, c3, rfl, hc3, hk3⟩ := hr2.keptC; replace hp := hp.join hp2; have HR2 := Lib.hid hr2; clear hr2 hp2 hk3 hc3; simp only [List.cons_append, List.append_assoc] at hp) | ((with_reducible refine pre_load 3 _ rfl ?_); refine wpList_loadRowOne_hp (Hp.start _) _ _ rfl wy _ _ (sTm rfl) cell3 _ (HE.out.at hp (by intro p hp2; simp [hp2]) 0 _ rfl) ?_; simp only [put_some, put_none, sSet, zSet]) | go_skip | ((first | ((with_reducible refine pre_box _ _ rfl ?_); refine lB hp rfl (sTm rfl) rfl ?_; clear hp; intro b w1 hp) | ((with_reducible refine pre_load _ _ rfl ?_); first | refine lO hp rfl (sTm rfl) ceOW0 aa14 ?_ | refine lA hp rfl (sTm rfl) agg116 aa14 ?_) | ((with_reducible refine pre_store _ _ _ rfl ?_); (first | refine sO hp rfl (sTm rfl) ceOW0 aa14 ?_ | refine sA hp rfl (sTm rfl) (sTm rfl) agg116 aa14 ?_ | refine sG hp rfl (sTm rfl) (sTm rfl) agg116 aa14 ?_); clear hp; intro w1 hp; simp only [spl, zSet, sSet] at hp) | ((with_reducible refine pre_build _ _ _ rfl ?_); refine lS hp rfl (by intro w; go_simp; rfl) ?_; clear hp; intro b w1 hp; simp only [List.length_cons, List.length_nil, Nat.reduceAdd] at hp)); simp only [put_some, put_none, sSet, zSet]))
      go_roundg (gk - 1)
      case measure => omega
      case rel =>
        exact ⟨j + 1, ys ++ beS 4 x, a3, c3, R2, by omega, by go_num, Lib.hid (by rw [HT.out, HZ.out, List.append_assoc]), Lib.hid (SubRow.of_own HR2.out), by rw [List.length_append]; exact hp.kp⟩
    · have e2 : decide ((j : Int) < (l.length : Int)) = false := by simp; omega
      have hj : j = l.length := by omega
      have HJ := Lib.hid hj
      clear hj
      go_wp2_with fail
      refine bodyPost_end (results_none Tryz.results79 _ _ _) rfl ⟨rfl, ?_⟩
      have h := HZ.out
      rw [HJ.out, List.take_length] at h
      subst h
      exact ⟨a1, c1, R, HSR.out, hp⟩
end Go.Proofs.YtaafajaadfgaoaaGreat
