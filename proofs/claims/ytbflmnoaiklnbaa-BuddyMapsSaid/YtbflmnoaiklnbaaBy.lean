/- Rows of bytes: append of a row that is read, make with room, strings. No program in sight. -/
import Derived.Test.YtbflmnoaiklnbaaHv
import Derived.Test.YtbflmnoaiklnbaaMk
set_option linter.unusedSimpArgs false
set_option linter.unusedVariables false
namespace Go.Proofs.Ytbflmnoaiklnbaa
open Go.RowKit
section
variable {P : Program} {ops : Array Oper} {rest : List Oper} {o : Oper} {a : Act} {w : World} {Q : Exit → Act → World → Prop} {w0 : World} {L : List Blk}
/-- 'make([]T, 0, n)' of one-cell elements. -/
theorem pre_make (t : TypeId) (x y : Operand) (_ : o.op = .makeSlice t x y) (h : wpList P ops Q (o :: rest) a w) : wpList P ops Q (o :: rest) a w := h
theorem wpList_make0_hp {B : Nat} (hp : Hp B w0 w L) (t : TypeId) (x y : Operand) (ho : o.op = .makeSlice t x y) (hw : Region.wanted o (yielded ops a.tmps) = true) (e : TypeId) (i : TypeInfo) (z : Value)
    (ht : P.underlying t = some (.slice e)) (hi : P.info? e = some i) (hz : i.zero = some z) (hs : i.size = 1) (hzc : z.cells = #[z]) (zz : Int) (hx : a.eval x = .int .i64 0) (hy : a.eval y = .int .i64 zz)
    (m : Nat) (hm : zz = m) (hb : i.bytes * m ≤ 281474976710656) (h63 : m ≤ maxLen)
    (h : ∀ v R w', OwnRow e 1 v 0 [] R → Hp B w0 w' (L ++ R) → wpList P ops Q rest (a.put o.dst v) w') : wpList P ops Q (o :: rest) a w := by
  refine BigFrame.wpList_want hw fun K hK => ?_
  unfold Oper.wp execOp
  subst hm
  have hr := run_make (P := P) w t e i z ht hi hz .i64 .i64 0 (m : Int) (by omega) (by omega) (by have := Int.ofNat_le.2 hb; rw [Int.natCast_mul] at this; exact this) (by unfold maxLen at h63; omega)
  rw [hzc, hs, Int.toNat_natCast, Nat.mul_one, made_one] at hr
  simp only [ho, hx, hy, Sem.run_bind, hr, Result.andThen_ok, Sem.run_pure]
  refine hK _ _ (h _ [⟨w.heap.size, [], e, m * 1⟩] _ ⟨by simp, .inr ⟨w.heap.size, m, rfl, by omega, h63, rfl⟩⟩ ?_)
  exact (hp.alloc (List.replicate m z).toArray [] e (m * 1) (by rw [List.size_toArray, List.length_replicate, Nat.mul_one]) (by simp)).reorder (by simpa using (List.perm_append_comm (l₁ := [(⟨w.heap.size, [], e, m * 1⟩ : Blk)]) (l₂ := L)))
/-- 'append(l, x...)' of a row that is read: l stands behind the blocks K. -/
theorem wpList_appendGrowRow {B : Nat} {n e c : Nat} {xs : List Value} {K R M : List Blk} {v : Value} (hp : Hp B w0 w (K ++ (R ++ M))) (s x : Operand) (t : TypeId)
    (ho : o.op = .call { callee := .builtin .append, args := #[s, x], argTypes := #[t, t] }) (hw : Region.wanted o (yielded ops a.tmps) = true)
    (i : TypeInfo) (z : Value) (bytes : Nat) (ht : P.underlying t = some (.slice e)) (hi : P.info? e = some i) (hz : i.zero = some z)
    (hsize : i.size = c) (hby : i.bytes = bytes) (hzs : z.cells.size = c) (hc0 : 0 < c) (hs : a.eval s = v) (hR : OwnRow e c v n xs R)
    (ad : Option Addr) (m cc : Nat) (hx : a.eval x = .slice ad m cc) (news : List Value) (hl : news.length = m * c) (hr : RowIs w ad news)
    (h1 : news.all (·.oneCell') = true) (h63 : n + m ≤ maxLen) (hbytes : (n + m) * bytes ≤ 140737488355328)
    (h : ∀ v' R' w', OwnRow e c v' (n + m) (xs ++ news) R' → Hp B w0 w' (K ++ (R' ++ M)) → wpList P ops Q rest (a.put o.dst v') w') : wpList P ops Q (o :: rest) a w := by
  refine BigFrame.wpList_want hw fun Kk hK => ?_
  rcases Nat.eq_zero_or_pos m with hm | hm
  · subst hm
    have hn : news = [] := List.eq_nil_of_length_eq_zero (by simpa using hl)
    subst hn
    have hrun : (Builtin.append_ #[t, t] o.type #[v, .slice ad 0 cc]).run P w = .ok v w := by
      obtain ⟨_, ⟨_, hv, _⟩ | ⟨g, cap, hv, hnc, _⟩⟩ := hR
      · subst hv; cases ad <;> simp [Builtin.append_, run_underlying ht, sizeOf, typeInfo, hi, Builtin.lenOf, Builtin.firstCells, loadCells, loadCellsFrom]
      · subst hv; cases ad <;> simp [Builtin.append_, run_underlying ht, sizeOf, typeInfo, hi, Builtin.lenOf, Builtin.firstCells, loadCells, loadCellsFrom, hnc, storeCells]
    unfold Oper.wp execOp
    simp only [ho, resolve, invoke, builtin, Sem.run_bind, Sem.run_pure, Result.andThen_ok, List.map_toArray, List.map_cons, List.map_nil, hs, hx, hrun]
    exact hK _ _ (h v R w (by rw [Nat.add_zero, List.append_nil]; exact hR) hp)
  · obtain ⟨b, off, rfl, hc⟩ := hr.addr (by rw [hl]; exact Nat.mul_pos hm hc0)
    have hnews : ∀ j u, news[j]? = some u → w.cell? ((⟨b, off, none⟩ : Addr).add j) = some u := fun j u hj => by rw [add_addr]; exact hc j u hj
    have key : ∃ g cap w', (Builtin.append_ #[t, t] o.type #[v, .slice (some ⟨b, off, none⟩) m cc]).run P w = .ok (.slice (some ⟨g, 0, none⟩) (n + m) cap) w' ∧ n + m ≤ cap ∧ cap ≤ maxLen ∧ Hp B w0 w' (⟨g, xs ++ news, e, cap * c⟩ :: (K ++ M)) := by
      obtain ⟨hxl, ⟨h0, hv, hxs, hr0⟩ | ⟨g0, cap0, hv, hnc, hcm, hr0⟩⟩ := hR
      · subst h0 hv hxs hr0
        exact append_core (P := P) (L := K ++ M) (by simpa using hp) t o.type e i z c bytes ht hi hz hsize hby hzs hc0 (.slice none 0 0) 0 [] (World.ownsRow_nil _ _ _ _) (fun k hk => by simp [Value.ownBlock] at hk) ⟨b, off, none⟩ m cc news hl hm hnews h1 h63 hbytes
      · subst hv hr0
        have hp1 : Hp B w0 w (⟨g0, xs, e, cap0 * c⟩ :: (K ++ M)) := hp.reorder (List.perm_middle (a := (⟨g0, xs, e, cap0 * c⟩ : Blk)) (l₁ := K) (l₂ := M))
        have hown : w.ownsRow B e c (.slice (some ⟨g0, 0, none⟩) n cap0) n xs := by
          obtain ⟨hB, cur, hg, hsz, htk⟩ := hp1.own ⟨g0, xs, e, cap0 * c⟩ (by simp)
          exact ⟨hxl, .inr ⟨g0, cap0, cur, rfl, hB, hg, hnc, hcm, hsz, by rw [← hxl]; exact htk⟩⟩
        have hnd := hp1.nodup
        simp only [List.map_cons, List.nodup_cons] at hnd
        exact append_core (P := P) hp1.tail t o.type e i z c bytes ht hi hz hsize hby hzs hc0 _ n xs hown
          (fun k hk p hpL he => by
            simp only [Value.ownBlock, Option.some.injEq] at hk
            subst hk
            exact hnd.1 (List.mem_map.2 ⟨p, hpL, he⟩)) ⟨b, off, none⟩ m cc news hl hm hnews h1 h63 hbytes
    obtain ⟨g, cap, w', hrun, hnc, hcm, hp'⟩ := key
    unfold Oper.wp execOp
    simp only [ho, resolve, invoke, builtin, Sem.run_bind, Sem.run_pure, Result.andThen_ok, List.map_toArray, List.map_cons, List.map_nil, hs, hx, hrun]
    refine hK _ _ (h _ [⟨g, xs ++ news, e, cap * c⟩] w' ⟨by rw [List.length_append, hR.1, hl, Nat.add_mul], .inr ⟨g, cap, rfl, hnc, hcm, rfl⟩⟩ (hp'.reorder ?_))
    exact (List.perm_middle (a := (⟨g, xs ++ news, e, cap * c⟩ : Blk)) (l₁ := K) (l₂ := M)).symm
end
section
variable {P : Program}
theorem conv_row {w : World} {src dst e : TypeId} (hs : P.underlying src = some (.slice e)) (he : P.underlying e = some (.int .u8)) (hd : P.underlying dst = some .string) {a : Option Addr} {n : Nat} (c : Nat) {xs : List Int} (hx : xs.length = n) (hr : RowIs w a (xs.map (Value.int .u8))) :
    (convert src dst (.slice a n c)).run P w = .ok (.string (strOfNums xs)) w := by
  rcases Nat.eq_zero_or_pos n with h0 | h0
  · subst h0
    have : xs = [] := List.eq_nil_of_length_eq_zero hx
    subst this
    cases a with
    | none => exact run_convert_bytes_nil w src e hs he 0 c dst hd
    | some ad =>
      have hl : (loadCells ad 0).run P w = .ok (([] : List Int).map (Value.int .u8)).toArray w := by simp [loadCells, loadCellsFrom]
      rw [run_convert_bytes_string w src dst e _ 0 c hs he hd, run_bytesToString w ad 0 c [] hl, foldl_push_bytes]
      simp [strOfNums, ByteArray.empty, ByteArray.emptyWithCapacity]
      rfl
  · obtain ⟨b, off, rfl, hc⟩ := hr.addr (by rw [List.length_map]; omega)
    refine run_convert_bytes_arg w src e hs he b off n c xs hx (fun i hi => ?_) dst hd
    refine hc i _ ?_
    rw [List.getElem?_map, List.getElem?_eq_getElem (by omega)]
    simp [List.getD, List.getElem?_eq_getElem (show i < xs.length by omega)]
variable {ops : Array Oper} {Q : Exit → Act → World → Prop} {S : World → Prop} {tl : List Nat} {l : List Oper}
theorem plan_conv {i : Nat} {rest : List (Nat × Bool)} {a : Act} {w : World} {o : Oper} {r : List Oper} (ho : l.drop i = o :: r) (src dst : TypeId) (x : Operand) (hx : o.op = .convert src dst x) (hw : Region.wanted o (yielded l.toArray a.tmps) = true)
    (u : Value) (he : a.eval x = u) (v : Value) (hv : ∀ w, S w → (convert src dst u).run P w = .ok v w)
    (h : wpPlan P l.toArray Q S tl rest (a.put o.dst v) w) : wpPlan P l.toArray Q S tl ((i, true) :: rest) a w :=
  plan_take ho hw (fun w hS => by unfold execOp; rw [hx]; simp [he, hv w hS]) h
variable {rest : List Oper} {o : Oper} {a : Act} {w : World}
theorem wpList_conv_row (src dst e : TypeId) (x : Operand) (ho : o.op = .convert src dst x) (hw : Region.wanted o (yielded ops a.tmps) = true)
    (hs : P.underlying src = some (.slice e)) (he : P.underlying e = some (.int .u8)) (hd : P.underlying dst = some .string) (A : Option Addr) (n c : Nat) (hx : a.eval x = .slice A n c) (xs : List Int) (hl : xs.length = n) (hr : RowIs w A (xs.map (Value.int .u8)))
    (h : wpList P ops Q rest (a.put o.dst (.string (strOfNums xs))) w) : wpList P ops Q (o :: rest) a w := by
  refine BigFrame.wpList_want hw fun K hK => ?_
  unfold Oper.wp execOp
  have hr' := conv_row (P := P) hs he hd c hl hr
  simp only [ho, hx, Sem.run_bind, hr', Result.andThen_ok, Sem.run_pure]
  exact hK _ _ h
end
theorem Keeps.row {w0 w : World} {M : List Blk} {a : Option Addr} {xs : List Value} (hS : Keeps w0.heap.size w0 M w) (h : RowIs w0 a xs) : RowIs w a xs := by
  obtain ⟨L, hp, _⟩ := hS
  exact h.below hp.below
def byV (x : Nat) : List Value := [.int .u8 ((x : Nat) : Int)]
theorem byV_len (x : Nat) : (byV x).length = 1 := rfl
theorem fl_by (l : List Nat) : l.flatMap byV = l.map fun x => Value.int .u8 ((x : Nat) : Int) := by
  induction l with
  | nil => rfl
  | cons x l ih => simp [List.flatMap_cons, byV, ih]
theorem by_one (l : List Nat) : (l.flatMap byV).all (·.oneCell') = true := by
  rw [List.all_eq_true]; intro u hu; obtain ⟨x, _, hx⟩ := List.mem_flatMap.1 hu; simp [byV] at hx; subst hx; rfl
/-- An element of a row that these blocks hold. -/
theorem Kept.elem {α : Type} {f : α → List Value} {l : List α} {L L0 : List Blk} {a : Option Addr} {j : Nat} {x : α} (c : Nat) (hf : ∀ x, (f x).length = c) (hc0 : 0 < c) (h : Kept L fun w => RowIs w a (l.flatMap f)) (hj : l[j]? = some x) {B : Nat} {w0 w : World} (hp : Hp B w0 w L0) (hm : ∀ p ∈ L, p ∈ L0) :
    ∃ b off, a = some ⟨b, off, none⟩ ∧ Kept L fun w => ∀ k v, (f x)[k]? = some v → w.cell? ⟨b, off + j * c + k, none⟩ = some v := by
  have hl : 0 < l.length := by have := (List.getElem?_eq_some_iff.1 hj).1; omega
  obtain ⟨b, off, rfl, _⟩ := (h.at hp hm).elems c hf hl hc0
  refine ⟨b, off, rfl, fun B' w0' w' L' hp' hm' k v hk => ?_⟩
  obtain ⟨b', off', he, hx⟩ := (h.at hp' hm').elems c hf hl hc0
  injection he with he
  injection he with h1 h2
  subst h1; subst h2
  exact hx j x hj k v hk
/-- A row of a callee's own, with its room. -/
def RowC (w : World) (xs : List Value) (n : Nat) (e : Ending) (w' : World) : Prop := ∃ a c R, e = .returned (.slice a n c) ∧ n ≤ c ∧ Kept R (fun w => RowIs w a xs) ∧ Hp w.heap.size w w' R
theorem OwnRow.keptC {e : TypeId} {c n : Nat} {v : Value} {xs : List Value} {R : List Blk} (h : OwnRow e c v n xs R) : ∃ a k, v = .slice a n k ∧ n ≤ k ∧ Kept R fun w => RowIs w a xs := by
  obtain ⟨_, ⟨h0, hv, hx, hr⟩ | ⟨g, cap, hv, hc, _, hr⟩⟩ := h
  · subst hr; exact ⟨none, 0, by rw [h0]; exact hv, by omega, Kept.none_ (fun w => by rw [hx]; exact RowIs.nil _ _) _⟩
  · subst hr; exact ⟨_, _, hv, hc, Kept.row _ _ _ _⟩
theorem Keeps.keptRow {w0 w : World} {M : List Blk} (h : Keeps w0.heap.size w0 M w) {R : List Blk} (hR : ∀ p ∈ R, p ∈ M) {a : Option Addr} {xs : List Value} (hk : Kept R fun w => RowIs w a xs) : RowIs w a xs := by
  obtain ⟨L, hp, hm⟩ := h
  exact hk.at hp (fun p hp2 => hm p (hR p hp2))
/-- Byte numbers. -/
def nI (l : List Nat) : List Int := l.map fun x => ((x : Nat) : Int)
theorem nI_len (l : List Nat) : (nI l).length = l.length := by simp [nI]
theorem nI_cells (l : List Nat) : (nI l).map (Value.int .u8) = l.flatMap byV := by rw [fl_by]; simp [nI]
theorem str_inj {xs ys : List Nat} (hx : ∀ x ∈ xs, x < 256) (hy : ∀ x ∈ ys, x < 256) (h : strOfNums (nI xs) = strOfNums (nI ys)) : xs = ys := by
  simp only [strOfNums, nI] at h
  injection h with h
  have h1 : xs.map (fun x => UInt8.ofNat x) = ys.map (fun x => UInt8.ofNat x) := by
    have := congrArg Array.toList h
    simpa [List.map_map, Function.comp_def] using this
  have h2 : ∀ l : List Nat, (∀ x ∈ l, x < 256) → (l.map fun x => (UInt8.ofNat x).toNat) = l := by
    intro l hl
    conv => rhs; rw [← List.map_id l]
    apply List.map_congr_left
    intro x hx
    have := hl x hx
    simp [UInt8.toNat_ofNat]; omega
  have h3 := congrArg (List.map UInt8.toNat) h1
  simp only [List.map_map, Function.comp_def] at h3
  rw [h2 xs hx, h2 ys hy] at h3
  exact h3
/-- A number of 64 bits, whatever its sign. -/
def uN (n : Int) : Nat := (n % 18446744073709551616).toNat
theorem uN_lt (n : Int) : uN n < 18446744073709551616 := by unfold uN; omega
theorem uN_cast (n : Int) : ((uN n : Nat) : Int) = n % 18446744073709551616 := by unfold uN; omega
theorem wrapU (n : Int) : IntKind.u64.wrap n = ((uN n : Nat) : Int) := by rw [uN_cast]; simp [IntKind.wrap, IntKind.bits, IntKind.signed]
/-- Its byte k from the head. -/
def byteN (u k : Nat) : Nat := u / 2 ^ (8 * (7 - k)) % 256
theorem byteN_lt (u k : Nat) : byteN u k < 256 := Nat.mod_lt _ (by decide)
def be8 (u : Nat) : List Nat := (List.range 8).map (byteN u)
theorem be8_len (u : Nat) : (be8 u).length = 8 := rfl
theorem be8_take (u j : Nat) (h : j < 8) : (be8 u).take (j + 1) = (be8 u).take j ++ [byteN u j] := by
  rw [List.take_add_one]
  congr 1
  simp [be8, List.getElem?_map, List.getElem?_range h]
end Go.Proofs.Ytbflmnoaiklnbaa
