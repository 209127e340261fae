/- Rows in blocks of the call's own, whatever their number; heaps and states by their cells. No program in sight. -/
import Derived.Test.YtbflmnoaiklnbaaAp
set_option linter.unusedSimpArgs false
set_option linter.unusedVariables false
namespace Go.Proofs.Ytbflmnoaiklnbaa
open Go.RowKit

theorem Hp.reorder {B : Nat} {w0 w : World} {L L' : List Blk} (hp : Hp B w0 w L) (h : L.Perm L') : Hp B w0 w L' :=
  ⟨hp.below, hp.size, (h.map _).nodup_iff.1 hp.nodup, fun p hpL => hp.own p (h.mem_iff.2 hpL)⟩
/-- What a callee has made, laid behind the others. -/
theorem Hp.join {B : Nat} {w0 w w' : World} {L L2 : List Blk} (hp : Hp B w0 w L) (h2 : Hp w.heap.size w w' L2) : Hp B w0 w' (L ++ L2) := by
  have h := hp.call h2.below
  refine ⟨h.below, h.size, ?_, ?_⟩
  · rw [List.map_append, List.nodup_append]
    refine ⟨h.nodup, h2.nodup, ?_⟩
    intro a ha b hb he
    obtain ⟨p, hpL, rfl⟩ := List.mem_map.1 ha
    obtain ⟨q, hqL, rfl⟩ := List.mem_map.1 hb
    have h1 := (hp.lt hpL).2
    have h2 := (h2.lt hqL).1
    omega
  · intro q hq
    rcases List.mem_append.1 hq with hq | hq
    · exact h.own q hq
    · obtain ⟨h1, h3⟩ := h2.own q hq
      exact ⟨Nat.le_trans hp.size h1, h3⟩
/-- What holds wherever these blocks stand. -/
def Kept (L2 : List Blk) (Q : World → Prop) : Prop := ∀ (B : Nat) (w0 w : World) (L : List Blk), Hp B w0 w L → (∀ p ∈ L2, p ∈ L) → Q w
theorem Kept.now {L2 : List Blk} {Q : World → Prop} (h : Kept L2 Q) {B : Nat} {w0 w : World} (hp : Hp B w0 w L2) : Q w := h B w0 w L2 hp (fun _ h => h)
theorem Kept.at {R : List Blk} {Q : World → Prop} (h : Kept R Q) {B : Nat} {w0 w : World} {L : List Blk} (hp : Hp B w0 w L) (hm : ∀ p ∈ R, p ∈ L) : Q w := h B w0 w L hp hm
theorem Kept.mono {L2 L3 : List Blk} {Q R : World → Prop} (h : Kept L2 Q) (hs : ∀ p ∈ L2, p ∈ L3) (hr : ∀ w, Q w → R w) : Kept L3 R :=
  fun B w0 w L hp hm => hr w (h B w0 w L hp (fun p hp2 => hm p (hs p hp2)))
theorem Kept.and {L2 L3 : List Blk} {Q R : World → Prop} (h : Kept L2 Q) (h' : Kept L3 R) : Kept (L2 ++ L3) fun w => Q w ∧ R w :=
  fun B w0 w L hp hm => ⟨h B w0 w L hp (fun p hp2 => hm p (List.mem_append_left _ hp2)), h' B w0 w L hp (fun p hp2 => hm p (List.mem_append_right _ hp2))⟩
theorem Kept.row (b : Nat) (l : List Value) (t : TypeId) (n : Nat) : Kept [⟨b, l, t, n⟩] fun w => RowIs w (some ⟨b, 0, none⟩) l := fun B w0 w L hp hm => by
  obtain ⟨k, hk, hkl⟩ := List.getElem_of_mem (hm _ (List.mem_singleton.2 rfl))
  exact hp.rowIs (i := k) (by rw [List.getElem?_eq_getElem hk, hkl])
theorem Kept.none_ {Q : World → Prop} (h : ∀ w, Q w) (L2 : List Blk) : Kept L2 Q := fun _ _ _ _ _ _ => h _

/-- A row that grows by append: nil, or a block of the call's own. -/
def OwnRow (e : TypeId) (c : Nat) (v : Value) (n : Nat) (xs : List Value) (R : List Blk) : Prop :=
  xs.length = n * c ∧ ((n = 0 ∧ v = .slice none 0 0 ∧ xs = [] ∧ R = []) ∨ ∃ g cap, v = .slice (some ⟨g, 0, none⟩) n cap ∧ n ≤ cap ∧ cap ≤ maxLen ∧ R = [⟨g, xs, e, cap * c⟩])
theorem OwnRow.nil (e : TypeId) (c : Nat) : OwnRow e c (.slice none 0 0) 0 [] [] := ⟨by simp, .inl ⟨rfl, rfl, rfl, rfl⟩⟩
theorem OwnRow.kept {e : TypeId} {c n : Nat} {v : Value} {xs : List Value} {R : List Blk} (h : OwnRow e c v n xs R) : ∃ a k, v = .slice a n k ∧ Kept R fun w => RowIs w a xs := by
  obtain ⟨_, ⟨h0, hv, hx, hr⟩ | ⟨g, cap, hv, _, _, hr⟩⟩ := h
  · subst hr; exact ⟨none, 0, by rw [h0]; exact hv, Kept.none_ (fun w => by rw [hx]; exact RowIs.nil _ _) _⟩
  · subst hr; exact ⟨_, _, hv, Kept.row _ _ _ _⟩

section
variable {P : Program} {ops : Array Oper} {rest : List Oper} {o : Oper} {a : Act} {w : World} {Q : Exit → Act → World → Prop} {w0 : World} {L : List Blk}
/-- 'append(nil, l...)' of a row that is read: what it makes stands behind the others. -/
theorem wpList_appendRowK {B : Nat} (hp : Hp B w0 w L) (s x : Operand) (t : TypeId)
    (ho : o.op = .call { callee := .builtin .append, args := #[s, x], argTypes := #[t, t] }) (hw : Region.wanted o (yielded ops a.tmps) = true)
    (e : TypeId) (i : TypeInfo) (z : Value) (c bytes : Nat) (ht : P.underlying t = some (.slice e)) (hi : P.info? e = some i) (hz : i.zero = some z)
    (hsize : i.size = c) (hby : i.bytes = bytes) (hzs : z.cells.size = c) (hc0 : 0 < c) (hs : a.eval s = .slice none 0 0) (ad : Option Addr) (m cc : Nat) (hx : a.eval x = .slice ad m cc) (xs : List Value) (hl : xs.length = m * c) (hr : RowIs w ad xs)
    (h1 : xs.all (·.oneCell') = true) (h63 : m ≤ maxLen) (hbytes : m * bytes ≤ 140737488355328)
    (h : ∀ ad' cap R w', Kept R (fun w => RowIs w ad' xs) → OwnRow e c (.slice ad' m cap) m xs R → Hp B w0 w' (L ++ R) → wpList P ops Q rest (a.put o.dst (.slice ad' m cap)) w') : wpList P ops Q (o :: rest) a w := by
  refine wpList_appendRow_hp hp s x t ho hw e i z c bytes ht hi hz hsize hby hzs hc0 hs ad m cc hx xs hl hr h1 h63 hbytes ?_ ?_
  · intro hm
    subst hm
    have hn : xs = [] := List.eq_nil_of_length_eq_zero (by simpa using hl)
    subst hn
    exact h none 0 [] w (Kept.none_ (fun w => RowIs.nil _ _) _) (OwnRow.nil e c) (by rw [List.append_nil]; exact hp)
  · intro g cap w' hm hc hcm hp'
    refine h _ _ [⟨g, xs, e, cap * c⟩] w' (Kept.row _ _ _ _) ⟨hl, .inr ⟨g, cap, rfl, hc, hcm, rfl⟩⟩ (hp'.reorder ?_)
    exact (List.perm_append_comm (l₁ := [(⟨g, xs, e, cap * c⟩ : Blk)]) (l₂ := L))
/-- 'l = append(l, x)': the row stands behind the blocks K. -/
theorem wpList_appendGrow {B : Nat} {bx ex mx n e c : Nat} {news xs : List Value} {K R M : List Blk} {v : Value} (hp : Hp B w0 w (⟨bx, news, ex, mx⟩ :: (K ++ (R ++ M)))) (s x : Operand) (t : TypeId)
    (ho : o.op = .call { callee := .builtin .append, args := #[s, x], argTypes := #[t, t] }) (hw : Region.wanted o (yielded ops a.tmps) = true)
    (i : TypeInfo) (z : Value) (bytes : Nat) (ht : P.underlying t = some (.slice e)) (hi : P.info? e = some i) (hz : i.zero = some z)
    (hsize : i.size = c) (hby : i.bytes = bytes) (hzs : z.cells.size = c) (hc0 : 0 < c) (hs : a.eval s = v) (hR : OwnRow e c v n xs R)
    (m cc : Nat) (hx : a.eval x = .slice (some ⟨bx, 0, none⟩) m cc) (hl : news.length = m * c) (hm : 0 < m)
    (h1 : news.all (·.oneCell') = true) (h63 : n + m ≤ maxLen) (hbytes : (n + m) * bytes ≤ 140737488355328)
    (h : ∀ v' R' w', OwnRow e c v' (n + m) (xs ++ news) R' → Hp B w0 w' (K ++ (R' ++ M)) → wpList P ops Q rest (a.put o.dst v') w') : wpList P ops Q (o :: rest) a w := by
  obtain ⟨hxl, ⟨h0, hv, hxs, hr⟩ | ⟨g, cap, hv, hnc, hcm, hr⟩⟩ := hR
  · subst h0 hr hxs
    rw [hv] at hs
    refine wpList_appendNew_hp (L := K ++ M) (by simpa using hp) s x t ho hw e i z c bytes ht hi hz hsize hby hzs hc0 hs m cc hx hl hm h1 (by omega) (by rw [Nat.zero_add] at hbytes; exact hbytes) ?_
    intro g cap w' hc hcm hp'
    refine h _ [⟨g, news, e, cap * c⟩] w' ⟨by simp [hl], .inr ⟨g, cap, by rw [Nat.zero_add], by omega, hcm, by rw [List.nil_append]⟩⟩ (hp'.reorder ?_)
    exact (List.perm_middle (a := (⟨g, news, e, cap * c⟩ : Blk)) (l₁ := K) (l₂ := M)).symm
  · subst hr
    rw [hv] at hs
    refine wpList_appendOn_hp (L := K ++ M) (g0 := g) (cap0 := cap) (hp.reorder (List.Perm.cons _ (List.perm_middle (a := (⟨g, xs, e, cap * c⟩ : Blk)) (l₁ := K) (l₂ := M)))) s x t ho hw i z bytes ht hi hz hsize hby hzs hc0 hs hnc hcm hxl m cc hx hl hm h1 h63 hbytes ?_
    intro g' cap' w' hc hcm' hp'
    refine h _ [⟨g', xs ++ news, e, cap' * c⟩] w' ⟨by rw [List.length_append, hxl, hl, Nat.add_mul], .inr ⟨g', cap', rfl, hc, hcm', rfl⟩⟩ (hp'.reorder ?_)
    exact (List.perm_middle (a := (⟨g', xs ++ news, e, cap' * c⟩ : Blk)) (l₁ := K) (l₂ := M)).symm
end

def iV (x : Int) : List Value := [.int .i64 x]
theorem iV_len (x : Int) : (iV x).length = 1 := rfl
/-- An object, with where its rows lie. -/
structure Ob where
  h : Int
  p : Int
  o : Int
  wa : Option Addr
  ws : List Int
  wc : Nat
  la : Option Addr
  ls : List Int
  lc : Nat
def obV (x : Ob) : List Value := [.int .i64 x.h, .int .i64 x.p, .int .i64 x.o, .slice x.wa x.ws.length x.wc, .slice x.la x.ls.length x.lc]
theorem obV_len (x : Ob) : (obV x).length = 5 := rfl
def Ob.Is (w : World) (x : Ob) : Prop := RowIs w x.wa (x.ws.flatMap iV) ∧ RowIs w x.la (x.ls.flatMap iV)
/-- The same object, wherever its rows lie. -/
def Ob.Sm (x y : Ob) : Prop := x.h = y.h ∧ x.p = y.p ∧ x.o = y.o ∧ x.ws = y.ws ∧ x.ls = y.ls
theorem Ob.Sm.rfl_ (x : Ob) : x.Sm x := ⟨rfl, rfl, rfl, rfl, rfl⟩
theorem Ob.Sm.symm {x y : Ob} (h : x.Sm y) : y.Sm x := by
  obtain ⟨h1, h2, h3, h4, h5⟩ := h
  exact ⟨h1.symm, h2.symm, h3.symm, h4.symm, h5.symm⟩
theorem Ob.Is.below {w w' : World} {x : Ob} (h : x.Is w) (hb : Below w.heap.size w w') : x.Is w' := ⟨h.1.below hb, h.2.below hb⟩
end Go.Proofs.Ytbflmnoaiklnbaa
