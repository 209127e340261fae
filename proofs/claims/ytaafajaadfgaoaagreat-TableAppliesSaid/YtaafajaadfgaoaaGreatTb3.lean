import Derived.Test.YtaafajaadfgaoaaGreatTb2
import Derived.Test.YtaafajaadfgaoaaGreatTb0
import Derived.Laws.BitsAllLaws
import Derived.Deep.AppendSrc
set_option linter.unusedSimpArgs false
set_option linter.unusedVariables false
set_option maxRecDepth 100000
set_option maxHeartbeats 60000000
namespace Go.Proofs.YtaafajaadfgaoaaGreat
open Go.RowKit
theorem zoo : zN Tryz.prog 57 = true := by kernel_rfl
theorem zpk : zN Tryz.prog 5 = true := by kernel_rfl
def zf8 (l : List Nat) : Prop := ∀ x ∈ l, x < 256
theorem zf8.drop {l : List Nat} (h : zf8 l) (k : Nat) : zf8 (l.drop k) := fun x hx => h x (List.mem_of_mem_drop hx)
theorem zf8.take {l : List Nat} (h : zf8 l) (k : Nat) : zf8 (l.take k) := fun x hx => h x (List.mem_of_mem_take hx)
def zlN (w : World) (a : Option Addr) (bs : List Nat) : Prop := zD w a (bs.flatMap byV) ∧ zf8 bs
theorem zlN.below {w w' : World} {a : Option Addr} {bs : List Nat} (h : zlN w a bs) (hb : Below w.heap.size w w') : zlN w' a bs := ⟨h.1.below hb, h.2⟩
theorem zlN.drop {w : World} {b off : Nat} {bs : List Nat} (h : zlN w (some ⟨b, off, none⟩) bs) (k : Nat) : zlN w (some ⟨b, off + k, none⟩) (bs.drop k) := by
 refine ⟨fun j v hj => ?_, h.2.drop k⟩
 have hj2 : (bs.flatMap byV)[k + j]? = some v := by
  rw [zpn] at hj ⊢
  rw [List.getElem?_map, List.getElem?_drop] at hj
  rw [List.getElem?_map]; exact hj
 obtain ⟨b', off', he, hc⟩ := h.1 (k + j) v hj2
 injection he with he; injection he with e1 e2; subst e1; subst e2
 exact ⟨b, off + k, rfl, by rw [Nat.add_assoc]; exact hc⟩
theorem zlN.none_ (w : World) (a : Option Addr) : zlN w a [] := ⟨zD.nil _ _, by intro x hx; cases hx⟩
def Rb (br : Nat) (a : Option Addr) (n c : Nat) : Blk := ⟨br, [.slice a n c], 210, 1⟩
theorem Rb.cell {B br n c : Nat} {a : Option Addr} {w0 w : World} {L : List Blk} (hp : Hp B w0 w (Rb br a n c :: L)) : w.cell? ⟨br, 0, none⟩ = some (.slice a n c) := hp.cell (i := 0) rfl rfl
open Go.RowKit
theorem Hp.sub {B : Nat} {w0 w : World} {L L' : List Blk} (hp : Hp B w0 w L) (h : L'.Sublist L) : Hp B w0 w L' :=
 ⟨hp.below, hp.size, (h.map _).nodup hp.nodup, fun p hpL => hp.own p (h.subset hpL)⟩
def Ib (bi br : Nat) : Blk := ⟨bi, [.pointer (some ⟨br, 0, none⟩)], 144, 1⟩
def zmJ (w0 : World) (br bi : Nat) (bs : List Nat) (K L : List Blk) (w : World) : Prop := ∃ a c, bs.length ≤ c ∧ zlN w0 a bs ∧ Hp w0.heap.size w0 w (K ++ (Rb br a bs.length c :: Ib bi br :: L))
theorem zmJ.front {w0 w : World} {br bi : Nat} {bs : List Nat} {K L : List Blk} (h : zmJ w0 br bi bs K L w) : zmJ w0 br bi bs [] (K ++ L) w := by
 obtain ⟨a, c, h1, h2, hp⟩ := h
 exact ⟨a, c, h1, h2, hp.kp⟩
theorem zmJ.hp {w0 w : World} {br bi : Nat} {bs : List Nat} {K L : List Blk} (h : zmJ w0 br bi bs K L w) : Hp w0.heap.size w0 w (K ++ L) := by
 obtain ⟨a, c, _, _, hp⟩ := h.front
 exact hp.tail.tail
theorem Hp.to {B : Nat} {w0 w : World} {L L' : List Blk} (hp : Hp B w0 w L) (h : L = L') : Hp B w0 w L' := h ▸ hp
open Go.RowKit
def zef (e : TypeId) (c : Nat) (v : Value) (n : Nat) (xs : List Value) (R : List Blk) : Prop :=
 xs.length = n * c ∧ ((n = 0 ∧ (∃ a, v = .slice a 0 0) ∧ R = []) ∨ ∃ g off cap pre, v = .slice (some ⟨g, off, none⟩) n cap ∧ n ≤ cap ∧ cap ≤ maxLen ∧ pre.length = off ∧ R = [⟨g, pre ++ xs, e, off + cap * c⟩])
theorem zef.nil (e : TypeId) (c : Nat) (a : Option Addr) : zef e c (.slice a 0 0) 0 [] [] := ⟨by simp, .inl ⟨rfl, ⟨a, rfl⟩, rfl⟩⟩
theorem ZC.rowAt (g off : Nat) (pre xs : List Value) (hp0 : pre.length = off) (t : TypeId) (n : Nat) : ZC [⟨g, pre ++ xs, t, n⟩] fun w => zD w (some ⟨g, off, none⟩) xs := fun B w0 w L hp hm => by
 obtain ⟨k, hk, hkl⟩ := List.getElem_of_mem (hm _ (List.mem_singleton.2 rfl))
 intro j v hj
 refine ⟨g, off, rfl, hp.cell (i := k) (by rw [List.getElem?_eq_getElem hk, hkl]) ?_⟩
 rw [List.getElem?_append_right (by omega), show off + j - pre.length = j by omega]; exact hj
theorem zef.kept {e : TypeId} {c n : Nat} {v : Value} {xs : List Value} {R : List Blk} (h : zef e c v n xs R) : ∃ a k, v = .slice a n k ∧ n ≤ k ∧ ZC R fun w => zD w a xs := by
 obtain ⟨hl, ⟨h0, ⟨a, hv⟩, hr⟩ | ⟨g, off, cap, pre, hv, h1, h2, h3, hr⟩⟩ := h
 ·subst h0 hv hr
  have : xs = [] := List.eq_nil_of_length_eq_zero (by simpa using hl)
  subst this
  exact ⟨a, 0, rfl, Nat.le_refl _, ZC.none_ (fun w => zD.nil _ _) _⟩
 ·subst hv hr
  exact ⟨_, _, rfl, h1, ZC.rowAt g off pre xs h3 _ _⟩
section
variable {P : Program}
theorem Hp.newRow {B : Nat} {w0 w : World} {M : List Blk} (hp : Hp B w0 w M) (e : TypeId) (c need gc : Nat) (z : Value) (hzs : z.cells.size = c) (ys : List Value) (hy : ys.length = need * c) (hg : need ≤ gc) :
  Hp B w0 (w.drew.alloc (.cells (ys.toArray ++ Builtin.zeroCells z.cells (gc - need)) e)) (⟨w.heap.size, ys, e, gc * c⟩ :: M) := by
 refine hp.drew.alloc _ ys e _ ?_ ?_
 ·rw [Array.size_append, size_zeroCells, hzs, List.size_toArray, hy, ← Nat.add_mul]
  congr 1; omega
 ·rw [Array.toList_append]; exact List.take_left
variable {ops : Array Oper} {rest : List Oper} {o : Oper} {a : Act} {w : World} {Q : Exit → Act → World → Prop} {w0 : World}
end
def zpG (B : Nat) (w0 : World) (L : List Blk) (Q : World → Prop) : Prop := ∀ w1 L1, Hp B w0 w1 L1 → (∀ p ∈ L, p ∈ L1) → Q w1
theorem zpG.at {B : Nat} {w0 w : World} {L L0 : List Blk} {Q : World → Prop} (h : zpG B w0 L Q) (hp : Hp B w0 w L0) (hm : ∀ p ∈ L, p ∈ L0) : Q w := h _ _ hp hm
open Go.RowKit
theorem zf8.nil : zf8 [] := fun x hx => by cases hx
def zn1 (B : Nat) (w0 : World) (bo : Nat) (xs : List Nat) (L : List Blk) (w : World) : Prop := ∃ a c R, zef 5 1 (.slice a xs.length c) xs.length (xs.flatMap byV) R ∧ Hp B w0 w (⟨bo, [.slice a xs.length c], 116, 1⟩ :: (L ++ R))
theorem zef.keptS {e : TypeId} {c n : Nat} {a : Option Addr} {k : Nat} {xs : List Value} {R : List Blk} (h : zef e c (.slice a n k) n xs R) : ZC R fun w => zD w a xs := by
 obtain ⟨a', k', hv, _, hk⟩ := h.kept
 injection hv with h1 h2 h3
 subst h1
 exact hk
theorem zn1.of {B : Nat} {w0 w : World} {bo n : Nat} {xs : List Nat} {v : Value} {L R : List Blk} (hn : xs.length = n) (h : zef 5 1 v n (xs.flatMap byV) R) (hp : Hp B w0 w (⟨bo, [v], 116, 1⟩ :: (L ++ R))) : zn1 B w0 bo xs L w := by
 obtain ⟨a, k, rfl, hk, hkr⟩ := h.kept
 subst hn
 exact ⟨a, k, R, h, hp⟩
end Go.Proofs.YtaafajaadfgaoaaGreat
