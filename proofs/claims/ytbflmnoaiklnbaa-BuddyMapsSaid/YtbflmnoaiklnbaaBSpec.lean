/- Blocks of a region: the plain law. No program in sight. -/
import Derived.Test.YtbflmnoaiklnbaaSl
set_option linter.unusedSimpArgs false
set_option linter.unusedVariables false
namespace Go.Proofs.Ytbflmnoaiklnbaa

structure Bl where
  p : Int
  o : Int
  deriving DecidableEq
def blV (x : Bl) : List Value := [.int .i64 x.p, .int .i64 x.o]
theorem blV_len (x : Bl) : (blV x).length = 2 := rfl
/-- 2 to an order. -/
def pw (o : Int) : Int := (2 : Int) ^ o.toNat
theorem pw_pos (o : Int) : 1 ≤ pw o := by
  unfold pw
  have := Int.pow_pos (n := 2) (m := o.toNat) (by omega)
  omega
theorem pw_cases {o : Int} (h0 : 0 ≤ o) (h8 : o ≤ 8) : o = 0 ∨ o = 1 ∨ o = 2 ∨ o = 3 ∨ o = 4 ∨ o = 5 ∨ o = 6 ∨ o = 7 ∨ o = 8 := by omega
theorem pw_le {o : Int} (h8 : o ≤ 8) : pw o ≤ 256 := by
  rcases Int.le_total 0 o with h | h
  · rcases pw_cases h h8 with rfl | rfl | rfl | rfl | rfl | rfl | rfl | rfl | rfl <;> decide
  · have : o.toNat = 0 := by omega
    unfold pw; rw [this]; decide
theorem pw_succ {o : Int} (h : 0 ≤ o) : pw (o + 1) = 2 * pw o := by
  unfold pw
  have : (o + 1).toNat = o.toNat + 1 := by omega
  rw [this, Int.pow_succ]; omega
theorem pw_low {o : Int} (h : o ≤ 0) : pw o = 1 := by
  have : o.toNat = 0 := by omega
  unfold pw; rw [this]; decide
theorem pw_mono {a b : Int} (h : a ≤ b) : pw a ≤ pw b := by
  unfold pw
  have h' : a.toNat ≤ b.toNat := by omega
  exact_mod_cast Nat.pow_le_pow_right (by omega) h'

/-- May a block be in a region? -/
def MayP (order : Int) (x : Bl) : Prop := 0 ≤ x.o ∧ x.o ≤ order ∧ 0 ≤ x.p ∧ x.p ≤ pw order - pw x.o ∧ x.p % pw x.o = 0
instance (order : Int) (x : Bl) : Decidable (MayP order x) := by unfold MayP; infer_instance
def twinP (x : Bl) : Bl := if x.p % (2 * pw x.o) = 0 then ⟨x.p + pw x.o, x.o⟩ else ⟨x.p - pw x.o, x.o⟩
/-- Block y, which stands behind x, is right there. -/
def Pair (order : Int) (x y : Bl) : Prop := x.p + pw x.o ≤ y.p ∧ ¬ (y.o < order ∧ twinP y = x)
def Good (order : Int) (l : List Bl) : Prop := ∀ i y, l[i]? = some y → MayP order y ∧ ∀ (k : Nat) x, k < i → l[k]? = some x → Pair order x y
def regionB (order : Int) : Bool := decide (3 ≤ order ∧ order ≤ 8)
open Classical in
noncomputable def rightB (order : Int) (l : List Bl) : Bool := regionB order && decide (Good order l)

theorem Good.take {order : Int} {l : List Bl} (h : Good order l) (n : Nat) : Good order (l.take n) := by
  intro i y hi
  rw [List.getElem?_take] at hi
  split at hi
  · obtain ⟨h1, h2⟩ := h i y hi
    refine ⟨h1, fun k x hk hx => ?_⟩
    rw [List.getElem?_take, if_pos (by omega)] at hx
    exact h2 k x hk hx
  · cases hi
theorem Good.nil (order : Int) : Good order [] := by intro i y h; simp at h
/-- One block more. -/
theorem Good.snoc {order : Int} {l : List Bl} {n : Nat} {y : Bl} (hy : l[n]? = some y) : Good order (l.take (n + 1)) ↔ Good order (l.take n) ∧ MayP order y ∧ ∀ (k : Nat) x, k < n → l[k]? = some x → Pair order x y := by
  constructor
  · intro h
    refine ⟨?_, ?_⟩
    · have := h.take n
      rw [List.take_take, Nat.min_eq_left (by omega)] at this
      exact this
    · obtain ⟨h1, h2⟩ := h n y (by rw [List.getElem?_take, if_pos (by omega)]; exact hy)
      exact ⟨h1, fun k x hk hx => h2 k x hk (by rw [List.getElem?_take, if_pos (by omega)]; exact hx)⟩
  · rintro ⟨h1, h2, h3⟩ i z hi
    rw [List.getElem?_take] at hi
    split at hi
    · by_cases hin : i = n
      · subst hin
        rw [hy] at hi
        cases hi
        refine ⟨h2, fun k x hk hx => ?_⟩
        rw [List.getElem?_take] at hx
        split at hx
        · exact h3 k x hk hx
        · cases hx
      · obtain ⟨h4, h5⟩ := h1 i z (by rw [List.getElem?_take, if_pos (by omega)]; exact hi)
        refine ⟨h4, fun k x hk hx => h5 k x hk ?_⟩
        rw [List.getElem?_take] at hx ⊢
        rw [if_pos (by omega)] at hx
        rw [if_pos (by omega)]; exact hx
    · cases hi

theorem MayP.end_le {order : Int} {x : Bl} (h : MayP order x) : x.p + pw x.o ≤ pw order := by have := h.2.2.2.1; omega

/-- The blocks end one behind the other. -/
theorem Good.long {order : Int} {l : List Bl} (h : Good order l) : ∀ (i : Nat) y, l[i]? = some y → (i : Int) ≤ y.p := by
  intro i
  induction i with
  | zero => intro y hy; have := (h 0 y hy).1.2.2.1; omega
  | succ i ih =>
    intro y hy
    have hlt : i + 1 < l.length := (List.getElem?_eq_some_iff.1 hy).1
    have hx : l[i]? = some l[i] := List.getElem?_eq_getElem (by omega)
    have h1 := ih _ hx
    have h2 := ((h (i + 1) y hy).2 i _ (by omega) hx).1
    have h3 := pw_pos l[i].o
    omega
theorem Good.len {order : Int} {l : List Bl} (h : Good order l) (h0 : 3 ≤ order) : (l.length : Int) ≤ pw order := by
  rcases Nat.eq_zero_or_pos l.length with hl | hl
  · have := pw_pos order; omega
  · have hx : l[l.length - 1]? = some l[l.length - 1] := List.getElem?_eq_getElem (by omega)
    have h1 := h.long _ _ hx
    have h2 := (h _ _ hx).1.end_le
    have h3 := pw_pos l[l.length - 1].o
    omega

/-- The way Check goes: only the block just ahead is asked. -/
theorem Good.step {order : Int} {l : List Bl} {n : Nat} {y z : Bl} (hg : Good order (l.take (n + 1))) (hz : l[n]? = some z) (hm : MayP order y) (he : z.p + pw z.o ≤ y.p) (ht : ¬ (y.o < order ∧ twinP y = z)) :
    ∀ (k : Nat) x, k < n + 1 → l[k]? = some x → Pair order x y := by
  obtain ⟨_, _, h3⟩ := (Good.snoc hz).1 hg
  intro k x hk hx
  by_cases hkn : k = n
  · subst hkn
    rw [hz] at hx; cases hx
    exact ⟨he, ht⟩
  · have h4 := (h3 k x (by omega) hx).1
    have h5 := pw_pos z.o
    have h7 := pw_pos y.o
    refine ⟨by omega, ?_⟩
    rintro ⟨_, h6⟩
    subst h6
    unfold twinP at h4
    split at h4 <;> simp only at h4 <;> omega
theorem Good.pair_last {order : Int} {l : List Bl} {n : Nat} {y z : Bl} (hz : l[n]? = some z) (h : ∀ (k : Nat) x, k < n + 1 → l[k]? = some x → Pair order x y) : z.p + pw z.o ≤ y.p ∧ ¬ (y.o < order ∧ twinP y = z) := h n z (by omega) hz
end Go.Proofs.Ytbflmnoaiklnbaa
