/- Heaps and states by their cells. No program in sight. -/
import Derived.Test.YtbflmnoaiklnbaaHv
import Derived.Test.YtbflmnoaiklnbaaBSpec
set_option linter.unusedSimpArgs false
set_option linter.unusedVariables false
namespace Go.Proofs.Ytbflmnoaiklnbaa
open Go.RowKit
structure Hv where
  od : Int
  oa : Option Addr
  os : List Ob
  oc : Nat
  nx : Int
  t0 : Int
  t1 : Int
  t2 : Int
  t3 : Int
  fa : Option Addr
  fs : List Bl
  fc : Nat
def hvL (x : Hv) : List Value := [.int .i64 x.od, .slice x.oa x.os.length x.oc, .int .i64 x.nx, .int .i64 x.t0, .int .i64 x.t1, .int .i64 x.t2, .int .i64 x.t3, .slice x.fa x.fs.length x.fc]
def Hv.Is (w : World) (x : Hv) : Prop := RowIs w x.oa (x.os.flatMap obV) ∧ (∀ o ∈ x.os, o.Is w) ∧ RowIs w x.fa (x.fs.flatMap blV)
/-- The same objects, one by one. -/
def ObsSm (l k : List Ob) : Prop := l.length = k.length ∧ ∀ (i : Nat) a b, l[i]? = some a → k[i]? = some b → a.Sm b
structure Hv.Sm (x y : Hv) : Prop where
  od : x.od = y.od
  nx : x.nx = y.nx
  t0 : x.t0 = y.t0
  t1 : x.t1 = y.t1
  t2 : x.t2 = y.t2
  t3 : x.t3 = y.t3
  os : ObsSm x.os y.os
  fs : x.fs = y.fs
def ObsSmall (l : List Ob) : Prop := l.length ≤ 600 ∧ ∀ o ∈ l, o.ws.length ≤ 5000 ∧ o.ls.length ≤ 5000
def Hv.Small (x : Hv) : Prop := ObsSmall x.os ∧ x.fs.length ≤ 600
theorem ObsSm.refl (l : List Ob) : ObsSm l l := ⟨rfl, fun i a b h1 h2 => by rw [h1] at h2; injection h2 with h2; subst h2; exact Ob.Sm.rfl_ _⟩
theorem ObsSm.symm {l k : List Ob} (h : ObsSm l k) : ObsSm k l := ⟨h.1.symm, fun i a b h1 h2 => (h.2 i b a h2 h1).symm⟩
theorem Hv.Sm.refl (x : Hv) : x.Sm x := ⟨rfl, rfl, rfl, rfl, rfl, rfl, ObsSm.refl _, rfl⟩
theorem Hv.Sm.symm {x y : Hv} (h : x.Sm y) : y.Sm x := ⟨h.od.symm, h.nx.symm, h.t0.symm, h.t1.symm, h.t2.symm, h.t3.symm, h.os.symm, h.fs.symm⟩
theorem Hv.Is.below {w w' : World} {x : Hv} (h : x.Is w) (hb : Below w.heap.size w w') : x.Is w' := ⟨h.1.below hb, fun o ho => (h.2.1 o ho).below hb, h.2.2.below hb⟩
theorem ObsSm.snoc {l k : List Ob} {n : Nat} {x y : Ob} (hx : l[n]? = some x) (hy : x.Sm y) (hk : k.length = n) (h : ∀ (i : Nat) a b, l[i]? = some a → k[i]? = some b → a.Sm b) :
    ∀ (i : Nat) a b, l[i]? = some a → (k ++ [y])[i]? = some b → a.Sm b := by
  intro i a b h1 h2
  rcases Nat.lt_or_ge i k.length with hi | hi
  · rw [List.getElem?_append_left hi] at h2
    exact h i a b h1 h2
  · rw [List.getElem?_append_right hi] at h2
    rcases Nat.lt_or_ge (i - k.length) 1 with h3 | h3
    · have : i = n := by omega
      subst this
      rw [hk, Nat.sub_self] at h2
      simp at h2
      subst h2
      rw [hx] at h1
      injection h1 with h1
      subst h1
      exact hy
    · rw [List.getElem?_eq_none (by simpa using h3)] at h2
      cases h2
theorem obs_snoc (k : List Ob) (y : Ob) : (k ++ [y]).flatMap obV = k.flatMap obV ++ obV y := by simp [List.flatMap_append]
theorem Ob.Sm.trans {x y z : Ob} (h : x.Sm y) (k : y.Sm z) : x.Sm z := by
  obtain ⟨h1, h2, h3, h4, h5⟩ := h
  obtain ⟨k1, k2, k3, k4, k5⟩ := k
  exact ⟨h1.trans k1, h2.trans k2, h3.trans k3, h4.trans k4, h5.trans k5⟩
theorem ObsSm.trans {l k m : List Ob} (h : ObsSm l k) (h' : ObsSm k m) : ObsSm l m := ⟨h.1.trans h'.1, fun i a c h1 h2 => by
  obtain ⟨hlt, _⟩ := List.getElem?_eq_some_iff.1 h1
  have hb := List.getElem?_eq_getElem (l := k) (i := i) (by have := h.1; omega)
  exact (h.2 i _ _ h1 hb).trans (h'.2 i _ _ hb h2)⟩
theorem Hv.Sm.trans {x y z : Hv} (h : x.Sm y) (k : y.Sm z) : x.Sm z := ⟨h.od.trans k.od, h.nx.trans k.nx, h.t0.trans k.t0, h.t1.trans k.t1, h.t2.trans k.t2, h.t3.trans k.t3, h.os.trans k.os, h.fs.trans k.fs⟩
theorem Hv.Small.sm {x y : Hv} (h : x.Small) (k : x.Sm y) : y.Small := by
  obtain ⟨⟨h1, h2⟩, h3⟩ := h
  refine ⟨⟨by rw [← k.os.1]; exact h1, fun o ho => ?_⟩, by rw [← k.fs]; exact h3⟩
  obtain ⟨i, hi, rfl⟩ := List.getElem_of_mem ho
  have ha := List.getElem?_eq_getElem (l := x.os) (i := i) (by have := k.os.1; omega)
  obtain ⟨_, _, _, h4, h5⟩ := k.os.2 i _ _ ha (List.getElem?_eq_getElem hi)
  rw [← h4, ← h5]
  exact h2 _ (List.getElem_mem _)
structure Rw where
  c : Int
  s : Int
  e : Int
  v : Int
  deriving DecidableEq
def rwV (x : Rw) : List Value := [.int .i64 x.c, .int .i64 x.s, .int .i64 x.e, .int .i64 x.v]
theorem rwV_len (x : Rw) : (rwV x).length = 4 := rfl
structure Sv where
  hv : Hv
  ra : Option Addr
  rs : List Rw
  rc : Nat
def svL (x : Sv) : List Value := hvL x.hv ++ [.slice x.ra x.rs.length x.rc]
def Sv.Is (w : World) (x : Sv) : Prop := x.hv.Is w ∧ RowIs w x.ra (x.rs.flatMap rwV)
def Sv.Sm (x y : Sv) : Prop := x.hv.Sm y.hv ∧ x.rs = y.rs
def Sv.Small (x : Sv) : Prop := x.hv.Small ∧ x.rs.length ≤ 1000
theorem Sv.Sm.symm {x y : Sv} (h : x.Sm y) : y.Sm x := ⟨h.1.symm, h.2.symm⟩
theorem Sv.Sm.trans {x y z : Sv} (h : x.Sm y) (k : y.Sm z) : x.Sm z := ⟨h.1.trans k.1, h.2.trans k.2⟩
theorem Sv.Small.sm {x y : Sv} (h : x.Small) (k : x.Sm y) : y.Small := ⟨h.1.sm k.1, by rw [← k.2]; exact h.2⟩
theorem Sv.Is.below {w w' : World} {x : Sv} (h : x.Is w) (hb : Below w.heap.size w w') : x.Is w' := ⟨h.1.below hb, h.2.below hb⟩
end Go.Proofs.Ytbflmnoaiklnbaa
