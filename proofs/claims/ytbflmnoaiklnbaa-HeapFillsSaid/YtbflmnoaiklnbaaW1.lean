/- What is written is read, and changes nothing else: the plain law. No program in sight. -/
import Derived.Test.YtbflmnoaiklnbaaDV
set_option linter.unusedSimpArgs false
set_option linter.unusedVariables false
namespace Go.Proofs.Ytbflmnoaiklnbaa
def opR (b k : Int) : Opd := ⟨6, b, k, 0, 0, 0, 0⟩
def opW (a i v : Int) : Opd := ⟨3, a, i, 0, 0, v, 0⟩
theorem place_congr : ∀ {l k : List Ob}, l.map (·.h) = k.map (·.h) → ∀ h, placeO l h = placeO k h
  | [], [], _, _ => rfl
  | [], _ :: _, e, _ => by simp at e
  | _ :: _, [], e, _ => by simp at e
  | a :: l, b :: k, e, h => by
    simp only [List.map_cons, List.cons.injEq] at e
    unfold placeO
    rw [e.1, place_congr e.2 h]
theorem map_set_same {α β : Type} (f : α → β) {l : List α} {i : Nat} {a b : α} (ha : l[i]? = some a) (h : f b = f a) : (l.set i b).map f = l.map f := by
  rw [List.map_set, h, set_same (by rw [List.getElem?_map, ha]; rfl)]
theorem place_set {l : List Ob} {i : Nat} {a b : Ob} (ha : l[i]? = some a) (h : b.h = a.h) (t : Int) : placeO (l.set i b) t = placeO l t := place_congr (map_set_same _ ha h) t
def readP (x : Hv) (w : Bool) (b k : Int) : Int × Int := match placeO x.os b with
  | none => (51, 0)
  | some i => match x.os[i]? with
    | none => (51, 0)
    | some g => if k < 0 ∨ (((if w then g.ws else g.ls).length : Nat) : Int) ≤ k then (52, 0) else (0, (if w then g.ws else g.ls).getD k.toNat 0)
theorem doC_read (x : Hv) (b k : Int) : doC x (opR b k) = (x, readP x true b k) := by
  unfold doC opR atC readP rowC
  simp only [Int.reduceEq, if_false, if_true, or_false, or_true, false_or]
  cases placeO x.os b with
  | none => rfl
  | some i =>
    simp only
    cases x.os[i]? with
    | none => rfl
    | some g => simp only; split <;> rfl
theorem getD_set_ne {l : List Int} {q r : Nat} {v : Int} (h : r ≠ q) : (l.set q v).getD r 0 = l.getD r 0 := by
  rw [List.getD_eq_getElem?_getD, List.getD_eq_getElem?_getD, List.getElem?_set_ne (Ne.symm h)]
theorem write_ok {x : Hv} {a i v : Int} (h : (doC x (opW a i v)).2.1 = 0) : ∃ (i0 : Nat) (g : Ob) (q : Nat), placeO x.os a = some i0 ∧ x.os[i0]? = some g ∧ i = q ∧ q < g.ws.length ∧ doC x (opW a i v) = (writeH x i0 g q v, 0, 0) := by
  unfold doC opW atC rowC at h ⊢
  simp only [Int.reduceEq, if_false, if_true, or_false, or_true, false_or] at h ⊢
  cases hp : placeO x.os a with
  | none => rw [hp] at h; simp at h
  | some i0 =>
    rw [hp] at h
    simp only at h ⊢
    cases hg : x.os[i0]? with
    | none => rw [hg] at h; simp at h
    | some g =>
      rw [hg] at h
      simp only at h ⊢
      by_cases hi : i < 0 ∨ (g.ws.length : Int) ≤ i
      · rw [if_pos hi] at h; simp at h
      · rw [if_neg hi]
        exact ⟨i0, g, i.toNat, rfl, hg, by omega, by omega, rfl⟩
theorem words_read {x : Hv} {a : Int} {i0 q : Nat} {g : Ob} {v : Int} (hp : placeO x.os a = some i0) (hg : x.os[i0]? = some g) (hq : q < g.ws.length) (b k : Int) :
    readP (writeH x i0 g q v) true a q = (0, v) ∧ ((a = b ∧ (q : Int) = k) ∨ readP x true b k = readP (writeH x i0 g q v) true b k) := by
  have hlt := (List.getElem?_eq_some_iff.1 hg).1
  have hps : ∀ t, placeO (writeH x i0 g q v).os t = placeO x.os t := fun t => place_set (b := { g with ws := g.ws.set q v }) hg rfl t
  have hself : (writeH x i0 g q v).os[i0]? = some { g with ws := g.ws.set q v } := by simp only [writeH]; rw [List.getElem?_set_self hlt]
  constructor
  · unfold readP
    rw [hps, hp]
    simp only [hself, if_true, List.length_set]
    rw [if_neg (by omega)]
    simp [hq]
  · by_cases hab : a = b ∧ (q : Int) = k
    · exact .inl hab
    · right
      unfold readP
      rw [hps]
      cases hpb : placeO x.os b with
      | none => rfl
      | some i1 =>
        simp only
        by_cases h1 : i1 = i0
        · subst h1
          have e1 : a = b := by
            obtain ⟨o1, a1, a2, _⟩ := place_some hp
            obtain ⟨o2, b1, b2, _⟩ := place_some hpb
            rw [a1] at b1; injection b1 with b1; rw [← a2, ← b2, b1]
          rw [hself, hg]
          simp only [if_true, List.length_set]
          split
          · rfl
          · rw [getD_set_ne (by intro h; apply hab; exact ⟨e1, by omega⟩)]
        · have : (writeH x i0 g q v).os[i1]? = x.os[i1]? := by simp only [writeH]; rw [List.getElem?_set_ne (Ne.symm h1)]
          rw [this]
theorem doP_fail {x : Hv} {o : Opd} (h : (doP x o).2.1 = 0) : HRight x := by
  cases hb : hrightB x with
  | true => exact hright_of hb
  | false => rw [doP_no hb] at h; simp at h
theorem words_eq {x y : Hv} {a i b k v : Int} (hc : (doP x (opW a i v)).2.1 = 0) (hy : y.Sm (doP x (opW a i v)).1) :
    (doP y (opR a i)).2 = (0, v) ∧ ((a = b ∧ i = k) ∨ (doP x (opR b k)).2 = (doP y (opR b k)).2) := by
  have hx := doP_fail hc
  rw [doP_yes hx] at hc hy
  obtain ⟨i0, g, q, hp, hg, rfl, hq, hw⟩ := write_ok hc
  rw [hw] at hy
  have hz : HRight (writeH x i0 g q v) := right_write hx hg q v
  rw [(doP_sm hy _).1, (doP_sm hy _).1, doP_yes hx, doP_yes hz, doP_yes hz, doC_read, doC_read, doC_read]
  exact words_read hp hg hq b k
end Go.Proofs.Ytbflmnoaiklnbaa
