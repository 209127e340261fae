/- A slice argument opened as a row of elements. No program in sight. -/
import Derived.Test.YtbflmnoaiklnbaaSl
import Derived.Test.YtbflmnoaiklnbaaFrame
import Derived.Deep.Slices
import Derived.Deep.Fields
set_option linter.unusedSimpArgs false
set_option linter.unusedVariables false
namespace Go.Proofs.Ytbflmnoaiklnbaa
open Go.RowKit Go.ChangeShapes Go.WideShapes Go.ChangeAt Go.Deep

theorem ok_slice {P : Program} {W : World} {r : Reach} {b : Nat} {t e : TypeId} {v : Value} (hu : P.underlying t = some (.slice e)) (hv : Value.okWide P W r b t v) : ∃ a n k, v = .slice a n k := by
  simp only [Value.okWide, hu] at hv
  unfold Cell.okWide at hv
  rw [hu] at hv
  cases v <;> simp [Cell.ok, hu] at hv
  exact ⟨_, _, _, rfl⟩

section
variable {H : Type} {enc : TypeId × Value → H} {P : Program} {w : World} {base : Nat} {spare : Nat → Bool} {held : Bool}
theorem slice_rows {α : Type} (f : α → List Value) (k : Nat) (hk : 0 < k) (hf : ∀ x, (f x).length = k) {t e : TypeId} {a : Option Addr} {n c : Nat} {d : DataW H} {p : List MemPlace} (ht : P.underlying t = some (.slice e)) (hC : P.cellsOf e = k)
    (hdec : ∀ m cs y, DataW.trod enc P w base spare held m e cs = some y → ∃ x, cs = f x) (h : DataW.Trod enc P w base spare held t (.slice a n c) d p) :
    ∃ l : List α, l.length = n ∧ RowIs w a (l.flatMap f) := by
  obtain ⟨fuel, h⟩ := h
  rcases open_slice ht h with ⟨h0, _⟩ | ⟨ad, len, cap, m, nn, D, Pl, hcs, _, hl, _, hmm, _, hi⟩
  · have : Value.slice a n c = .slice none 0 0 := by simpa [Value.cells] using h0
    injection this with _ h2 _
    exact ⟨[], by simp [h2], RowIs.nil _ _⟩
  · have : Value.slice a n c = .slice (some ad) len cap := by simpa [Value.cells] using hcs
    injection this with h1 h2 _
    subst h1; subst h2
    have hle : n ≤ m := by rw [hmm]; split <;> omega
    have hx : ∀ i : Fin n, ∃ x, w.cells? base (ad.add (i.val * k)) k = some (f x) := fun i => by
      obtain ⟨cs', hc, htr⟩ := hi i.val (by omega)
      rw [hC] at hc
      obtain ⟨x, rfl⟩ := hdec _ _ _ htr
      exact ⟨x, hc⟩
    let g : Fin n → α := fun i => (hx i).choose
    have hg : ∀ i, w.cells? base (ad.add (i.val * k)) k = some (f (g i)) := fun i => (hx i).choose_spec
    refine ⟨List.ofFn g, by simp, fun j v hj => ?_⟩
    have hjl : j < n * k := by
      have := (List.getElem?_eq_some_iff.1 hj).1
      rw [flat_len f k hf] at this
      simpa using this
    have hik : j / k < n := Nat.div_lt_of_lt_mul (by rw [Nat.mul_comm]; exact hjl)
    have hrk : j % k < k := Nat.mod_lt _ hk
    have hgi : (List.ofFn g)[j / k]? = some (g ⟨j / k, hik⟩) := by simp [hik]
    obtain ⟨_, hcl, hat⟩ := World.cells?_some (hg ⟨j / k, hik⟩)
    have hr : (f (g ⟨j / k, hik⟩))[j % k]? = some ((f (g ⟨j / k, hik⟩))[j % k]'(by rw [hf]; exact hrk)) := List.getElem?_eq_getElem _
    have hfl := flat_get f k hf (List.ofFn g) (j / k) (j % k) _ _ hgi hr
    rw [Nat.div_mul_comm_add j k] at hfl
    rw [hj] at hfl
    injection hfl with hfl
    have hcell := hat (j % k) hrk
    rw [hr, ← hfl, add_add] at hcell
    simp only at hcell
    rw [Nat.div_mul_comm_add j k] at hcell
    have h0 : 0 < n := Nat.lt_of_le_of_lt (Nat.zero_le _) hik
    obtain ⟨b, off, spot⟩ := ad
    have hs : spot = none := by
      obtain ⟨_, _, hat0⟩ := World.cells?_some (hg ⟨0, h0⟩)
      have := hat0 0 hk
      rw [List.getElem?_eq_getElem (by rw [hf]; exact hk)] at this
      have := World.cell?_spot this
      simpa [Addr.add] using this
    subst hs
    exact ⟨b, off, rfl, by rw [add_addr] at hcell; exact hcell⟩
where
  Nat.div_mul_comm_add (j k : Nat) : j / k * k + j % k = j := by rw [Nat.mul_comm]; exact Nat.div_add_mod j k

/-- A struct of one-cell numbers. -/
theorem dec_ints {e : TypeId} {fs : Array Field} {m : Nat} {cs : List Value} {y : DataW H × List MemPlace} (he : P.underlying e = some (.struct fs)) (hone : oneCellFields P fs = true) (hC : P.cellsOf e = fs.size)
    (hint : ∀ (i : Nat) (f : Field), fs[i]? = some f → P.underlying f.type = some (.int .i64)) (h : DataW.trod enc P w base spare held m e cs = some y) :
    cs.length = fs.size ∧ ∀ i, i < fs.size → ∃ z, cs[i]? = some (.int .i64 z) := by
  obtain ⟨ys, n', _, _, hlen, hyl, hf⟩ := DataW.trod_struct he h
  rw [hC] at hlen
  refine ⟨hlen, fun i hi => ?_⟩
  have hfi : fs[i]? = some fs[i] := by simp [hi]
  obtain ⟨ho, hk⟩ := hone_of hone i _ hfi
  have h1 := hf i _ hfi
  have htk : (cs.drop i).take 1 = [cs[i]'(by omega)] := by rw [List.drop_eq_getElem_cons (by omega)]; rfl
  rw [ho, hk, htk, List.getElem?_eq_getElem (by omega)] at h1
  obtain ⟨z, hz, _⟩ := DataW.trod_int (hint i _ hfi) h1
  refine ⟨z, ?_⟩
  rw [List.getElem?_eq_getElem (by omega)]
  have hz' : [cs[i]'(by omega)] = [.int .i64 z] := hz
  injection hz' with hz' _
  rw [hz']
end
end Go.Proofs.Ytbflmnoaiklnbaa
