/- Values opened part by part: a struct's field, an array of four, a slice whose elements hold slices. No program in sight. -/
import Derived.Test.YtinlmcdphhmhjaaOpen
import Derived.OpenShut
set_option linter.unusedSimpArgs false
set_option linter.unusedVariables false
namespace Go.Proofs.Ytinlmcdphhmhjaa
open Go.RowKit Go.ChangeShapes Go.WideShapes Go.ChangeAt Go.Deep
section
variable {H : Type} {enc : TypeId × Value → H} {P : Program} {w : World} {base : Nat} {spare : Nat → Bool} {held : Bool}
/-- What a value of a type reads as. -/
def Reads (H : Type) (enc : TypeId × Value → H) (P : Program) (w : World) (base : Nat) (spare : Nat → Bool) (held : Bool) (t : TypeId) (cs : List Value) : Prop := ∃ m y, DataW.trod enc P w base spare held m t cs = some y
theorem Reads.of {m : Nat} {t : TypeId} {cs : List Value} {y : DataW H × List MemPlace} (h : DataW.trod enc P w base spare held m t cs = some y) : Reads H enc P w base spare held t cs := ⟨m, y, h⟩
theorem Reads.struct {t : TypeId} {cs : List Value} {fs : Array Field} (h : Reads H enc P w base spare held t cs) (ht : P.underlying t = some (.struct fs)) :
    cs.length = P.cellsOf t ∧ ∀ (i : Nat) (f : Field), fs[i]? = some f → ∀ o k, f.offset = o → P.cellsOf f.type = k → Reads H enc P w base spare held f.type ((cs.drop o).take k) := by
  obtain ⟨m, y, h⟩ := h
  obtain ⟨xs, n, _, _, hl, hx, hf⟩ := DataW.trod_struct ht h
  refine ⟨hl, fun i f hi o k ho hk => ?_⟩
  subst ho hk
  have h1 := hf i f hi
  have hlt : i < xs.length := by rw [hx]; exact (Array.getElem?_eq_some_iff.1 hi).1
  rw [List.getElem?_eq_getElem hlt] at h1
  exact ⟨n, _, h1⟩
theorem Reads.int {t : TypeId} {cs : List Value} {k : IntKind} (h : Reads H enc P w base spare held t cs) (ht : P.underlying t = some (.int k)) : ∃ n, cs = [.int k n] ∧ k.has n := by
  obtain ⟨m, y, h⟩ := h
  obtain ⟨n, hn, _, hw⟩ := DataW.trod_int ht h
  refine ⟨n, hn, ?_⟩
  simpa [Lit.wf, IntKind.has] using hw
theorem Reads.bool {t : TypeId} {cs : List Value} (h : Reads H enc P w base spare held t cs) (ht : P.underlying t = some .bool) : ∃ b, cs = [.bool b] := by
  obtain ⟨m, y, h⟩ := h
  obtain ⟨b, hb, _⟩ := DataW.trod_bool ht h
  exact ⟨b, hb⟩
theorem Reads.four {t e : TypeId} {cs : List Value} (h : Reads H enc P w base spare held t cs) (ht : P.underlying t = some (.array 4 e)) (he : P.underlying e = some (.int .i64)) (hC : P.cellsOf e = 1) (hD : P.cellsOf t = 4) :
    ∃ a b c d, cs = [.int .i64 a, .int .i64 b, .int .i64 c, .int .i64 d] := by
  obtain ⟨m, y, h⟩ := h
  obtain ⟨xs, n, _, _, hl, hx, hf⟩ := DataW.trod_array ht h
  rw [hD] at hl
  match cs, hl with
  | [v0, v1, v2, v3], _ =>
    have g : ∀ i, i < 4 → ∃ z, (([v0, v1, v2, v3] : List Value).drop (i * 1)).take 1 = [.int .i64 z] := fun i hi => by
      have h1 := hf i hi
      rw [hC, List.getElem?_eq_getElem (by omega)] at h1
      obtain ⟨z, hz, _⟩ := DataW.trod_int he h1
      exact ⟨z, hz⟩
    obtain ⟨a, ha⟩ := g 0 (by omega)
    obtain ⟨b, hb⟩ := g 1 (by omega)
    obtain ⟨c, hc⟩ := g 2 (by omega)
    obtain ⟨d, hd⟩ := g 3 (by omega)
    simp at ha hb hc hd
    exact ⟨a, b, c, d, by rw [ha, hb, hc, hd]⟩
theorem Reads.slice {α : Type} (f : α → List Value) (G : α → Prop) (k : Nat) (hk : 0 < k) (hf : ∀ x, (f x).length = k) {t e : TypeId} {cs : List Value} (h : Reads H enc P w base spare held t cs) (ht : P.underlying t = some (.slice e)) (hC : P.cellsOf e = k)
    (hdec : ∀ cs, Reads H enc P w base spare held e cs → ∃ x, cs = f x ∧ G x) :
    ∃ (a : Option Addr) (l : List α) (c : Nat), cs = [.slice a l.length c] ∧ RowIs w a (l.flatMap f) ∧ ∀ x ∈ l, G x := by
  obtain ⟨m, y, h⟩ := h
  rcases open_slice ht h with ⟨rfl, _⟩ | ⟨ad, n, cap, m, nn, D, Pl, rfl, _, hl, _, hmm, _, hi⟩
  · exact ⟨none, [], 0, rfl, RowIs.nil _ _, fun x hx => by cases hx⟩
  · have hle : n ≤ m := by rw [hmm]; split <;> omega
    have hx : ∀ i : Fin n, ∃ x, w.cells? base (ad.add (i.val * k)) k = some (f x) ∧ G x := fun i => by
      obtain ⟨cs', hc, htr⟩ := hi i.val (by omega)
      rw [hC] at hc
      obtain ⟨x, rfl, hg⟩ := hdec _ ⟨_, _, htr⟩
      exact ⟨x, hc, hg⟩
    let g : Fin n → α := fun i => (hx i).choose
    have hg : ∀ i, w.cells? base (ad.add (i.val * k)) k = some (f (g i)) := fun i => (hx i).choose_spec.1
    refine ⟨some ad, List.ofFn g, cap, by simp, fun j v hj => ?_, fun x hx' => ?_⟩
    · have hjl : j < n * k := by
        have := (List.getElem?_eq_some_iff.1 hj).1
        rw [flat_len f k hf] at this
        simpa using this
      have hik : j / k < n := Nat.div_lt_of_lt_mul (by rw [Nat.mul_comm]; exact hjl)
      have hrk : j % k < k := Nat.mod_lt _ hk
      have hgi : (List.ofFn g)[j / k]? = some (g ⟨j / k, hik⟩) := by simp [hik]
      obtain ⟨_, hcl, hat⟩ := World.cells?_some (hg ⟨j / k, hik⟩)
      have hr : (f (g ⟨j / k, hik⟩))[j % k]? = some ((f (g ⟨j / k, hik⟩))[j % k]'(by rw [hf]; exact hrk)) := List.getElem?_eq_getElem _
      have hdm : j / k * k + j % k = j := by rw [Nat.mul_comm]; exact Nat.div_add_mod j k
      have hfl := flat_get f k hf (List.ofFn g) (j / k) (j % k) _ _ hgi hr
      rw [hdm] at hfl
      rw [hj] at hfl
      injection hfl with hfl
      have hcell := hat (j % k) hrk
      rw [hr, ← hfl, add_add] at hcell
      simp only at hcell
      rw [hdm] at hcell
      have h0 : 0 < n := Nat.lt_of_le_of_lt (Nat.zero_le _) hik
      obtain ⟨b, off, spot⟩ := ad
      have hs : spot = none := by
        obtain ⟨_, _, hat0⟩ := World.cells?_some (hg ⟨0, h0⟩)
        have := hat0 0 hk
        rw [List.getElem?_eq_getElem (by rw [hf]; exact hk)] at this
        have := World.cell?_spot this
        simpa [Addr.add] using this
      subst hs
      exact ⟨b, off, rfl, by rw [add_addr] at hcell; exact hcell⟩
    · obtain ⟨i, rfl⟩ := List.mem_ofFn.1 hx'
      exact (hx i).choose_spec.2
end
end Go.Proofs.Ytinlmcdphhmhjaa
