/- The document's answer to a taking: the plain law. No program in sight. -/
import Derived.Test.YtbflmnoaiklnbaaGS
import Derived.Test.YtbflmnoaiklnbaaTKS
import Derived.Test.YtbflmnoaiklnbaaBBest
set_option linter.unusedSimpArgs false
set_option linter.unusedVariables false
namespace Go.Proofs.Ytbflmnoaiklnbaa
def splitL : List Bl → Int → Int → Nat → List Bl
  | out, _, _, 0 => out
  | out, p, o, n + 1 => splitL (withL out ⟨p + pw (o - 1), o - 1⟩) p (o - 1) n
def takenL (fs : List Bl) (b : Bl) (want : Int) : List Bl := splitL (without fs b) b.p b.o (b.o - want).toNat
theorem withL_disj {l : List Bl} {b : Bl} (hl : Disj l) (hb : ∀ x ∈ l, x.p + pw x.o ≤ b.p ∨ b.p + pw b.o ≤ x.p) : Disj (withL l b) := by
  induction l with
  | nil => exact List.pairwise_singleton _ _
  | cons x r ih =>
    obtain ⟨h1, h2⟩ := List.pairwise_cons.1 hl
    have hx := hb x (by simp)
    have px := pw_pos x.o
    have pb := pw_pos b.o
    unfold withL
    split
    · rename_i hlt
      refine List.pairwise_cons.2 ⟨fun y hy => ?_, hl⟩
      rcases List.mem_cons.1 hy with rfl | hy
      · omega
      · have := h1 y hy; omega
    · rename_i hlt
      refine List.pairwise_cons.2 ⟨fun y hy => ?_, ih h2 (fun y hy => hb y (by simp [hy]))⟩
      rcases List.mem_cons.1 ((withL_perm r b).mem_iff.1 hy) with rfl | hy
      · omega
      · exact h1 y hy
theorem sorted_uniq : ∀ {r s : List Bl}, s.Perm r → s.Pairwise (fun x y => x.p ≤ y.p) → Disj r → s = r
  | [], s, h, _, _ => h.eq_nil
  | x :: r, s, h, hs, hr => by
    cases s with
    | nil => exact absurd h.symm (by simp)
    | cons y s =>
      obtain ⟨s1, s2⟩ := List.pairwise_cons.1 hs
      obtain ⟨r1, r2⟩ := List.pairwise_cons.1 hr
      have hxy : y = x := by
        have hy : y ∈ x :: r := h.mem_iff.1 (by simp)
        have hx : x ∈ y :: s := h.mem_iff.2 (by simp)
        rcases List.mem_cons.1 hy with h1 | h1
        · exact h1
        · rcases List.mem_cons.1 hx with h2 | h2
          · exact h2.symm
          · have := r1 y h1
            have := s1 x h2
            have := pw_pos x.o
            omega
      subst hxy
      rw [sorted_uniq (List.Perm.cons_inv h) s2 r2]
/-- Blocks that leave this place free. -/
def Leaves (p o : Int) (l : List Bl) : Prop := Disj l ∧ ∀ x ∈ l, x.p + pw x.o ≤ p ∨ p + pw o ≤ x.p
theorem Leaves.step {p o : Int} {l : List Bl} (h : Leaves p o l) (ho : 1 ≤ o) : Leaves p (o - 1) (withL l ⟨p + pw (o - 1), o - 1⟩) := by
  have hs := pw_succ (o := o - 1) (by omega)
  rw [show o - 1 + 1 = o by omega] at hs
  have hp := pw_pos (o - 1)
  refine ⟨withL_disj h.1 (fun x hx => ?_), fun x hx => ?_⟩
  · have := h.2 x hx; simp only; omega
  · rcases List.mem_cons.1 ((withL_perm _ _).mem_iff.1 hx) with rfl | hx
    · right; exact Int.le_refl _
    · have := h.2 x hx; omega
theorem Leaves.split {p : Int} : ∀ (n : Nat) {o : Int} {l : List Bl}, Leaves p o l → n ≤ o → Leaves p (o - n) (splitL l p o n)
  | 0, o, l, h, _ => by rw [splitL]; simpa using h
  | n + 1, o, l, h, hn => by
    have := Leaves.split n (h.step (by omega)) (by omega)
    rw [splitL, show o - ((n + 1 : Nat) : Int) = o - 1 - n by omega]
    exact this
theorem hv_cons (p o : Int) : ∀ n : Nat, hv p o (n + 1) = ⟨p + pw (o - 1), o - 1⟩ :: hv p (o - 1) n
  | 0 => by simp [hv]
  | n + 1 => by
    rw [hv, hv_cons p o n, hv]
    simp only [List.cons_append]
    rw [show o - ((n + 1 : Nat) : Int) - 1 = o - 1 - n - 1 by omega]
theorem split_perm : ∀ (n : Nat) {p o : Int} {l : List Bl}, (splitL l p o n).Perm (l ++ hv p o n)
  | 0, p, o, l => by rw [splitL, hv, List.append_nil]
  | n + 1, p, o, l => by
    rw [splitL, hv_cons]
    refine (split_perm n).trans ?_
    refine ((withL_perm _ _).append_right _).trans ?_
    rw [List.cons_append]
    exact List.perm_middle.symm
theorem without_perm {l : List Bl} {v : Bl} (hn : l.Nodup) (hv : v ∈ l) : (v :: without l v).Perm l := by
  obtain ⟨j, hj, rfl⟩ := List.getElem_of_mem hv
  rw [← erase_without hn (List.getElem?_eq_getElem hj)]
  rw [List.eraseIdx_eq_take_drop_succ]
  have h := List.perm_middle (a := l[j]) (l₁ := l.take j) (l₂ := l.drop (j + 1))
  rw [← List.drop_eq_getElem_cons hj, List.take_append_drop] at h
  exact h.symm
theorem without_leaves {l : List Bl} {v : Bl} (hd : Disj l) (hv : v ∈ l) : Leaves v.p v.o (without l v) := by
  refine ⟨hd.sub (without_sub _ _), fun x hx => ?_⟩
  obtain ⟨h1, h2⟩ := List.mem_filter.1 hx
  have h3 := hd.apart h1 hv (by simpa using h2)
  unfold MeetP at h3
  omega
theorem taken_leaves {fs : List Bl} {b : Bl} {want : Int} (hd : Disj fs) (hb : b ∈ fs) (h0 : 0 ≤ want) (hw : want ≤ b.o) : Leaves b.p want (takenL fs b want) := by
  have h := (without_leaves hd hb).split (b.o - want).toNat (by omega)
  rw [show b.o - ((b.o - want).toNat : Int) = want by omega] at h
  exact h
theorem taken_eq {fs s : List Bl} {b : Bl} {want : Int} (hd : Disj fs) (hb : b ∈ fs) (h0 : 0 ≤ want) (hw : want ≤ b.o) (h : TakenP want fs b s) : s = takenL fs b want := by
  refine sorted_uniq ?_ h.sort (taken_leaves hd hb h0 hw).1
  have h1 : (b :: takenL fs b want).Perm (fs ++ hv b.p b.o (b.o - want).toNat) := by
    unfold takenL
    refine ((split_perm _).cons b).trans ?_
    rw [← List.cons_append]
    exact (without_perm hd.sorted.nodup hb).append_right _
  exact List.Perm.cons_inv (h.perm.trans h1.symm)
theorem LeastT.uniq {want : Int} {fs : List Bl} {a b : Bl} (h : LeastT want fs a) (k : LeastT want fs b) : a = b := by
  have h1 := h.least b k.mem k.great
  have h2 := k.least a h.mem h.great
  obtain ⟨p, o⟩ := a
  obtain ⟨q, r⟩ := b
  simp only [LtB] at h1 h2
  have : p = q ∧ o = r := by omega
  rw [this.1, this.2]
theorem best_least {od want : Int} {l : List Bl} {k : Nat} {z : Bl} (hd : Disj l) (hz : l[k]? = some z) (hw : want ≤ z.o) (h : ∀ (k' : Nat) x, k' < l.length → l[k']? = some x → want ≤ x.o → z.o ≤ x.o ∧ (x.o = z.o → k ≤ k')) : LeastT want l z := by
  refine ⟨List.mem_of_getElem? hz, hw, fun y hy hwy hlt => ?_⟩
  obtain ⟨j, hj, rfl⟩ := List.getElem_of_mem hy
  obtain ⟨h1, h2⟩ := h j _ hj (List.getElem?_eq_getElem hj) hwy
  unfold LtB at hlt
  rcases hlt with hlt | ⟨ho, hp⟩
  · omega
  · have hkj := h2 ho
    rcases Nat.lt_or_ge k j with hlt | hge
    · have := hd.sorted k j _ _ hlt hz (List.getElem?_eq_getElem hj); omega
    · have : k = j := by omega
      subst this
      rw [List.getElem?_eq_getElem hj] at hz; injection hz with hz; subst hz; omega
end Go.Proofs.Ytbflmnoaiklnbaa
