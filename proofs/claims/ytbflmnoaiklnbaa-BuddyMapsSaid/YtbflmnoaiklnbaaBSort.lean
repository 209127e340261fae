/- slices.SortFunc of blocks by At: by the kit's contract. -/
import Derived.Test.YtbflmnoaiklnbaaKLay
import Derived.Test.YtbflmnoaiklnbaaSrt
import Derived.Test.YtbflmnoaiklnbaaBSmall
import Derived.Shelf.SlSortCmp.NoneTotal
set_option linter.unusedSimpArgs false
set_option linter.unusedVariables false
namespace Go.Proofs.Ytbflmnoaiklnbaa
open Go.RowKit Go.Lib Go.Shelf Go.Sort
instance : Inhabited Bl := ⟨⟨0, 0⟩⟩
def byAt (x y : Bl) : Int := cmpI x.p y.p
theorem ltAt (x y : Bl) : ltOf byAt x y = decide (x.p < y.p) := by unfold ltOf byAt; simp only [cmpI_lt]
theorem swoAt : SWO (ltOf byAt) where
  irrefl x := by rw [ltAt]; simp
  trans x y z h1 h2 := by rw [ltAt] at *; simp at *; omega
  ntrans x y z h1 h2 := by rw [ltAt] at *; simp at *; omega
theorem bl_one (x : Bl) (v : Value) (hv : v ∈ blV x) : v.oneCell' = true := by simp [blV] at hv; rcases hv with rfl | rfl <;> rfl
/-- What is asked of the closure: it compares by At, lays blocks alone. -/
def Compares (g : Nat) : Prop := ∀ (x y : Bl) (W : World), Calls Try.prog g #[.agg #[.int .i64 x.p, .int .i64 x.o], .agg #[.int .i64 y.p, .int .i64 y.o]] W fun e w' => e = .returned (.int .i64 (cmpI x.p y.p)) ∧ ∃ q os', w' = Sort.grow (W.drewN q) os'
def Sorts (w : World) (B : Nat) (w0 : World) (L : List Blk) (blk t n : Nat) (d : List Bl) (e : Ending) (w' : World) : Prop :=
  e = .returned (.tuple #[]) ∧ ∃ s : List Bl, s.Perm d ∧ s.Pairwise (fun x y => x.p ≤ y.p) ∧ Hp B w0 w' (⟨blk, s.flatMap blV, t, n⟩ :: L)
theorem sort80 (g : Nat) (eg : ∀ args w, (callFunc g args).run Try.prog w = .ok (.enter g args) w) (hg : Compares g) (d : List Bl) (cap : Nat) {B : Nat} {w0 w : World} {blk t n : Nat} {L : List Blk} (hp : Hp B w0 w (⟨blk, d.flatMap blV, t, n⟩ :: L)) (hsz : d.length ≤ 5000) :
    Calls Try.prog 80 #[.slice (some ⟨blk, 0, none⟩) d.length cap, .func (.func g) #[] #[]] w (Sorts w B w0 L blk t n d) := by
  have hH : HoldsK blV 2 w blk 0 d.toArray := Hp.holdsK (enc := blV) blV_len (d := d.toArray) hp
  have hcm : CmpLays Try.prog g #[] blV 2 byAt blk 0 d.toArray.size w := fun m os dk _ x y => hg x y _
  have hcon := AnyQ.slices_SortFunc sortBlLays 2 Try.isAgg44 Try.sizeOf44 blV blV_len bl_one byAt swoAt g #[] blk 0 cap d.toArray w eg hcm hH (hp.lt (p := ⟨blk, d.flatMap blV, t, n⟩) (by simp)).2 (by simp; omega)
  change Calls Try.prog 80 _ _ _ at hcon
  rw [List.size_toArray] at hcon
  refine hcon.mono ?_
  rintro e w' ⟨rfl, d', m, os, h1, h2, rfl⟩
  have h3 := perm_whole (d := d.toArray) (d' := d') (by rw [List.size_toArray]; exact h1)
  refine ⟨rfl, d'.toList, by simpa using h3.2, ?_, Hp.sorted (enc := blV) blV_len (d := d.toArray) hp h3.1⟩
  have h4 := sorted_whole (by simpa using h3.1) h2
  refine h4.imp (fun {a b} h => ?_)
  rw [ltAt] at h
  simp at h
  exact h
theorem sort80_none (p : Option Addr) (cap : Nat) (fv : Value) (w : World) : Calls Try.prog 80 #[.slice p 0 cap, fv] w fun e w' => e = .returned (.tuple #[]) ∧ w' = w := by
  have hcon := AnyF.slices_SortFunc_none sortBlLays p cap fv w
  change Calls Try.prog 80 _ _ _ at hcon
  exact hcon
/-- The row, nil or not, sorted. -/
def OwnSorted (B : Nat) (w0 : World) (v : Value) (n : Nat) (d : List Bl) (M : List Blk) (e : Ending) (w' : World) : Prop :=
  e = .returned (.tuple #[]) ∧ ∃ (s : List Bl) (R : List Blk), s.Perm d ∧ s.Pairwise (fun x y => x.p ≤ y.p) ∧ OwnRow 44 2 v n (s.flatMap blV) R ∧ Hp B w0 w' (R ++ M)
theorem sorto80 (g : Nat) (eg : ∀ args w, (callFunc g args).run Try.prog w = .ok (.enter g args) w) (hg : Compares g) (d : List Bl) {v : Value} {R M : List Blk} (hr : OwnRow 44 2 v d.length (d.flatMap blV) R) {B : Nat} {w0 w : World} (hp : Hp B w0 w (R ++ M)) (hsz : d.length ≤ 5000) :
    Calls Try.prog 80 #[v, .func (.func g) #[] #[]] w (OwnSorted B w0 v d.length d M) := by
  obtain ⟨hl, ⟨h0, hv, hx, hR⟩ | ⟨b, cap, hv, h1, h2, hR⟩⟩ := hr
  · subst hv; subst hR
    have hd : d = [] := List.eq_nil_of_length_eq_zero h0
    subst hd
    refine (sort80_none none 0 _ w).mono ?_
    rintro e w' ⟨rfl, rfl⟩
    exact ⟨rfl, [], [], List.Perm.refl _, List.Pairwise.nil, OwnRow.nil _ _, hp⟩
  · subst hv; subst hR
    refine (sort80 g eg hg d cap hp hsz).mono ?_
    rintro e w' ⟨rfl, s, h3, h4, hp'⟩
    exact ⟨rfl, s, _, h3, h4, ⟨by rw [flat_len blV 2 blV_len, h3.length_eq], .inr ⟨b, cap, rfl, h1, h2, rfl⟩⟩, hp'⟩
end Go.Proofs.Ytbflmnoaiklnbaa
