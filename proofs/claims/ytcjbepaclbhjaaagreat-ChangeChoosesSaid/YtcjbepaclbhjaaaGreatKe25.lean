/- Parts of the proof. -/
import Derived.Test.YtcjbepaclbhjaaaGreatKe1
import Derived.Test.YtcjbepaclbhjaaaGreatKe24
import Derived.Test.YtcjbepaclbhjaaaGreatKe0
import Derived.Test.YtcjbepaclbhjaaaGreatKe3
open List renaming set_cons_zero → zSet, set_cons_succ → sSet
/- Votes as values, and rows of them. -/
set_option linter.unusedSimpArgs false
set_option linter.unusedVariables false
namespace Go.Proofs.YtcjbepaclbhjaaaGreat
open Go.RowKit
structure Vt where
  nd : Int
  nm : Int
  bs : Int
  nu : Int
  cm : Int
  a : Option Addr
  es : List Env
  c : Nat
def vtV (v : Vt) : List Value := [.int .i64 v.nd, .int .i64 v.nm, .int .i64 v.bs, .int .i64 v.nu, .int .i64 v.cm, .slice v.a v.es.length v.c]
theorem vtV_len (v : Vt) : (vtV v).length = 6 := rfl
def Vt.Is (w : World) (v : Vt) : Prop := RowIs w v.a (v.es.flatMap envL)
theorem Vt.Is.below {w w' : World} {v : Vt} (h : v.Is w) (hb : Below w.heap.size w w') : v.Is w' := RowIs.below h hb
def Vt.Sm (x y : Vt) : Prop := x.nd = y.nd ∧ x.nm = y.nm ∧ x.bs = y.bs ∧ x.nu = y.nu ∧ x.cm = y.cm ∧ x.es = y.es
theorem Vt.Sm.refl (x : Vt) : x.Sm x := ⟨rfl, rfl, rfl, rfl, rfl, rfl⟩
theorem Vt.Sm.symm {x y : Vt} (h : x.Sm y) : y.Sm x := by
  obtain ⟨h1, h2, h3, h4, h5, h6⟩ := h
  exact ⟨h1.symm, h2.symm, h3.symm, h4.symm, h5.symm, h6.symm⟩
theorem Vt.Sm.trans {x y z : Vt} (h : x.Sm y) (k : y.Sm z) : x.Sm z := by
  obtain ⟨h1, h2, h3, h4, h5, h6⟩ := h
  obtain ⟨k1, k2, k3, k4, k5, k6⟩ := k
  exact ⟨h1.trans k1, h2.trans k2, h3.trans k3, h4.trans k4, h5.trans k5, h6.trans k6⟩
def VtsSm (l k : List Vt) : Prop := l.length = k.length ∧ ∀ (i : Nat) a b, l[i]? = some a → k[i]? = some b → a.Sm b
theorem VtsSm.snoc {l k : List Vt} {x y : Vt} (h : VtsSm l k) (hxy : x.Sm y) : VtsSm (l ++ [x]) (k ++ [y]) := by
  refine ⟨by rw [List.length_append, List.length_append, h.1]; rfl, fun i a b ha hb => ?_⟩
  by_cases hi : i < l.length
  · rw [List.getElem?_append_left hi] at ha
    rw [List.getElem?_append_left (by rw [← h.1]; exact hi)] at hb
    exact h.2 i a b ha hb
  · have h1 := (List.getElem?_eq_some_iff.1 ha).1
    rw [List.length_append, List.length_singleton] at h1
    have hq : i = l.length := by omega
    subst hq
    rw [List.getElem?_append_right (Nat.le_refl _), Nat.sub_self] at ha
    rw [List.getElem?_append_right (by rw [h.1]; exact Nat.le_refl _), h.1, Nat.sub_self] at hb
    simp at ha hb
    subst ha hb
    exact hxy
def OwnVs : List Vt → List Blk → Prop
  | [], _ => True
  | y :: ys, M => ∃ R M', OwnRow 47 11 (.slice y.a y.es.length y.c) y.es.length (y.es.flatMap envL) R ∧ M.Perm (R ++ M') ∧ OwnVs ys M'
theorem OwnVs.blk : ∀ {ys : List Vt} {M N : List Blk}, OwnVs ys M → M.Perm N → OwnVs ys N
  | [], _, _, _, _ => trivial
  | _ :: _, _, _, ⟨R, M', h1, h2, h3⟩, hp => ⟨R, M', h1, hp.symm.trans h2, h3⟩
theorem OwnVs.more : ∀ {ys : List Vt} {M : List Blk} (N : List Blk), OwnVs ys M → OwnVs ys (N ++ M)
  | [], _, _, _ => trivial
  | _ :: _, _, N, ⟨R, M', h1, h2, h3⟩ => ⟨R, N ++ M', h1, (List.Perm.append_left N h2).trans (by rw [← List.append_assoc, ← List.append_assoc]; exact List.Perm.append_right M' List.perm_append_comm), h3.more N⟩
theorem OwnVs.snoc : ∀ {ys : List Vt} {M R : List Blk} {y : Vt}, OwnVs ys M → OwnRow 47 11 (.slice y.a y.es.length y.c) y.es.length (y.es.flatMap envL) R → OwnVs (ys ++ [y]) (M ++ R)
  | [], _, R, _, _, hy => ⟨R, _, hy, List.perm_append_comm, trivial⟩
  | _ :: _, _, R, _, ⟨R0, M', h1, h2, h3⟩, hy => ⟨R0, M' ++ R, h1, (List.Perm.append_right R h2).trans (by rw [List.append_assoc]), h3.snoc hy⟩
theorem OwnVs.sub {zs ys : List Vt} (h : zs.Sublist ys) : ∀ {M : List Blk}, OwnVs ys M → OwnVs zs M := by
  induction h with
  | slnil => intro M h; exact h
  | cons a _ ih => rintro M ⟨R, M', _, h2, h3⟩; exact (ih (h3.more R)).blk h2.symm
  | cons_cons a _ ih => rintro M ⟨R, M', h1, h2, h3⟩; exact ⟨R, M', h1, h2, ih h3⟩
theorem OwnVs.perm {zs ys : List Vt} (h : ys.Perm zs) : ∀ {M : List Blk}, OwnVs ys M → OwnVs zs M := by
  induction h with
  | nil => intro M h; exact h
  | cons a _ ih => rintro M ⟨R, M', h1, h2, h3⟩; exact ⟨R, M', h1, h2, ih h3⟩
  | swap a b l =>
    rintro M ⟨R, M', h1, h2, R2, M2, h3, h4, h5⟩
    refine ⟨R2, R ++ M2, h3, (h2.trans (List.Perm.append_left R h4)).trans ?_, R, M2, h1, List.Perm.refl _, h5⟩
    rw [← List.append_assoc, ← List.append_assoc]
    exact List.Perm.append_right M2 List.perm_append_comm
  | trans _ _ h1 h2 => intro M h; exact h2 (h1 h)
theorem OwnVs.kept : ∀ {ys : List Vt} {M : List Blk}, OwnVs ys M → Kept M fun w => ∀ y ∈ ys, y.Is w
  | [], M, _ => Kept.none_ (fun _ y hy => by cases hy) M
  | y :: ys, M, ⟨R, M', h1, h2, h3⟩ => fun B w0 w L hp hm z hz => by
    rcases List.mem_cons.1 hz with rfl | hz
    · obtain ⟨a, k, hv, hk⟩ := h1.kept
      injection hv with hv _ _
      subst hv
      exact hk B w0 w L hp fun p hp2 => hm p (h2.mem_iff.2 (List.mem_append_left _ hp2))
    · exact h3.kept B w0 w L hp (fun p hp2 => hm p (h2.mem_iff.2 (List.mem_append_right _ hp2))) z hz
end Go.Proofs.YtcjbepaclbhjaaaGreat
/- Votes that come in: the numbers of their entries are in range, and they have the capacity. -/
namespace Go.Proofs.YtcjbepaclbhjaaaGreat
open Go.RowKit Go.ChangeShapes Go.WideShapes Go.ChangeAt Go.Deep
section
variable {H : Type} {enc : TypeId × Value → H} {w : World} {base : Nat} {spare : Nat → Bool} {held : Bool} {cs : List Value}
def Vt.Fit (x : Vt) : Prop := x.es.length ≤ x.c ∧ ∀ e ∈ x.es, I64 e.nu
theorem reads_vote (h : Reads H enc Tryz.prog w base spare held 27 cs) : ∃ x : Vt, cs = vtV x ∧ (x.Is w ∧ x.Fit) := by
  obtain ⟨hl, hz⟩ := h.struct Tryz.underlying27
  rw [show Tryz.prog.cellsOf 27 = 6 by kernel_rfl] at hl
  match cs, hl with
  | [v0, v1, v2, v3, v4, v5], _ =>
    obtain ⟨a0, h0, _⟩ := (hz 0 _ rfl 0 1 rfl (by kernel_rfl)).int Tryz.underlying3
    obtain ⟨a1, h1, _⟩ := (hz 1 _ rfl 1 1 rfl (by kernel_rfl)).int Tryz.underlying3
    obtain ⟨a2, h2, _⟩ := (hz 2 _ rfl 2 1 rfl (by kernel_rfl)).int Tryz.underlying3
    obtain ⟨a3, h3, _⟩ := (hz 3 _ rfl 3 1 rfl (by kernel_rfl)).int Tryz.underlying3
    obtain ⟨a4, h4, _⟩ := (hz 4 _ rfl 4 1 rfl (by kernel_rfl)).int Tryz.underlying3
    have hr := hz 5 _ rfl 5 1 rfl (by kernel_rfl)
    obtain ⟨a, l0, c, h5, _, _⟩ := hr.slice envL (fun _ => True) 11 (by decide) envL_len11 Tryz.underlying22 (by kernel_rfl) (fun cs h => reads_entryK h)
    simp at h0 h1 h2 h3 h4 h5
    subst h0 h1 h2 h3 h4 h5
    obtain ⟨l, h8, h6, h7⟩ := reads_entriesC hr
    refine ⟨⟨a0, a1, a2, a3, a4, a, l, c⟩, ?_, h6, h8 ▸ h7.1, h7.2⟩
    simp only [vtV, h8]
theorem reads_votes {v : Value} (h : Reads H enc Tryz.prog w base spare held 25 [v]) : ∃ (a : Option Addr) (l : List Vt) (c : Nat), v = .slice a l.length c ∧ RowIs w a (l.flatMap vtV) ∧ ∀ x ∈ l, x.Is w ∧ x.Fit := by
  obtain ⟨a, l, c, h1, h2, h3⟩ := h.slice vtV (fun x => x.Is w ∧ x.Fit) 6 (by decide) vtV_len Tryz.underlying25 (by kernel_rfl) (fun cs h => reads_vote h)
  simp at h1
  exact ⟨a, l, c, h1, h2, h3⟩
end
end Go.Proofs.YtcjbepaclbhjaaaGreat
/- The walks of Add's closures, and of IndexFunc of votes (written by mkcv.py). -/
namespace Go.Proofs.YtcjbepaclbhjaaaGreat
open Go.RowKit
def IdxV (p : Vt → Bool) (l : List Vt) (r : Int) : Prop := (r = -1 ∧ ∀ (i : Nat) y, l[i]? = some y → p y = false) ∨ ∃ (m : Nat) (x : Vt), r = m ∧ l[m]? = some x ∧ p x = true ∧ ∀ (i : Nat) y, i < m → l[i]? = some y → p y = false
def IdxVPost (w : World) (p : Vt → Bool) (l : List Vt) (e : Ending) (w' : World) : Prop := ∃ r : Int, e = .returned (.int .i64 r) ∧ IdxV p l r ∧ Below w.heap.size w w'
def eqN (n : Int) (x : Vt) : Bool := x.nd == n
end Go.Proofs.YtcjbepaclbhjaaaGreat
