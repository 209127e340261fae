import Derived.Test.YtcjbepaclbhjaaaTjDC
import Derived.Test.YtcjbepaclbhjaaaTjDS
/- A heap in blocks of the call's own. -/
set_option linter.unusedSimpArgs false
set_option linter.unusedVariables false
namespace Go.Proofs.Ytcjbepaclbhjaaa
open Go.RowKit
def ObR (x : Ob) (R : List Blk) : Prop := ∃ Rw Rl, R = Rw ++ Rl ∧ OwnRow 3 1 (.slice x.wa x.ws.length x.wc) x.ws.length (x.ws.flatMap iV) Rw ∧ OwnRow 3 1 (.slice x.la x.ls.length x.lc) x.ls.length (x.ls.flatMap iV) Rl
inductive ObsR : List Ob → List Blk → Prop
  | nil : ObsR [] []
  | cons {x : Ob} {l : List Ob} {R M : List Blk} : ObR x R → ObsR l M → ObsR (x :: l) (R ++ M)
theorem ObsR.at_ {l : List Ob} {M : List Blk} (h : ObsR l M) : ∀ {i : Nat} {x : Ob}, l[i]? = some x →
    ∃ M1 R M2, M = M1 ++ (R ++ M2) ∧ ObR x R ∧ (∀ y R', ObR y R' → ObsR (l.set i y) (M1 ++ (R' ++ M2))) ∧ ObsR (l.eraseIdx i) (M1 ++ M2) := by
  induction h with
  | nil => intro i x hx; simp at hx
  | @cons y l R M hR hM ih =>
    intro i x hx
    cases i with
    | zero =>
      simp at hx
      subst hx
      exact ⟨[], R, M, rfl, hR, fun z R' hz => (ObsR.cons hz hM : ObsR (z :: l) (R' ++ M)), hM⟩
    | succ i =>
      obtain ⟨M1, R1, M2, rfl, h1, h2, h3⟩ := ih (by simpa using hx)
      exact ⟨R ++ M1, R1, M2, by rw [List.append_assoc], h1, fun z R' hz => by rw [List.append_assoc]; exact .cons hR (h2 z R' hz), by rw [List.append_assoc]; exact .cons hR h3⟩
theorem ObsR.snoc {l : List Ob} {M R : List Blk} {x : Ob} (h : ObsR l M) (hx : ObR x R) : ObsR (l ++ [x]) (M ++ R) := by
  induction h with
  | nil => simpa using ObsR.cons hx ObsR.nil
  | @cons y l R' M hR hM ih => rw [List.cons_append, List.append_assoc]; exact .cons hR ih
theorem OwnRow.keptS {e : TypeId} {c n : Nat} {a : Option Addr} {k : Nat} {xs : List Value} {R : List Blk} (h : OwnRow e c (.slice a n k) n xs R) : Kept R fun w => RowIs w a xs := by
  obtain ⟨a', k', hv, hk⟩ := h.kept
  injection hv with h1 h2 h3
  subst h1
  exact hk
theorem ObR.kept {x : Ob} {R : List Blk} (h : ObR x R) : Kept R fun w => x.Is w := by
  obtain ⟨Rw, Rl, rfl, h1, h2⟩ := h
  exact h1.keptS.and h2.keptS
theorem ObsR.kept {l : List Ob} {M : List Blk} (h : ObsR l M) : Kept M fun w => ∀ o ∈ l, o.Is w := by
  induction h with
  | nil => exact Kept.none_ (fun w o ho => by cases ho) _
  | @cons y l R M hR hM ih =>
    refine (hR.kept.and ih).mono (fun p hp => hp) (fun w ⟨h1, h2⟩ o ho => ?_)
    rcases List.mem_cons.1 ho with rfl | ho
    · exact h1
    · exact h2 o ho
structure HvR (x : Hv) (RO RF M : List Blk) : Prop where
  objs : OwnRow 48 5 (.slice x.oa x.os.length x.oc) x.os.length (x.os.flatMap obV) RO
  free : OwnRow 45 2 (.slice x.fa x.fs.length x.fc) x.fs.length (x.fs.flatMap blV) RF
  rows : ObsR x.os M
theorem HvR.kept {x : Hv} {RO RF M : List Blk} (h : HvR x RO RF M) : Kept (RO ++ (RF ++ M)) fun w => x.Is w :=
  (h.objs.keptS.and (h.free.keptS.and h.rows.kept)).mono (fun _ hp => hp) fun _ ⟨h1, h2, h3⟩ => ⟨h1, h3, h2⟩
def WorkAt (B : Nat) (w0 w : World) (b : Nat) (x : Hv) (K : List Blk) : Prop := ∃ RO RF M, HvR x RO RF M ∧ Hp B w0 w (⟨b, hvL x, 62, 8⟩ :: (RO ++ (RF ++ (M ++ K))))
theorem HvR.is {x : Hv} {RO RF M K L : List Blk} (h : HvR x RO RF M) {B : Nat} {w0 w : World} (hp : Hp B w0 w (L ++ (RO ++ (RF ++ (M ++ K))))) : x.Is w :=
  h.kept.at hp (fun p hm => by simp only [List.mem_append] at hm ⊢; rcases hm with hm | hm | hm <;> simp [hm])
theorem OwnRow.own {e : TypeId} {c n : Nat} {a : Option Addr} {k : Nat} {xs : List Value} {R : List Blk} (h : OwnRow e c (.slice a n k) n xs R) (hn : 0 < n) : ∃ g, a = some ⟨g, 0, none⟩ ∧ n ≤ k ∧ k ≤ maxLen ∧ R = [⟨g, xs, e, k * c⟩] ∧ xs.length = n * c := by
  obtain ⟨hl, ⟨h0, _⟩ | ⟨g, cap, hv, h1, h2, hr⟩⟩ := h
  · omega
  · injection hv with v1 v2 v3
    subst v1 v3
    exact ⟨g, rfl, h1, h2, hr, hl⟩
theorem Hp.sublist {B : Nat} {w0 w : World} {L L' : List Blk} (hp : Hp B w0 w L) (h : L'.Sublist L) : Hp B w0 w L' :=
  ⟨hp.below, hp.size, (h.map _).nodup hp.nodup, fun p hpL => hp.own p (h.subset hpL)⟩
end Go.Proofs.Ytcjbepaclbhjaaa
