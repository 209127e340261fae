/- Parts of the proof. -/
import Derived.Test.YtcjbepaclbhjaaaGreatKe1
import Derived.Test.YtcjbepaclbhjaaaGreatKe2
import Derived.Test.YtcjbepaclbhjaaaGreatKe3
import Derived.Test.YtcjbepaclbhjaaaGreatKe9
import Derived.Test.YtcjbepaclbhjaaaGreatKe0
import Derived.Test.YtcjbepaclbhjaaaGreatKe8
open List renaming set_cons_zero → zSet, set_cons_succ → sSet
/- A heap in blocks of the call's own. -/
set_option linter.unusedSimpArgs false
set_option linter.unusedVariables false
namespace Go.Proofs.YtcjbepaclbhjaaaGreat
open Go.RowKit
def ObR (x : Ob) (R : List Blk) : Prop := ∃ Rw Rl, R = Rw ++ Rl ∧ OwnRow 3 1 (.slice x.wa x.ws.length x.wc) x.ws.length (x.ws.flatMap iV) Rw ∧ OwnRow 3 1 (.slice x.la x.ls.length x.lc) x.ls.length (x.ls.flatMap iV) Rl
inductive ObsR : List Ob → List Blk → Prop
  | nil : ObsR [] []
  | cons {x : Ob} {l : List Ob} {R M : List Blk} : ObR x R → ObsR l M → ObsR (x :: l) (R ++ M)
theorem ObsR.snoc {l : List Ob} {M R : List Blk} {x : Ob} (h : ObsR l M) (hx : ObR x R) : ObsR (l ++ [x]) (M ++ R) := by
  induction h with
  | nil => simpa using ObsR.cons hx ObsR.nil
  | @cons y l R' M hR hM ih => rw [List.cons_append, List.append_assoc]; exact .cons hR ih
theorem OwnRow.keptS {e : TypeId} {c n : Nat} {a : Option Addr} {k : Nat} {xs : List Value} {R : List Blk} (h : OwnRow e c (.slice a n k) n xs R) : Kept R fun w => RowIs w a xs := by
  obtain ⟨a', k', hv, hk⟩ := h.kept
  injection hv with h1 h2 h3
  subst h1
  exact hk
theorem ObR.kept {x : Ob} {R : List Blk} (h : ObR x R) : Kept R fun w => x.Is w := by
  obtain ⟨Rw, Rl, rfl, h1, h2⟩ := h
  exact h1.keptS.and h2.keptS
theorem ObsR.kept {l : List Ob} {M : List Blk} (h : ObsR l M) : Kept M fun w => ∀ o ∈ l, o.Is w := by
  induction h with
  | nil => exact Kept.none_ (fun w o ho => by cases ho) _
  | @cons y l R M hR hM ih =>
    refine (hR.kept.and ih).mono (fun p hp => hp) (fun w ⟨h1, h2⟩ o ho => ?_)
    rcases List.mem_cons.1 ho with rfl | ho
    · exact h1
    · exact h2 o ho
structure HvR (x : Hv) (RO RF M : List Blk) : Prop where
  objs : OwnRow 152 5 (.slice x.oa x.os.length x.oc) x.os.length (x.os.flatMap obV) RO
  free : OwnRow 150 2 (.slice x.fa x.fs.length x.fc) x.fs.length (x.fs.flatMap blV) RF
  rows : ObsR x.os M
theorem HvR.kept {x : Hv} {RO RF M : List Blk} (h : HvR x RO RF M) : Kept (RO ++ (RF ++ M)) fun w => x.Is w :=
  (h.objs.keptS.and (h.free.keptS.and h.rows.kept)).mono (fun _ hp => hp) fun _ ⟨h1, h2, h3⟩ => ⟨h1, h3, h2⟩
def WorkAt (B : Nat) (w0 w : World) (b : Nat) (x : Hv) (K : List Blk) : Prop := ∃ RO RF M, HvR x RO RF M ∧ Hp B w0 w (⟨b, hvL x, 99999, 8⟩ :: (RO ++ (RF ++ (M ++ K))))
theorem HvR.is {x : Hv} {RO RF M K L : List Blk} (h : HvR x RO RF M) {B : Nat} {w0 w : World} (hp : Hp B w0 w (L ++ (RO ++ (RF ++ (M ++ K))))) : x.Is w :=
  h.kept.at hp (fun p hm => by simp only [List.mem_append] at hm ⊢; rcases hm with hm | hm | hm <;> simp [hm])
theorem OwnRow.own {e : TypeId} {c n : Nat} {a : Option Addr} {k : Nat} {xs : List Value} {R : List Blk} (h : OwnRow e c (.slice a n k) n xs R) (hn : 0 < n) : ∃ g, a = some ⟨g, 0, none⟩ ∧ n ≤ k ∧ k ≤ maxLen ∧ R = [⟨g, xs, e, k * c⟩] ∧ xs.length = n * c := by
  obtain ⟨hl, ⟨h0, _⟩ | ⟨g, cap, hv, h1, h2, hr⟩⟩ := h
  · omega
  · injection hv with v1 v2 v3
    subst v1 v3
    exact ⟨g, rfl, h1, h2, hr, hl⟩
theorem Hp.sublist {B : Nat} {w0 w : World} {L L' : List Blk} (hp : Hp B w0 w L) (h : L'.Sublist L) : Hp B w0 w L' :=
  ⟨hp.below, hp.size, (h.map _).nodup hp.nodup, fun p hpL => hp.own p (h.subset hpL)⟩
end Go.Proofs.YtcjbepaclbhjaaaGreat
/- The walk of begin: a heap in blocks of the call's own. -/
namespace Go.Proofs.YtcjbepaclbhjaaaGreat
open Go.RowKit
theorem OwnRow.val {e : TypeId} {c n : Nat} {v : Value} {xs : List Value} {R : List Blk} (h : OwnRow e c v n xs R) : ∃ a k, v = .slice a n k := by
  obtain ⟨a, k, hv, _⟩ := h.kept
  exact ⟨a, k, hv⟩
theorem OwnRow.alike {e : TypeId} {c n : Nat} {v : Value} {xs : List Value} {R : List Blk} (h : OwnRow e c v n xs R) (hn : 0 < n) : ∃ g cap, v = .slice (some ⟨g, 0, none⟩) n cap ∧ R = [⟨g, xs, e, cap * c⟩] ∧ ∀ ys : List Value, ys.length = n * c → OwnRow e c v n ys [⟨g, ys, e, cap * c⟩] := by
  obtain ⟨hl, ⟨h0, _⟩ | ⟨g, cap, hv, h1, h2, hr⟩⟩ := h
  · omega
  · exact ⟨g, cap, hv, hr, fun ys hy => ⟨hy, .inr ⟨g, cap, hv, h1, h2, rfl⟩⟩⟩
end Go.Proofs.YtcjbepaclbhjaaaGreat
/- The walks of no and lead. -/
namespace Go.Proofs.YtcjbepaclbhjaaaGreat
open Go.RowKit
def resV (c v : Int) : Value := .agg #[.int .i64 c, .int .i64 v]
end Go.Proofs.YtcjbepaclbhjaaaGreat
/- The walk of free. -/
namespace Go.Proofs.YtcjbepaclbhjaaaGreat
open Go.RowKit
def WorkPost (B : Nat) (w0 : World) (b : Nat) (s : Hv) (c v : Int) (K : List Blk) (e : Ending) (w' : World) : Prop := e = .returned (resV c v) ∧ ∃ y : Hv, y.Sm s ∧ WorkAt B w0 w' b y K
theorem HRight.small {x : Hv} (h : HRight x) : x.Small := by
  obtain ⟨h3, h8, hcan⟩ := right_can h.free
  refine ⟨⟨by have := h.len; omega, fun o ho => ?_⟩, ?_⟩
  · have h1 := (h.need o ho)
    have h2 : 0 ≤ needI o.ws.length o.ls.length := by rw [h1.1]; exact h1.2.1
    have := needI_ok h2
    omega
  · have h1 := hcan.good.len h3
    have h2 := pw_le h8
    omega
theorem HRight.sorted {x : Hv} (h : HRight x) : SortedO x.os := h.rise.step
theorem Hp.part {B : Nat} {w0 w : World} {L L' D : List Blk} (hp : Hp B w0 w L) (h : L.Perm (L' ++ D)) : Hp B w0 w L' := (hp.reorder h).sublist (List.sublist_append_left _ _)
end Go.Proofs.YtcjbepaclbhjaaaGreat
/- A drawn region by a plan that branches where two or three operations that act may come in any order. No program in sight. -/
namespace Go.Proofs.YtcjbepaclbhjaaaGreat
open Go.RowKit
inductive PT where
  | nil
  | take (i : Nat) (r : PT)
  | one (i : Nat) (r : PT)
  | two (i : Nat) (r : PT) (j : Nat) (q : PT)
  | three (i : Nat) (r : PT) (j : Nat) (q : PT) (k : Nat) (t : PT)
def PT.size : PT → Nat
  | .nil => 0
  | .take _ r => r.size + 1
  | .one _ r => r.size + 1
  | .two _ r _ q => max r.size q.size + 1
  | .three _ r _ q _ t => max (max r.size q.size) t.size + 1
section
variable {P : Program} {ops : Array Oper} {Q : Exit → Act → World → Prop} {S : World → Prop} {tl : List Nat}
def doT (P : Program) (ops : Array Oper) (Q : Exit → Act → World → Prop) (S : World → Prop) (tl : List Nat) (i : Nat) (G : Act → World → Prop) (a : Act) (w : World) : Prop :=
  ∃ o, ops[i]? = some o ∧ wpList P ops (Exit.then (fun a' w' => (tl.contains i = true ∨ S w') ∧ G a' w') Q) [o] a w
def wpTree (P : Program) (ops : Array Oper) (Q : Exit → Act → World → Prop) (S : World → Prop) (tl : List Nat) : PT → Act → World → Prop
  | .nil, a, w => Q .normal a w
  | .take i r, a, w => ∃ o v, ops[i]? = some o ∧ YieldsIf P ops S o v a ∧ wpTree P ops Q S tl r (a.put o.dst v) w
  | .one i r, a, w => doT P ops Q S tl i (wpTree P ops Q S tl r) a w
  | .two i r j q, a, w => doT P ops Q S tl i (wpTree P ops Q S tl r) a w ∧ doT P ops Q S tl j (wpTree P ops Q S tl q) a w
  | .three i r j q k t, a, w => doT P ops Q S tl i (wpTree P ops Q S tl r) a w ∧ doT P ops Q S tl j (wpTree P ops Q S tl q) a w ∧ doT P ops Q S tl k (wpTree P ops Q S tl t) a w
def planT (ops : Array Oper) (tl : List Nat) : Bool → Array Bool → PT → Bool
  | _, listed, .nil => (Region.ready .any ops listed).isEmpty
  | s, listed, .take i r => s && (Region.ready .any ops listed).contains i && Region.free .any ops listed i && tl.all (fun j => waitsB ops ops.size j i) && planT ops tl s (listed.setIfInBounds i true) r
  | s, listed, .one i r => decide (Region.ready .any ops listed = [i]) && planT ops tl (s && !tl.contains i) (listed.setIfInBounds i true) r
  | s, listed, .two i r j q => decide (Region.ready .any ops listed = [i, j]) && planT ops tl (s && !tl.contains i) (listed.setIfInBounds i true) r && planT ops tl (s && !tl.contains j) (listed.setIfInBounds j true) q
  | s, listed, .three i r j q k t => decide (Region.ready .any ops listed = [i, j, k]) && planT ops tl (s && !tl.contains i) (listed.setIfInBounds i true) r && planT ops tl (s && !tl.contains j) (listed.setIfInBounds j true) q && planT ops tl (s && !tl.contains k) (listed.setIfInBounds k true) t
theorem doT_op {i f : Nat} {r : PT} {s : Bool} {listed : Array Bool} {a : Act} {w : World} (hc : Closed ops listed) (hr0 : i ∈ Region.ready .any ops listed)
    (ih : ∀ (a' : Act) (w' : World), Closed ops (listed.setIfInBounds i true) → ((s && !tl.contains i) = true → S w') → wpTree P ops Q S tl r a' w' → wpAnyG P ops Q S tl f (listed.setIfInBounds i true) a' w')
    (h : doT P ops Q S tl i (wpTree P ops Q S tl r) a w) : wpOp P ops Q i (fun a' w' => (tl.contains i = true ∨ S w') ∧ wpAnyG P ops Q S tl f (listed.setIfInBounds i true) a' w') a w := by
  obtain ⟨o, ho, hr⟩ := h
  have h1 := wpList_one hr
  have h2 : wpOp P ops Q i (fun a' w' => (tl.contains i = true ∨ S w') ∧ wpTree P ops Q S tl r a' w') a w := by
    unfold wpOp; simp only [ho]; exact h1
  refine wpOp_mono (fun a' w' h' => ⟨h'.1, ih a' w' (hc.set hr0) ?_ h'.2⟩) h2
  intro hs1
  simp only [Bool.and_eq_true, Bool.not_eq_true'] at hs1
  rcases h'.1 with h3 | h3
  · rw [hs1.2] at h3; cases h3
  · exact h3
theorem wpAnyG_of_tree (hs : Region.noSelect ops = true) (hQ : ∀ c a d v w, Q (.panic c) (a.put d v) w → Q (.panic c) a w) : ∀ (plan : PT) (s : Bool) (fuel : Nat) (listed : Array Bool) (a : Act) (w : World), Closed ops listed →
    plan.size ≤ fuel → planT ops tl s listed plan = true → (s = true → S w) → wpTree P ops Q S tl plan a w → wpAnyG P ops Q S tl fuel listed a w
  | .nil, s, fuel, listed, a, w, _, hf, hB, _, h => by
    have hB' : Region.ready .any ops listed = [] := by simpa [planT] using hB
    cases fuel with
    | zero => exact ⟨hB', h⟩
    | succ f => exact ⟨fun _ => h, fun i hi => by rw [hB'] at hi; cases hi⟩
  | .take i rest, s, fuel, listed, a, w, hc, hf, hB, hS, h => by
    obtain ⟨f, rfl⟩ : ∃ f, fuel = f + 1 := ⟨fuel - 1, by simp [PT.size] at hf; omega⟩
    simp only [planT, Bool.and_eq_true] at hB
    obtain ⟨⟨⟨⟨b1, b2⟩, b3⟩, b4⟩, b5⟩ := hB
    obtain ⟨o, v, ho, hy, hr⟩ := h
    have hr0 : i ∈ Region.ready .any ops listed := by simpa using b2
    have ht : ∀ j, tl.contains j = true → waitsB ops ops.size j i = true := fun j hj => by
      have := List.all_eq_true.1 b4 j (by simpa using hj)
      exact this
    exact wpAnyG_take ho hs (fun c a w h => hQ c a _ v w h) ht f listed a w hc (Region.free_spec ho b3) hr0 hy (hS b1) (wpAnyG_of_tree hs hQ rest s f _ _ w (hc.set hr0) (by simp [PT.size] at hf; omega) b5 hS hr)
  | .one i r, s, fuel, listed, a, w, hc, hf, hB, hS, h => by
    obtain ⟨f, rfl⟩ : ∃ f, fuel = f + 1 := ⟨fuel - 1, by simp [PT.size] at hf; omega⟩
    simp only [planT, Bool.and_eq_true, decide_eq_true_eq] at hB
    have hr0 : i ∈ Region.ready .any ops listed := by rw [hB.1]; simp
    refine ⟨fun h0 => (by rw [h0] at hr0; cases hr0), fun x hx => ?_⟩
    rw [hB.1] at hx
    obtain rfl : x = i := by simpa using hx
    exact doT_op (s := s) hc hr0 (fun a' w' hc' hs' h' => wpAnyG_of_tree hs hQ r _ f _ a' w' hc' (by simp [PT.size] at hf; omega) hB.2 hs' h') h
  | .two i r j q, s, fuel, listed, a, w, hc, hf, hB, hS, h => by
    obtain ⟨f, rfl⟩ : ∃ f, fuel = f + 1 := ⟨fuel - 1, by simp [PT.size] at hf; omega⟩
    simp only [planT, Bool.and_eq_true, decide_eq_true_eq] at hB
    have hr0 : i ∈ Region.ready .any ops listed := by rw [hB.1.1]; simp
    have hr1 : j ∈ Region.ready .any ops listed := by rw [hB.1.1]; simp
    refine ⟨fun h0 => (by rw [h0] at hr0; cases hr0), fun x hx => ?_⟩
    rw [hB.1.1] at hx
    have hx' : x = i ∨ x = j := by simpa using hx
    rcases hx' with rfl | rfl
    · exact doT_op (s := s) hc hr0 (fun a' w' hc' hs' h' => wpAnyG_of_tree hs hQ r _ f _ a' w' hc' (by simp [PT.size] at hf; omega) hB.1.2 hs' h') h.1
    · exact doT_op (s := s) hc hr1 (fun a' w' hc' hs' h' => wpAnyG_of_tree hs hQ q _ f _ a' w' hc' (by simp [PT.size] at hf; omega) hB.2 hs' h') h.2
  | .three i r j q k t, s, fuel, listed, a, w, hc, hf, hB, hS, h => by
    obtain ⟨f, rfl⟩ : ∃ f, fuel = f + 1 := ⟨fuel - 1, by simp [PT.size] at hf; omega⟩
    simp only [planT, Bool.and_eq_true, decide_eq_true_eq] at hB
    have hr0 : i ∈ Region.ready .any ops listed := by rw [hB.1.1.1]; simp
    have hr1 : j ∈ Region.ready .any ops listed := by rw [hB.1.1.1]; simp
    have hr2 : k ∈ Region.ready .any ops listed := by rw [hB.1.1.1]; simp
    refine ⟨fun h0 => (by rw [h0] at hr0; cases hr0), fun x hx => ?_⟩
    rw [hB.1.1.1] at hx
    have hx' : x = i ∨ x = j ∨ x = k := by simpa using hx
    rcases hx' with rfl | rfl | rfl
    · exact doT_op (s := s) hc hr0 (fun a' w' hc' hs' h' => wpAnyG_of_tree hs hQ r _ f _ a' w' hc' (by simp [PT.size] at hf; omega) hB.1.1.2 hs' h') h.1
    · exact doT_op (s := s) hc hr1 (fun a' w' hc' hs' h' => wpAnyG_of_tree hs hQ q _ f _ a' w' hc' (by simp [PT.size] at hf; omega) hB.1.2 hs' h') h.2.1
    · exact doT_op (s := s) hc hr2 (fun a' w' hc' hs' h' => wpAnyG_of_tree hs hQ t _ f _ a' w' hc' (by simp [PT.size] at hf; omega) hB.2 hs' h') h.2.2
theorem wp_region_tree {id : Nat} {a : Act} {w : World} {l : List Oper} (S : World → Prop) (tl : List Nat) (plan : PT) (hm : P.follows .mixedOrders = true) (hs : Region.noSelect l.toArray = true)
    (hl : Nat.ble plan.size l.length = true) (hB : planT l.toArray tl true (Array.replicate l.length false) plan = true) (hQ : ∀ c a d v w, Q (.panic c) (a.put d v) w → Q (.panic c) a w) (hS : S w.drew)
    (h : wpTree P l.toArray Q S tl plan a w.drew) : (Code.region id l.toArray true).wp P Q a w :=
  wp_region_any hm (by
    have := wpAnyG_of_tree hs hQ plan true l.length (Array.replicate l.length false) a w.drew (Closed.start _ _) (Nat.le_of_ble_eq_true hl) hB (fun _ => hS) h
    have := wpAny_of_G _ _ _ _ this
    simpa using this)
theorem wp_region_keepsT {id : Nat} {a : Act} {w w0 : World} {B : Nat} {l : List Oper} (M : List Blk) (hS : Keeps B w0 M w.drew) (tl : List Nat) (plan : PT) (hm : P.follows .mixedOrders = true) (hs : Region.noSelect l.toArray = true)
    (hl : Nat.ble plan.size l.length = true) (hB : planT l.toArray tl true (Array.replicate l.length false) plan = true) (hQ : ∀ c a d v w, Q (.panic c) (a.put d v) w → Q (.panic c) a w)
    (h : wpTree P l.toArray Q (Keeps B w0 M) tl plan a w.drew) : (Code.region id l.toArray true).wp P Q a w :=
  wp_region_tree _ tl plan hm hs hl hB hQ hS h
def treeQ (P : Program) (ops : Array Oper) (Q : Exit → Act → World → Prop) (S : World → Prop) (tl : List Nat) (r : PT) : Exit → Act → World → Prop := fun _ a w => wpTree P ops Q S tl r a w
theorem tree_take {i : Nat} {r : PT} {a : Act} {w : World} (h : wpPlan P ops (treeQ P ops Q S tl r) S tl [(i, true)] a w) : wpTree P ops Q S tl (.take i r) a w := h
theorem tree_on {r : PT} {a : Act} {w : World} (h : wpTree P ops Q S tl r a w) : wpPlan P ops (treeQ P ops Q S tl r) S tl [] a w := h
theorem tree_is {r : PT} {a : Act} {w : World} (h : wpTree P ops Q S tl r a w) : wpTree P ops Q S tl r a w := h
theorem tree_nil {a : Act} {w : World} (h : Q .normal a w) : wpTree P ops Q S tl .nil a w := h
variable {l : List Oper}
theorem doT_of {i : Nat} {G : Act → World → Prop} {a : Act} {w : World} {o : Oper} {r : List Oper} (ho : l.drop i = o :: r)
    (h : ∀ K : Act → World → Prop, Back (∀ a' w', (tl.contains i = true ∨ S w') → G a' w' → K a' w') → wpList P l.toArray (Exit.then K Q) [o] a w) : doT P l.toArray Q S tl i G a w :=
  ⟨o, at_drop ho, h _ fun _ _ hS hr => ⟨hS, hr⟩⟩
theorem tree_one {i : Nat} {r : PT} {a : Act} {w : World} (h : doT P l.toArray Q S tl i (wpTree P l.toArray Q S tl r) a w) : wpTree P l.toArray Q S tl (.one i r) a w := h
theorem tree_two {i j : Nat} {r q : PT} {a : Act} {w : World} (h : doT P l.toArray Q S tl i (wpTree P l.toArray Q S tl r) a w) (k : doT P l.toArray Q S tl j (wpTree P l.toArray Q S tl q) a w) : wpTree P l.toArray Q S tl (.two i r j q) a w := ⟨h, k⟩
end
end Go.Proofs.YtcjbepaclbhjaaaGreat
/- The walk of alloc. -/
namespace Go.Proofs.YtcjbepaclbhjaaaGreat
open Go.RowKit
theorem WorkAt.sm {B : Nat} {w0 w : World} {b : Nat} {x : Hv} {K : List Blk} (h : WorkAt B w0 w b x K) {e : Ending} {c v : Int} (he : e = .returned (resV c v)) : WorkPost B w0 b x c v K e w := ⟨he, x, Hv.Sm.refl x, h⟩
end Go.Proofs.YtcjbepaclbhjaaaGreat
