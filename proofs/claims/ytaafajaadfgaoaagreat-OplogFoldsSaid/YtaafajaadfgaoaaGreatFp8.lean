import Derived.Test.YtaafajaadfgaoaaGreatFp0
import Derived.Test.YtaafajaadfgaoaaGreatFp7
import Derived.Test.YtaafajaadfgaoaaGreatFp6
set_option linter.unusedSimpArgs false
set_option linter.unusedVariables false
set_option maxRecDepth 100000
set_option maxHeartbeats 60000000
namespace Go.Proofs.YtaafajaadfgaoaaGreat
open Go.RowKit
inductive PT where
 | nil
 | take (i : Nat) (r : PT)
 | one (i : Nat) (r : PT)
 | two (i : Nat) (r : PT) (j : Nat) (q : PT)
 | three (i : Nat) (r : PT) (j : Nat) (q : PT) (k : Nat) (t : PT)
def PT.size : PT → Nat
 | .nil => 0
 | .take _ r => r.size + 1
 | .one _ r => r.size + 1
 | .two _ r _ q => max r.size q.size + 1
 | .three _ r _ q _ t => max (max r.size q.size) t.size + 1
section
variable {P : Program} {ops : Array Oper} {Q : Exit → Act → World → Prop} {S : World → Prop} {tl : List Nat}
def doT (P : Program) (ops : Array Oper) (Q : Exit → Act → World → Prop) (S : World → Prop) (tl : List Nat) (i : Nat) (G : Act → World → Prop) (a : Act) (w : World) : Prop :=
 ∃ o, ops[i]? = some o ∧ wpList P ops (Exit.then (fun a' w' => (tl.contains i = true ∨ S w') ∧ G a' w') Q) [o] a w
def zaj (P : Program) (ops : Array Oper) (Q : Exit → Act → World → Prop) (S : World → Prop) (tl : List Nat) : PT → Act → World → Prop
 | .nil, a, w => Q .normal a w
 | .take i r, a, w => ∃ o v, ops[i]? = some o ∧ YieldsIf P ops S o v a ∧ zaj P ops Q S tl r (a.put o.dst v) w
 | .one i r, a, w => doT P ops Q S tl i (zaj P ops Q S tl r) a w
 | .two i r j q, a, w => doT P ops Q S tl i (zaj P ops Q S tl r) a w ∧ doT P ops Q S tl j (zaj P ops Q S tl q) a w
 | .three i r j q k t, a, w => doT P ops Q S tl i (zaj P ops Q S tl r) a w ∧ doT P ops Q S tl j (zaj P ops Q S tl q) a w ∧ doT P ops Q S tl k (zaj P ops Q S tl t) a w
def zda (ops : Array Oper) (tl : List Nat) : Bool → Array Bool → PT → Bool
 | _, listed, .nil => (Region.ready .any ops listed).isEmpty
 | s, listed, .take i r => s && (Region.ready .any ops listed).contains i && Region.free .any ops listed i && tl.all (fun j => zc3 ops ops.size j i) && zda ops tl s (listed.setIfInBounds i true) r
 | s, listed, .one i r => decide (Region.ready .any ops listed = [i]) && zda ops tl (s && !tl.contains i) (listed.setIfInBounds i true) r
 | s, listed, .two i r j q => decide (Region.ready .any ops listed = [i, j]) && zda ops tl (s && !tl.contains i) (listed.setIfInBounds i true) r && zda ops tl (s && !tl.contains j) (listed.setIfInBounds j true) q
 | s, listed, .three i r j q k t => decide (Region.ready .any ops listed = [i, j, k]) && zda ops tl (s && !tl.contains i) (listed.setIfInBounds i true) r && zda ops tl (s && !tl.contains j) (listed.setIfInBounds j true) q && zda ops tl (s && !tl.contains k) (listed.setIfInBounds k true) t
theorem zfd {i f : Nat} {r : PT} {s : Bool} {listed : Array Bool} {a : Act} {w : World} (hc : zbV ops listed) (hr0 : i ∈ Region.ready .any ops listed)
  (ih : ∀ (a' : Act) (w' : World), zbV ops (listed.setIfInBounds i true) → ((s && !tl.contains i) = true → S w') → zaj P ops Q S tl r a' w' → zd9 P ops Q S tl f (listed.setIfInBounds i true) a' w')
  (h : doT P ops Q S tl i (zaj P ops Q S tl r) a w) : wpOp P ops Q i (fun a' w' => (tl.contains i = true ∨ S w') ∧ zd9 P ops Q S tl f (listed.setIfInBounds i true) a' w') a w := by
 obtain ⟨o, ho, hr⟩ := h
 have h1 := zft hr
 have h2 : wpOp P ops Q i (fun a' w' => (tl.contains i = true ∨ S w') ∧ zaj P ops Q S tl r a' w') a w := by
  unfold wpOp; simp only [ho]; exact h1
 refine wpOp_mono (fun a' w' h' => ⟨h'.1, ih a' w' (hc.set hr0) ?_ h'.2⟩) h2
 intro hs1
 simp only [Bool.and_eq_true, Bool.not_eq_true'] at hs1
 rcases h'.1 with h3 | h3
 ·rw [hs1.2] at h3; cases h3
 ·exact h3
theorem ZW (hs : Region.noSelect ops = true) (hQ : ∀ c a d v w, Q (.panic c) (a.put d v) w → Q (.panic c) a w) : ∀ (plan : PT) (s : Bool) (fuel : Nat) (listed : Array Bool) (a : Act) (w : World), zbV ops listed →
  plan.size ≤ fuel → zda ops tl s listed plan = true → (s = true → S w) → zaj P ops Q S tl plan a w → zd9 P ops Q S tl fuel listed a w
 | .nil, s, fuel, listed, a, w, _, hf, hB, _, h => by
  have hB' : Region.ready .any ops listed = [] := by simpa [zda] using hB
  cases fuel with
  | zero => exact ⟨hB', h⟩
  | succ f => exact ⟨fun _ => h, fun i hi => by rw [hB'] at hi; cases hi⟩
 | .take i rest, s, fuel, listed, a, w, hc, hf, hB, hS, h => by
  obtain ⟨f, rfl⟩ : ∃ f, fuel = f + 1 := ⟨fuel - 1, by simp [PT.size] at hf; omega⟩
  simp only [zda, Bool.and_eq_true] at hB
  obtain ⟨⟨⟨⟨b1, b2⟩, b3⟩, b4⟩, b5⟩ := hB
  obtain ⟨o, v, ho, hy, hr⟩ := h
  have hr0 : i ∈ Region.ready .any ops listed := by simpa using b2
  have ht : ∀ j, tl.contains j = true → zc3 ops ops.size j i = true := fun j hj => by
   have := List.all_eq_true.1 b4 j (by simpa using hj)
   exact this
  exact zeV ho hs (fun c a w h => hQ c a _ v w h) ht f listed a w hc (Region.free_spec ho b3) hr0 hy (hS b1) (ZW hs hQ rest s f _ _ w (hc.set hr0) (by simp [PT.size] at hf; omega) b5 hS hr)
 | .one i r, s, fuel, listed, a, w, hc, hf, hB, hS, h => by
  obtain ⟨f, rfl⟩ : ∃ f, fuel = f + 1 := ⟨fuel - 1, by simp [PT.size] at hf; omega⟩
  simp only [zda, Bool.and_eq_true, decide_eq_true_eq] at hB
  have hr0 : i ∈ Region.ready .any ops listed := by rw [hB.1]; simp
  refine ⟨fun h0 => (by rw [h0] at hr0; cases hr0), fun x hx => ?_⟩
  rw [hB.1] at hx
  obtain rfl : x = i := by simpa using hx
  exact zfd (s := s) hc hr0 (fun a' w' hc' hs' h' => ZW hs hQ r _ f _ a' w' hc' (by simp [PT.size] at hf; omega) hB.2 hs' h') h
 | .two i r j q, s, fuel, listed, a, w, hc, hf, hB, hS, h => by
  obtain ⟨f, rfl⟩ : ∃ f, fuel = f + 1 := ⟨fuel - 1, by simp [PT.size] at hf; omega⟩
  simp only [zda, Bool.and_eq_true, decide_eq_true_eq] at hB
  have hr0 : i ∈ Region.ready .any ops listed := by rw [hB.1.1]; simp
  have hr1 : j ∈ Region.ready .any ops listed := by rw [hB.1.1]; simp
  refine ⟨fun h0 => (by rw [h0] at hr0; cases hr0), fun x hx => ?_⟩
  rw [hB.1.1] at hx
  have hx' : x = i ∨ x = j := by simpa using hx
  rcases hx' with rfl | rfl
  ·exact zfd (s := s) hc hr0 (fun a' w' hc' hs' h' => ZW hs hQ r _ f _ a' w' hc' (by simp [PT.size] at hf; omega) hB.1.2 hs' h') h.1
  ·exact zfd (s := s) hc hr1 (fun a' w' hc' hs' h' => ZW hs hQ q _ f _ a' w' hc' (by simp [PT.size] at hf; omega) hB.2 hs' h') h.2
 | .three i r j q k t, s, fuel, listed, a, w, hc, hf, hB, hS, h => by
  obtain ⟨f, rfl⟩ : ∃ f, fuel = f + 1 := ⟨fuel - 1, by simp [PT.size] at hf; omega⟩
  simp only [zda, Bool.and_eq_true, decide_eq_true_eq] at hB
  have hr0 : i ∈ Region.ready .any ops listed := by rw [hB.1.1.1]; simp
  have hr1 : j ∈ Region.ready .any ops listed := by rw [hB.1.1.1]; simp
  have hr2 : k ∈ Region.ready .any ops listed := by rw [hB.1.1.1]; simp
  refine ⟨fun h0 => (by rw [h0] at hr0; cases hr0), fun x hx => ?_⟩
  rw [hB.1.1.1] at hx
  have hx' : x = i ∨ x = j ∨ x = k := by simpa using hx
  rcases hx' with rfl | rfl | rfl
  ·exact zfd (s := s) hc hr0 (fun a' w' hc' hs' h' => ZW hs hQ r _ f _ a' w' hc' (by simp [PT.size] at hf; omega) hB.1.1.2 hs' h') h.1
  ·exact zfd (s := s) hc hr1 (fun a' w' hc' hs' h' => ZW hs hQ q _ f _ a' w' hc' (by simp [PT.size] at hf; omega) hB.1.2 hs' h') h.2.1
  ·exact zfd (s := s) hc hr2 (fun a' w' hc' hs' h' => ZW hs hQ t _ f _ a' w' hc' (by simp [PT.size] at hf; omega) hB.2 hs' h') h.2.2
theorem ze6 {id : Nat} {a : Act} {w : World} {l : List Oper} (S : World → Prop) (tl : List Nat) (plan : PT) (hm : P.follows .mixedOrders = true) (hs : Region.noSelect l.toArray = true)
  (hl : Nat.ble plan.size l.length = true) (hB : zda l.toArray tl true (Array.replicate l.length false) plan = true) (hQ : ∀ c a d v w, Q (.panic c) (a.put d v) w → Q (.panic c) a w) (hS : S w.drew)
  (h : zaj P l.toArray Q S tl plan a w.drew) : (Code.region id l.toArray true).wp P Q a w :=
 wp_region_any hm (by
  have := ZW hs hQ plan true l.length (Array.replicate l.length false) a w.drew (zbV.start _ _) (Nat.le_of_ble_eq_true hl) hB (fun _ => hS) h
  have := zd0 _ _ _ _ this
  simpa using this)
theorem ZT {id : Nat} {a : Act} {w w0 : World} {B : Nat} {l : List Oper} (M : List Blk) (hS : zE B w0 M w.drew) (tl : List Nat) (plan : PT) (hm : P.follows .mixedOrders = true) (hs : Region.noSelect l.toArray = true)
  (hl : Nat.ble plan.size l.length = true) (hB : zda l.toArray tl true (Array.replicate l.length false) plan = true) (hQ : ∀ c a d v w, Q (.panic c) (a.put d v) w → Q (.panic c) a w)
  (h : zaj P l.toArray Q (zE B w0 M) tl plan a w.drew) : (Code.region id l.toArray true).wp P Q a w :=
 ze6 _ tl plan hm hs hl hB hQ hS h
def znV (P : Program) (ops : Array Oper) (Q : Exit → Act → World → Prop) (S : World → Prop) (tl : List Nat) (r : PT) : Exit → Act → World → Prop := fun _ a w => zaj P ops Q S tl r a w
theorem zbB {i : Nat} {r : PT} {a : Act} {w : World} (h : zag P ops (znV P ops Q S tl r) S tl [(i, true)] a w) : zaj P ops Q S tl (.take i r) a w := h
theorem zde {r : PT} {a : Act} {w : World} (h : zaj P ops Q S tl r a w) : zag P ops (znV P ops Q S tl r) S tl [] a w := h
theorem zdd {r : PT} {a : Act} {w : World} (h : zaj P ops Q S tl r a w) : zaj P ops Q S tl r a w := h
theorem zcl {a : Act} {w : World} (h : Q .normal a w) : zaj P ops Q S tl .nil a w := h
variable {l : List Oper}
theorem zaA {i : Nat} {G : Act → World → Prop} {a : Act} {w : World} {o : Oper} {r : List Oper} (ho : l.drop i = o :: r)
  (h : ∀ K : Act → World → Prop, znZ (∀ a' w', (tl.contains i = true ∨ S w') → G a' w' → K a' w') → wpList P l.toArray (Exit.then K Q) [o] a w) : doT P l.toArray Q S tl i G a w :=
 ⟨o, zgW ho, h _ fun _ _ hS hr => ⟨hS, hr⟩⟩
theorem zcm {i : Nat} {r : PT} {a : Act} {w : World} (h : doT P l.toArray Q S tl i (zaj P l.toArray Q S tl r) a w) : zaj P l.toArray Q S tl (.one i r) a w := h
theorem zcn {i j : Nat} {r q : PT} {a : Act} {w : World} (h : doT P l.toArray Q S tl i (zaj P l.toArray Q S tl r) a w) (k : doT P l.toArray Q S tl j (zaj P l.toArray Q S tl q) a w) : zaj P l.toArray Q S tl (.two i r j q) a w := ⟨h, k⟩
end
open Go.RowKit
theorem zi6.sm {B : Nat} {w0 w : World} {b : Nat} {x : Hv} {K : List Blk} (h : zi6 B w0 w b x K) {e : Ending} {c v : Int} (he : e = .returned (zou c v)) : zkD B w0 b x c v K e w := ⟨he, x, Hv.Sm.refl x, h⟩
end Go.Proofs.YtaafajaadfgaoaaGreat
