import Derived.Test.YtjcbpfbifbfkcaaGreatTq0
import Derived.Test.YtjcbpfbifbfkcaaGreatTq12
import Derived.Test.YtjcbpfbifbfkcaaGreatTq5
set_option linter.unusedSimpArgs false
set_option linter.unusedVariables false
set_option maxRecDepth 100000
set_option maxHeartbeats 60000000
namespace Go.Proofs.YtjcbpfbifbfkcaaGreat
open Go.RowKit
inductive PT where
 | nil
 | take (i : Nat) (r : PT)
 | one (i : Nat) (r : PT)
 | two (i : Nat) (r : PT) (j : Nat) (q : PT)
 | three (i : Nat) (r : PT) (j : Nat) (q : PT) (k : Nat) (t : PT)
def PT.size : PT → Nat
 | .nil => 0
 | .take _ r => r.size + 1
 | .one _ r => r.size + 1
 | .two _ r _ q => max r.size q.size + 1
 | .three _ r _ q _ t => max (max r.size q.size) t.size + 1
section
variable {P : Program} {ops : Array Oper} {Q : Exit → Act → World → Prop} {S : World → Prop} {tl : List Nat}
def doT (P : Program) (ops : Array Oper) (Q : Exit → Act → World → Prop) (S : World → Prop) (tl : List Nat) (i : Nat) (G : Act → World → Prop) (a : Act) (w : World) : Prop :=
 ∃ o, ops[i]? = some o ∧ wpList P ops (Exit.then (fun a' w' => (tl.contains i = true ∨ S w') ∧ G a' w') Q) [o] a w
def Z1 (P : Program) (ops : Array Oper) (Q : Exit → Act → World → Prop) (S : World → Prop) (tl : List Nat) : PT → Act → World → Prop
 | .nil, a, w => Q .normal a w
 | .take i r, a, w => ∃ o v, ops[i]? = some o ∧ YieldsIf P ops S o v a ∧ Z1 P ops Q S tl r (a.put o.dst v) w
 | .one i r, a, w => doT P ops Q S tl i (Z1 P ops Q S tl r) a w
 | .two i r j q, a, w => doT P ops Q S tl i (Z1 P ops Q S tl r) a w ∧ doT P ops Q S tl j (Z1 P ops Q S tl q) a w
 | .three i r j q k t, a, w => doT P ops Q S tl i (Z1 P ops Q S tl r) a w ∧ doT P ops Q S tl j (Z1 P ops Q S tl q) a w ∧ doT P ops Q S tl k (Z1 P ops Q S tl t) a w
def zdG (ops : Array Oper) (tl : List Nat) : Bool → Array Bool → PT → Bool
 | _, listed, .nil => (Region.ready .any ops listed).isEmpty
 | s, listed, .take i r => s && (Region.ready .any ops listed).contains i && Region.free .any ops listed i && tl.all (fun j => zbo ops ops.size j i) && zdG ops tl s (listed.setIfInBounds i true) r
 | s, listed, .one i r => decide (Region.ready .any ops listed = [i]) && zdG ops tl (s && !tl.contains i) (listed.setIfInBounds i true) r
 | s, listed, .two i r j q => decide (Region.ready .any ops listed = [i, j]) && zdG ops tl (s && !tl.contains i) (listed.setIfInBounds i true) r && zdG ops tl (s && !tl.contains j) (listed.setIfInBounds j true) q
 | s, listed, .three i r j q k t => decide (Region.ready .any ops listed = [i, j, k]) && zdG ops tl (s && !tl.contains i) (listed.setIfInBounds i true) r && zdG ops tl (s && !tl.contains j) (listed.setIfInBounds j true) q && zdG ops tl (s && !tl.contains k) (listed.setIfInBounds k true) t
theorem zf4 {i f : Nat} {r : PT} {s : Bool} {listed : Array Bool} {a : Act} {w : World} (hc : zay ops listed) (hr0 : i ∈ Region.ready .any ops listed)
  (ih : ∀ (a' : Act) (w' : World), zay ops (listed.setIfInBounds i true) → ((s && !tl.contains i) = true → S w') → Z1 P ops Q S tl r a' w' → zeK P ops Q S tl f (listed.setIfInBounds i true) a' w')
  (h : doT P ops Q S tl i (Z1 P ops Q S tl r) a w) : wpOp P ops Q i (fun a' w' => (tl.contains i = true ∨ S w') ∧ zeK P ops Q S tl f (listed.setIfInBounds i true) a' w') a w := by
 obtain ⟨o, ho, hr⟩ := h
 have h1 := zdd hr
 have h2 : wpOp P ops Q i (fun a' w' => (tl.contains i = true ∨ S w') ∧ Z1 P ops Q S tl r a' w') a w := by
  unfold wpOp; simp only [ho]; exact h1
 refine wpOp_mono (fun a' w' h' => ⟨h'.1, ih a' w' (hc.set hr0) ?_ h'.2⟩) h2
 intro hs1
 simp only [Bool.and_eq_true, Bool.not_eq_true'] at hs1
 rcases h'.1 with h3 | h3
 ·rw [hs1.2] at h3; cases h3
 ·exact h3
theorem ZF (hs : Region.noSelect ops = true) (hQ : ∀ c a d v w, Q (.panic c) (a.put d v) w → Q (.panic c) a w) : ∀ (plan : PT) (s : Bool) (fuel : Nat) (listed : Array Bool) (a : Act) (w : World), zay ops listed →
  plan.size ≤ fuel → zdG ops tl s listed plan = true → (s = true → S w) → Z1 P ops Q S tl plan a w → zeK P ops Q S tl fuel listed a w
 | .nil, s, fuel, listed, a, w, _, hf, hB, _, h => by
  have hB' : Region.ready .any ops listed = [] := by simpa [zdG] using hB
  cases fuel with
  | zero => exact ⟨hB', h⟩
  | succ f => exact ⟨fun _ => h, fun i hi => by rw [hB'] at hi; cases hi⟩
 | .take i rest, s, fuel, listed, a, w, hc, hf, hB, hS, h => by
  obtain ⟨f, rfl⟩ : ∃ f, fuel = f + 1 := ⟨fuel - 1, by simp [PT.size] at hf; omega⟩
  simp only [zdG, Bool.and_eq_true] at hB
  obtain ⟨⟨⟨⟨b1, b2⟩, b3⟩, b4⟩, b5⟩ := hB
  obtain ⟨o, v, ho, hy, hr⟩ := h
  have hr0 : i ∈ Region.ready .any ops listed := by simpa using b2
  have ht : ∀ j, tl.contains j = true → zbo ops ops.size j i = true := fun j hj => by
   have := List.all_eq_true.1 b4 j (by simpa using hj)
   exact this
  exact zfL ho hs (fun c a w h => hQ c a _ v w h) ht f listed a w hc (Region.free_spec ho b3) hr0 hy (hS b1) (ZF hs hQ rest s f _ _ w (hc.set hr0) (by simp [PT.size] at hf; omega) b5 hS hr)
 | .one i r, s, fuel, listed, a, w, hc, hf, hB, hS, h => by
  obtain ⟨f, rfl⟩ : ∃ f, fuel = f + 1 := ⟨fuel - 1, by simp [PT.size] at hf; omega⟩
  simp only [zdG, Bool.and_eq_true, decide_eq_true_eq] at hB
  have hr0 : i ∈ Region.ready .any ops listed := by rw [hB.1]; simp
  refine ⟨fun h0 => (by rw [h0] at hr0; cases hr0), fun x hx => ?_⟩
  rw [hB.1] at hx
  obtain rfl : x = i := by simpa using hx
  exact zf4 (s := s) hc hr0 (fun a' w' hc' hs' h' => ZF hs hQ r _ f _ a' w' hc' (by simp [PT.size] at hf; omega) hB.2 hs' h') h
 | .two i r j q, s, fuel, listed, a, w, hc, hf, hB, hS, h => by
  obtain ⟨f, rfl⟩ : ∃ f, fuel = f + 1 := ⟨fuel - 1, by simp [PT.size] at hf; omega⟩
  simp only [zdG, Bool.and_eq_true, decide_eq_true_eq] at hB
  have hr0 : i ∈ Region.ready .any ops listed := by rw [hB.1.1]; simp
  have hr1 : j ∈ Region.ready .any ops listed := by rw [hB.1.1]; simp
  refine ⟨fun h0 => (by rw [h0] at hr0; cases hr0), fun x hx => ?_⟩
  rw [hB.1.1] at hx
  have hx' : x = i ∨ x = j := by simpa using hx
  rcases hx' with rfl | rfl
  ·exact zf4 (s := s) hc hr0 (fun a' w' hc' hs' h' => ZF hs hQ r _ f _ a' w' hc' (by simp [PT.size] at hf; omega) hB.1.2 hs' h') h.1
  ·exact zf4 (s := s) hc hr1 (fun a' w' hc' hs' h' => ZF hs hQ q _ f _ a' w' hc' (by simp [PT.size] at hf; omega) hB.2 hs' h') h.2
 | .three i r j q k t, s, fuel, listed, a, w, hc, hf, hB, hS, h => by
  obtain ⟨f, rfl⟩ : ∃ f, fuel = f + 1 := ⟨fuel - 1, by simp [PT.size] at hf; omega⟩
  simp only [zdG, Bool.and_eq_true, decide_eq_true_eq] at hB
  have hr0 : i ∈ Region.ready .any ops listed := by rw [hB.1.1.1]; simp
  have hr1 : j ∈ Region.ready .any ops listed := by rw [hB.1.1.1]; simp
  have hr2 : k ∈ Region.ready .any ops listed := by rw [hB.1.1.1]; simp
  refine ⟨fun h0 => (by rw [h0] at hr0; cases hr0), fun x hx => ?_⟩
  rw [hB.1.1.1] at hx
  have hx' : x = i ∨ x = j ∨ x = k := by simpa using hx
  rcases hx' with rfl | rfl | rfl
  ·exact zf4 (s := s) hc hr0 (fun a' w' hc' hs' h' => ZF hs hQ r _ f _ a' w' hc' (by simp [PT.size] at hf; omega) hB.1.1.2 hs' h') h.1
  ·exact zf4 (s := s) hc hr1 (fun a' w' hc' hs' h' => ZF hs hQ q _ f _ a' w' hc' (by simp [PT.size] at hf; omega) hB.1.2 hs' h') h.2.1
  ·exact zf4 (s := s) hc hr2 (fun a' w' hc' hs' h' => ZF hs hQ t _ f _ a' w' hc' (by simp [PT.size] at hf; omega) hB.2 hs' h') h.2.2
theorem zfT {id : Nat} {a : Act} {w : World} {l : List Oper} (S : World → Prop) (tl : List Nat) (plan : PT) (hm : P.follows .mixedOrders = true) (hs : Region.noSelect l.toArray = true)
  (hl : Nat.ble plan.size l.length = true) (hB : zdG l.toArray tl true (Array.replicate l.length false) plan = true) (hQ : ∀ c a d v w, Q (.panic c) (a.put d v) w → Q (.panic c) a w) (hS : S w.drew)
  (h : Z1 P l.toArray Q S tl plan a w.drew) : (Code.region id l.toArray true).wp P Q a w :=
 wp_region_any hm (by
  have := ZF hs hQ plan true l.length (Array.replicate l.length false) a w.drew (zay.start _ _) (Nat.le_of_ble_eq_true hl) hB (fun _ => hS) h
  have := zek _ _ _ _ this
  simpa using this)
theorem Zh {id : Nat} {a : Act} {w w0 : World} {B : Nat} {l : List Oper} (M : List Blk) (hS : zv B w0 M w.drew) (tl : List Nat) (plan : PT) (hm : P.follows .mixedOrders = true) (hs : Region.noSelect l.toArray = true)
  (hl : Nat.ble plan.size l.length = true) (hB : zdG l.toArray tl true (Array.replicate l.length false) plan = true) (hQ : ∀ c a d v w, Q (.panic c) (a.put d v) w → Q (.panic c) a w)
  (h : Z1 P l.toArray Q (zv B w0 M) tl plan a w.drew) : (Code.region id l.toArray true).wp P Q a w :=
 zfT _ tl plan hm hs hl hB hQ hS h
def zsi (P : Program) (ops : Array Oper) (Q : Exit → Act → World → Prop) (S : World → Prop) (tl : List Nat) (r : PT) : Exit → Act → World → Prop := fun _ a w => Z1 P ops Q S tl r a w
theorem zaR {i : Nat} {r : PT} {a : Act} {w : World} (h : ZJ P ops (zsi P ops Q S tl r) S tl [(i, true)] a w) : Z1 P ops Q S tl (.take i r) a w := h
theorem zcs {r : PT} {a : Act} {w : World} (h : Z1 P ops Q S tl r a w) : ZJ P ops (zsi P ops Q S tl r) S tl [] a w := h
theorem zcp {r : PT} {a : Act} {w : World} (h : Z1 P ops Q S tl r a w) : Z1 P ops Q S tl r a w := h
theorem zbq {a : Act} {w : World} (h : Q .normal a w) : Z1 P ops Q S tl .nil a w := h
variable {l : List Oper}
theorem ZB {i : Nat} {G : Act → World → Prop} {a : Act} {w : World} {o : Oper} {r : List Oper} (ho : l.drop i = o :: r)
  (h : ∀ K : Act → World → Prop, zta (∀ a' w', (tl.contains i = true ∨ S w') → G a' w' → K a' w') → wpList P l.toArray (Exit.then K Q) [o] a w) : doT P l.toArray Q S tl i G a w :=
 ⟨o, zjL ho, h _ fun _ _ hS hr => ⟨hS, hr⟩⟩
theorem zbv {i : Nat} {r : PT} {a : Act} {w : World} (h : doT P l.toArray Q S tl i (Z1 P l.toArray Q S tl r) a w) : Z1 P l.toArray Q S tl (.one i r) a w := h
theorem zbs {i j : Nat} {r q : PT} {a : Act} {w : World} (h : doT P l.toArray Q S tl i (Z1 P l.toArray Q S tl r) a w) (k : doT P l.toArray Q S tl j (Z1 P l.toArray Q S tl q) a w) : Z1 P l.toArray Q S tl (.two i r j q) a w := ⟨h, k⟩
theorem zgi {i j k : Nat} {r q t : PT} {a : Act} {w : World} (h : doT P l.toArray Q S tl i (Z1 P l.toArray Q S tl r) a w) (h2 : doT P l.toArray Q S tl j (Z1 P l.toArray Q S tl q) a w) (h3 : doT P l.toArray Q S tl k (Z1 P l.toArray Q S tl t) a w) : Z1 P l.toArray Q S tl (.three i r j q k t) a w := ⟨h, h2, h3⟩
end
open Go.RowKit
theorem zax {ty : TypeId} {k : Nat} (h : ZM Tryz.prog ty k = true := by with_reducible first | exact zP | exact zG | exact zw | exact zf8 | exact zt | exact zac) : ZM Tryz.prog ty k = true := h
theorem zb1 {ty : TypeId} (h : zF Tryz.prog ty = true := by with_reducible first | exact zm | exact Zt | exact Zi | exact Zd | exact Zj) : zF Tryz.prog ty = true := h
theorem zY.sm {B : Nat} {w0 w : World} {b : Nat} {x : Hv} {K : List Blk} (h : zY B w0 w b x K) {e : Ending} {c v : Int} (he : e = .returned (zaP c v)) : zU B w0 b x c v K e w := ⟨he, x, Hv.Sm.refl x, h⟩
theorem zf0 {od : Int} {oa : Option Addr} {os : List Ob} {oc : Nat} {nx t0 t1 t2 t3 : Int} {fa : Option Addr} {fs : List Bl} {fc : Nat} {kk hh ii nn cc vv tt : Int} {RO RF M : List Blk} {nd : Int} (HND : Hid (ZC nn cc = nd)) (h : nd < 0) {B bw : Nat} {w0 w : World} {K : List Blk} (hR : Hid (HvR (⟨od, oa, os, oc, nx, t0, t1, t2, t3, fa, fs, fc⟩ : Hv) RO RF M)) (hp : Hp B w0 w (⟨bw, hvL (⟨od, oa, os, oc, nx, t0, t1, t2, t3, fa, fs, fc⟩ : Hv), 133, 8⟩ :: (RO ++ (RF ++ (M ++ K))))) :
  Calls Tryz.prog 152 #[.pointer (some ⟨bw, 0, none⟩), .agg #[.int .i64 kk, .int .i64 hh, .int .i64 ii, .int .i64 nn, .int .i64 cc, .int .i64 vv, .int .i64 tt]] w (zU B w0 bw (⟨od, oa, os, oc, nx, t0, t1, t2, t3, fa, fs, fc⟩ : Hv) 53 0 K) := by
 simp only [hvL] at hp
 have e0 : decide (nd < 0) = true := decide_eq_true h
 clear h
 go_enter Tryz.func152, Tryz.ntmps152
 go_wp2_with (first | (go_at_call 144; (with_reducible refine (zaY _ _ _).mono ?_); rintro e w' ⟨rfl, rfl⟩; rw [HND.out]) | (go_at_call 86; (with_reducible refine (zds _ _).mono ?_); rintro e w1 ⟨rfl, hb⟩; replace hp := hp.call hb; clear hb; unfold zaP) | go_skip | ((first | ((refine zf _ rfl ?_); refine lZ hp rfl (by with_reducible first | exact zL | exact z6) ?_; clear hp; intro b w1 hp) | ((refine zi _ _ rfl ?_); refine lB hp rfl (za rfl) rfl ?_; clear hp; intro b w1 hp) | ((refine ze _ _ rfl ?_); first | refine lO hp rfl (za rfl) zb1 zn ?_ | refine lA hp rfl (za rfl) zax zn ?_) | ((refine zd _ _ _ rfl ?_); (first | refine sO hp rfl (za rfl) zb1 zn ?_ | refine sA hp rfl (za rfl) (za rfl) zax zn ?_ | refine sG hp rfl (za rfl) (za rfl) zax zn ?_); clear hp; intro w1 hp; simp only [spl, z0a, z0b] at hp) | ((refine zk _ _ _ rfl ?_); refine lS hp rfl (by intro w; go_simp; rfl) ?_; clear hp; intro b w1 hp; simp only [z0g, z0h, Nat.reduceAdd] at hp)); simp only [zc, zb, z0b, z0a]))
 exact bodyPost_ret (zA (rs := [.cell 4 71]) Tryz.results152 (.cell rfl (hp.loadAgg zt at0 0 _ (by rfl) (by rfl)) .nil)) rfl (zY.sm ⟨RO, RF, M, hR.out, hp.tail.tail⟩ rfl)
theorem zfW {od : Int} {oa : Option Addr} {os : List Ob} {oc : Nat} {nx t0 t1 t2 t3 : Int} {fa : Option Addr} {fs : List Bl} {fc : Nat} {kk hh ii nn cc vv tt : Int} {RO RF M : List Blk} {nd : Int} (HND : Hid (ZC nn cc = nd)) (h : 0 ≤ nd) (h2 : 1000000 < nx) {B bw : Nat} {w0 w : World} {K : List Blk} (hR : Hid (HvR (⟨od, oa, os, oc, nx, t0, t1, t2, t3, fa, fs, fc⟩ : Hv) RO RF M)) (hp : Hp B w0 w (⟨bw, hvL (⟨od, oa, os, oc, nx, t0, t1, t2, t3, fa, fs, fc⟩ : Hv), 133, 8⟩ :: (RO ++ (RF ++ (M ++ K))))) :
  Calls Tryz.prog 152 #[.pointer (some ⟨bw, 0, none⟩), .agg #[.int .i64 kk, .int .i64 hh, .int .i64 ii, .int .i64 nn, .int .i64 cc, .int .i64 vv, .int .i64 tt]] w (zU B w0 bw (⟨od, oa, os, oc, nx, t0, t1, t2, t3, fa, fs, fc⟩ : Hv) 2 0 K) := by
 simp only [hvL] at hp
 have e0 : decide (nd < 0) = false := decide_eq_false (by omega)
 have e1 : decide (1000000 < nx) = true := decide_eq_true h2
 clear h h2
 go_enter Tryz.func152, Tryz.ntmps152
 go_wp2_with (first | (go_at_call 144; (with_reducible refine (zaY _ _ _).mono ?_); rintro e w' ⟨rfl, rfl⟩; rw [HND.out]) | (go_at_call 86; (with_reducible refine (zds _ _).mono ?_); rintro e w1 ⟨rfl, hb⟩; replace hp := hp.call hb; clear hb; unfold zaP) | go_skip | ((first | ((refine zf _ rfl ?_); refine lZ hp rfl (by with_reducible first | exact zL | exact z6) ?_; clear hp; intro b w1 hp) | ((refine zi _ _ rfl ?_); refine lB hp rfl (za rfl) rfl ?_; clear hp; intro b w1 hp) | ((refine ze _ _ rfl ?_); first | refine lO hp rfl (za rfl) zb1 zn ?_ | refine lA hp rfl (za rfl) zax zn ?_) | ((refine zd _ _ _ rfl ?_); (first | refine sO hp rfl (za rfl) zb1 zn ?_ | refine sA hp rfl (za rfl) (za rfl) zax zn ?_ | refine sG hp rfl (za rfl) (za rfl) zax zn ?_); clear hp; intro w1 hp; simp only [spl, z0a, z0b] at hp) | ((refine zk _ _ _ rfl ?_); refine lS hp rfl (by intro w; go_simp; rfl) ?_; clear hp; intro b w1 hp; simp only [z0g, z0h, Nat.reduceAdd] at hp)); simp only [zc, zb, z0b, z0a]))
 exact bodyPost_ret (zA (rs := [.cell 4 71]) Tryz.results152 (.cell rfl (hp.loadAgg zt at0 0 _ (by rfl) (by rfl)) .nil)) rfl (zY.sm ⟨RO, RF, M, hR.out, hp.tail.tail⟩ rfl)
theorem zdo {od : Int} {oa : Option Addr} {os : List Ob} {oc : Nat} {nx t0 t1 t2 t3 : Int} {fa : Option Addr} {fs : List Bl} {fc : Nat} {kk hh ii nn cc vv tt : Int} {RO RF M : List Blk} {nd c : Int} (HND : Hid (ZC nn cc = nd)) (h : 0 ≤ nd) (h2 : nx ≤ 1000000) (hc : c = 1 ∨ c = 40) (KT : Hid (∀ a k (w : World), zr w a (fs.flatMap blV) → Calls Tryz.prog 195 #[.int .i64 od, .slice a fs.length k, .int .i64 nd] w (zmB w c)))
  {B bw : Nat} {w0 w : World} {K : List Blk} (hR : Hid (HvR (⟨od, oa, os, oc, nx, t0, t1, t2, t3, fa, fs, fc⟩ : Hv) RO RF M)) (hp : Hp B w0 w (⟨bw, hvL (⟨od, oa, os, oc, nx, t0, t1, t2, t3, fa, fs, fc⟩ : Hv), 133, 8⟩ :: (RO ++ (RF ++ (M ++ K))))) :
  Calls Tryz.prog 152 #[.pointer (some ⟨bw, 0, none⟩), .agg #[.int .i64 kk, .int .i64 hh, .int .i64 ii, .int .i64 nn, .int .i64 cc, .int .i64 vv, .int .i64 tt]] w (zU B w0 bw (⟨od, oa, os, oc, nx, t0, t1, t2, t3, fa, fs, fc⟩ : Hv) 50 0 K) := by
 simp only [hvL] at hp
 have HRF : Hid (ZD RF fun w => zr w fa (fs.flatMap blV)) := z0j hR.out.free.keptS
 have e0 : decide (nd < 0) = false := decide_eq_false (by omega)
 have e1 : decide (1000000 < nx) = false := decide_eq_false (by omega)
 clear h h2
 rcases hc with rfl | rfl
 all_goals
  go_enter Tryz.func152, Tryz.ntmps152
  go_wp2_with (first | (go_at_call 144; (with_reducible refine (zaY _ _ _).mono ?_); rintro e w' ⟨rfl, rfl⟩; rw [HND.out]) | (go_at_call 86; (with_reducible refine (zds _ _).mono ?_); rintro e w1 ⟨rfl, hb⟩; replace hp := hp.call hb; clear hb; unfold zaP) | go_skip | ((first | ((refine zf _ rfl ?_); refine lZ hp rfl (by with_reducible first | exact zL | exact z6) ?_; clear hp; intro b w1 hp) | ((refine zi _ _ rfl ?_); refine lB hp rfl (za rfl) rfl ?_; clear hp; intro b w1 hp) | ((refine ze _ _ rfl ?_); first | refine lO hp rfl (za rfl) zb1 zn ?_ | refine lA hp rfl (za rfl) zax zn ?_) | ((refine zd _ _ _ rfl ?_); (first | refine sO hp rfl (za rfl) zb1 zn ?_ | refine sA hp rfl (za rfl) (za rfl) zax zn ?_ | refine sG hp rfl (za rfl) (za rfl) zax zn ?_); clear hp; intro w1 hp; simp only [spl, z0a, z0b] at hp) | ((refine zk _ _ _ rfl ?_); refine lS hp rfl (by intro w; go_simp; rfl) ?_; clear hp; intro b w1 hp; simp only [z0g, z0h, Nat.reduceAdd] at hp)); simp only [zc, zb, z0b, z0a]))
  refine Zh [_] (zv.one hp.drew at2) [] (.take 0 (.take 1 (.take 2 (.take 3 (.take 4 (.take 5 (.take 6 (.take 7 (.take 8 (.take 9 (.take 10 (.two 11 (.take 12 (.take 13 (.take 14 (.take 15 (.one 16 (.one 17 (.one 18 (.one 19 .nil)))))))) 16 (.one 11 (.take 12 (.take 13 (.take 14 (.take 15 (.one 17 (.one 18 (.one 19 .nil)))))))))))))))))))) (by kernel_rfl) (by kernel_rfl) (by kernel_rfl) (by kernel_rfl) (fun _ _ d _ _ h => by cases d <;> exact h) ?_
  replace hp := hp.drew
  repeat' (with_reducible refine zcp ?_); first | (with_reducible refine zbq ?_) | ((with_reducible refine zaR ?_); refine zu rfl ?_; (first | ((with_reducible refine zT _ rfl ?_); refine tM rfl ?_) | ((with_reducible refine zW _ _ rfl ?_); refine tO rfl (za rfl) (by with_reducible first | exact zm | exact Zj) aa5 ?_) | refine tG (fun w _ => (by go_simp; try rfl)) ?_); refine zcs ?_; try simp only [zc, zb, zj, zg, z0b, z0a, z0d, z0c, zl]) | ((first | refine zbv (ZB rfl (fun K hK => ?_)) | refine zbs (ZB rfl (fun K hK => ?_)) (ZB rfl (fun K hK => ?_))) <;> (go_wp2_with (first | (go_at_call 195; (with_reducible refine (KT.out fa fc _ (HRF.out.at hp (fun p hm => by simp [hm]))).mono ?_); rintro e w1 ⟨rfl, hb⟩; replace hp := hp.call hb; clear hb) | go_skip | ((first | ((refine zf _ rfl ?_); refine lZ hp rfl (by with_reducible first | exact zL | exact z6) ?_; clear hp; intro b w1 hp) | ((refine zd _ _ _ rfl ?_); (first | refine sO hp rfl (za rfl) zb1 zn ?_ | refine sA hp rfl (za rfl) (za rfl) zax zn ?_ | refine sG hp rfl (za rfl) (za rfl) zax zn ?_); clear hp; intro w1 hp; simp only [spl, z0a, z0b] at hp)); simp only [zc, zb, z0b, z0a])); (refine hK.out _ _ (.inr (zv.one hp aa5)) ?_); clear hK K; try simp only [zc, zb, zj, zg, z0b, z0a, z0d, z0c, zl]))
 all_goals
  go_wp2_with (first | (go_at_call 144; (with_reducible refine (zaY _ _ _).mono ?_); rintro e w' ⟨rfl, rfl⟩; rw [HND.out]) | (go_at_call 86; (with_reducible refine (zds _ _).mono ?_); rintro e w1 ⟨rfl, hb⟩; replace hp := hp.call hb; clear hb; unfold zaP) | go_skip | ((first | ((refine zf _ rfl ?_); refine lZ hp rfl (by with_reducible first | exact zL | exact z6) ?_; clear hp; intro b w1 hp) | ((refine zi _ _ rfl ?_); refine lB hp rfl (za rfl) rfl ?_; clear hp; intro b w1 hp) | ((refine ze _ _ rfl ?_); first | refine lO hp rfl (za rfl) zb1 zn ?_ | refine lA hp rfl (za rfl) zax zn ?_) | ((refine zd _ _ _ rfl ?_); (first | refine sO hp rfl (za rfl) zb1 zn ?_ | refine sA hp rfl (za rfl) (za rfl) zax zn ?_ | refine sG hp rfl (za rfl) (za rfl) zax zn ?_); clear hp; intro w1 hp; simp only [spl, z0a, z0b] at hp) | ((refine zk _ _ _ rfl ?_); refine lS hp rfl (by intro w; go_simp; rfl) ?_; clear hp; intro b w1 hp; simp only [z0g, z0h, Nat.reduceAdd] at hp)); simp only [zc, zb, z0b, z0a]))
  exact bodyPost_ret (zA (rs := [.cell 4 71]) Tryz.results152 (.cell rfl (hp.loadAgg zt at1 0 _ (by rfl) (by rfl)) .nil)) rfl (zY.sm ⟨RO, RF, M, hR.out, hp.tail.tail.tail⟩ rfl)
theorem ziV (m : Nat) : (Z9 m).flatMap iV = List.replicate m (.int .i64 0) := by
 rw [zdY]; simp [Z9]
theorem zhR (g m : Nat) (hm : m ≤ 100) : zB 3 1 (.slice (some ⟨g, 0, none⟩) (Z9 m).length m) (Z9 m).length ((Z9 m).flatMap iV) [⟨g, List.replicate m (.int .i64 0), 3, m⟩] := by
 have hl : (Z9 m).length = m := by simp [Z9]
 refine ⟨zaC _, .inr ⟨g, m, rfl, by rw [hl]; exact Nat.le_refl _, by unfold maxLen; omega, ?_⟩⟩
 rw [ziV, Nat.mul_one]
theorem zmd (m : Nat) : (Z9 m).length = m := by simp [Z9]
theorem Z4.snocs (l : List Ob) {x y : Ob} (h : x.Sm y) : Z4 (l ++ [x]) (l ++ [y]) := by
 refine ⟨by simp, fun i a b h1 h2 => ?_⟩
 rcases Nat.lt_or_ge i l.length with hi | hi
 ·rw [List.getElem?_append_left hi] at h1 h2
  rw [h1] at h2; injection h2 with h2; subst h2; exact Ob.Sm.rfl_ _
 ·rw [List.getElem?_append_right hi] at h1 h2
  have h3 : i - l.length = 0 := by
   have := (List.getElem?_eq_some_iff.1 h1).1
   simp at this; omega
  rw [h3] at h1 h2
  simp at h1 h2
  subst h1 h2
  exact h
theorem zpW {P : Program} {ops : Array Oper} {rest : List Oper} {o : Oper} {a : Act} {w : World} {Q : Exit → Act → World → Prop} (t : TypeId) (x y : Operand) (_ : o.op = .makeSlice t x y) (h : wpList P ops Q (o :: rest) a w) : wpList P ops Q (o :: rest) a w := h
theorem zjy {od : Int} {oa : Option Addr} {os : List Ob} {oc : Nat} {nx t0 t1 t2 t3 : Int} {fa : Option Addr} {fs : List Bl} {fc : Nat} {kk hh ii vv tt : Int} {m k : Nat} {RO RF M : List Blk} {nd tp to : Int}
  (HND : Hid (ZC m k = nd)) (h : 0 ≤ nd) (h1 : nd ≤ od) (hmm : m ≤ 32) (hkk : k ≤ 16) (h2 : nx ≤ 1000000) (h3 : 1 ≤ nx) (hol : os.length ≤ 256) (hfl : fs.length ≤ 600) (HFR : Hid (Zc od fs = true)) (HGR : Hid (Z0 fs nd = true))
  (HUQ : Hid (∀ (b : Bl) s, zeI nd fs b → zkd nd fs b s → b = ⟨tp, to⟩ ∧ s = zcW fs ⟨tp, to⟩ nd)) {B bw : Nat} {w0 w : World} {KF : List Blk} (hR : Hid (HvR (⟨od, oa, os, oc, nx, t0, t1, t2, t3, fa, fs, fc⟩ : Hv) RO RF M)) (hp : Hp B w0 w (⟨bw, hvL (⟨od, oa, os, oc, nx, t0, t1, t2, t3, fa, fs, fc⟩ : Hv), 133, 8⟩ :: (RO ++ (RF ++ (M ++ KF))))) :
  Calls Tryz.prog 152 #[.pointer (some ⟨bw, 0, none⟩), .agg #[.int .i64 kk, .int .i64 hh, .int .i64 ii, .int .i64 m, .int .i64 k, .int .i64 vv, .int .i64 tt]] w (zU B w0 bw (zfX (⟨od, oa, os, oc, nx, t0, t1, t2, t3, fa, fs, fc⟩ : Hv) ⟨tp, to⟩ nd (Z9 m) (Z9 k)) 0 nx KF) := by
 obtain ⟨i0, hi0, hz0, hz1, hz2⟩ := info_parts zg7
 obtain ⟨i1, hi1, hy0, hy1, hy2⟩ := info_parts zne
 simp only [hvL] at hp
 have HRF : Hid (ZD RF fun w => zr w fa (fs.flatMap blV)) := z0j hR.out.free.keptS
 have HRO : Hid (zB 148 5 (.slice oa os.length oc) os.length (os.flatMap obV) RO) := z0j hR.out.objs
 have HN0 := z0j h
 have HND2 := z0j h1
 have sm1 : os.length + 1 ≤ maxLen := by unfold maxLen; omega
 have sm2 : (os.length + 1) * 72 ≤ 140737488355328 := by omega
 have e0 : decide (nd < 0) = false := decide_eq_false (by omega)
 have e1 : decide (1000000 < nx) = false := decide_eq_false (by omega)
 clear h h1
 go_enter Tryz.func152, Tryz.ntmps152
 go_wp2_with (first | (go_at_call 144; (with_reducible refine (zaY _ _ _).mono ?_); rintro e w' ⟨rfl, rfl⟩; rw [HND.out]) | go_skip | ((first | ((refine zf _ rfl ?_); refine lZ hp rfl (by with_reducible first | exact zL | exact z6) ?_; clear hp; intro b w1 hp) | ((refine zi _ _ rfl ?_); refine lB hp rfl (za rfl) rfl ?_; clear hp; intro b w1 hp) | ((refine ze _ _ rfl ?_); first | refine lO hp rfl (za rfl) zb1 zn ?_ | refine lA hp rfl (za rfl) zax zn ?_) | ((refine zd _ _ _ rfl ?_); (first | refine sO hp rfl (za rfl) zb1 zn ?_ | refine sA hp rfl (za rfl) (za rfl) zax zn ?_ | refine sG hp rfl (za rfl) (za rfl) zax zn ?_); clear hp; intro w1 hp; simp only [spl, z0a, z0b] at hp) | ((refine zk _ _ _ rfl ?_); refine lS hp rfl (by intro w; go_simp; rfl) ?_; clear hp; intro b w1 hp; simp only [z0g, z0h, Nat.reduceAdd] at hp)); simp only [zc, zb, z0b, z0a]))
 refine Zh [_] (zv.one hp.drew at2) [] (.take 0 (.take 1 (.take 2 (.take 3 (.take 4 (.take 5 (.take 6 (.take 7 (.take 8 (.take 9 (.take 10 (.two 11 (.take 12 (.take 13 (.take 14 (.take 15 (.one 16 (.one 17 (.one 18 (.one 19 .nil)))))))) 16 (.one 11 (.take 12 (.take 13 (.take 14 (.take 15 (.one 17 (.one 18 (.one 19 .nil)))))))))))))))))))) (by kernel_rfl) (by kernel_rfl) (by kernel_rfl) (by kernel_rfl) (fun _ _ d _ _ h => by cases d <;> exact h) ?_
 replace hp := hp.drew
 repeat' (with_reducible refine zcp ?_); first | (with_reducible refine zbq ?_) | ((with_reducible refine zaR ?_); refine zu rfl ?_; (first | ((with_reducible refine zT _ rfl ?_); refine tM rfl ?_) | ((with_reducible refine zW _ _ rfl ?_); refine tO rfl (za rfl) (by with_reducible first | exact zm | exact Zj) aa5 ?_) | refine tG (fun w _ => (by go_simp; try rfl)) ?_); refine zcs ?_; try simp only [zc, zb, zj, zg, z0b, z0a, z0d, z0c, zl]) | ((first | refine zbv (ZB rfl (fun K hK => ?_)) | refine zbs (ZB rfl (fun K hK => ?_)) (ZB rfl (fun K hK => ?_))) <;> (go_wp2_with (first | (go_at_call 195; (with_reducible refine (zkP od nd fs fa fc hfl _ (HRF.out.at hp (fun p hm => by simp [hm])) HFR.out HN0.out HND2.out HGR.out).mono ?_); rintro e w1 ⟨tb, a1, k1, R1, s, rfl, hlt, htk, hr1, hpx⟩; obtain ⟨rfl, rfl⟩ := HUQ.out tb s hlt htk; dsimp only; replace hp := hp.join hpx; have HR1 := z0j hr1; clear hpx hlt htk hr1; try simp only [z0f, z0e, z0i] at hp) | go_skip | ((first | ((refine zf _ rfl ?_); refine lZ hp rfl (by with_reducible first | exact zL | exact z6) ?_; clear hp; intro b w1 hp) | ((refine zd _ _ _ rfl ?_); (first | refine sO hp rfl (za rfl) zb1 zn ?_ | refine sA hp rfl (za rfl) (za rfl) zax zn ?_ | refine sG hp rfl (za rfl) (za rfl) zax zn ?_); clear hp; intro w1 hp; simp only [spl, z0a, z0b] at hp)); simp only [zc, zb, z0b, z0a])); (refine hK.out _ _ (.inr (zv.one hp aa5)) ?_); clear hK K; try simp only [zc, zb, zj, zg, z0b, z0a, z0d, z0c, zl]))
 all_goals
  go_wp2_with (first | go_skip | ((first | ((refine zf _ rfl ?_); refine lZ hp rfl (by with_reducible first | exact zL | exact z6) ?_; clear hp; intro b w1 hp) | ((refine zi _ _ rfl ?_); refine lB hp rfl (za rfl) rfl ?_; clear hp; intro b w1 hp) | ((refine ze _ _ rfl ?_); first | refine lO hp rfl (za rfl) zb1 zn ?_ | refine lA hp rfl (za rfl) zax zn ?_) | ((refine zd _ _ _ rfl ?_); (first | refine sO hp rfl (za rfl) zb1 zn ?_ | refine sA hp rfl (za rfl) (za rfl) zax zn ?_ | refine sG hp rfl (za rfl) (za rfl) zax zn ?_); clear hp; intro w1 hp; simp only [spl, z0a, z0b] at hp) | ((refine zk _ _ _ rfl ?_); refine lS hp rfl (by intro w; go_simp; rfl) ?_; clear hp; intro b w1 hp; simp only [z0g, z0h, Nat.reduceAdd] at hp)); simp only [zc, zb, z0b, z0a]))
  obtain ⟨bb, rfl⟩ := hp.id0
  obtain ⟨br, rfl⟩ := hp.id1
  obtain ⟨bo, rfl⟩ := hp.id2
  refine Zh [_, _, _] (zv.three hp.drew at0 at2 at3) [] (.take 0 (.take 1 (.take 2 (.take 3 (.take 4 (.take 5 (.take 6 (.take 7 (.take 9 (.take 10 (.three 8 (.two 11 (.take 12 (.one 13 (.one 14 .nil))) 13 (.one 11 (.take 12 (.one 14 .nil)))) 11 (.two 8 (.take 12 (.one 13 (.one 14 .nil))) 13 (.one 8 (.take 12 (.one 14 .nil)))) 13 (.two 8 (.one 11 (.take 12 (.one 14 .nil))) 11 (.one 8 (.take 12 (.one 14 .nil))))))))))))))) (by kernel_rfl) (by kernel_rfl) (by kernel_rfl) (by kernel_rfl) (fun _ _ d _ _ h => by cases d <;> exact h) ?_
  replace hp := hp.drew
  repeat' (with_reducible refine zcp ?_); first | (with_reducible refine zbq ?_) | ((with_reducible refine zaR ?_); refine zu rfl ?_; (first | ((with_reducible refine zT _ rfl ?_); refine tM rfl ?_) | ((with_reducible refine zW _ _ rfl ?_); first | refine tA rfl (za rfl) zw zn ?_ | refine tO rfl (za rfl) zm zn ?_) | refine tG (fun w _ => (by go_simp; try rfl)) ?_); refine zcs ?_; try simp only [zc, zb, zj, zg, z0b, z0a, z0d, z0c, zl]) | ((first | refine zbv (ZB rfl (fun K hK => ?_)) | refine zbs (ZB rfl (fun K hK => ?_)) (ZB rfl (fun K hK => ?_)) | refine zgi (ZB rfl (fun K hK => ?_)) (ZB rfl (fun K hK => ?_)) (ZB rfl (fun K hK => ?_))) <;> (go_wp2_with (first | ((refine zpW _ _ _ rfl ?_); refine zbE hp _ _ _ rfl wy 3 i1 _ Tryz.underlying120 hi1 hy0 hy1 rfl _ (za rfl) (za rfl) m rfl (by rw [hy2]; omega) (by omega) ?_; clear hp; intro bwd w1 hp; simp only [zc, zb, z0b, z0a]) | ((refine zpW _ _ _ rfl ?_); refine zbE hp _ _ _ rfl wy 3 i1 _ Tryz.underlying120 hi1 hy0 hy1 rfl _ (za rfl) (za rfl) k rfl (by rw [hy2]; omega) (by omega) ?_; clear hp; intro bln w1 hp; simp only [zc, zb, z0b, z0a]) | ((refine zf 148 rfl ?_); refine lZ hp rfl z8 ?_; clear hp; intro bx w1 hp; simp only [zc, zb, z0b, z0a]) | go_skip | ((first | ((refine zf _ rfl ?_); refine lZ hp rfl (by with_reducible first | exact zL | exact z6) ?_; clear hp; intro b w1 hp) | ((refine zd _ _ _ rfl ?_); (first | refine sO hp rfl (za rfl) zb1 zn ?_ | refine sA hp rfl (za rfl) (za rfl) zax zn ?_ | refine sG hp rfl (za rfl) (za rfl) zax zn ?_); clear hp; intro w1 hp; simp only [spl, z0a, z0b] at hp)); simp only [zc, zb, z0b, z0a])); (refine hK.out _ _ (.inr (zv.three hp zn zn zn)) ?_); clear hK K; try simp only [zc, zb, zj, zg, z0b, z0a, z0d, z0c, zl]))
 all_goals
  replace hp := hp.kp (L' := ⟨bx, [.int .i64 nx, .int .i64 tp, .int .i64 nd, .slice (some ⟨bwd, 0, none⟩) m m, .slice (some ⟨bln, 0, none⟩) k k], 148, 5⟩ :: ⟨bln, List.replicate k (.int .i64 0), 3, k⟩ :: ⟨bwd, List.replicate m (.int .i64 0), 3, m⟩ ::
   ⟨bb, [.int .i64 tp, .int .i64 nd], 146, 2⟩ :: ⟨br, [.int .i64 0, .int .i64 0], 71, 2⟩ :: ⟨bo, [.int .i64 kk, .int .i64 hh, .int .i64 ii, .int .i64 m, .int .i64 k, .int .i64 vv, .int .i64 tt], 36, 7⟩ ::
   ⟨bw, [.int .i64 od, .slice oa os.length oc, .int .i64 nx, .int .i64 t0, .int .i64 t1, .int .i64 t2, .int .i64 t3, .slice fa fs.length fc], 133, 8⟩ :: (RO ++ (RF ++ (M ++ (KF ++ R1)))))
  go_wp2_with (first | go_skip | ((first | ((refine zf _ rfl ?_); refine lZ hp rfl (by with_reducible first | exact zL | exact z6) ?_; clear hp; intro b w1 hp) | ((refine zi _ _ rfl ?_); refine lB hp rfl (za rfl) rfl ?_; clear hp; intro b w1 hp) | ((refine ze _ _ rfl ?_); first | refine lO hp rfl (za rfl) zb1 zn ?_ | refine lA hp rfl (za rfl) zax zn ?_) | ((refine zd _ _ _ rfl ?_); (first | refine sO hp rfl (za rfl) zb1 zn ?_ | refine sA hp rfl (za rfl) (za rfl) zax zn ?_ | refine sG hp rfl (za rfl) (za rfl) zax zn ?_); clear hp; intro w1 hp; simp only [spl, z0a, z0b] at hp) | ((refine zk _ _ _ rfl ?_); refine lS hp rfl (by intro w; go_simp; rfl) ?_; clear hp; intro b w1 hp; simp only [z0g, z0h, Nat.reduceAdd] at hp)); simp only [zc, zb, z0b, z0a]))
  refine zcC [_, _] (zv.two hp.drew at0 at6) [14, 15, 16, 17, 18] [(0, true), (1, true), (2, true), (3, true), (4, true), (5, true), (6, true), (7, true), (10, true), (8, false), (9, false), (11, true), (12, true), (13, true), (14, false), (15, false), (16, false), (17, false), (18, false)] (by kernel_rfl) (by kernel_rfl) rfl (by kernel_rfl) (fun _ _ d _ _ h => by cases d <;> exact h) ?_
  replace hp := hp.drew
  repeat' (with_reducible refine zx ?_); first | (with_reducible refine zq ?_) | ((with_reducible refine zE ?_); refine zu rfl ?_; (first | ((with_reducible refine zT _ rfl ?_); refine tM rfl ?_) | ((with_reducible refine zW _ _ rfl ?_); first | refine tA rfl (za rfl) zG zn ?_ | refine tO rfl (za rfl) Zd zn ?_) | refine tG (fun w _ => (by go_simp; try rfl)) ?_); try simp only [zc, zb, zj, zg, z0b, z0a, z0d, z0c, zl]) | (refine zC rfl (fun K hK => ?_); go_wp2_with (first | ((refine zJ _ _ 60 rfl ?_); refine zK (K := [_, _, _, _, _, _, _]) (R := RO) (M := RF ++ (M ++ (KF ++ R1))) hp _ _ _ rfl wy i0 _ 72 Tryz.underlying60 hi0 hz0 hz1 hz2 rfl (by decide) (za rfl) HRO.out 1 1 (za rfl) (by rfl) (by decide) (by rfl) sm1 sm2 ?_; clear hp; intro v2 RO2 w1 hra hp; obtain ⟨a2, c2, rfl⟩ := hra.val; have HRA := z0j hra; clear hra; simp only [z0f, z0e] at hp; simp only [zc, zb, z0b, z0a]) | go_skip | ((first | ((refine zd _ _ _ rfl ?_); (first | refine sO hp rfl (za rfl) zb1 zn ?_ | refine sA hp rfl (za rfl) (za rfl) zax zn ?_ | refine sG hp rfl (za rfl) (za rfl) zax zn ?_); clear hp; intro w1 hp; simp only [spl, z0a, z0b] at hp) | ((refine zk _ _ _ rfl ?_); refine lS hp rfl (by intro w; go_simp; rfl) ?_; clear hp; intro b w1 hp; simp only [z0g, z0h, Nat.reduceAdd] at hp)); simp only [zc, zb, z0b, z0a])); (first | refine hK.out _ _ (.inl rfl) ?_ | refine hK.out _ _ (.inr (zv.two hp zn zn)) ?_); clear hK K; try simp only [zc, zb, zj, zg, z0b, z0a, z0d, z0c, zl])
  go_wp2_with (first | go_skip | ((first | ((refine zf _ rfl ?_); refine lZ hp rfl (by with_reducible first | exact zL | exact z6) ?_; clear hp; intro b w1 hp) | ((refine zi _ _ rfl ?_); refine lB hp rfl (za rfl) rfl ?_; clear hp; intro b w1 hp) | ((refine ze _ _ rfl ?_); first | refine lO hp rfl (za rfl) zb1 zn ?_ | refine lA hp rfl (za rfl) zax zn ?_) | ((refine zd _ _ _ rfl ?_); (first | refine sO hp rfl (za rfl) zb1 zn ?_ | refine sA hp rfl (za rfl) (za rfl) zax zn ?_ | refine sG hp rfl (za rfl) (za rfl) zax zn ?_); clear hp; intro w1 hp; simp only [spl, z0a, z0b] at hp) | ((refine zk _ _ _ rfl ?_); refine lS hp rfl (by intro w; go_simp; rfl) ?_; clear hp; intro b w1 hp; simp only [z0g, z0h, Nat.reduceAdd] at hp)); simp only [zc, zb, z0b, z0a]))
  refine bodyPost_ret (zA (rs := [.cell 4 71]) Tryz.results152 (.cell rfl (hp.loadAgg zt at4 0 _ (by rfl) (by rfl)) .nil)) rfl ⟨rfl, ⟨od, a2, os ++ [⟨nx, tp, nd, some ⟨bwd, 0, none⟩, Z9 m, m, some ⟨bln, 0, none⟩, Z9 k, k⟩], c2, nx + 1, t0, t1, t2, t3, a1, zcW fs ⟨tp, to⟩ nd, k1⟩, ?_, RO2, R1, M ++ ([⟨bwd, List.replicate m (.int .i64 0), 3, m⟩] ++ [⟨bln, List.replicate k (.int .i64 0), 3, k⟩]), ⟨?_, HR1.out, ?_⟩, ?_⟩
  ·exact ⟨rfl, rfl, rfl, rfl, rfl, rfl, Z4.snocs os ⟨rfl, rfl, rfl, rfl, rfl⟩, rfl⟩
  ·have h := HRA.out
   simp only [List.length_append, List.length_singleton, zkk]
   simpa [obV, zmd] using h
  ·exact hR.out.rows.snoc ⟨_, _, rfl, zhR bwd m (by omega), zhR bln k (by omega)⟩
  ·simp only [hvL, List.length_append, List.length_singleton]
   exact hp.kp
end Go.Proofs.YtjcbpfbifbfkcaaGreat
