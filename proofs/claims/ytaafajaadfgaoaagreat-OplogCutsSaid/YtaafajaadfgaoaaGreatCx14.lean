import Derived.Test.YtaafajaadfgaoaaGreatCx0
import Derived.Test.YtaafajaadfgaoaaGreatCx13
import Derived.Test.YtaafajaadfgaoaaGreatCx6
set_option linter.unusedSimpArgs false
set_option linter.unusedVariables false
set_option maxRecDepth 100000
set_option maxHeartbeats 60000000
namespace Go.Proofs.YtaafajaadfgaoaaGreat
open Go.RowKit
inductive PT where
 | nil
 | take (i : Nat) (r : PT)
 | one (i : Nat) (r : PT)
 | two (i : Nat) (r : PT) (j : Nat) (q : PT)
 | three (i : Nat) (r : PT) (j : Nat) (q : PT) (k : Nat) (t : PT)
def PT.size : PT → Nat
 | .nil => 0
 | .take _ r => r.size + 1
 | .one _ r => r.size + 1
 | .two _ r _ q => max r.size q.size + 1
 | .three _ r _ q _ t => max (max r.size q.size) t.size + 1
section
variable {P : Program} {ops : Array Oper} {Q : Exit → Act → World → Prop} {S : World → Prop} {tl : List Nat}
def doT (P : Program) (ops : Array Oper) (Q : Exit → Act → World → Prop) (S : World → Prop) (tl : List Nat) (i : Nat) (G : Act → World → Prop) (a : Act) (w : World) : Prop :=
 ∃ o, ops[i]? = some o ∧ wpList P ops (Exit.then (fun a' w' => (tl.contains i = true ∨ S w') ∧ G a' w') Q) [o] a w
def ZX (P : Program) (ops : Array Oper) (Q : Exit → Act → World → Prop) (S : World → Prop) (tl : List Nat) : PT → Act → World → Prop
 | .nil, a, w => Q .normal a w
 | .take i r, a, w => ∃ o v, ops[i]? = some o ∧ YieldsIf P ops S o v a ∧ ZX P ops Q S tl r (a.put o.dst v) w
 | .one i r, a, w => doT P ops Q S tl i (ZX P ops Q S tl r) a w
 | .two i r j q, a, w => doT P ops Q S tl i (ZX P ops Q S tl r) a w ∧ doT P ops Q S tl j (ZX P ops Q S tl q) a w
 | .three i r j q k t, a, w => doT P ops Q S tl i (ZX P ops Q S tl r) a w ∧ doT P ops Q S tl j (ZX P ops Q S tl q) a w ∧ doT P ops Q S tl k (ZX P ops Q S tl t) a w
def zds (ops : Array Oper) (tl : List Nat) : Bool → Array Bool → PT → Bool
 | _, listed, .nil => (Region.ready .any ops listed).isEmpty
 | s, listed, .take i r => s && (Region.ready .any ops listed).contains i && Region.free .any ops listed i && tl.all (fun j => zbe ops ops.size j i) && zds ops tl s (listed.setIfInBounds i true) r
 | s, listed, .one i r => decide (Region.ready .any ops listed = [i]) && zds ops tl (s && !tl.contains i) (listed.setIfInBounds i true) r
 | s, listed, .two i r j q => decide (Region.ready .any ops listed = [i, j]) && zds ops tl (s && !tl.contains i) (listed.setIfInBounds i true) r && zds ops tl (s && !tl.contains j) (listed.setIfInBounds j true) q
 | s, listed, .three i r j q k t => decide (Region.ready .any ops listed = [i, j, k]) && zds ops tl (s && !tl.contains i) (listed.setIfInBounds i true) r && zds ops tl (s && !tl.contains j) (listed.setIfInBounds j true) q && zds ops tl (s && !tl.contains k) (listed.setIfInBounds k true) t
theorem zga {i f : Nat} {r : PT} {s : Bool} {listed : Array Bool} {a : Act} {w : World} (hc : zao ops listed) (hr0 : i ∈ Region.ready .any ops listed)
  (ih : ∀ (a' : Act) (w' : World), zao ops (listed.setIfInBounds i true) → ((s && !tl.contains i) = true → S w') → ZX P ops Q S tl r a' w' → zeA P ops Q S tl f (listed.setIfInBounds i true) a' w')
  (h : doT P ops Q S tl i (ZX P ops Q S tl r) a w) : wpOp P ops Q i (fun a' w' => (tl.contains i = true ∨ S w') ∧ zeA P ops Q S tl f (listed.setIfInBounds i true) a' w') a w := by
 obtain ⟨o, ho, hr⟩ := h
 have h1 := zc4 hr
 have h2 : wpOp P ops Q i (fun a' w' => (tl.contains i = true ∨ S w') ∧ ZX P ops Q S tl r a' w') a w := by
  unfold wpOp; simp only [ho]; exact h1
 refine wpOp_mono (fun a' w' h' => ⟨h'.1, ih a' w' (hc.set hr0) ?_ h'.2⟩) h2
 intro hs1
 simp only [Bool.and_eq_true, Bool.not_eq_true'] at hs1
 rcases h'.1 with h3 | h3
 ·rw [hs1.2] at h3; cases h3
 ·exact h3
theorem ZA (hs : Region.noSelect ops = true) (hQ : ∀ c a d v w, Q (.panic c) (a.put d v) w → Q (.panic c) a w) : ∀ (plan : PT) (s : Bool) (fuel : Nat) (listed : Array Bool) (a : Act) (w : World), zao ops listed →
  plan.size ≤ fuel → zds ops tl s listed plan = true → (s = true → S w) → ZX P ops Q S tl plan a w → zeA P ops Q S tl fuel listed a w
 | .nil, s, fuel, listed, a, w, _, hf, hB, _, h => by
  have hB' : Region.ready .any ops listed = [] := by simpa [zds] using hB
  cases fuel with
  | zero => exact ⟨hB', h⟩
  | succ f => exact ⟨fun _ => h, fun i hi => by rw [hB'] at hi; cases hi⟩
 | .take i rest, s, fuel, listed, a, w, hc, hf, hB, hS, h => by
  obtain ⟨f, rfl⟩ : ∃ f, fuel = f + 1 := ⟨fuel - 1, by simp [PT.size] at hf; omega⟩
  simp only [zds, Bool.and_eq_true] at hB
  obtain ⟨⟨⟨⟨b1, b2⟩, b3⟩, b4⟩, b5⟩ := hB
  obtain ⟨o, v, ho, hy, hr⟩ := h
  have hr0 : i ∈ Region.ready .any ops listed := by simpa using b2
  have ht : ∀ j, tl.contains j = true → zbe ops ops.size j i = true := fun j hj => by
   have := List.all_eq_true.1 b4 j (by simpa using hj)
   exact this
  exact zfG ho hs (fun c a w h => hQ c a _ v w h) ht f listed a w hc (Region.free_spec ho b3) hr0 hy (hS b1) (ZA hs hQ rest s f _ _ w (hc.set hr0) (by simp [PT.size] at hf; omega) b5 hS hr)
 | .one i r, s, fuel, listed, a, w, hc, hf, hB, hS, h => by
  obtain ⟨f, rfl⟩ : ∃ f, fuel = f + 1 := ⟨fuel - 1, by simp [PT.size] at hf; omega⟩
  simp only [zds, Bool.and_eq_true, decide_eq_true_eq] at hB
  have hr0 : i ∈ Region.ready .any ops listed := by rw [hB.1]; simp
  refine ⟨fun h0 => (by rw [h0] at hr0; cases hr0), fun x hx => ?_⟩
  rw [hB.1] at hx
  obtain rfl : x = i := by simpa using hx
  exact zga (s := s) hc hr0 (fun a' w' hc' hs' h' => ZA hs hQ r _ f _ a' w' hc' (by simp [PT.size] at hf; omega) hB.2 hs' h') h
 | .two i r j q, s, fuel, listed, a, w, hc, hf, hB, hS, h => by
  obtain ⟨f, rfl⟩ : ∃ f, fuel = f + 1 := ⟨fuel - 1, by simp [PT.size] at hf; omega⟩
  simp only [zds, Bool.and_eq_true, decide_eq_true_eq] at hB
  have hr0 : i ∈ Region.ready .any ops listed := by rw [hB.1.1]; simp
  have hr1 : j ∈ Region.ready .any ops listed := by rw [hB.1.1]; simp
  refine ⟨fun h0 => (by rw [h0] at hr0; cases hr0), fun x hx => ?_⟩
  rw [hB.1.1] at hx
  have hx' : x = i ∨ x = j := by simpa using hx
  rcases hx' with rfl | rfl
  ·exact zga (s := s) hc hr0 (fun a' w' hc' hs' h' => ZA hs hQ r _ f _ a' w' hc' (by simp [PT.size] at hf; omega) hB.1.2 hs' h') h.1
  ·exact zga (s := s) hc hr1 (fun a' w' hc' hs' h' => ZA hs hQ q _ f _ a' w' hc' (by simp [PT.size] at hf; omega) hB.2 hs' h') h.2
 | .three i r j q k t, s, fuel, listed, a, w, hc, hf, hB, hS, h => by
  obtain ⟨f, rfl⟩ : ∃ f, fuel = f + 1 := ⟨fuel - 1, by simp [PT.size] at hf; omega⟩
  simp only [zds, Bool.and_eq_true, decide_eq_true_eq] at hB
  have hr0 : i ∈ Region.ready .any ops listed := by rw [hB.1.1.1]; simp
  have hr1 : j ∈ Region.ready .any ops listed := by rw [hB.1.1.1]; simp
  have hr2 : k ∈ Region.ready .any ops listed := by rw [hB.1.1.1]; simp
  refine ⟨fun h0 => (by rw [h0] at hr0; cases hr0), fun x hx => ?_⟩
  rw [hB.1.1.1] at hx
  have hx' : x = i ∨ x = j ∨ x = k := by simpa using hx
  rcases hx' with rfl | rfl | rfl
  ·exact zga (s := s) hc hr0 (fun a' w' hc' hs' h' => ZA hs hQ r _ f _ a' w' hc' (by simp [PT.size] at hf; omega) hB.1.1.2 hs' h') h.1
  ·exact zga (s := s) hc hr1 (fun a' w' hc' hs' h' => ZA hs hQ q _ f _ a' w' hc' (by simp [PT.size] at hf; omega) hB.1.2 hs' h') h.2.1
  ·exact zga (s := s) hc hr2 (fun a' w' hc' hs' h' => ZA hs hQ t _ f _ a' w' hc' (by simp [PT.size] at hf; omega) hB.2 hs' h') h.2.2
theorem zf3 {id : Nat} {a : Act} {w : World} {l : List Oper} (S : World → Prop) (tl : List Nat) (plan : PT) (hm : P.follows .mixedOrders = true) (hs : Region.noSelect l.toArray = true)
  (hl : Nat.ble plan.size l.length = true) (hB : zds l.toArray tl true (Array.replicate l.length false) plan = true) (hQ : ∀ c a d v w, Q (.panic c) (a.put d v) w → Q (.panic c) a w) (hS : S w.drew)
  (h : ZX P l.toArray Q S tl plan a w.drew) : (Code.region id l.toArray true).wp P Q a w :=
 wp_region_any hm (by
  have := ZA hs hQ plan true l.length (Array.replicate l.length false) a w.drew (zao.start _ _) (Nat.le_of_ble_eq_true hl) hB (fun _ => hS) h
  have := zem _ _ _ _ this
  simpa using this)
theorem Zn {id : Nat} {a : Act} {w w0 : World} {B : Nat} {l : List Oper} (M : List Blk) (hS : zt B w0 M w.drew) (tl : List Nat) (plan : PT) (hm : P.follows .mixedOrders = true) (hs : Region.noSelect l.toArray = true)
  (hl : Nat.ble plan.size l.length = true) (hB : zds l.toArray tl true (Array.replicate l.length false) plan = true) (hQ : ∀ c a d v w, Q (.panic c) (a.put d v) w → Q (.panic c) a w)
  (h : ZX P l.toArray Q (zt B w0 M) tl plan a w.drew) : (Code.region id l.toArray true).wp P Q a w :=
 zf3 _ tl plan hm hs hl hB hQ hS h
def ztU (P : Program) (ops : Array Oper) (Q : Exit → Act → World → Prop) (S : World → Prop) (tl : List Nat) (r : PT) : Exit → Act → World → Prop := fun _ a w => ZX P ops Q S tl r a w
theorem za9 {i : Nat} {r : PT} {a : Act} {w : World} (h : ZI P ops (ztU P ops Q S tl r) S tl [(i, true)] a w) : ZX P ops Q S tl (.take i r) a w := h
theorem zcS {r : PT} {a : Act} {w : World} (h : ZX P ops Q S tl r a w) : ZI P ops (ztU P ops Q S tl r) S tl [] a w := h
theorem zcR {r : PT} {a : Act} {w : World} (h : ZX P ops Q S tl r a w) : ZX P ops Q S tl r a w := h
theorem zbH {a : Act} {w : World} (h : Q .normal a w) : ZX P ops Q S tl .nil a w := h
variable {l : List Oper}
theorem Z0 {i : Nat} {G : Act → World → Prop} {a : Act} {w : World} {o : Oper} {r : List Oper} (ho : l.drop i = o :: r)
  (h : ∀ K : Act → World → Prop, zt4 (∀ a' w', (tl.contains i = true ∨ S w') → G a' w' → K a' w') → wpList P l.toArray (Exit.then K Q) [o] a w) : doT P l.toArray Q S tl i G a w :=
 ⟨o, ziN ho, h _ fun _ _ hS hr => ⟨hS, hr⟩⟩
theorem zbI {i : Nat} {r : PT} {a : Act} {w : World} (h : doT P l.toArray Q S tl i (ZX P l.toArray Q S tl r) a w) : ZX P l.toArray Q S tl (.one i r) a w := h
theorem zbJ {i j : Nat} {r q : PT} {a : Act} {w : World} (h : doT P l.toArray Q S tl i (ZX P l.toArray Q S tl r) a w) (k : doT P l.toArray Q S tl j (ZX P l.toArray Q S tl q) a w) : ZX P l.toArray Q S tl (.two i r j q) a w := ⟨h, k⟩
theorem zlU {i j k : Nat} {r q t : PT} {a : Act} {w : World} (h : doT P l.toArray Q S tl i (ZX P l.toArray Q S tl r) a w) (h2 : doT P l.toArray Q S tl j (ZX P l.toArray Q S tl q) a w) (h3 : doT P l.toArray Q S tl k (ZX P l.toArray Q S tl t) a w) : ZX P l.toArray Q S tl (.three i r j q k t) a w := ⟨h, h2, h3⟩
end
open Go.RowKit
theorem zi9 {ty : TypeId} {k : Nat} (h : ZB Tryz.prog ty k = true := by with_reducible first | exact zW | exact zD | exact zF | exact zcp | exact Zf | exact ziG) : ZB Tryz.prog ty k = true := h
theorem ziQ {ty : TypeId} (h : zy Tryz.prog ty = true := by with_reducible first | exact zr | exact Ze | exact Zh | exact z7 | exact Zz) : zy Tryz.prog ty = true := h
theorem zQ.sm {B : Nat} {w0 w : World} {b : Nat} {x : Hv} {K : List Blk} (h : zQ B w0 w b x K) {e : Ending} {c v : Int} (he : e = .returned (zb8 c v)) : zO B w0 b x c v K e w := ⟨he, x, Hv.Sm.refl x, h⟩
theorem zfN {od : Int} {oa : Option Addr} {os : List Ob} {oc : Nat} {nx t0 t1 t2 t3 : Int} {fa : Option Addr} {fs : List Bl} {fc : Nat} {kk hh ii nn cc vv tt : Int} {RO RF M : List Blk} {nd : Int} (HND : Hid (Zk nn cc = nd)) (h : nd < 0) {B bw : Nat} {w0 w : World} {K : List Blk} (hR : Hid (HvR (⟨od, oa, os, oc, nx, t0, t1, t2, t3, fa, fs, fc⟩ : Hv) RO RF M)) (hp : Hp B w0 w (⟨bw, hvL (⟨od, oa, os, oc, nx, t0, t1, t2, t3, fa, fs, fc⟩ : Hv), 113, 8⟩ :: (RO ++ (RF ++ (M ++ K))))) :
  Calls Tryz.prog 151 #[.pointer (some ⟨bw, 0, none⟩), .agg #[.int .i64 kk, .int .i64 hh, .int .i64 ii, .int .i64 nn, .int .i64 cc, .int .i64 vv, .int .i64 tt]] w (zO B w0 bw (⟨od, oa, os, oc, nx, t0, t1, t2, t3, fa, fs, fc⟩ : Hv) 53 0 K) := by
 simp only [hvL] at hp
 have e0 : decide (nd < 0) = true := decide_eq_true h
 clear h
 go_enter Tryz.func151, Tryz.ntmps151
 go_wp2_with (first | (go_at_call 143; (with_reducible refine (zaU _ _ _).mono ?_); rintro e w' ⟨rfl, rfl⟩; rw [HND.out]) | (go_at_call 75; (with_reducible refine (zlz _ _).mono ?_); rintro e w1 ⟨rfl, hb⟩; replace hp := hp.call hb; clear hb; unfold zb8) | ((first | ((refine zi _ rfl ?_); refine lZ hp rfl (by with_reducible first | exact Zi) ?_; clear hp; intro b w1 hp) | ((refine zk _ _ rfl ?_); refine lB hp rfl (za rfl) rfl ?_; clear hp; intro b w1 hp) | ((refine zd _ _ rfl ?_); first | refine lO hp rfl (za rfl) ziQ zK ?_) | ((refine zg _ _ _ rfl ?_); (first | refine sA hp rfl (za rfl) (za rfl) zi9 zK ?_); clear hp; intro w1 hp; simp only [spl, z0a, z0b] at hp)); simp only [zc, zb, z0b, z0a]))
 exact bodyPost_ret (zu (rs := [.cell 4 54]) Tryz.results151 (.cell rfl (hp.loadAgg Zf at0 0 _ (by rfl) (by rfl)) .nil)) rfl (zQ.sm ⟨RO, RF, M, hR.out, hp.tail.tail⟩ rfl)
theorem zfO {od : Int} {oa : Option Addr} {os : List Ob} {oc : Nat} {nx t0 t1 t2 t3 : Int} {fa : Option Addr} {fs : List Bl} {fc : Nat} {kk hh ii nn cc vv tt : Int} {RO RF M : List Blk} {nd : Int} (HND : Hid (Zk nn cc = nd)) (h : 0 ≤ nd) (h2 : 1000000 < nx) {B bw : Nat} {w0 w : World} {K : List Blk} (hR : Hid (HvR (⟨od, oa, os, oc, nx, t0, t1, t2, t3, fa, fs, fc⟩ : Hv) RO RF M)) (hp : Hp B w0 w (⟨bw, hvL (⟨od, oa, os, oc, nx, t0, t1, t2, t3, fa, fs, fc⟩ : Hv), 113, 8⟩ :: (RO ++ (RF ++ (M ++ K))))) :
  Calls Tryz.prog 151 #[.pointer (some ⟨bw, 0, none⟩), .agg #[.int .i64 kk, .int .i64 hh, .int .i64 ii, .int .i64 nn, .int .i64 cc, .int .i64 vv, .int .i64 tt]] w (zO B w0 bw (⟨od, oa, os, oc, nx, t0, t1, t2, t3, fa, fs, fc⟩ : Hv) 2 0 K) := by
 simp only [hvL] at hp
 have e0 : decide (nd < 0) = false := decide_eq_false (by omega)
 have e1 : decide (1000000 < nx) = true := decide_eq_true h2
 clear h h2
 go_enter Tryz.func151, Tryz.ntmps151
 go_wp2_with (first | (go_at_call 143; (with_reducible refine (zaU _ _ _).mono ?_); rintro e w' ⟨rfl, rfl⟩; rw [HND.out]) | (go_at_call 75; (with_reducible refine (zlz _ _).mono ?_); rintro e w1 ⟨rfl, hb⟩; replace hp := hp.call hb; clear hb; unfold zb8) | ((first | ((refine zi _ rfl ?_); refine lZ hp rfl (by with_reducible first | exact Zi) ?_; clear hp; intro b w1 hp) | ((refine zk _ _ rfl ?_); refine lB hp rfl (za rfl) rfl ?_; clear hp; intro b w1 hp) | ((refine zd _ _ rfl ?_); first | refine lO hp rfl (za rfl) ziQ zK ?_) | ((refine zg _ _ _ rfl ?_); (first | refine sA hp rfl (za rfl) (za rfl) zi9 zK ?_); clear hp; intro w1 hp; simp only [spl, z0a, z0b] at hp)); simp only [zc, zb, z0b, z0a]))
 exact bodyPost_ret (zu (rs := [.cell 4 54]) Tryz.results151 (.cell rfl (hp.loadAgg Zf at0 0 _ (by rfl) (by rfl)) .nil)) rfl (zQ.sm ⟨RO, RF, M, hR.out, hp.tail.tail⟩ rfl)
theorem zdc {od : Int} {oa : Option Addr} {os : List Ob} {oc : Nat} {nx t0 t1 t2 t3 : Int} {fa : Option Addr} {fs : List Bl} {fc : Nat} {kk hh ii nn cc vv tt : Int} {RO RF M : List Blk} {nd c : Int} (HND : Hid (Zk nn cc = nd)) (h : 0 ≤ nd) (h2 : nx ≤ 1000000) (hc : c = 1 ∨ c = 40) (KT : Hid (∀ a k (w : World), zm w a (fs.flatMap blV) → Calls Tryz.prog 202 #[.int .i64 od, .slice a fs.length k, .int .i64 nd] w (zmc w c)))
  {B bw : Nat} {w0 w : World} {K : List Blk} (hR : Hid (HvR (⟨od, oa, os, oc, nx, t0, t1, t2, t3, fa, fs, fc⟩ : Hv) RO RF M)) (hp : Hp B w0 w (⟨bw, hvL (⟨od, oa, os, oc, nx, t0, t1, t2, t3, fa, fs, fc⟩ : Hv), 113, 8⟩ :: (RO ++ (RF ++ (M ++ K))))) :
  Calls Tryz.prog 151 #[.pointer (some ⟨bw, 0, none⟩), .agg #[.int .i64 kk, .int .i64 hh, .int .i64 ii, .int .i64 nn, .int .i64 cc, .int .i64 vv, .int .i64 tt]] w (zO B w0 bw (⟨od, oa, os, oc, nx, t0, t1, t2, t3, fa, fs, fc⟩ : Hv) 50 0 K) := by
 simp only [hvL] at hp
 have HRF : Hid (ZK RF fun w => zm w fa (fs.flatMap blV)) := z0j hR.out.free.keptS
 have e0 : decide (nd < 0) = false := decide_eq_false (by omega)
 have e1 : decide (1000000 < nx) = false := decide_eq_false (by omega)
 clear h h2
 rcases hc with rfl | rfl
 all_goals
  go_enter Tryz.func151, Tryz.ntmps151
  go_wp2_with (first | (go_at_call 143; (with_reducible refine (zaU _ _ _).mono ?_); rintro e w' ⟨rfl, rfl⟩; rw [HND.out]) | ((first | ((refine zi _ rfl ?_); refine lZ hp rfl (by with_reducible first | exact Zi) ?_; clear hp; intro b w1 hp) | ((refine zk _ _ rfl ?_); refine lB hp rfl (za rfl) rfl ?_; clear hp; intro b w1 hp) | ((refine zd _ _ rfl ?_); first | refine lO hp rfl (za rfl) ziQ zK ?_)); simp only [zc, zb, z0b, z0a]))
  refine Zn [_] (zt.one hp.drew at2) [] (.take 0 (.take 1 (.take 2 (.take 3 (.take 4 (.take 5 (.take 6 (.take 7 (.take 8 (.take 9 (.take 10 (.two 11 (.take 12 (.take 13 (.take 14 (.take 15 (.one 16 (.one 17 (.one 18 (.one 19 .nil)))))))) 16 (.one 11 (.take 12 (.take 13 (.take 14 (.take 15 (.one 17 (.one 18 (.one 19 .nil)))))))))))))))))))) (by kernel_rfl) (by kernel_rfl) (by kernel_rfl) (by kernel_rfl) (fun _ _ d _ _ h => by cases d <;> exact h) ?_
  replace hp := hp.drew
  repeat' (with_reducible refine zcR ?_); first | (with_reducible refine zbH ?_) | ((with_reducible refine za9 ?_); refine zn rfl ?_; (first | ((with_reducible refine zH _ rfl ?_); refine tM rfl ?_) | ((with_reducible refine zI _ _ rfl ?_); refine tO rfl (za rfl) (by with_reducible first | exact zr | exact Zz) aa5 ?_) | refine tG (fun w _ => (by go_simp; try rfl)) ?_); refine zcS ?_; try simp only [zc, zb, zh, ze, z0b, z0a, z0d, z0c, zj]) | ((first | refine zbI (Z0 rfl (fun K hK => ?_)) | refine zbJ (Z0 rfl (fun K hK => ?_)) (Z0 rfl (fun K hK => ?_))) <;> (go_wp2_with (first | (go_at_call 202; (with_reducible refine (KT.out fa fc _ (HRF.out.at hp (fun p hm => by simp [hm]))).mono ?_); rintro e w1 ⟨rfl, hb⟩; replace hp := hp.call hb; clear hb) | ((first | ((refine zi _ rfl ?_); refine lZ hp rfl (by with_reducible first | exact Za) ?_; clear hp; intro b w1 hp) | ((refine zg _ _ _ rfl ?_); (first | refine sA hp rfl (za rfl) (za rfl) zi9 zK ?_); clear hp; intro w1 hp; simp only [spl, z0a, z0b] at hp)); simp only [zc, zb, z0b, z0a])); (refine hK.out _ _ (.inr (zt.one hp aa5)) ?_); clear hK K; try simp only [zc, zb, zh, ze, z0b, z0a, z0d, z0c, zj]))
 all_goals
  go_wp2_with (first | (go_at_call 75; (with_reducible refine (zlz _ _).mono ?_); rintro e w1 ⟨rfl, hb⟩; replace hp := hp.call hb; clear hb; unfold zb8) | ((first | ((refine zg _ _ _ rfl ?_); (first | refine sA hp rfl (za rfl) (za rfl) zi9 zK ?_); clear hp; intro w1 hp; simp only [spl, z0a, z0b] at hp)); simp only [zc, zb, z0b, z0a]))
  exact bodyPost_ret (zu (rs := [.cell 4 54]) Tryz.results151 (.cell rfl (hp.loadAgg Zf at1 0 _ (by rfl) (by rfl)) .nil)) rfl (zQ.sm ⟨RO, RF, M, hR.out, hp.tail.tail.tail⟩ rfl)
theorem zjJ (m : Nat) : (ZT m).flatMap iV = List.replicate m (.int .i64 0) := by
 rw [zcY]; simp [ZT]
theorem zib (g m : Nat) (hm : m ≤ 100) : zA 3 1 (.slice (some ⟨g, 0, none⟩) (ZT m).length m) (ZT m).length ((ZT m).flatMap iV) [⟨g, List.replicate m (.int .i64 0), 3, m⟩] := by
 have hl : (ZT m).length = m := by simp [ZT]
 refine ⟨zaw _, .inr ⟨g, m, rfl, by rw [hl]; exact Nat.le_refl _, by unfold maxLen; omega, ?_⟩⟩
 rw [zjJ, Nat.mul_one]
theorem zol (m : Nat) : (ZT m).length = m := by simp [ZT]
theorem ZJ.snocs (l : List Ob) {x y : Ob} (h : x.Sm y) : ZJ (l ++ [x]) (l ++ [y]) := by
 refine ⟨by simp, fun i a b h1 h2 => ?_⟩
 rcases Nat.lt_or_ge i l.length with hi | hi
 ·rw [List.getElem?_append_left hi] at h1 h2
  rw [h1] at h2; injection h2 with h2; subst h2; exact Ob.Sm.rfl_ _
 ·rw [List.getElem?_append_right hi] at h1 h2
  have h3 : i - l.length = 0 := by
   have := (List.getElem?_eq_some_iff.1 h1).1
   simp at this; omega
  rw [h3] at h1 h2
  simp at h1 h2
  subst h1 h2
  exact h
theorem zqT {P : Program} {ops : Array Oper} {rest : List Oper} {o : Oper} {a : Act} {w : World} {Q : Exit → Act → World → Prop} (t : TypeId) (x y : Operand) (_ : o.op = .makeSlice t x y) (h : wpList P ops Q (o :: rest) a w) : wpList P ops Q (o :: rest) a w := h
theorem ziI {od : Int} {oa : Option Addr} {os : List Ob} {oc : Nat} {nx t0 t1 t2 t3 : Int} {fa : Option Addr} {fs : List Bl} {fc : Nat} {kk hh ii vv tt : Int} {m k : Nat} {RO RF M : List Blk} {nd tp to : Int}
  (HND : Hid (Zk m k = nd)) (h : 0 ≤ nd) (h1 : nd ≤ od) (hmm : m ≤ 32) (hkk : k ≤ 16) (h2 : nx ≤ 1000000) (h3 : 1 ≤ nx) (hol : os.length ≤ 256) (hfl : fs.length ≤ 600) (HFR : Hid (zM od fs = true)) (HGR : Hid (ZW fs nd = true))
  (HUQ : Hid (∀ (b : Bl) s, zer nd fs b → zjT nd fs b s → b = ⟨tp, to⟩ ∧ s = zcO fs ⟨tp, to⟩ nd)) {B bw : Nat} {w0 w : World} {KF : List Blk} (hR : Hid (HvR (⟨od, oa, os, oc, nx, t0, t1, t2, t3, fa, fs, fc⟩ : Hv) RO RF M)) (hp : Hp B w0 w (⟨bw, hvL (⟨od, oa, os, oc, nx, t0, t1, t2, t3, fa, fs, fc⟩ : Hv), 113, 8⟩ :: (RO ++ (RF ++ (M ++ KF))))) :
  Calls Tryz.prog 151 #[.pointer (some ⟨bw, 0, none⟩), .agg #[.int .i64 kk, .int .i64 hh, .int .i64 ii, .int .i64 m, .int .i64 k, .int .i64 vv, .int .i64 tt]] w (zO B w0 bw (zeE (⟨od, oa, os, oc, nx, t0, t1, t2, t3, fa, fs, fc⟩ : Hv) ⟨tp, to⟩ nd (ZT m) (ZT k)) 0 nx KF) := by
 obtain ⟨i0, hi0, hz0, hz1, hz2⟩ := info_parts zgU
 obtain ⟨i1, hi1, hy0, hy1, hy2⟩ := info_parts zm5
 simp only [hvL] at hp
 have HRF : Hid (ZK RF fun w => zm w fa (fs.flatMap blV)) := z0j hR.out.free.keptS
 have HRO : Hid (zA 126 5 (.slice oa os.length oc) os.length (os.flatMap obV) RO) := z0j hR.out.objs
 have HN0 := z0j h
 have HND2 := z0j h1
 have sm1 : os.length + 1 ≤ maxLen := by unfold maxLen; omega
 have sm2 : (os.length + 1) * 72 ≤ 140737488355328 := by omega
 have e0 : decide (nd < 0) = false := decide_eq_false (by omega)
 have e1 : decide (1000000 < nx) = false := decide_eq_false (by omega)
 clear h h1
 go_enter Tryz.func151, Tryz.ntmps151
 go_wp2_with (first | (go_at_call 143; (with_reducible refine (zaU _ _ _).mono ?_); rintro e w' ⟨rfl, rfl⟩; rw [HND.out]) | ((first | ((refine zi _ rfl ?_); refine lZ hp rfl (by with_reducible first | exact Zi) ?_; clear hp; intro b w1 hp) | ((refine zk _ _ rfl ?_); refine lB hp rfl (za rfl) rfl ?_; clear hp; intro b w1 hp) | ((refine zd _ _ rfl ?_); first | refine lO hp rfl (za rfl) ziQ zK ?_)); simp only [zc, zb, z0b, z0a]))
 refine Zn [_] (zt.one hp.drew at2) [] (.take 0 (.take 1 (.take 2 (.take 3 (.take 4 (.take 5 (.take 6 (.take 7 (.take 8 (.take 9 (.take 10 (.two 11 (.take 12 (.take 13 (.take 14 (.take 15 (.one 16 (.one 17 (.one 18 (.one 19 .nil)))))))) 16 (.one 11 (.take 12 (.take 13 (.take 14 (.take 15 (.one 17 (.one 18 (.one 19 .nil)))))))))))))))))))) (by kernel_rfl) (by kernel_rfl) (by kernel_rfl) (by kernel_rfl) (fun _ _ d _ _ h => by cases d <;> exact h) ?_
 replace hp := hp.drew
 repeat' (with_reducible refine zcR ?_); first | (with_reducible refine zbH ?_) | ((with_reducible refine za9 ?_); refine zn rfl ?_; (first | ((with_reducible refine zH _ rfl ?_); refine tM rfl ?_) | ((with_reducible refine zI _ _ rfl ?_); refine tO rfl (za rfl) (by with_reducible first | exact zr | exact Zz) aa5 ?_) | refine tG (fun w _ => (by go_simp; try rfl)) ?_); refine zcS ?_; try simp only [zc, zb, zh, ze, z0b, z0a, z0d, z0c, zj]) | ((first | refine zbI (Z0 rfl (fun K hK => ?_)) | refine zbJ (Z0 rfl (fun K hK => ?_)) (Z0 rfl (fun K hK => ?_))) <;> (go_wp2_with (first | (go_at_call 202; (with_reducible refine (zlS od nd fs fa fc hfl _ (HRF.out.at hp (fun p hm => by simp [hm])) HFR.out HN0.out HND2.out HGR.out).mono ?_); rintro e w1 ⟨tb, a1, k1, R1, s, rfl, hlt, htk, hr1, hpx⟩; obtain ⟨rfl, rfl⟩ := HUQ.out tb s hlt htk; dsimp only; replace hp := hp.join hpx; have HR1 := z0j hr1; clear hpx hlt htk hr1; try simp only [z0f, z0e, z0i] at hp) | ((first | ((refine zi _ rfl ?_); refine lZ hp rfl (by with_reducible first | exact Za) ?_; clear hp; intro b w1 hp) | ((refine zg _ _ _ rfl ?_); (first | refine sA hp rfl (za rfl) (za rfl) zi9 zK ?_); clear hp; intro w1 hp; simp only [spl, z0a, z0b] at hp)); simp only [zc, zb, z0b, z0a])); (refine hK.out _ _ (.inr (zt.one hp aa5)) ?_); clear hK K; try simp only [zc, zb, zh, ze, z0b, z0a, z0d, z0c, zj]))
 all_goals
  go_wp2_with (first | fail)
  obtain ⟨bb, rfl⟩ := hp.id0
  obtain ⟨br, rfl⟩ := hp.id1
  obtain ⟨bo, rfl⟩ := hp.id2
  refine Zn [_, _, _] (zt.three hp.drew at0 at2 at3) [] (.take 0 (.take 1 (.take 2 (.take 3 (.take 4 (.take 5 (.take 6 (.take 7 (.take 9 (.take 10 (.three 8 (.two 11 (.take 12 (.one 13 (.one 14 .nil))) 13 (.one 11 (.take 12 (.one 14 .nil)))) 11 (.two 8 (.take 12 (.one 13 (.one 14 .nil))) 13 (.one 8 (.take 12 (.one 14 .nil)))) 13 (.two 8 (.one 11 (.take 12 (.one 14 .nil))) 11 (.one 8 (.take 12 (.one 14 .nil))))))))))))))) (by kernel_rfl) (by kernel_rfl) (by kernel_rfl) (by kernel_rfl) (fun _ _ d _ _ h => by cases d <;> exact h) ?_
  replace hp := hp.drew
  repeat' (with_reducible refine zcR ?_); first | (with_reducible refine zbH ?_) | ((with_reducible refine za9 ?_); refine zn rfl ?_; (first | ((with_reducible refine zH _ rfl ?_); refine tM rfl ?_) | ((with_reducible refine zI _ _ rfl ?_); first | refine tA rfl (za rfl) zF zK ?_ | refine tO rfl (za rfl) zr zK ?_) | refine tG (fun w _ => (by go_simp; try rfl)) ?_); refine zcS ?_; try simp only [zc, zb, zh, ze, z0b, z0a, z0d, z0c, zj]) | ((first | refine zbI (Z0 rfl (fun K hK => ?_)) | refine zbJ (Z0 rfl (fun K hK => ?_)) (Z0 rfl (fun K hK => ?_)) | refine zlU (Z0 rfl (fun K hK => ?_)) (Z0 rfl (fun K hK => ?_)) (Z0 rfl (fun K hK => ?_))) <;> (go_wp2_with (first | ((refine zqT _ _ _ rfl ?_); refine zbx hp _ _ _ rfl wy 3 i1 _ Tryz.underlying122 hi1 hy0 hy1 rfl _ (za rfl) (za rfl) m rfl (by rw [hy2]; omega) (by omega) ?_; clear hp; intro bwd w1 hp; simp only [zc, zb, z0b, z0a]) | ((refine zqT _ _ _ rfl ?_); refine zbx hp _ _ _ rfl wy 3 i1 _ Tryz.underlying122 hi1 hy0 hy1 rfl _ (za rfl) (za rfl) k rfl (by rw [hy2]; omega) (by omega) ?_; clear hp; intro bln w1 hp; simp only [zc, zb, z0b, z0a]) | ((refine zi 126 rfl ?_); refine lZ hp rfl z6 ?_; clear hp; intro bx w1 hp; simp only [zc, zb, z0b, z0a]) | ((first | ((refine zg _ _ _ rfl ?_); (first | refine sA hp rfl (za rfl) (za rfl) zi9 zK ?_); clear hp; intro w1 hp; simp only [spl, z0a, z0b] at hp)); simp only [zc, zb, z0b, z0a])); (refine hK.out _ _ (.inr (zt.three hp zK zK zK)) ?_); clear hK K; try simp only [zc, zb, zh, ze, z0b, z0a, z0d, z0c, zj]))
 all_goals
  replace hp := hp.kp (L' := ⟨bx, [.int .i64 nx, .int .i64 tp, .int .i64 nd, .slice (some ⟨bwd, 0, none⟩) m m, .slice (some ⟨bln, 0, none⟩) k k], 126, 5⟩ :: ⟨bln, List.replicate k (.int .i64 0), 3, k⟩ :: ⟨bwd, List.replicate m (.int .i64 0), 3, m⟩ ::
   ⟨bb, [.int .i64 tp, .int .i64 nd], 124, 2⟩ :: ⟨br, [.int .i64 0, .int .i64 0], 54, 2⟩ :: ⟨bo, [.int .i64 kk, .int .i64 hh, .int .i64 ii, .int .i64 m, .int .i64 k, .int .i64 vv, .int .i64 tt], 29, 7⟩ ::
   ⟨bw, [.int .i64 od, .slice oa os.length oc, .int .i64 nx, .int .i64 t0, .int .i64 t1, .int .i64 t2, .int .i64 t3, .slice fa fs.length fc], 113, 8⟩ :: (RO ++ (RF ++ (M ++ (KF ++ R1)))))
  go_wp2_with (first | fail)
  refine zcv [_, _] (zt.two hp.drew at0 at6) [14, 15, 16, 17, 18] [(0, true), (1, true), (2, true), (3, true), (4, true), (5, true), (6, true), (7, true), (10, true), (8, false), (9, false), (11, true), (12, true), (13, true), (14, false), (15, false), (16, false), (17, false), (18, false)] (by kernel_rfl) (by kernel_rfl) rfl (by kernel_rfl) (fun _ _ d _ _ h => by cases d <;> exact h) ?_
  replace hp := hp.drew
  repeat' (with_reducible refine zq ?_); first | (with_reducible refine zl ?_) | ((with_reducible refine zw ?_); refine zn rfl ?_; (first | ((with_reducible refine zH _ rfl ?_); refine tM rfl ?_) | ((with_reducible refine zI _ _ rfl ?_); first | refine tA rfl (za rfl) zD zK ?_ | refine tO rfl (za rfl) z7 zK ?_) | refine tG (fun w _ => (by go_simp; try rfl)) ?_); try simp only [zc, zb, zh, ze, z0b, z0a, z0d, z0c, zj]) | (refine zv rfl (fun K hK => ?_); go_wp2_with (first | ((refine zG _ _ 43 rfl ?_); refine zE (K := [_, _, _, _, _, _, _]) (R := RO) (M := RF ++ (M ++ (KF ++ R1))) hp _ _ _ rfl wy i0 _ 72 Tryz.underlying43 hi0 hz0 hz1 hz2 rfl (by decide) (za rfl) HRO.out 1 1 (za rfl) (by rfl) (by decide) (by rfl) sm1 sm2 ?_; clear hp; intro v2 RO2 w1 hra hp; obtain ⟨a2, c2, rfl⟩ := hra.val; have HRA := z0j hra; clear hra; simp only [z0f, z0e] at hp; simp only [zc, zb, z0b, z0a]) | ((first | ((refine zg _ _ _ rfl ?_); (first | refine sO hp rfl (za rfl) ziQ zK ?_); clear hp; intro w1 hp; simp only [spl, z0a, z0b] at hp) | ((refine zC _ _ _ rfl ?_); refine lS hp rfl (by intro w; go_simp; rfl) ?_; clear hp; intro b w1 hp; simp only [z0g, z0h, Nat.reduceAdd] at hp)); simp only [zc, zb, z0b, z0a])); (first | refine hK.out _ _ (.inl rfl) ?_ | refine hK.out _ _ (.inr (zt.two hp zK zK)) ?_); clear hK K; try simp only [zc, zb, zh, ze, z0b, z0a, z0d, z0c, zj])
  go_wp2_with (first | ((first | ((refine zd _ _ rfl ?_); first | refine lO hp rfl (za rfl) ziQ zK ?_) | ((refine zg _ _ _ rfl ?_); (first | refine sO hp rfl (za rfl) ziQ zK ?_ | refine sA hp rfl (za rfl) (za rfl) zi9 zK ?_); clear hp; intro w1 hp; simp only [spl, z0a, z0b] at hp)); simp only [zc, zb, z0b, z0a]))
  refine bodyPost_ret (zu (rs := [.cell 4 54]) Tryz.results151 (.cell rfl (hp.loadAgg Zf at4 0 _ (by rfl) (by rfl)) .nil)) rfl ⟨rfl, ⟨od, a2, os ++ [⟨nx, tp, nd, some ⟨bwd, 0, none⟩, ZT m, m, some ⟨bln, 0, none⟩, ZT k, k⟩], c2, nx + 1, t0, t1, t2, t3, a1, zcO fs ⟨tp, to⟩ nd, k1⟩, ?_, RO2, R1, M ++ ([⟨bwd, List.replicate m (.int .i64 0), 3, m⟩] ++ [⟨bln, List.replicate k (.int .i64 0), 3, k⟩]), ⟨?_, HR1.out, ?_⟩, ?_⟩
  ·exact ⟨rfl, rfl, rfl, rfl, rfl, rfl, ZJ.snocs os ⟨rfl, rfl, rfl, rfl, rfl⟩, rfl⟩
  ·have h := HRA.out
   simp only [List.length_append, List.length_singleton, zkm]
   simpa [obV, zol] using h
  ·exact hR.out.rows.snoc ⟨_, _, rfl, zib bwd m (by omega), zib bln k (by omega)⟩
  ·simp only [hvL, List.length_append, List.length_singleton]
   exact hp.kp
end Go.Proofs.YtaafajaadfgaoaaGreat
