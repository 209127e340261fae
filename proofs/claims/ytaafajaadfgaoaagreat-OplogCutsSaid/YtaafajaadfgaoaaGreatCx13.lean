import Derived.Test.YtaafajaadfgaoaaGreatCx0
import Derived.Test.YtaafajaadfgaoaaGreatCx12
import Derived.Test.YtaafajaadfgaoaaGreatCx9
set_option linter.unusedSimpArgs false
set_option linter.unusedVariables false
set_option maxRecDepth 100000
set_option maxHeartbeats 60000000
namespace Go.Proofs.YtaafajaadfgaoaaGreat
open Go.RowKit
section
variable {P : Program} {ops : Array Oper} {Q : Exit → Act → World → Prop} {S : World → Prop} {tl : List Nat}
def zns (ops : Array Oper) (i : Nat) : Bool := match ops[i]? with
 | some o => (match o.op with | .move _ => true | .extract _ _ => true | _ => false)
 | none => false
theorem YieldsIf.pureX {i : Nat} {o : Oper} {v : Value} {a : Act} (hi : ops[i]? = some o) (hm : zns ops i = true) (hs : ∃ w, S w) (hy : YieldsIf P ops S o v a) : YieldsIf P ops (fun _ => True) o v a := by
 rcases hy with ⟨hw, hr⟩ | h
 ·obtain ⟨w1, h1⟩ := hs
  have h2 := hr w1 h1
  unfold zns at hm
  rw [hi] at hm
  simp only at hm
  split at hm
  ·rename_i x hx
   have e : ∀ w, (execOp a.eval o).run P w = .ok (.value (a.eval x)) w := fun w => by unfold execOp; rw [hx]; rfl
   rw [e] at h2
   injection h2 with h2
   injection h2 with h2
   subst h2
   exact .inl ⟨hw, fun w _ => e w⟩
  ·rename_i x k hx
   have e : ∀ w, (execOp a.eval o).run P w = ((Instr.extract (a.eval x) k).run P w).andThen fun u w' => .ok (.value u) w' := fun w => by
    unfold execOp; rw [hx]; simp only [Sem.run_bind, Sem.run_pure]
   have f : ∀ u, (∃ w w', (Instr.extract u k).run P w = .ok v w') → ∀ w, (Instr.extract u k).run P w = .ok v w := fun u ⟨w2, w3, h⟩ w => by
    unfold Instr.extract at h ⊢
    split at h
    ·split at h
     ·simp only [Sem.run_pure] at h ⊢; injection h with h4; rw [h4]
     ·cases h
    ·cases h
   rw [e] at h2
   cases h5 : (Instr.extract (a.eval x) k).run P w1 with
   | ok u w2 =>
    rw [h5] at h2
    injection h2 with h6 h7
    injection h6 with h6
    subst h6
    have h8 := f _ ⟨w1, w2, h5⟩
    exact .inl ⟨hw, fun w _ => by rw [e, h8 w]; rfl⟩
   | halt _ _ => rw [h5] at h2; cases h2
  ·cases hm
 ·exact .inr h
def zdw (P : Program) (ops : Array Oper) (Q : Exit → Act → World → Prop) (S : World → Prop) (tl : List Nat) : Nat → Array Bool → Act → World → Prop
 | 0, listed, a, w => Region.ready .any ops listed = [] ∧ Q .normal a w
 | fuel + 1, listed, a, w =>
  (Region.ready .any ops listed = [] → Q .normal a w) ∧
  ∀ i ∈ Region.ready .any ops listed, wpOp P ops Q i (fun a' w' => (S w → tl.contains i = true ∨ S w') ∧ zdw P ops Q S tl fuel (listed.setIfInBounds i true) a' w') a w
theorem zfI : ∀ (fuel : Nat) (listed : Array Bool) (a : Act) (w : World), zdw P ops Q S tl fuel listed a w → wpAny P .any ops Q fuel listed a w
 | 0, _, _, _, h => h
 | fuel + 1, _, _, _, h => ⟨h.1, fun i hi => wpOp_mono (fun a' w' h' => zfI fuel _ a' w' h'.2) (h.2 i hi)⟩
theorem ziA {i : Nat} {oi : Oper} {v : Value} (hi : ops[i]? = some oi) (hsel : Region.noSelect ops = true)
  (hQ : ∀ c a w, Q (.panic c) (a.put oi.dst v) w → Q (.panic c) a w) (ht : ∀ j, tl.contains j = true → zbe ops ops.size j i = true) :
  ∀ (fuel : Nat) (listed : Array Bool) (a : Act) (w : World), zao ops listed →
   (∀ j oj, ops[j]? = some oj → j ≠ i → listed.getD j true = false → (∀ e ∈ oj.after, Region.binds .any e = true → e.on ≠ i) → oi.apart ops oj = true) →
   i ∈ Region.ready .any ops listed → YieldsIf P ops S oi v a → S w →
   zdw P ops Q S tl fuel (listed.setIfInBounds i true) (a.put oi.dst v) w → zdw P ops Q S tl (fuel + 1) listed a w := by
 intro fuel
 induction fuel with
 | zero =>
  intro listed a w _ _ hr hy hS H
  refine ⟨fun h => (by rw [h] at hr; cases hr), fun j hj => ?_⟩
  by_cases hji : j = i
  ·subst hji; exact hy.wpOp hi hS ⟨fun _ => .inr hS, H⟩
  ·have hm := ready_mono hj hji
   rw [H.1] at hm
   cases hm
 | succ fuel ih =>
  intro listed a w hc hfree hr hy hS H
  refine ⟨fun h => (by rw [h] at hr; cases hr), fun j hj => ?_⟩
  by_cases hji : j = i
  ·subst hji; exact hy.wpOp hi hS ⟨fun _ => .inr hS, H⟩
  ·obtain ⟨hjun, oj, hoj, hall⟩ := mem_ready.1 hj
   have hiun := (mem_ready.1 hr).1
   have hno : ¬ listed.getD i false = true := fun h1 => by
    rcases Nat.lt_or_ge i listed.size with h' | h'
    ·simp [h'] at h1 hiun; rw [hiun] at h1; cases h1
    ·simp [Array.getElem?_eq_none h'] at h1
   have htj : tl.contains j = false := by
    cases hcj : tl.contains j with
    | false => rfl
    | true => exact absurd (zbL hc _ j oj hoj hall (ht j hcj)) hno
   have h1 := H.2 j (ready_mono hj hji)
   have hnot : ∀ e ∈ oj.after, Region.binds .any e = true → e.on ≠ i := fun e he hb heq => hno (heq ▸ hall e he hb)
   have h2 := wpOp_putIf hoj (hfree j oj hoj hji hjun hnot) (fun cs b => Region.noSelect_spec hsel i oi cs b hi) (fun cs b => Region.noSelect_spec hsel j oj cs b hoj) hQ hy h1
   have hfree' : ∀ k ok, ops[k]? = some ok → k ≠ i → (listed.setIfInBounds j true).getD k true = false →
     (∀ e ∈ ok.after, Region.binds .any e = true → e.on ≠ i) → oi.apart ops ok = true := fun k ok hk hki hun hn => by
    refine hfree k ok hk hki ?_ hn
    by_cases hjk : j = k
    ·subst hjk; exact hjun
    ·rw [getD_set_ne true hjk] at hun; exact hun
   refine wpOp_mono (fun a' w' h3 => ?_) h2
   obtain ⟨hy', hor, h4⟩ := h3
   have hS' : S w' := by
    rcases hor hS with h | h
    ·rw [htj] at h; cases h
    ·exact h
   refine ⟨fun _ => .inr hS', ih (listed.setIfInBounds j true) a' w' (hc.set hj) hfree' (ready_mono hr (Ne.symm hji)) hy' hS' ?_⟩
   rw [Array.setIfInBounds_comm _ _ hji]
   exact h4
theorem ziz {i : Nat} {oi : Oper} {v : Value} (hi : ops[i]? = some oi) (hsel : Region.noSelect ops = true)
  (hQ : ∀ c a w, Q (.panic c) (a.put oi.dst v) w → Q (.panic c) a w) :
  ∀ (fuel : Nat) (listed : Array Bool) (a : Act) (w : World), zao ops listed →
   (∀ j oj, ops[j]? = some oj → j ≠ i → listed.getD j true = false → (∀ e ∈ oj.after, Region.binds .any e = true → e.on ≠ i) → oi.apart ops oj = true) →
   i ∈ Region.ready .any ops listed → YieldsIf P ops (fun _ => True) oi v a →
   zdw P ops Q S tl fuel (listed.setIfInBounds i true) (a.put oi.dst v) w → zdw P ops Q S tl (fuel + 1) listed a w := by
 intro fuel
 induction fuel with
 | zero =>
  intro listed a w _ _ hr hy H
  refine ⟨fun h => (by rw [h] at hr; cases hr), fun j hj => ?_⟩
  by_cases hji : j = i
  ·subst hji; exact hy.wpOp hi trivial ⟨fun h => .inr h, H⟩
  ·have hm := ready_mono hj hji
   rw [H.1] at hm
   cases hm
 | succ fuel ih =>
  intro listed a w hc hfree hr hy H
  refine ⟨fun h => (by rw [h] at hr; cases hr), fun j hj => ?_⟩
  by_cases hji : j = i
  ·subst hji; exact hy.wpOp hi trivial ⟨fun h => .inr h, H⟩
  ·obtain ⟨hjun, oj, hoj, hall⟩ := mem_ready.1 hj
   have hiun := (mem_ready.1 hr).1
   have hno : ¬ listed.getD i false = true := fun h1 => by
    rcases Nat.lt_or_ge i listed.size with h' | h'
    ·simp [h'] at h1 hiun; rw [hiun] at h1; cases h1
    ·simp [Array.getElem?_eq_none h'] at h1
   have h1 := H.2 j (ready_mono hj hji)
   have hnot : ∀ e ∈ oj.after, Region.binds .any e = true → e.on ≠ i := fun e he hb heq => hno (heq ▸ hall e he hb)
   have h2 := wpOp_putIf hoj (hfree j oj hoj hji hjun hnot) (fun cs b => Region.noSelect_spec hsel i oi cs b hi) (fun cs b => Region.noSelect_spec hsel j oj cs b hoj) hQ hy h1
   have hfree' : ∀ k ok, ops[k]? = some ok → k ≠ i → (listed.setIfInBounds j true).getD k true = false →
     (∀ e ∈ ok.after, Region.binds .any e = true → e.on ≠ i) → oi.apart ops ok = true := fun k ok hk hki hun hn => by
    refine hfree k ok hk hki ?_ hn
    by_cases hjk : j = k
    ·subst hjk; exact hjun
    ·rw [getD_set_ne true hjk] at hun; exact hun
   refine wpOp_mono (fun a' w' h3 => ?_) h2
   obtain ⟨hy', hor, h4⟩ := h3
   refine ⟨hor, ih (listed.setIfInBounds j true) a' w' (hc.set hj) hfree' (ready_mono hr (Ne.symm hji)) hy' ?_⟩
   rw [Array.setIfInBounds_comm _ _ hji]
   exact h4
def zfs (ops : Array Oper) (tl : List Nat) : Bool → Array Bool → List (Nat × Bool) → Bool
 | _, listed, [] => (Region.ready .any ops listed).isEmpty
 | s, listed, (i, true) :: r => (zns ops i || (s && tl.all (fun j => zbe ops ops.size j i))) && (Region.ready .any ops listed).contains i && Region.free .any ops listed i && zfs ops tl s (listed.setIfInBounds i true) r
 | s, listed, (i, false) :: r => decide (Region.ready .any ops listed = [i]) && zfs ops tl (s && !tl.contains i) (listed.setIfInBounds i true) r
theorem zbw (hsat : ∃ w, S w) (hs : Region.noSelect ops = true) (hQ : ∀ c a d v w, Q (.panic c) (a.put d v) w → Q (.panic c) a w) : ∀ (plan : List (Nat × Bool)) (s : Bool) (fuel : Nat) (listed : Array Bool) (a : Act) (w : World), zao ops listed →
  plan.length ≤ fuel → zfs ops tl s listed plan = true → (s = true → S w) → ZI P ops Q S tl plan a w → zdw P ops Q S tl fuel listed a w
 | [], s, fuel, listed, a, w, _, hf, hB, _, h => by
  have hB' : Region.ready .any ops listed = [] := by simpa [zfs] using hB
  cases fuel with
  | zero => exact ⟨hB', h⟩
  | succ f => exact ⟨fun _ => h, fun i hi => by rw [hB'] at hi; cases hi⟩
 | (i, true) :: rest, s, fuel, listed, a, w, hc, hf, hB, hS, h => by
  obtain ⟨f, rfl⟩ : ∃ f, fuel = f + 1 := ⟨fuel - 1, by simp at hf; omega⟩
  simp only [zfs, Bool.and_eq_true, Bool.or_eq_true] at hB
  obtain ⟨⟨⟨b1, b2⟩, b3⟩, b5⟩ := hB
  obtain ⟨o, v, ho, hy, hr⟩ := h
  have hr0 : i ∈ Region.ready .any ops listed := by simpa using b2
  have hrest := zbw hsat hs hQ rest s f _ _ w (hc.set hr0) (by simp at hf; omega) b5 hS hr
  rcases b1 with b1 | ⟨b1, b4⟩
  ·exact ziz ho hs (fun c a w h => hQ c a _ v w h) f listed a w hc (Region.free_spec ho b3) hr0 (YieldsIf.pureX ho b1 hsat hy) hrest
  ·have ht : ∀ j, tl.contains j = true → zbe ops ops.size j i = true := fun j hj => by
    have := List.all_eq_true.1 b4 j (by simpa using hj)
    exact this
   exact ziA ho hs (fun c a w h => hQ c a _ v w h) ht f listed a w hc (Region.free_spec ho b3) hr0 hy (hS b1) hrest
 | (i, false) :: rest, s, fuel, listed, a, w, hc, hf, hB, hS, h => by
  obtain ⟨f, rfl⟩ : ∃ f, fuel = f + 1 := ⟨fuel - 1, by simp at hf; omega⟩
  simp only [zfs, Bool.and_eq_true, decide_eq_true_eq] at hB
  obtain ⟨o, ho, hr⟩ := h
  have hr0 : i ∈ Region.ready .any ops listed := by rw [hB.1]; simp
  refine ⟨fun h0 => (by rw [h0] at hr0; cases hr0), fun j hj => ?_⟩
  rw [hB.1] at hj
  obtain rfl : j = i := by simpa using hj
  have h1 := zc4 hr
  have h2 : wpOp P ops Q j (fun a' w' => (tl.contains j = true ∨ S w') ∧ ZI P ops Q S tl rest a' w') a w := by
   unfold wpOp; simp only [ho]; exact h1
  refine wpOp_mono (fun a' w' h' => ⟨fun _ => h'.1, zbw hsat hs hQ rest _ f _ a' w' (hc.set hr0) (by simp at hf; omega) hB.2 ?_ h'.2⟩) h2
  intro hs1
  simp only [Bool.and_eq_true, Bool.not_eq_true'] at hs1
  rcases h'.1 with h3 | h3
  ·rw [hs1.2] at h3; cases h3
  ·exact h3
theorem zeo {id : Nat} {a : Act} {w w0 : World} {B : Nat} {l : List Oper} (M : List Blk) (hS : zt B w0 M w.drew) (tl : List Nat) (plan : List (Nat × Bool)) (hm : P.follows .mixedOrders = true) (hs : Region.noSelect l.toArray = true)
  (hl : plan.length = l.length) (hB : zfs l.toArray tl true (Array.replicate l.length false) plan = true) (hQ : ∀ c a d v w, Q (.panic c) (a.put d v) w → Q (.panic c) a w)
  (h : ZI P l.toArray Q (zt B w0 M) tl plan a w.drew) : (Code.region id l.toArray true).wp P Q a w :=
 wp_region_any hm (by
  have := zbw ⟨_, hS⟩ hs hQ plan true l.length (Array.replicate l.length false) a w.drew (zao.start _ _) (by omega) hB (fun _ => hS) h
  have := zfI _ _ _ _ this
  simpa using this)
end
open Go.RowKit
theorem zrv {ty : TypeId} {k : Nat} (h : ZB Tryz.prog ty k = true := by with_reducible first | exact zW | exact zD | exact zF | exact zcp | exact Zf) : ZB Tryz.prog ty k = true := h
theorem zmk {ty : TypeId} (h : zy Tryz.prog ty = true := by with_reducible first | exact zr | exact Ze | exact Zh | exact z7 | exact Zz) : zy Tryz.prog ty = true := h
theorem zoX {B : Nat} {w0 w : World} {bg : Nat} {x g : Ob} {R L : List Blk} (hl : x.ls.length ≤ 5000) (hx : ObR x R) (hp : Hp B w0 w (⟨bg, obV g, 126, 5⟩ :: (R ++ L))) :
  Calls Tryz.prog 233 #[.slice x.la x.ls.length x.lc, .pointer (some ⟨bg, 0, none⟩)] w fun e w' => e = .returned (.tuple #[]) ∧ ∃ R', ObR (zf9 g.h x) R' ∧ Hp B w0 w' (⟨bg, obV g, 126, 5⟩ :: (R' ++ L)) := by
 obtain ⟨Rw, Rl, rfl, h1, h2⟩ := hx
 obtain ⟨xh, xp, xo, wa, ws, wc, la, ls, lc⟩ := x
 simp only at hl h1 h2 ⊢
 rcases Nat.eq_zero_or_pos ls.length with h0 | h0
 ·have he : ls = [] := List.eq_nil_of_length_eq_zero h0
  subst he
  exact (ziV w).mono fun e w' ⟨he, hw⟩ => by subst hw; exact ⟨he, Rw ++ Rl, ⟨Rw, Rl, rfl, h1, h2⟩, hp⟩
 ·obtain ⟨gl, rfl, hn, hm, rfl, hlen⟩ := h2.own h0
  have hp2 : Hp B w0 w (⟨bg, obV g, 126, 5⟩ :: ⟨gl, zhd [] ls [], 3, lc * 1⟩ :: (Rw ++ L)) := by
   have := hp.reorder (L' := ⟨bg, obV g, 126, 5⟩ :: ⟨gl, ls.flatMap iV, 3, lc * 1⟩ :: (Rw ++ L)) (pm)
   simpa [zhd] using this
  refine (zqu (off := 0) hl hn rfl hp2).mono fun e w' ⟨he, hq⟩ => ⟨he, Rw ++ [⟨gl, (ls.map (zd4 g.h)).flatMap iV, 3, lc * 1⟩], ⟨Rw, _, rfl, h1, ?_⟩, ?_⟩
  ·simp only [zf9, List.length_map]
   exact ⟨by rw [zaw, List.length_map], .inr ⟨gl, lc, rfl, hn, hm, rfl⟩⟩
  ·have hq2 : Hp B w0 w' (⟨bg, obV g, 126, 5⟩ :: ⟨gl, (ls.map (zd4 g.h)).flatMap iV, 3, lc * 1⟩ :: (Rw ++ L)) := by simpa [zhd] using hq
   exact hq2.reorder (pm)
theorem zrk {B : Nat} {w0 w : World} {x y z : Blk} {g cap : Nat} {l : List Ob} {M : List Blk} (hp : Hp B w0 w (x :: y :: z :: ⟨g, l.flatMap obV, 126, cap * 5⟩ :: M)) (hl : l.length ≤ 1000) (hcap : l.length ≤ cap) {i m : Nat} (hm : l.length = m + 1) (hi : i < l.length) :
  Calls Tryz.prog 231 #[.slice (some ⟨g, 0, none⟩) l.length cap, .int .i64 i, .int .i64 ((i : Int) + 1)] w fun e w' => e = .returned (.slice (some ⟨g, 0, none⟩) m cap) ∧ Hp B w0 w' (x :: y :: z :: ⟨g, (l.eraseIdx i).flatMap obV, 126, cap * 5⟩ :: M) := by
 have h := zs1 (hp.reorder (List.perm_middle (l₁ := [x, y, z]))) hl hcap (j := i + 1) rfl rfl hm hi
 exact h.mono fun e w' ⟨he, hq⟩ => ⟨he, hq.reorder (List.perm_middle (l₁ := [x, y, z])).symm⟩
def zdd (h : Int) (l : List Ob) (q : Nat) : List Ob := (l.take q).map (zf9 h) ++ l.drop q
theorem zrZ (h : Int) (o : Ob) : obV (zf9 h o) = obV o := by simp [obV, zf9]
theorem zpa (h : Int) (l : List Ob) : (l.map (zf9 h)).flatMap obV = l.flatMap obV := by
 induction l with
 | nil => rfl
 | cons o l ih => rw [List.map_cons, List.flatMap_cons, List.flatMap_cons, ih, zrZ]
theorem zkV {h : Int} {l : List Ob} {q : Nat} {t : Ob} (ht : l[q]? = some t) : (zdd h l q)[q]? = some t := by
 have hlt := (List.getElem?_eq_some_iff.1 ht).1
 unfold zdd
 have hl : ((l.take q).map (zf9 h)).length = q := by rw [List.length_map, List.length_take]; omega
 rw [List.getElem?_append_right (by omega), hl, Nat.sub_self, List.getElem?_drop]
 exact ht
theorem ziW {h : Int} {l : List Ob} {q : Nat} {t : Ob} (ht : l[q]? = some t) : zdd h l (q + 1) = (zdd h l q).set q (zf9 h t) := by
 obtain ⟨hlt, rfl⟩ := List.getElem?_eq_some_iff.1 ht
 unfold zdd
 have hl : ((l.take q).map (zf9 h)).length = q := by rw [List.length_map, List.length_take]; omega
 rw [List.set_append_right _ _ (by omega), hl, Nat.sub_self, List.drop_eq_getElem_cons hlt, List.set_cons_zero, List.take_succ_eq_append_getElem hlt, List.map_append, List.append_assoc]
 rfl
theorem zkU (h : Int) (l : List Ob) : zdd h l l.length = l.map (zf9 h) := by simp [zdd]
theorem ziX (h : Int) (l : List Ob) : zdd h l 0 = l := by simp [zdd]
def zO (B : Nat) (w0 : World) (b : Nat) (s : Hv) (c v : Int) (K : List Blk) (e : Ending) (w' : World) : Prop := e = .returned (zb8 c v) ∧ ∃ y : Hv, y.Sm s ∧ zQ B w0 w' b y K
theorem zJ.small {x : Hv} (h : zJ x) : x.Small := by
 obtain ⟨h3, h8, hcan⟩ := zcJ h.free
 refine ⟨⟨by have := h.len; omega, fun o ho => ?_⟩, ?_⟩
 ·have h1 := (h.need o ho)
  have h2 : 0 ≤ Zk o.ws.length o.ls.length := by rw [h1.1]; exact h1.2.1
  have := zc1 h2
  omega
 ·have h1 := hcan.good.len h3
  have h2 := zcz h8
  omega
theorem zJ.sorted {x : Hv} (h : zJ x) : zac x.os := h.rise.step
theorem Hp.part {B : Nat} {w0 w : World} {L L' D : List Blk} (hp : Hp B w0 w L) (h : L.Perm (L' ++ D)) : Hp B w0 w L' := (hp.reorder h).sublist (List.sublist_append_left _ _)
theorem zrh {B : Nat} {w0 w : World} {bg bw n : Nat} {t : TypeId} {x : Ob} {y : Blk} {v0 v1 v2 v7 : Value} {t0 t1 t2 t3 : Int} {L : List Blk} (hp : Hp B w0 w (⟨bg, obV x, 126, 5⟩ :: y :: ⟨bw, [v0, v1, v2, .int .i64 t0, .int .i64 t1, .int .i64 t2, .int .i64 t3, v7], t, n⟩ :: L)) :
  Calls Tryz.prog 233 #[.slice (some ⟨bw, 3, none⟩) 4 4, .pointer (some ⟨bg, 0, none⟩)] w fun e w' => e = .returned (.tuple #[]) ∧ Hp B w0 w' (⟨bg, obV x, 126, 5⟩ :: y :: ⟨bw, [v0, v1, v2, .int .i64 (zd4 x.h t0), .int .i64 (zd4 x.h t1), .int .i64 (zd4 x.h t2), .int .i64 (zd4 x.h t3), v7], t, n⟩ :: L) :=
 (zqu (x := x) (ls := [t0, t1, t2, t3]) (off := 3) (pre := [v0, v1, v2]) (post := [v7]) (L := y :: L) (c := 4) (n := n) (t := t) (g := bw) (by simp) (by simp) rfl (hp.reorder (List.Perm.cons _ (List.Perm.swap _ _ _)))).mono fun _ _ ⟨he, hq⟩ => ⟨he, hq.reorder (List.Perm.cons _ (List.Perm.swap _ _ _))⟩
theorem zrs (x : Hv) (hx : zJ x) (i : Nat) (g : Ob) (hg : x.os[i]? = some g) {B bw : Nat} {w0 w : World} {K : List Blk} (hW : zQ B w0 w bw x K) :
  Calls Tryz.prog 203 #[.pointer (some ⟨bw, 0, none⟩), .int .i64 i] w (zO B w0 bw (zeF x i g) 0 0 K) := by
 obtain ⟨RO, RF, M, ⟨ho, hf, hm⟩, hp⟩ := hW
 obtain ⟨hgm, hgn⟩ := hx.give hg
 obtain ⟨⟨hol, hosm⟩, hfl⟩ := hx.small
 have hfr := hx.free
 have hsml := hosm
 obtain ⟨od, oa, os, oc, nx, t0, t1, t2, t3, fa, fs, fc⟩ := x
 simp only at ho hf hm hg hol hosm hfl hgm hgn hfr
 simp only [hvL] at hp
 have hlt := (List.getElem?_eq_some_iff.1 hg).1
 obtain ⟨go_, rfl, hn, hmx, rfl, hlen⟩ := ho.own (by omega)
 obtain ⟨m, hnm⟩ : ∃ m, os.length = m + 1 := ⟨os.length - 1, by omega⟩
 have HXA := z0j (zd5 5 Z1 hg)
 have HOL : Hid (os.length ≤ 1000) := z0j (by omega)
 have HCAP := z0j hn
 have HMX := z0j hmx
 have HNM := z0j hnm
 have HLT := z0j hlt
 have HRF := z0j hf.keptS
 have HGM := z0j hgm
 have HGN := z0j hgn
 have HFR := z0j hfr
 have HM := z0j hm
 have HG := z0j hg
 have HSM : Hid (∀ o ∈ os, o.ls.length ≤ 5000) := z0j (fun o ho => (hosm o ho).2)
 have e1 : (0 : Int) ≤ (i : Int) := by omega
 have e2 : (i : Int) < (os.length : Int) := by omega
 have e3 : (i : Int) ≤ 1000 := by omega
 clear hg hosm hn hmx hlen hgm hgn hfr hm ho hf hsml hx hnm
 simp only [z0f, z0e] at hp
 go_enter Tryz.func203, Tryz.ntmps203
 obtain ⟨gh, gp, go, gwa, gws, gwc, gla, gls, glc⟩ := g
 simp only [obV, Z3] at HXA HGM HGN
 go_wp2_with (first | ((refine zd 126 _ rfl ?_); refine lA hp rfl (za rfl) zD at2 ?_ (hv := HXA.out); simp only [zc, zb, z0b, z0a]) | (go_at_call 231; (with_reducible refine (zrk hp HOL.out HCAP.out HNM.out HLT.out).mono ?_); clear hp; rintro e w1 ⟨rfl, hp⟩) | ((first | ((refine zi _ rfl ?_); refine lZ hp rfl (by with_reducible first | exact z6 | exact Zi) ?_; clear hp; intro b w1 hp) | ((refine zd _ _ rfl ?_); first | refine lO hp rfl (za rfl) zmk aa5 ?_) | ((refine zg _ _ _ rfl ?_); (first | refine sO hp rfl (za rfl) zmk aa5 ?_ | refine sA hp rfl (za rfl) (za rfl) zrv aa5 ?_); clear hp; intro w1 hp; simp only [spl, z0a, z0b] at hp)); simp only [zc, zb, z0b, z0a]))
 refine zeo [_, _] (zt.two hp.drew at0 at2) [20] [(0, true), (1, true), (2, true), (3, true), (4, true), (5, true), (6, true), (7, true), (8, true), (9, true), (10, true), (11, true), (12, true), (13, false), (14, true), (15, true), (16, true), (17, true), (18, true), (19, true), (20, false)] (by kernel_rfl) (by kernel_rfl) rfl (by kernel_rfl) (fun _ _ d _ _ h => by cases d <;> exact h) ?_
 replace hp := hp.drew
 repeat' (with_reducible refine zq ?_); first | (with_reducible refine zl ?_) | ((with_reducible refine zw ?_); refine zn rfl ?_; (first | ((with_reducible refine zH _ rfl ?_); refine tM rfl ?_) | ((with_reducible refine zI _ _ rfl ?_); first | refine tA rfl (za rfl) zF aa5 ?_ | refine tO rfl (za rfl) (by with_reducible first | exact zr | exact Zz) aa5 ?_) | refine tG (fun w _ => (by go_simp; try rfl)) ?_); try simp only [zc, zb, zh, ze, z0b, z0a, z0d, z0c, zj]) | (refine zv rfl (fun K hK => ?_); go_wp2_with (first | (go_at_call 232; (with_reducible refine (zlf od fs fa fc hfl gp go _ (HRF.out.at hp (fun p hm => by simp [hm])) HFR.out HGM.out HGN.out).mono ?_); rintro e w1 ⟨a2, k2, R2, rfl, hr2, hpx⟩; replace hp := hp.join hpx; have HR2 := z0j hr2; clear hr2 hpx; try simp only [z0f, z0e, z0i] at hp) | (((refine zg _ _ _ rfl ?_); (first | refine sO hp rfl (za rfl) zmk aa5 ?_); clear hp; intro w1 hp; simp only [spl, z0a, z0b] at hp); simp only [zc, zb, z0b, z0a])); (first | refine hK.out _ _ (.inl rfl) ?_ | refine hK.out _ _ (.inr (zt.two hp aa5 aa5)) ?_); clear hK K; try simp only [zc, zb, zh, ze, z0b, z0a, z0d, z0c, zj])
 go_wp2_with (first | ((first | ((refine zd _ _ rfl ?_); first | refine lO hp rfl (za rfl) zmk aa5 ?_)); simp only [zc, zb, z0b, z0a]))
 obtain ⟨bg, rfl⟩ := hp.id0
 obtain ⟨br, rfl⟩ := hp.id1
 obtain ⟨M1, RX, M2, rfl, hxr, _, her⟩ := HM.out.at_ HG.out
 clear hxr
 replace hp := hp.part (L' := ⟨bg, [.int .i64 gh, .int .i64 gp, .int .i64 go, .slice gwa gws.length gwc, .slice gla gls.length glc], 126, 5⟩ :: ⟨br, [.int .i64 0, .int .i64 0], 54, 2⟩ ::
  ⟨bw, [.int .i64 od, .slice (some ⟨go_, 0, none⟩) m oc, .int .i64 nx, .int .i64 t0, .int .i64 t1, .int .i64 t2, .int .i64 t3, .slice a2 (zaE od fs ⟨gp, go⟩).length k2], 113, 8⟩ :: ⟨go_, (os.eraseIdx i).flatMap obV, 126, oc * 5⟩ :: ((M1 ++ M2) ++ (R2 ++ K))) (D := RF ++ RX) (pm)
 have hel : (os.eraseIdx i).length = m := by rw [List.length_eraseIdx_of_lt HLT.out]; have := HNM.out; omega
 have HES : Hid (∀ o ∈ os.eraseIdx i, o.ls.length ≤ 5000) := z0j (fun o ho => HSM.out o ((List.eraseIdx_sublist os i).subset ho))
 have HEL := z0j hel
 have hm1 : m ≤ 1000 := by have := HNM.out; omega
 have HER := z0j her
 clear her HM HXA
 obtain ⟨es, hes⟩ : ∃ es, es = os.eraseIdx i := ⟨_, rfl⟩
 have HEQ := z0j hes
 rw [← hes] at HES HEL HER hp hel
 clear hes hel
 go_loopg [57] m (fun k i wr => ∃ (q : Nat) (Mq : List Blk), k + q = m ∧ i = .int .i64 q ∧ Hid (zeM (zdd gh es q) Mq) ∧
  Hp B w0 wr (⟨bg, [.int .i64 gh, .int .i64 gp, .int .i64 go, .slice gwa gws.length gwc, .slice gla gls.length glc], 126, 5⟩ :: ⟨br, [.int .i64 0, .int .i64 0], 54, 2⟩ ::
  ⟨bw, [.int .i64 od, .slice (some ⟨go_, 0, none⟩) m oc, .int .i64 nx, .int .i64 t0, .int .i64 t1, .int .i64 t2, .int .i64 t3, .slice a2 (zaE od fs ⟨gp, go⟩).length k2], 113, 8⟩ :: ⟨go_, es.flatMap obV, 126, oc * 5⟩ :: (Mq ++ (R2 ++ K))))
 case atStart => exact ⟨0, M1 ++ M2, by omega, rfl, by rw [ziX]; exact HER, hp⟩
 case round =>
  clear hp
  obtain ⟨q, Mq, hkq, rfl, HMQ, hp⟩ := hrel
  by_cases hlq : q < m
  ·obtain ⟨x, hj⟩ : ∃ x, es[q]? = some x := ⟨_, List.getElem?_eq_getElem (l := es) (i := q) (by have := HEL.out; omega)⟩
   have hls := HES.out _ (List.mem_of_getElem? hj)
   have hxa := zd5 5 Z1 hj
   obtain ⟨N1, R, N2, rfl, hox, hnew, _⟩ := HMQ.out.at_ (zkV (h := gh) hj)
   have hst := ziW (h := gh) hj
   have HLS := z0j hls
   have HOX := z0j hox
   have HNEW := z0j hnew
   have HST := z0j hst
   have HPM : Hid (∀ b8 : Blk, (b8 :: ⟨bg, [.int .i64 gh, .int .i64 gp, .int .i64 go, .slice gwa gws.length gwc, .slice gla gls.length glc], 126, 5⟩ :: ⟨br, [.int .i64 0, .int .i64 0], 54, 2⟩ ::
     ⟨bw, [.int .i64 od, .slice (some ⟨go_, 0, none⟩) m oc, .int .i64 nx, .int .i64 t0, .int .i64 t1, .int .i64 t2, .int .i64 t3, .slice a2 (zaE od fs ⟨gp, go⟩).length k2], 113, 8⟩ :: ⟨go_, es.flatMap obV, 126, oc * 5⟩ :: ((N1 ++ (R ++ N2)) ++ (R2 ++ K))).Perm
    (⟨bg, obV ⟨gh, gp, go, gwa, gws, gwc, gla, gls, glc⟩, 126, 5⟩ :: (R ++ (⟨br, [.int .i64 0, .int .i64 0], 54, 2⟩ ::
     ⟨bw, [.int .i64 od, .slice (some ⟨go_, 0, none⟩) m oc, .int .i64 nx, .int .i64 t0, .int .i64 t1, .int .i64 t2, .int .i64 t3, .slice a2 (zaE od fs ⟨gp, go⟩).length k2], 113, 8⟩ :: ⟨go_, es.flatMap obV, 126, oc * 5⟩ :: ((N1 ++ N2) ++ (R2 ++ K)) ++ [b8])))) := z0j (fun b8 => by simp only [obV]; exact pm)
   have HXA := z0j hxa
   clear hls hox hnew hst hxa hj
   obtain ⟨xh, xp, xo, wa, ws, wc, la, ls, lc⟩ := x
   simp only [obV] at HXA
   simp only at HLS
   have f1 : (0 : Int) ≤ (q : Int) := by omega
   have f2 : (q : Int) < (m : Int) := by omega
   go_wp2_with (first | ((refine zd 126 _ rfl ?_); refine lA hp rfl (za rfl) zD at3 ?_ (hv := HXA.out); simp only [zc, zb, z0b, z0a]) | (go_at_call 233; (with_reducible refine (zoX HLS.out HOX.out (hp.reorder (HPM.out _))).mono ?_); clear hp; rintro e w1 ⟨rfl, R', hR', hp⟩; have HRN := z0j hR'; clear hR') | ((first | ((refine zi _ rfl ?_); refine lZ hp rfl (by with_reducible first | exact z6) ?_; clear hp; intro b w1 hp) | ((refine zd _ _ rfl ?_); first | refine lO hp rfl (za rfl) zmk aa5 ?_) | ((refine zg _ _ _ rfl ?_); (first | refine sA hp rfl (za rfl) (za rfl) zrv aa5 ?_); clear hp; intro w1 hp; simp only [spl, z0a, z0b] at hp)); simp only [zc, zb, z0b, z0a]))
   go_roundg (gk - 1)
   case measure => omega
   case rel => exact ⟨q + 1, N1 ++ (R' ++ N2), by omega, by go_num, z0j (by rw [HST.out]; exact HNEW.out _ _ HRN.out), by simp only [obV] at hp; exact hp.kp⟩
  ·obtain rfl : m = q := by omega
   have f2 : decide ((m : Int) < (m : Int)) = false := by simp
   have hmq := HMQ.out
   rw [← HEL.out, zkU] at hmq
   have HMQ2 := z0j hmq
   clear hmq
   go_wp2_with (first | (go_at_call 233; (with_reducible refine (zrh (x := ⟨gh, gp, go, gwa, gws, gwc, gla, gls, glc⟩) hp).mono ?_); clear hp; rintro e w1 ⟨rfl, hp⟩; try simp only at hp) | ((first | ((refine zg _ _ _ rfl ?_); (first | refine sA hp rfl (za rfl) (za rfl) zrv aa5 ?_); clear hp; intro w1 hp; simp only [spl, z0a, z0b] at hp)); simp only [zc, zb, z0b, z0a]))
   have hlen : (es.map (zf9 gh)).length = m := by rw [List.length_map]; exact HEL.out
   refine bodyPost_ret (zu (rs := [.cell 4 54]) Tryz.results203 (.cell rfl (hp.loadAgg Zf at1 0 _ (by rfl) (by rfl)) .nil)) rfl ⟨rfl, ⟨od, some ⟨go_, 0, none⟩, es.map (zf9 gh), oc, nx, zd4 gh t0, zd4 gh t1, zd4 gh t2, zd4 gh t3, a2, zaE od fs ⟨gp, go⟩, k2⟩, ?_, [⟨go_, es.flatMap obV, 126, oc * 5⟩], R2, Mq, ⟨?_, HR2.out, HMQ2.out⟩, ?_⟩
   ·refine ⟨rfl, rfl, rfl, rfl, rfl, rfl, ?_, rfl⟩
    simp only [zeF]
    rw [HEQ.out]
    exact ZJ.refl _
   ·refine ⟨zdp _, .inr ⟨go_, oc, rfl, ?_, HMX.out, by rw [zpa]⟩⟩
    simp only
    rw [hlen]; have := HNM.out; have := HCAP.out; omega
   ·simp only [hvL]
    rw [hlen]
    exact hp.kp
end Go.Proofs.YtaafajaadfgaoaaGreat
