import Derived.Test.YtaafajaadfgaoaaGreatTb0
import Derived.Test.YtaafajaadfgaoaaGreatTb4
import Derived.Test.YtaafajaadfgaoaaGreatTb10
set_option linter.unusedSimpArgs false
set_option linter.unusedVariables false
set_option maxRecDepth 100000
set_option maxHeartbeats 60000000
namespace Go.Proofs.YtaafajaadfgaoaaGreat
open Go.RowKit Go.Lib
theorem zo7 (w : World) : (zeroValue 126).run Tryz.prog w = .ok (.agg #[.int .i64 0, .int .i64 0, .int .i64 0, .slice none 0 0, .slice none 0 0]) w := by kernel_rfl
theorem zo5 : (Builtin.zeroCells (Value.agg #[.int .i64 0, .int .i64 0, .int .i64 0, .slice none 0 0, .slice none 0 0]).cells 1).toList = [.int .i64 0, .int .i64 0, .int .i64 0, .slice none 0 0, .slice none 0 0] := by kernel_rfl
def zpb (B : Nat) (w0 : World) (g m cap : Nat) (xs : List Value) (M : List Blk) (e : Ending) (w' : World) : Prop := e = .returned (.slice (some ⟨g, 0, none⟩) m cap) ∧ Hp B w0 w' (⟨g, xs, 126, cap * 5⟩ :: M)
theorem zoq {B : Nat} {w0 w : World} {g cap : Nat} {l : List Ob} {M : List Blk} (hp : Hp B w0 w (⟨g, l.flatMap obV, 126, cap * 5⟩ :: M)) (hl : l.length ≤ 1000) (hcap : l.length ≤ cap) {i j m n : Nat} (hj : j = i + 1) (hn : n = l.length) (hm : n = m + 1) (hi : i < n) :
  Calls Tryz.prog 231 #[.slice (some ⟨g, 0, none⟩) n cap, .int .i64 i, .int .i64 j] w (zpb B w0 g m cap ((l.eraseIdx i).flatMap obV) M) := by
 obtain ⟨i0, hi0, hz0, hz1, hz2⟩ := info_parts zdm
 have hxl := zdo l
 have hx1 := zla l
 have HER : Hid ((l.flatMap obV).take (i * 5) ++ (l.flatMap obV).drop (j * 5) = (l.eraseIdx i).flatMap obV) := z0j (by
  rw [zb4 5 Zm, hj, List.eraseIdx_eq_take_drop_succ, List.flatMap_append]
  congr 1
  have h := zb4 5 Zm l i
  have h2 : l.flatMap obV = (l.take i).flatMap obV ++ (l.drop i).flatMap obV := by rw [← List.flatMap_append, List.take_append_drop]
  have h3 : ((l.take i).flatMap obV).length = i * 5 := by rw [zdo, List.length_take, Nat.min_eq_left (by omega)]
  rw [h2, ← h3, List.take_left])
 generalize l.flatMap obV = xs at hp hxl hx1 HER
 rw [← hn] at hxl hcap hl
 clear hn
 have HYL : Hid ((xs.drop (j * 5)).length = (n - j) * 5) := z0j (by rw [List.length_drop, hxl]; omega)
 have HY1 : Hid ((xs.drop (j * 5)).all (·.oneCell') = true) := z0j (by rw [List.all_eq_true]; intro u hu; exact List.all_eq_true.1 hx1 u (List.mem_of_mem_drop hu))
 have HFI : Hid (i + (n - j) ≤ cap) := z0j (by omega)
 have HLE : Hid ((i + (n - j)) * 5 ≤ xs.length) := z0j (by rw [hxl]; omega)
 have HSUM : Hid (i + (n - j) = m) := z0j (by omega)
 have HSPL : Hid (spl xs (i * 5) (xs.drop (j * 5)) = (xs.take (i * 5) ++ xs.drop (j * 5)) ++ xs.drop (i * 5 + (xs.drop (j * 5)).length)) := z0j (by
  rw [zgF _ _ _ (by rw [List.length_drop, hxl]; omega), List.append_assoc])
 have HOFF : Hid (m * 5 = (xs.take (i * 5) ++ xs.drop (j * 5)).length) := z0j (by rw [List.length_append, List.length_take, List.length_drop, hxl]; omega)
 have HFC : Hid ((xs.take (i * 5) ++ xs.drop (j * 5)).length + 5 ≤ cap * 5) := z0j (by rw [← HOFF.out]; omega)
 have HNM : Hid (n - m = 1) := z0j (by omega)
 have f1 : (0 : Int) ≤ (i : Int) := by omega
 have f2 : (i : Int) ≤ (j : Int) := by omega
 have f3 : (j : Int) ≤ (n : Int) := by omega
 have f4 : (n : Int) ≤ (cap : Int) := by omega
 have f5 : ((i : Int) == (j : Int)) = false := by simp; omega
 have f5' : (i == j) = false := by simp; omega
 have f6 : (i : Int) ≤ (cap : Int) := by omega
 have f7 : (0 : Int) ≤ (j : Int) := by omega
 have f8 : (m : Int) ≤ (n : Int) := by omega
 have f9 : ¬ (cap = m) := by omega
 have f10 : (0 : Int) ≤ (m : Int) := by omega
 have f11 : ¬ (cap = i) := by omega
 have f12 : ¬ (n = i) := by omega
 by_cases hcj : j = cap
 ·subst hcj
  have HNL : Hid (∀ w a, zD w a (xs.drop (j * 5))) := z0j (fun w a => by rw [List.drop_eq_nil_of_le (by omega)]; exact zD.nil _ _)
  clear hxl hx1 hm hj hi hl hcap
  go_enter Tryz.func231, Tryz.ntmps231
  go_wp2_with fail
  refine zk [] (zA.zero hp.drew) [] [(0, true), (1, true), (2, true), (3, true), (4, true), (5, true), (6, false), (7, false)] (by kernel_rfl) (by kernel_rfl) rfl (by kernel_rfl) (fun _ _ d _ _ h => by cases d <;> exact h) ?_
  replace hp := hp.drew
  repeat' (with_reducible refine zB ?_); first | (with_reducible refine zt ?_) | ((with_reducible refine zI ?_); refine zy rfl ?_; (first | ((with_reducible refine zV _ rfl ?_); refine tM rfl ?_) | refine tG (fun w _ => (by go_simp; try rfl)) ?_); try simp only [ze, zd, zn, zj, z0b, z0a, z0d, z0c, zr]) | (refine zF rfl (fun K hK => ?_); go_wp2_with (first | ((refine zM _ _ 43 rfl ?_); first | (refine zaH hp _ _ _ rfl wy Tryz.underlying43 i0 hi0 hz1 (by decide) (zb rfl) _ (n - j) _ (zb rfl) (xs.drop (j * 5)) HYL.out (by first | exact zD.part hp | exact HNL.out _ _) HY1.out HFI.out HLE.out ?_); clear hp; intro w1 hp; rw [HSPL.out] at hp; replace hp := hp.less; rw [HSUM.out]; simp only [ze, zd, z0b, z0a])); (refine hK.out _ _ (.inr (zA.zero hp)) ?_); clear hK K; try simp only [ze, zd, zn, zj, z0b, z0a, z0d, z0c, zr])
  go_wp2_with (first | ((refine zdM _ _ rfl ?_); refine zaY hp _ _ rfl wy Tryz.underlying43 _ zo7 _ _ (zb rfl) HNM.out _ zo5 rfl rfl HOFF.out HFC.out ?_; clear hp; intro v1 w1 hp; simp only [ze, zd, z0b, z0a]))
  go_ret
  exact ⟨rfl, by rw [← HER.out]; exact hp⟩
 ·have f13 : ¬ (cap = j) := fun h => hcj h.symm
  have HNL : Hid True := z0j trivial
  clear hxl hx1 hm hj hi hl hcap
  go_enter Tryz.func231, Tryz.ntmps231
  go_wp2_with fail
  refine zk [] (zA.zero hp.drew) [] [(0, true), (1, true), (2, true), (3, true), (4, true), (5, true), (6, false), (7, false)] (by kernel_rfl) (by kernel_rfl) rfl (by kernel_rfl) (fun _ _ d _ _ h => by cases d <;> exact h) ?_
  replace hp := hp.drew
  repeat' (with_reducible refine zB ?_); first | (with_reducible refine zt ?_) | ((with_reducible refine zI ?_); refine zy rfl ?_; (first | ((with_reducible refine zV _ rfl ?_); refine tM rfl ?_) | refine tG (fun w _ => (by go_simp; try rfl)) ?_); try simp only [ze, zd, zn, zj, z0b, z0a, z0d, z0c, zr]) | (refine zF rfl (fun K hK => ?_); go_wp2_with (first | ((refine zM _ _ 43 rfl ?_); first | (refine zaH hp _ _ _ rfl wy Tryz.underlying43 i0 hi0 hz1 (by decide) (zb rfl) _ (n - j) _ (zb rfl) (xs.drop (j * 5)) HYL.out (by first | exact zD.part hp | exact HNL.out _ _) HY1.out HFI.out HLE.out ?_); clear hp; intro w1 hp; rw [HSPL.out] at hp; replace hp := hp.less; rw [HSUM.out]; simp only [ze, zd, z0b, z0a])); (refine hK.out _ _ (.inr (zA.zero hp)) ?_); clear hK K; try simp only [ze, zd, zn, zj, z0b, z0a, z0d, z0c, zr])
  go_wp2_with (first | ((refine zdM _ _ rfl ?_); refine zaY hp _ _ rfl wy Tryz.underlying43 _ zo7 _ _ (zb rfl) HNM.out _ zo5 rfl rfl HOFF.out HFC.out ?_; clear hp; intro v1 w1 hp; simp only [ze, zd, z0b, z0a]))
  go_ret
  exact ⟨rfl, by rw [← HER.out]; exact hp⟩
open Go.RowKit
section
variable {P : Program} {ops : Array Oper} {Q : Exit → Act → World → Prop} {S : World → Prop} {tl : List Nat}
def zk4 (ops : Array Oper) (i : Nat) : Bool := match ops[i]? with
 | some o => (match o.op with | .move _ => true | .extract _ _ => true | _ => false)
 | none => false
theorem YieldsIf.pureX {i : Nat} {o : Oper} {v : Value} {a : Act} (hi : ops[i]? = some o) (hm : zk4 ops i = true) (hs : ∃ w, S w) (hy : YieldsIf P ops S o v a) : YieldsIf P ops (fun _ => True) o v a := by
 rcases hy with ⟨hw, hr⟩ | h
 ·obtain ⟨w1, h1⟩ := hs
  have h2 := hr w1 h1
  unfold zk4 at hm
  rw [hi] at hm
  simp only at hm
  split at hm
  ·rename_i x hx
   have e : ∀ w, (execOp a.eval o).run P w = .ok (.value (a.eval x)) w := fun w => by unfold execOp; rw [hx]; rfl
   rw [e] at h2
   injection h2 with h2
   injection h2 with h2
   subst h2
   exact .inl ⟨hw, fun w _ => e w⟩
  ·rename_i x k hx
   have e : ∀ w, (execOp a.eval o).run P w = ((Instr.extract (a.eval x) k).run P w).andThen fun u w' => .ok (.value u) w' := fun w => by
    unfold execOp; rw [hx]; simp only [Sem.run_bind, Sem.run_pure]
   have f : ∀ u, (∃ w w', (Instr.extract u k).run P w = .ok v w') → ∀ w, (Instr.extract u k).run P w = .ok v w := fun u ⟨w2, w3, h⟩ w => by
    unfold Instr.extract at h ⊢
    split at h
    ·split at h
     ·simp only [Sem.run_pure] at h ⊢; injection h with h4; rw [h4]
     ·cases h
    ·cases h
   rw [e] at h2
   cases h5 : (Instr.extract (a.eval x) k).run P w1 with
   | ok u w2 =>
    rw [h5] at h2
    injection h2 with h6 h7
    injection h6 with h6
    subst h6
    have h8 := f _ ⟨w1, w2, h5⟩
    exact .inl ⟨hw, fun w _ => by rw [e, h8 w]; rfl⟩
   | halt _ _ => rw [h5] at h2; cases h2
  ·cases hm
 ·exact .inr h
def zdu (P : Program) (ops : Array Oper) (Q : Exit → Act → World → Prop) (S : World → Prop) (tl : List Nat) : Nat → Array Bool → Act → World → Prop
 | 0, listed, a, w => Region.ready .any ops listed = [] ∧ Q .normal a w
 | fuel + 1, listed, a, w =>
  (Region.ready .any ops listed = [] → Q .normal a w) ∧
  ∀ i ∈ Region.ready .any ops listed, wpOp P ops Q i (fun a' w' => (S w → tl.contains i = true ∨ S w') ∧ zdu P ops Q S tl fuel (listed.setIfInBounds i true) a' w') a w
theorem zfg : ∀ (fuel : Nat) (listed : Array Bool) (a : Act) (w : World), zdu P ops Q S tl fuel listed a w → wpAny P .any ops Q fuel listed a w
 | 0, _, _, _, h => h
 | fuel + 1, _, _, _, h => ⟨h.1, fun i hi => wpOp_mono (fun a' w' h' => zfg fuel _ a' w' h'.2) (h.2 i hi)⟩
theorem zhF {i : Nat} {oi : Oper} {v : Value} (hi : ops[i]? = some oi) (hsel : Region.noSelect ops = true)
  (hQ : ∀ c a w, Q (.panic c) (a.put oi.dst v) w → Q (.panic c) a w) (ht : ∀ j, tl.contains j = true → zbn ops ops.size j i = true) :
  ∀ (fuel : Nat) (listed : Array Bool) (a : Act) (w : World), zav ops listed →
   (∀ j oj, ops[j]? = some oj → j ≠ i → listed.getD j true = false → (∀ e ∈ oj.after, Region.binds .any e = true → e.on ≠ i) → oi.apart ops oj = true) →
   i ∈ Region.ready .any ops listed → YieldsIf P ops S oi v a → S w →
   zdu P ops Q S tl fuel (listed.setIfInBounds i true) (a.put oi.dst v) w → zdu P ops Q S tl (fuel + 1) listed a w := by
 intro fuel
 induction fuel with
 | zero =>
  intro listed a w _ _ hr hy hS H
  refine ⟨fun h => (by rw [h] at hr; cases hr), fun j hj => ?_⟩
  by_cases hji : j = i
  ·subst hji; exact hy.wpOp hi hS ⟨fun _ => .inr hS, H⟩
  ·have hm := ready_mono hj hji
   rw [H.1] at hm
   cases hm
 | succ fuel ih =>
  intro listed a w hc hfree hr hy hS H
  refine ⟨fun h => (by rw [h] at hr; cases hr), fun j hj => ?_⟩
  by_cases hji : j = i
  ·subst hji; exact hy.wpOp hi hS ⟨fun _ => .inr hS, H⟩
  ·obtain ⟨hjun, oj, hoj, hall⟩ := mem_ready.1 hj
   have hiun := (mem_ready.1 hr).1
   have hno : ¬ listed.getD i false = true := fun h1 => by
    rcases Nat.lt_or_ge i listed.size with h' | h'
    ·simp [h'] at h1 hiun; rw [hiun] at h1; cases h1
    ·simp [Array.getElem?_eq_none h'] at h1
   have htj : tl.contains j = false := by
    cases hcj : tl.contains j with
    | false => rfl
    | true => exact absurd (zbS hc _ j oj hoj hall (ht j hcj)) hno
   have h1 := H.2 j (ready_mono hj hji)
   have hnot : ∀ e ∈ oj.after, Region.binds .any e = true → e.on ≠ i := fun e he hb heq => hno (heq ▸ hall e he hb)
   have h2 := wpOp_putIf hoj (hfree j oj hoj hji hjun hnot) (fun cs b => Region.noSelect_spec hsel i oi cs b hi) (fun cs b => Region.noSelect_spec hsel j oj cs b hoj) hQ hy h1
   have hfree' : ∀ k ok, ops[k]? = some ok → k ≠ i → (listed.setIfInBounds j true).getD k true = false →
     (∀ e ∈ ok.after, Region.binds .any e = true → e.on ≠ i) → oi.apart ops ok = true := fun k ok hk hki hun hn => by
    refine hfree k ok hk hki ?_ hn
    by_cases hjk : j = k
    ·subst hjk; exact hjun
    ·rw [getD_set_ne true hjk] at hun; exact hun
   refine wpOp_mono (fun a' w' h3 => ?_) h2
   obtain ⟨hy', hor, h4⟩ := h3
   have hS' : S w' := by
    rcases hor hS with h | h
    ·rw [htj] at h; cases h
    ·exact h
   refine ⟨fun _ => .inr hS', ih (listed.setIfInBounds j true) a' w' (hc.set hj) hfree' (ready_mono hr (Ne.symm hji)) hy' hS' ?_⟩
   rw [Array.setIfInBounds_comm _ _ hji]
   exact h4
theorem zhE {i : Nat} {oi : Oper} {v : Value} (hi : ops[i]? = some oi) (hsel : Region.noSelect ops = true)
  (hQ : ∀ c a w, Q (.panic c) (a.put oi.dst v) w → Q (.panic c) a w) :
  ∀ (fuel : Nat) (listed : Array Bool) (a : Act) (w : World), zav ops listed →
   (∀ j oj, ops[j]? = some oj → j ≠ i → listed.getD j true = false → (∀ e ∈ oj.after, Region.binds .any e = true → e.on ≠ i) → oi.apart ops oj = true) →
   i ∈ Region.ready .any ops listed → YieldsIf P ops (fun _ => True) oi v a →
   zdu P ops Q S tl fuel (listed.setIfInBounds i true) (a.put oi.dst v) w → zdu P ops Q S tl (fuel + 1) listed a w := by
 intro fuel
 induction fuel with
 | zero =>
  intro listed a w _ _ hr hy H
  refine ⟨fun h => (by rw [h] at hr; cases hr), fun j hj => ?_⟩
  by_cases hji : j = i
  ·subst hji; exact hy.wpOp hi trivial ⟨fun h => .inr h, H⟩
  ·have hm := ready_mono hj hji
   rw [H.1] at hm
   cases hm
 | succ fuel ih =>
  intro listed a w hc hfree hr hy H
  refine ⟨fun h => (by rw [h] at hr; cases hr), fun j hj => ?_⟩
  by_cases hji : j = i
  ·subst hji; exact hy.wpOp hi trivial ⟨fun h => .inr h, H⟩
  ·obtain ⟨hjun, oj, hoj, hall⟩ := mem_ready.1 hj
   have hiun := (mem_ready.1 hr).1
   have hno : ¬ listed.getD i false = true := fun h1 => by
    rcases Nat.lt_or_ge i listed.size with h' | h'
    ·simp [h'] at h1 hiun; rw [hiun] at h1; cases h1
    ·simp [Array.getElem?_eq_none h'] at h1
   have h1 := H.2 j (ready_mono hj hji)
   have hnot : ∀ e ∈ oj.after, Region.binds .any e = true → e.on ≠ i := fun e he hb heq => hno (heq ▸ hall e he hb)
   have h2 := wpOp_putIf hoj (hfree j oj hoj hji hjun hnot) (fun cs b => Region.noSelect_spec hsel i oi cs b hi) (fun cs b => Region.noSelect_spec hsel j oj cs b hoj) hQ hy h1
   have hfree' : ∀ k ok, ops[k]? = some ok → k ≠ i → (listed.setIfInBounds j true).getD k true = false →
     (∀ e ∈ ok.after, Region.binds .any e = true → e.on ≠ i) → oi.apart ops ok = true := fun k ok hk hki hun hn => by
    refine hfree k ok hk hki ?_ hn
    by_cases hjk : j = k
    ·subst hjk; exact hjun
    ·rw [getD_set_ne true hjk] at hun; exact hun
   refine wpOp_mono (fun a' w' h3 => ?_) h2
   obtain ⟨hy', hor, h4⟩ := h3
   refine ⟨hor, ih (listed.setIfInBounds j true) a' w' (hc.set hj) hfree' (ready_mono hr (Ne.symm hji)) hy' ?_⟩
   rw [Array.setIfInBounds_comm _ _ hji]
   exact h4
def ze7 (ops : Array Oper) (tl : List Nat) : Bool → Array Bool → List (Nat × Bool) → Bool
 | _, listed, [] => (Region.ready .any ops listed).isEmpty
 | s, listed, (i, true) :: r => (zk4 ops i || (s && tl.all (fun j => zbn ops ops.size j i))) && (Region.ready .any ops listed).contains i && Region.free .any ops listed i && ze7 ops tl s (listed.setIfInBounds i true) r
 | s, listed, (i, false) :: r => decide (Region.ready .any ops listed = [i]) && ze7 ops tl (s && !tl.contains i) (listed.setIfInBounds i true) r
theorem zbF (hsat : ∃ w, S w) (hs : Region.noSelect ops = true) (hQ : ∀ c a d v w, Q (.panic c) (a.put d v) w → Q (.panic c) a w) : ∀ (plan : List (Nat × Bool)) (s : Bool) (fuel : Nat) (listed : Array Bool) (a : Act) (w : World), zav ops listed →
  plan.length ≤ fuel → ze7 ops tl s listed plan = true → (s = true → S w) → ZX P ops Q S tl plan a w → zdu P ops Q S tl fuel listed a w
 | [], s, fuel, listed, a, w, _, hf, hB, _, h => by
  have hB' : Region.ready .any ops listed = [] := by simpa [ze7] using hB
  cases fuel with
  | zero => exact ⟨hB', h⟩
  | succ f => exact ⟨fun _ => h, fun i hi => by rw [hB'] at hi; cases hi⟩
 | (i, true) :: rest, s, fuel, listed, a, w, hc, hf, hB, hS, h => by
  obtain ⟨f, rfl⟩ : ∃ f, fuel = f + 1 := ⟨fuel - 1, by simp at hf; omega⟩
  simp only [ze7, Bool.and_eq_true, Bool.or_eq_true] at hB
  obtain ⟨⟨⟨b1, b2⟩, b3⟩, b5⟩ := hB
  obtain ⟨o, v, ho, hy, hr⟩ := h
  have hr0 : i ∈ Region.ready .any ops listed := by simpa using b2
  have hrest := zbF hsat hs hQ rest s f _ _ w (hc.set hr0) (by simp at hf; omega) b5 hS hr
  rcases b1 with b1 | ⟨b1, b4⟩
  ·exact zhE ho hs (fun c a w h => hQ c a _ v w h) f listed a w hc (Region.free_spec ho b3) hr0 (YieldsIf.pureX ho b1 hsat hy) hrest
  ·have ht : ∀ j, tl.contains j = true → zbn ops ops.size j i = true := fun j hj => by
    have := List.all_eq_true.1 b4 j (by simpa using hj)
    exact this
   exact zhF ho hs (fun c a w h => hQ c a _ v w h) ht f listed a w hc (Region.free_spec ho b3) hr0 hy (hS b1) hrest
 | (i, false) :: rest, s, fuel, listed, a, w, hc, hf, hB, hS, h => by
  obtain ⟨f, rfl⟩ : ∃ f, fuel = f + 1 := ⟨fuel - 1, by simp at hf; omega⟩
  simp only [ze7, Bool.and_eq_true, decide_eq_true_eq] at hB
  obtain ⟨o, ho, hr⟩ := h
  have hr0 : i ∈ Region.ready .any ops listed := by rw [hB.1]; simp
  refine ⟨fun h0 => (by rw [h0] at hr0; cases hr0), fun j hj => ?_⟩
  rw [hB.1] at hj
  obtain rfl : j = i := by simpa using hj
  have h1 := zc4 hr
  have h2 : wpOp P ops Q j (fun a' w' => (tl.contains j = true ∨ S w') ∧ ZX P ops Q S tl rest a' w') a w := by
   unfold wpOp; simp only [ho]; exact h1
  refine wpOp_mono (fun a' w' h' => ⟨fun _ => h'.1, zbF hsat hs hQ rest _ f _ a' w' (hc.set hr0) (by simp at hf; omega) hB.2 ?_ h'.2⟩) h2
  intro hs1
  simp only [Bool.and_eq_true, Bool.not_eq_true'] at hs1
  rcases h'.1 with h3 | h3
  ·rw [hs1.2] at h3; cases h3
  ·exact h3
theorem zec {id : Nat} {a : Act} {w w0 : World} {B : Nat} {l : List Oper} (M : List Blk) (hS : zA B w0 M w.drew) (tl : List Nat) (plan : List (Nat × Bool)) (hm : P.follows .mixedOrders = true) (hs : Region.noSelect l.toArray = true)
  (hl : plan.length = l.length) (hB : ze7 l.toArray tl true (Array.replicate l.length false) plan = true) (hQ : ∀ c a d v w, Q (.panic c) (a.put d v) w → Q (.panic c) a w)
  (h : ZX P l.toArray Q (zA B w0 M) tl plan a w.drew) : (Code.region id l.toArray true).wp P Q a w :=
 wp_region_any hm (by
  have := zbF ⟨_, hS⟩ hs hQ plan true l.length (Array.replicate l.length false) a w.drew (zav.start _ _) (by omega) hB (fun _ => hS) h
  have := zfg _ _ _ _ this
  simpa using this)
end
end Go.Proofs.YtaafajaadfgaoaaGreat
