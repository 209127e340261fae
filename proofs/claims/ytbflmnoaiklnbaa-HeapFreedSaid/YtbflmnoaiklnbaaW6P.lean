/- What an object that is freed leaves, and what comes of objects of no word: the plain laws. No program in sight. -/
import Derived.Test.YtbflmnoaiklnbaaW1
import Derived.Test.YtbflmnoaiklnbaaFS
set_option linter.unusedSimpArgs false
set_option linter.unusedVariables false
namespace Go.Proofs.Ytbflmnoaiklnbaa
def opX (h : Int) : Opd := ⟨2, h, 0, 0, 0, 0, 0⟩
def opA (n c : Int) : Opd := ⟨1, 0, 0, n, c, 0, 0⟩
theorem giveF_o (od : Int) : ∀ (n : Nat) (l : List Bl) (b : Bl), b.o ≤ (giveF od n l b).2.o
  | 0, _, _ => Int.le_refl _
  | n + 1, l, b => by
    by_cases hc : b.o < od ∧ twinP b ∈ l
    · rw [giveF_go hc.1 hc.2]
      have := giveF_o od n (without l (twinP b)) (mergeB b)
      have h3 : (mergeB b).o = b.o + 1 := rfl
      omega
    · rw [giveF_no hc]; exact Int.le_refl _
theorem given_great (od : Int) (fs : List Bl) (b : Bl) : greatB (givenL od fs b) b.o = true := by
  unfold givenL greatB
  rw [List.any_eq_true]
  exact ⟨(giveF od (od - b.o).toNat fs b).2, (withL_perm _ _).mem_iff.2 (List.mem_cons_self ..), decide_eq_true (giveF_o od _ fs b)⟩
theorem cutI_ne {h t : Int} (h1 : 1 ≤ h) : cutI h t ≠ h := by unfold cutI; split <;> omega
theorem doC_free {x : Hv} {hh : Int} (h : (doC x (opX hh)).2.1 = 0) : ∃ (i : Nat) (g : Ob), placeO x.os hh = some i ∧ x.os[i]? = some g ∧ g.h = hh ∧ doC x (opX hh) = (freeH x i g, 0, 0) := by
  unfold doC opX atC at h ⊢
  simp only [Int.reduceEq, if_false, if_true, or_false, or_true, false_or, true_or] at h ⊢
  cases hp : placeO x.os hh with
  | none => rw [hp] at h; simp at h
  | some i =>
    rw [hp] at h
    simp only at h ⊢
    cases hg : x.os[i]? with
    | none => rw [hg] at h; simp at h
    | some g =>
      obtain ⟨q, a1, a2, _⟩ := place_some hp
      rw [hg] at a1; injection a1 with a1; subst a1
      exact ⟨i, g, rfl, hg, a2, rfl⟩
theorem doC_free_none {x : Hv} {hh : Int} (h : placeO x.os hh = none) : (doC x (opX hh)).2 = (51, 0) := by
  unfold doC opX atC
  simp only [Int.reduceEq, if_false, if_true, or_false, or_true, false_or, true_or]
  rw [h]
structure Freed (hh : Int) (y : Hv) : Prop where
  gone : ∀ o ∈ y.os, o.h ≠ hh ∧ ∀ t ∈ o.ls, t ≠ hh
  tops : y.t0 ≠ hh ∧ y.t1 ≠ hh ∧ y.t2 ≠ hh ∧ y.t3 ≠ hh
theorem Freed.sm {hh : Int} {x y : Hv} (h : Freed hh x) (k : y.Sm x) : Freed hh y := by
  refine ⟨fun o ho => ?_, ?_⟩
  · obtain ⟨i, hi, rfl⟩ := List.getElem_of_mem ho
    have ha := List.getElem?_eq_getElem (l := x.os) (i := i) (by have := k.os.1; omega)
    obtain ⟨h1, h2, h3, h4, h5⟩ := k.os.2 i _ _ (List.getElem?_eq_getElem hi) ha
    rw [h1, h5]
    exact h.gone _ (List.getElem_mem _)
  · obtain ⟨a1, a2, a3, a4, a5, a6, a7, a8⟩ := k
    have := h.tops
    rw [a3, a4, a5, a6]
    exact this
theorem freed_law {x : Hv} (hx : HRight x) {hh : Int} (h : (doC x (opX hh)).2.1 = 0) : ∃ (i : Nat) (g : Ob), placeO x.os hh = some i ∧ x.os[i]? = some g ∧ 1 ≤ hh ∧ Freed hh (doC x (opX hh)).1 ∧
    ((doC (doC x (opX hh)).1 (opA g.ws.length g.ls.length)).2.1 = 0 ∨ (doC (doC x (opX hh)).1 (opA g.ws.length g.ls.length)).2.1 = 2) ∧ (doC (doC x (opX hh)).1 (opX hh)).2 = (51, 0) := by
  obtain ⟨i, g, hp, hg, rfl, hd⟩ := doC_free h
  have h1 := (hx.rise i g hg).1
  have hgone : Freed g.h (freeH x i g) := by
    refine ⟨fun o ho => ?_, cutI_ne h1, cutI_ne h1, cutI_ne h1, cutI_ne h1⟩
    unfold freeH at ho
    simp only [List.mem_map] at ho
    obtain ⟨q, hq, rfl⟩ := ho
    refine ⟨?_, fun t ht => ?_⟩
    · obtain ⟨j, hj, hq⟩ := List.mem_eraseIdx_iff_getElem?.1 hq
      show q.h ≠ g.h
      rcases Nat.lt_or_gt_of_ne hj with h | h
      · have := (hx.rise i g hg).2.2 j q h hq; omega
      · have := (hx.rise j q hq).2.2 i g h hg; omega
    · unfold cutO at ht
      simp only [List.mem_map] at ht
      obtain ⟨t', _, rfl⟩ := ht
      exact cutI_ne h1
  refine ⟨i, g, hp, hg, h1, by rw [hd]; exact hgone, ?_, ?_⟩
  · rw [hd]
    obtain ⟨n1, n2⟩ := hx.need g (List.mem_of_getElem? hg)
    unfold doC opA allocC
    simp only [if_true]
    rw [n1]
    have h0 : 0 ≤ g.o := n2.1
    rw [if_neg (by omega)]
    split
    · exact .inr rfl
    · cases hb : bestB (freeH x i g).fs g.o with
      | none =>
        have h2 := bestB_none.1 hb
        have h3 := given_great x.od x.fs (obBl g)
        rw [show (freeH x i g).fs = givenL x.od x.fs (obBl g) from rfl] at h2
        rw [show (obBl g).o = g.o from rfl, h2] at h3
        cases h3
      | some b => exact .inl rfl
  · rw [hd]
    exact doC_free_none (place_none.2 fun o ho => (hgone.gone o ho).1)
theorem freed_P {x : Hv} {hh : Int} (h : (doP x (opX hh)).2.1 = 0) : ∃ (i : Nat) (g : Ob), placeO x.os hh = some i ∧ x.os[i]? = some g ∧ Freed hh (doP x (opX hh)).1 ∧
    ((doP (doP x (opX hh)).1 (opA g.ws.length g.ls.length)).2.1 = 0 ∨ (doP (doP x (opX hh)).1 (opA g.ws.length g.ls.length)).2.1 = 2) ∧ (doP (doP x (opX hh)).1 (opX hh)).2 = (51, 0) := by
  have hx := doP_fail h
  have hr := doC_right hx (opX hh)
  rw [doP_yes hx] at h
  obtain ⟨i, g, h1, h2, _, h3, h4, h5⟩ := freed_law hx h
  refine ⟨i, g, h1, h2, ?_⟩
  rw [doP_yes hx, doP_yes hr, doP_yes hr]
  exact ⟨h3, h4, h5⟩
def news : Int → List Int → List Ob
  | _, [] => []
  | n, p :: ps => mkOb n p 0 [] [] :: news (n + 1) ps
theorem news_snoc : ∀ (ps : List Int) (n p : Int), news n (ps ++ [p]) = news n ps ++ [mkOb (n + ps.length) p 0 [] []]
  | [], n, p => by simp [news]
  | q :: ps, n, p => by simp only [List.cons_append, news, news_snoc ps, List.length_cons]; congr 4; push_cast; omega
theorem news_len : ∀ (ps : List Int) (n : Int), (news n ps).length = ps.length
  | [], _ => rfl
  | _ :: ps, n => by simp [news, news_len ps]
theorem news_cut (h : Int) : ∀ (ps : List Int) (n : Int), (news n ps).map (cutO h) = news n ps
  | [], _ => rfl
  | _ :: ps, n => by simp only [news, List.map_cons, news_cut h ps]; rfl
def zB (p : Int) : Bl := ⟨p, 0⟩
def fillA (x : Hv) : Nat → Hv
  | 0 => x
  | j + 1 => (doC (fillA x j) (opA 0 0)).1
def fillB (x : Hv) (n : Nat) : Nat → Hv
  | 0 => fillA x n
  | j + 1 => (doC (fillB x n j) (opX (x.nx + j))).1
structure FillH (x y : Hv) (ps : List Int) (j : Nat) : Prop where
  len : ps.length = j
  eq : ∃ l, y = { x with os := x.os ++ news x.nx ps, fs := l, nx := x.nx + j } ∧ FillAt x.od x.fs (ps.map zB) l
theorem FillH.step {x y : Hv} (hx : HRight x) {ps : List Int} {j : Nat} (hn : x.nx + j ≤ 1000000) (h : FillH x y ps j) (hj : (j : Int) < sumB x.fs) : ∃ p, FillH x (doC y (opA 0 0)).1 (ps ++ [p]) (j + 1) ∧ (doC y (opA 0 0)).2 = (0, x.nx + j) := by
  obtain ⟨h3, h8, hcan⟩ := right_can hx.free
  obtain ⟨hl, l, rfl, hf⟩ := h
  have hs := hf.sum
  rw [List.length_map, hl] at hs
  have hne : l ≠ [] := fun e => by rw [e, sumB_nil] at hs; omega
  have hg := great_zero hf.can hne
  cases hb : bestB l 0 with
  | none => rw [bestB_none.1 hb] at hg; cases hg
  | some b =>
    have hm := (bestB_least hf.can.disj hb).mem
    have hd : doC { x with os := x.os ++ news x.nx ps, fs := l, nx := x.nx + j } (opA 0 0) = (bornH { x with os := x.os ++ news x.nx ps, fs := l, nx := x.nx + j } b 0 [] [], 0, x.nx + j) := by
      unfold doC opA allocC
      have e0 : needI 0 0 = 0 := by decide
      simp only [if_true, e0]
      rw [if_neg (by omega), if_neg (by omega), hb]
      rfl
    rw [hd]
    refine ⟨b.p, ⟨by simp [hl], takenL l b 0, ?_, ?_⟩, rfl⟩
    · unfold bornH
      simp only
      rw [news_snoc, hl, List.append_assoc]
      congr 1
      push_cast; omega
    · rw [List.map_append]; exact hf.step h8 hm
theorem sum_max {x : Hv} (hx : HRight x) : 0 ≤ sumB x.fs ∧ sumB x.fs ≤ 256 := by
  have h := hx.words
  unfold allBl at h
  rw [sumB_append] at h
  obtain ⟨h3, h8, hcan⟩ := right_can hx.free
  have := sumB_nonneg x.fs
  have := sumB_nonneg (x.os.map obBl)
  have := pw_le h8
  omega
theorem fillA_at {x : Hv} (hx : HRight x) (hn : x.nx ≤ 1000000 - 300) : ∀ j : Nat, (j : Int) ≤ sumB x.fs → ∃ ps, FillH x (fillA x j) ps j ∧ ((j : Int) < sumB x.fs → (doC (fillA x j) (opA 0 0)).2 = (0, x.nx + j))
  | 0, _ => by
    obtain ⟨h3, h8, hcan⟩ := right_can hx.free
    have h0 : FillH x (fillA x 0) [] 0 := ⟨rfl, x.fs, by simp [fillA, news], FillAt.start hcan⟩
    refine ⟨[], h0, fun hj => ?_⟩
    obtain ⟨p, _, h2⟩ := h0.step hx (by simp; omega) hj
    exact h2
  | j + 1, hj => by
    have := sum_max hx
    obtain ⟨ps, h1, h2⟩ := fillA_at hx hn j (by omega)
    obtain ⟨p, h3, _⟩ := h1.step hx (by omega) (by omega)
    refine ⟨ps ++ [p], h3, fun hj2 => ?_⟩
    obtain ⟨q, _, h5⟩ := FillH.step (y := fillA x (j + 1)) hx (by omega) h3 hj2
    exact h5
theorem fillA_right {x : Hv} (hx : HRight x) : ∀ j, HRight (fillA x j)
  | 0 => hx
  | j + 1 => doC_right (fillA_right hx j) _
theorem fillB_right {x : Hv} (hx : HRight x) (n : Nat) : ∀ j, HRight (fillB x n j)
  | 0 => fillA_right hx n
  | j + 1 => doC_right (fillB_right hx n j) _
theorem fill_full {x : Hv} (hx : HRight x) (hn : x.nx ≤ 1000000 - 300) {n : Nat} (h : (n : Int) = sumB x.fs) : (doC (fillA x n) (opA 0 0)).2 = (50, 0) ∧ (fillA x n).fs = [] := by
  obtain ⟨ps, ⟨hl, l, he, hf⟩, _⟩ := fillA_at hx hn n (by omega)
  have hs := hf.sum
  rw [List.length_map, hl] at hs
  have hnil : l = [] := by
    cases hq : l with
    | nil => rfl
    | cons b r => have := sum_pos (l := l) (by rw [hq]; simp); omega
  subst hnil
  have := sum_max hx
  rw [he]
  refine ⟨?_, rfl⟩
  unfold doC opA allocC
  have e0 : needI 0 0 = 0 := by decide
  simp only [if_true, e0]
  rw [if_neg (by omega), if_neg (by omega)]
  rfl
theorem place_skip : ∀ (l k : List Ob) (h : Int), (∀ o ∈ l, o.h ≠ h) → placeO (l ++ k) h = (placeO k h).map (· + l.length)
  | [], k, h, _ => by simp
  | o :: l, k, h, hn => by
    have h1 := hn o (by simp)
    simp only [List.cons_append, placeO]
    rw [if_neg h1, place_skip l k h (fun q hq => hn q (by simp [hq]))]
    cases placeO k h with
    | none => rfl
    | some i => simp [Nat.add_assoc]
theorem cut_none {x : Hv} (hx : HRight x) {h : Int} (h1 : x.nx ≤ h) : x.os.map (cutO h) = x.os ∧ ∀ t, leadsP x.os t → cutI h t = t := by
  have hlo := hx.lo
  have hc : ∀ t, leadsP x.os t → cutI h t = t := fun t ht => by
    unfold cutI
    rw [if_neg]
    rintro rfl
    rcases ht with ht | ⟨o, ho, he⟩
    · omega
    · obtain ⟨i, hi, rfl⟩ := List.getElem_of_mem ho
      have := (hx.rise i _ (List.getElem?_eq_getElem hi)).2.1
      omega
  refine ⟨?_, hc⟩
  conv => rhs; rw [← List.map_id x.os]
  apply List.map_congr_left
  intro o ho
  unfold cutO
  have : o.ls.map (cutI h) = o.ls := by
    conv => rhs; rw [← List.map_id o.ls]
    exact List.map_congr_left fun t ht => hc t (hx.links o ho t ht)
  rw [this]; rfl
structure BackH (x y : Hv) (ps : List Int) (n j : Nat) : Prop where
  eq : ∃ l, y = { x with os := x.os ++ news (x.nx + j) (ps.drop j), fs := l, nx := x.nx + n } ∧ BackAt x.od (ps.map zB) id j l
theorem BackH.step {x y : Hv} (hx : HRight x) {ps : List Int} {n j : Nat} (hl : ps.length = n) (hf : FillAt x.od x.fs (ps.map zB) []) (h : BackH x y ps n j) (hj : j < n) : BackH x (doC y (opX (x.nx + j))).1 ps n (j + 1) ∧ (doC y (opX (x.nx + j))).2 = (0, 0) := by
  obtain ⟨h3, h8, hcan⟩ := right_can hx.free
  obtain ⟨l, rfl, hb⟩ := h
  obtain ⟨p, hp⟩ : ∃ p, ps[j]? = some p := ⟨_, List.getElem?_eq_getElem (by omega)⟩
  have hdrop : ps.drop j = p :: ps.drop (j + 1) := by
    obtain ⟨hlt, rfl⟩ := List.getElem?_eq_some_iff.1 hp
    exact List.drop_eq_getElem_cons hlt
  have hgb : gB (ps.map zB) (id j) = zB p := gB_some (by rw [List.getElem?_map, id, hp]; rfl)
  obtain ⟨hm, hmt, _⟩ := hb.ok (n := n) (by simp [hl]) hf.zero hf.nodup hj (fun i hi => hi) (fun i k _ _ h => h)
  rw [hgb] at hm hmt
  have hst := hb.step h8 hm hmt hgb
  have hne : ∀ o ∈ x.os, o.h ≠ x.nx + j := fun o ho => by
    obtain ⟨i, hi, rfl⟩ := List.getElem_of_mem ho
    have := (hx.rise i _ (List.getElem?_eq_getElem hi)).2.1
    omega
  have hd : doC { x with os := x.os ++ news (x.nx + j) (ps.drop j), fs := l, nx := x.nx + n } (opX (x.nx + j)) = (freeH { x with os := x.os ++ news (x.nx + j) (ps.drop j), fs := l, nx := x.nx + n } x.os.length (mkOb (x.nx + j) p 0 [] []), 0, 0) := by
    unfold doC opX atC
    simp only [Int.reduceEq, if_false, if_true, or_false, or_true, false_or, true_or]
    rw [hdrop]
    simp only [news]
    have hpl : placeO (x.os ++ mkOb (x.nx + j) p 0 [] [] :: news (x.nx + j + 1) (ps.drop (j + 1))) (x.nx + j) = some x.os.length := by
      rw [place_skip _ _ _ hne]
      simp [placeO, mkOb]
    rw [hpl]
    simp
  rw [hd]
  refine ⟨⟨givenL x.od l ⟨p, 0⟩, ?_, hst⟩, rfl⟩
  obtain ⟨c1, c2⟩ := cut_none hx (h := x.nx + j) (by omega)
  have ht := hx.tops
  unfold tops at ht
  simp only [List.mem_cons, List.not_mem_nil, or_false, forall_eq_or_imp, forall_eq] at ht
  unfold freeH
  simp only [mkOb, obBl]
  rw [hdrop]
  simp only [news]
  have he : (x.os ++ mkOb (x.nx + j) p 0 [] [] :: news (x.nx + j + 1) (ps.drop (j + 1))).eraseIdx x.os.length = x.os ++ news (x.nx + j + 1) (ps.drop (j + 1)) := by
    rw [List.eraseIdx_append_of_length_le (Nat.le_refl _)]; simp
  rw [he, List.map_append, c1, news_cut, c2 _ ht.1, c2 _ ht.2.1, c2 _ ht.2.2.1, c2 _ ht.2.2.2]
  congr 3
  push_cast; omega
theorem fillB_at {x : Hv} (hx : HRight x) (hn : x.nx ≤ 1000000 - 300) {n : Nat} (h : (n : Int) = sumB x.fs) : ∃ ps, ps.length = n ∧ FillAt x.od x.fs (ps.map zB) [] ∧ ∀ j, j ≤ n → BackH x (fillB x n j) ps n j := by
  obtain ⟨ps, ⟨hl, l, he, hf⟩, _⟩ := fillA_at hx hn n (by omega)
  have hs := hf.sum
  rw [List.length_map, hl] at hs
  have hnil : l = [] := by
    cases hq : l with
    | nil => rfl
    | cons b r => have := sum_pos (l := l) (by rw [hq]; simp); omega
  subst hnil
  refine ⟨ps, hl, hf, fun j => ?_⟩
  induction j with
  | zero => intro _; exact ⟨[], by simp [fillB, he], BackAt.start _ _ _⟩
  | succ j ih => intro hj; exact ((ih (by omega)).step hx hl hf (by omega)).1
theorem fillB_one {x : Hv} (hx : HRight x) (hn : x.nx ≤ 1000000 - 300) {n : Nat} (h : (n : Int) = sumB x.fs) {j : Nat} (hj : j < n) : (doC (fillB x n j) (opX (x.nx + j))).2 = (0, 0) := by
  obtain ⟨ps, hl, hf, hb⟩ := fillB_at hx hn h
  exact ((hb j (by omega)).step hx hl hf hj).2
theorem fill_back {x : Hv} (hx : HRight x) (hn : x.nx ≤ 1000000 - 300) {n : Nat} (h : (n : Int) = sumB x.fs) : { fillB x n n with nx := x.nx } = x := by
  obtain ⟨ps, hl, hf, hb⟩ := fillB_at hx hn h
  obtain ⟨h3, h8, hcan⟩ := right_can hx.free
  obtain ⟨l, he, hbk⟩ := hb n (Nat.le_refl _)
  have : l = x.fs := fills_eq h8 hcan hf hbk (by simp [hl]) (fun i hi => hi) (fun k hk => ⟨k, hk, rfl⟩)
  subst this
  rw [he, ← hl, List.drop_length]
  simp [news]
end Go.Proofs.Ytbflmnoaiklnbaa
