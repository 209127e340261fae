/- Parts of the proof. -/
import Derived.Test.YtcjbepaclbhjaaaGreatKe1
import Derived.Test.YtcjbepaclbhjaaaGreatKe29
import Derived.Test.YtcjbepaclbhjaaaGreatKe2
open List renaming set_cons_zero → zSet, set_cons_succ → sSet
/- The walk of the document's Right of heaps. -/
set_option linter.unusedSimpArgs false
set_option linter.unusedVariables false
namespace Go.Proofs.YtcjbepaclbhjaaaGreat
open Go.RowKit
theorem ref1_ways (x : Hv) (hnx : x.nx ≤ 9223372036854775807) :
    (rightB x.od x.fs = false ∧ hrightB x = false) ∨ (rightB x.od x.fs = true ∧ decide (x.nx < 1) = true ∧ hrightB x = false) ∨
    (rightB x.od x.fs = true ∧ decide (x.nx < 1) = false ∧ wrap64 (x.nx - 1) = x.nx - 1 ∧ decide (1000000 < x.nx - 1) = true ∧ hrightB x = false) ∨
    (rightB x.od x.fs = true ∧ decide (x.nx < 1) = false ∧ wrap64 (x.nx - 1) = x.nx - 1 ∧ decide (1000000 < x.nx - 1) = false ∧ decide ((256 : Int) < (x.os.length : Int)) = true ∧ hrightB x = false) ∨
    (rightB x.od x.fs = true ∧ decide (x.nx < 1) = false ∧ wrap64 (x.nx - 1) = x.nx - 1 ∧ decide (1000000 < x.nx - 1) = false ∧ decide ((256 : Int) < (x.os.length : Int)) = false ∧ 1 ≤ x.nx ∧ x.nx ≤ 1000001 ∧ x.os.length ≤ 256) := by
  cases h1 : rightB x.od x.fs with
  | false => left; exact ⟨rfl, hright_no fun h => by rw [h.free] at h1; cases h1⟩
  | true =>
    right
    by_cases h2 : x.nx < 1
    · left; exact ⟨rfl, decide_eq_true h2, hright_no fun h => by have := h.lo; omega⟩
    · right
      have hw : wrap64 (x.nx - 1) = x.nx - 1 := IntWalk.wrap64_in _ ⟨by omega, by omega⟩
      by_cases h3 : 1000000 < x.nx - 1
      · left; exact ⟨rfl, decide_eq_false h2, hw, decide_eq_true h3, hright_no fun h => by have := h.hi; omega⟩
      · right
        by_cases h4 : (256 : Int) < (x.os.length : Int)
        · left; exact ⟨rfl, decide_eq_false h2, hw, decide_eq_false h3, decide_eq_true h4, hright_no fun h => by have := h.len; omega⟩
        · right; exact ⟨rfl, decide_eq_false h2, hw, decide_eq_false h3, decide_eq_false h4, by omega, by omega, by omega⟩
theorem RiseTo.nonneg {nx : Int} {os : List Ob} {j : Nat} {la : Int} {x : Ob} (h : RiseTo nx os j la) (hx : os[j]? = some x) : 0 ≤ la := by
  rcases Nat.eq_zero_or_pos j with h0 | h0
  · have := h.1 h0; omega
  · obtain ⟨o, ho, he⟩ := h.2.1 h0
    have := h.2.2 (j - 1) o (by omega) ho; omega
theorem ref7_ways {nx : Int} {os : List Ob} (hol : os.length ≤ 1000) {j : Nat} {la : Int} {x : Ob} (h : RiseTo nx os j la) (hx : os[j]? = some x) {r : Bool} (hr : ¬ HRise nx os → r = false) :
    (decide (x.h < 1) = true ∧ r = false) ∨ (decide (x.h < 1) = false ∧ decide (nx ≤ x.h) = true ∧ r = false) ∨
    (decide (x.h < 1) = false ∧ decide (nx ≤ x.h) = false ∧ decide (0 < j) = false ∧ RiseTo nx os (j + 1) x.h) ∨
    (∃ (k : Nat) (y : Ob), decide (x.h < 1) = false ∧ decide (nx ≤ x.h) = false ∧ decide (0 < j) = true ∧ wrap64 ((j : Int) - 1) = (k : Int) ∧ (0 : Int) ≤ (k : Int) ∧ (k : Int) < (os.length : Int) ∧ os[k]? = some y ∧ decide (x.h ≤ y.h) = true ∧ r = false) ∨
    (∃ (k : Nat) (y : Ob), decide (x.h < 1) = false ∧ decide (nx ≤ x.h) = false ∧ decide (0 < j) = true ∧ wrap64 ((j : Int) - 1) = (k : Int) ∧ (0 : Int) ≤ (k : Int) ∧ (k : Int) < (os.length : Int) ∧ os[k]? = some y ∧ decide (x.h ≤ y.h) = false ∧ RiseTo nx os (j + 1) x.h) := by
  have hla := h.nonneg hx
  by_cases h1 : x.h < 1
  · left; exact ⟨decide_eq_true h1, hr fun h' => h.fail hx (.inl (by omega)) h'⟩
  · right
    by_cases h2 : nx ≤ x.h
    · left; exact ⟨decide_eq_false h1, decide_eq_true h2, hr fun h' => h.fail hx (.inr h2) h'⟩
    · right
      rcases Nat.eq_zero_or_pos j with h0 | h0
      · left
        refine ⟨decide_eq_false h1, decide_eq_false h2, by simp; omega, h.step hx ?_ h2⟩
        have := h.1 h0; omega
      · right
        obtain ⟨y, hy, he⟩ := h.2.1 h0
        have hjl := (List.getElem?_eq_some_iff.1 hx).1
        by_cases h3 : x.h ≤ y.h
        · left
          exact ⟨j - 1, y, decide_eq_false h1, decide_eq_false h2, by simp; omega, by rw [IntWalk.wrap64_in _ ⟨by omega, by omega⟩]; omega, by omega, by omega, hy, decide_eq_true h3, hr fun h' => h.fail hx (.inl (by omega)) h'⟩
        · right
          exact ⟨j - 1, y, decide_eq_false h1, decide_eq_false h2, by simp; omega, by rw [IntWalk.wrap64_in _ ⟨by omega, by omega⟩]; omega, by omega, by omega, hy, decide_eq_false h3, h.step hx (by omega) h2⟩
theorem ref9_ways {od : Int} {os : List Ob} {j : Nat} {x : Ob} (hx : os[j]? = some x) (hn : HNeed od (os.take j)) {r : Bool} (hr : ¬ HNeed od os → r = false) :
    (∃ nn : Int, needI x.ws.length x.ls.length = nn ∧ (nn == x.o) = false ∧ (nn != x.o) = true ∧ r = false) ∨
    (needI x.ws.length x.ls.length = x.o ∧ mayB od x.p x.o = false ∧ r = false) ∨
    (needI x.ws.length x.ls.length = x.o ∧ mayB od x.p x.o = true ∧ HNeed od (os.take (j + 1))) := by
  have hm : x ∈ os := List.mem_of_getElem? hx
  by_cases h1 : needI x.ws.length x.ls.length = x.o
  · right
    cases h2 : mayB od x.p x.o with
    | false => left; exact ⟨h1, rfl, hr fun h => by have := (h x hm).2; simp [mayB] at h2; exact h2 this⟩
    | true =>
      right
      refine ⟨h1, rfl, fun o ho => ?_⟩
      rw [List.take_add_one, hx] at ho
      rcases List.mem_append.1 ho with ho | ho
      · exact hn o ho
      · simp at ho
        subst ho
        exact ⟨h1, mayB_may h2⟩
  · left
    exact ⟨_, rfl, by simp [h1], by simp [h1], hr fun h => h1 (h x hm).1⟩
def LinksTo (os : List Ob) (j : Nat) : Prop := ∀ (i : Nat) o, i < j → os[i]? = some o → ∀ t ∈ o.ls, leadsP os t
theorem LinksTo.step {os : List Ob} {j : Nat} {x : Ob} (h : LinksTo os j) (hx : os[j]? = some x) (hl : ∀ t ∈ x.ls, leadsP os t) : LinksTo os (j + 1) := by
  intro i o hi ho t ht
  by_cases hij : i = j
  · subst hij; rw [hx] at ho; injection ho with ho; subst ho; exact hl t ht
  · exact h i o (by omega) ho t ht
theorem LinksTo.done {os : List Ob} (h : LinksTo os os.length) : HLinks os := fun o ho t ht => by
  obtain ⟨i, hi, rfl⟩ := List.getElem_of_mem ho
  exact h i _ hi (List.getElem?_eq_getElem hi) t ht
def ApartTo (l : List Bl) (j : Nat) : Prop := ∀ (i k : Nat) a b, k < i → i < j → l[i]? = some a → l[k]? = some b → ¬ MeetP a b
theorem ApartTo.done {l : List Bl} (h : ApartTo l l.length) : Apart l := by
  unfold Apart
  rw [List.pairwise_iff_getElem]
  intro i j hi hj hij hm
  exact h j i _ _ hij hj (List.getElem?_eq_getElem hj) (List.getElem?_eq_getElem hi) hm.symm
theorem Apart.get {l : List Bl} (h : Apart l) {i k : Nat} {a b : Bl} (hki : k < i) (ha : l[i]? = some a) (hb : l[k]? = some b) : ¬ MeetP a b := by
  unfold Apart at h
  rw [List.pairwise_iff_getElem] at h
  obtain ⟨hi, rfl⟩ := List.getElem?_eq_some_iff.1 ha
  obtain ⟨hk, rfl⟩ := List.getElem?_eq_some_iff.1 hb
  exact fun hm => h k i hk hi hki hm.symm
theorem RowIs.tops {w : World} {b : Nat} {v0 v1 v2 v7 : Value} {t0 t1 t2 t3 : Int} (h : ∀ j v, [v0, v1, v2, .int .i64 t0, .int .i64 t1, .int .i64 t2, .int .i64 t3, v7][j]? = some v → w.cell? ⟨b, 0 + j, none⟩ = some v) :
    ∀ (j : Nat) t, [t0, t1, t2, t3][j]? = some t → w.cell? ⟨b, 3 + j, none⟩ = some (.int .i64 t) := fun j t hj => by
  have h4 : j < 4 := (List.getElem?_eq_some_iff.1 hj).1
  have hc : j = 0 ∨ j = 1 ∨ j = 2 ∨ j = 3 := by omega
  rcases hc with rfl | rfl | rfl | rfl <;> simp at hj <;> subst hj
  · exact h 3 _ rfl
  · exact h 4 _ rfl
  · exact h 5 _ rfl
  · exact h 6 _ rfl
theorem meetB_iff {p o q r : Int} : meetB p o q r = true ↔ MeetP ⟨p, o⟩ ⟨q, r⟩ := by simp [meetB, MeetP]
set_option maxRecDepth 100000 in
set_option maxHeartbeats 16000000 in
theorem right115 (x : Hv) (hs : x.Small) (hnx : x.nx ≤ 9223372036854775807) (w : World) (hx0 : x.Is w) : Calls Tryz.prog 115 #[.agg (hvL x).toArray] w fun e w' => e = .returned (.bool (hrightB x)) ∧ Below w.heap.size w w' := by
  obtain ⟨od, oa, os, oc, nx, t0, t1, t2, t3, fa, fs, fc⟩ := x
  have W9 := Lib.hid (ref1_ways ⟨od, oa, os, oc, nx, t0, t1, t2, t3, fa, fs, fc⟩ hnx)
  obtain ⟨⟨hol, hosm⟩, hfl⟩ := hs
  obtain ⟨ho, hoo, hf⟩ := hx0
  simp only at hol hosm hfl ho hoo hf W9
  simp only [hvL]
  have HNO := Lib.hid (hright_no (x := ⟨od, oa, os, oc, nx, t0, t1, t2, t3, fa, fs, fc⟩))
  have HYES := Lib.hid (hright_yes (x := ⟨od, oa, os, oc, nx, t0, t1, t2, t3, fa, fs, fc⟩))
  generalize hrightB ⟨od, oa, os, oc, nx, t0, t1, t2, t3, fa, fs, fc⟩ = r at W9 HNO HYES ⊢
  have hp := Hp.start w
  have HO := Lib.hid ho
  have HOO := Lib.hid hoo
  have HOS := Lib.hid hosm
  have HF := Lib.hid hf
  clear ho hoo hosm hf hnx
  have hol' : os.length ≤ 1000 := by omega
  have hfl' : fs.length ≤ 2000 := by omega
  rcases W9.out with ⟨d1, r0⟩ | ⟨d1, d2, r0⟩ | ⟨d1, d2, d3, d4, r0⟩ | ⟨d1, d2, d3, d4, d5, r0⟩ | ⟨d1, d2, d3, d4, d5, r2, r3, r4⟩
  all_goals clear W9
  all_goals
    go_enter Tryz.func115, Tryz.ntmps115
    go_wp2_with (first | (go_at_call 144; (with_reducible refine (right144 od fs fa fc hfl _ (HF.out.below hp.below)).mono ?_); rintro e w1 ⟨rfl, hb⟩; rw [d1]; replace hp := hp.call hb; clear hb) | go_skip | (first | (refine hA1 ?_; clear hp; intro b w1 hp) | refine hL0 ?_ | (refine hS0 ?_; clear hp; intro w1 hp)))
  all_goals first
    | (subst r0; clear HNO HYES; go_wp2_with fail; go_ret; exact ⟨rfl, hp.below⟩)
    | skip
  obtain ⟨g3, h8, hgood⟩ := rightB_good d1
  have HR1 := Lib.hid d1
  have HGD := Lib.hid hgood
  have HN1 := Lib.hid r2
  have HN2 := Lib.hid r3
  clear d1 d2 d3 d4 d5 r2 r3 hgood
  go_wp2_with (first | go_skip | (first | (refine hA1 ?_; clear hp; intro b w1 hp) | refine hL0 ?_ | (refine hS0 ?_; clear hp; intro w1 hp)))
  obtain ⟨b1, rfl⟩ := hp.id0
  go_loopg [3] os.length (fun k i wr => ∃ (j : Nat) (la : Int), k + j = os.length ∧ i = .int .i64 j ∧ RowKit.Hid (RiseTo nx os j la) ∧ RowKit.Hid (HNeed od (os.take j)) ∧ RowKit.Hid (LinksTo os j) ∧ Hp w.heap.size w wr [⟨b1, [.int .i64 od, .slice oa os.length oc, .int .i64 nx, .int .i64 t0, .int .i64 t1, .int .i64 t2, .int .i64 t3, .slice fa fs.length fc], 83, 8⟩])
  case atStart => exact ⟨0, 0, by omega, rfl, Lib.hid (RiseTo.start nx os), Lib.hid (by intro o ho; simp at ho), Lib.hid (fun i o h => by omega), hp⟩
  case round =>
    clear hp
    obtain ⟨j, la, hkj, rfl, HRT, HND, HLT, hp⟩ := hrel
    by_cases hlt : j < os.length
    · obtain ⟨bq, off, rfl, hx⟩ := HO.out.elems 5 obV_len (by omega) (by omega)
      have HE := Lib.hid hx
      have hj := List.getElem?_eq_getElem hlt
      replace hx := hx j _ hj
      have hmem := List.getElem_mem hlt
      obtain ⟨_, hw2⟩ := HOO.out _ hmem
      obtain ⟨hw3, hw4⟩ := HOS.out _ hmem
      have HJ := Lib.hid hj
      clear hj hmem
      generalize os[j] = x at hx hw2 hw3 hw4 HJ
      have W7 := Lib.hid (ref7_ways hol' HRT.out HJ.out (r := r) (fun h => HNO.out fun h' => h h'.rise))
      have W8 := Lib.hid (ref9_ways HJ.out HND.out (r := r) (fun h => HNO.out fun h' => h h'.need))
      obtain ⟨xh, xp, xo, wa, ws, wc, ya, ls, yc⟩ := x
      simp only [obV] at hx hw2 hw3 hw4 W7 W8
      have HX := Lib.hid hx
      have HLK := Lib.hid hw2
      clear hx hw2 HRT HND
      have e1 : (0 : Int) ≤ (j : Int) := by omega
      have e2 : (j : Int) < (os.length : Int) := by omega
      go_wp2_with (first | go_skip | (first | (refine hA1 ?_; clear hp; intro b w1 hp) | refine hL11 ?_ | (refine hS0 ?_; clear hp; intro w1 hp)))
      refine wp_region_keeps _ (Keeps.all hp.drew) [] [(0, true), (1, true), (2, true), (3, true), (4, true), (5, true), (6, true), (7, true), (8, true), (9, true), (10, true), (11, true), (12, true), (13, true), (14, true), (15, true), (16, true), (17, true), (18, true), (19, true), (20, true), (21, true), (22, true), (23, true), (24, true), (25, true)] (by kernel_rfl) (by kernel_rfl) rfl (by kernel_rfl) (fun _ _ d _ _ h => by cases d <;> exact h) ?_
      replace hp := hp.drew
      rcases W7.out with ⟨d1, r0⟩ | ⟨d1, d2, r0⟩ | ⟨d1, d2, d3, g⟩ | ⟨kk, ⟨yh, yp, yo, qa, qs, qc, ra, rs, rc⟩, d1, d2, d3, ew, e5, e6, hk, d4, r0⟩ | ⟨kk, ⟨yh, yp, yo, qa, qs, qc, ra, rs, rc⟩, d1, d2, d3, ew, e5, e6, hk, d4, g⟩
      all_goals clear W7
      all_goals try have hkr := HE.out _ _ hk
      all_goals try simp only [obV] at hkr
      all_goals try have HK := Lib.hid hkr
      all_goals try clear hkr hk
      all_goals try simp only at d4
      all_goals
        repeat' (with_reducible refine plan_is ?_); first | (with_reducible refine plan_nil ?_) | refine tk11 ?_
      all_goals first
        | (subst r0; clear HNO HYES; go_wp2_with fail; go_ret; exact ⟨rfl, hp.below⟩)
        | skip
      all_goals have HG := Lib.hid g
      all_goals clear g d1 d2 d3
      all_goals try clear d4 ew e5 e6 HK
      all_goals go_wp2_with fail
      all_goals
        skip
        refine wp_region_keeps _ (Keeps.all hp.drew) [] [(0, true), (1, true), (2, true), (3, true), (4, true), (5, true), (7, true), (8, true), (9, true), (6, false), (10, true), (11, true), (12, true), (13, true), (14, true), (15, true), (16, false), (17, true), (18, true)] (by kernel_rfl) (by kernel_rfl) rfl (by kernel_rfl) (fun _ _ d _ _ h => by cases d <;> exact h) ?_
        replace hp := hp.drew
        rcases W8.out with ⟨nn, d1, d5, d6, r0⟩ | ⟨d1, d2, r0⟩ | ⟨d1, d2, g⟩
        all_goals clear W8
        all_goals
          repeat' (with_reducible refine plan_is ?_); first | (with_reducible refine plan_nil ?_) | refine tk2 ?_ | (refine plan_do rfl (fun K hK => ?_); go_wp2_with (first | (go_at_call 141; (with_reducible refine (need141 _ _ _).mono ?_); rintro e w' ⟨rfl, rfl⟩; rw [d1]) | (go_at_call 145; (with_reducible refine (may145 _ h8 _ _ _).mono ?_); rintro e w1 ⟨rfl, hb⟩; rw [d2]; replace hp := hp.call hb; clear hb) | go_skip); (refine hK.out _ _ (.inr (kall hp)) ?_); clear hK K; try simp only [put_some, put_none, eval_tmp, eval_const, sSet, zSet, List.getD_cons_succ, List.getD_cons_zero, wrap_eq])
      all_goals first
        | (subst r0; clear HNO HYES; go_wp2_with fail; go_ret; exact ⟨rfl, hp.below⟩)
        | skip
      all_goals have HND := Lib.hid g
      all_goals clear g d1 d2
      all_goals go_wp2_with (first | go_skip | (first | (refine hA1 ?_; clear hp; intro b w1 hp) | refine hL0 ?_ | (refine hS0 ?_; clear hp; intro w1 hp)))
      all_goals obtain ⟨b2, rfl⟩ := hp.id0
      all_goals
        go_loopg [5] ls.length (fun k i wr => ∃ m : Nat, k + m = ls.length ∧ i = .int .i64 m ∧ RowKit.Hid (∀ (i : Nat) y, i < m → ls[i]? = some y → leadsP os y) ∧ Hp w.heap.size w wr [⟨b2, [.int .i64 xh, .int .i64 xp, .int .i64 xo, .slice wa ws.length wc, .slice ya ls.length yc], 152, 5⟩, ⟨b1, [.int .i64 od, .slice (some ⟨bq, off, none⟩) os.length oc, .int .i64 nx, .int .i64 t0, .int .i64 t1, .int .i64 t2, .int .i64 t3, .slice fa fs.length fc], 83, 8⟩])
        case atStart => exact ⟨0, by omega, rfl, Lib.hid (fun i y h => by omega), hp⟩
        case round =>
          clear hp
          obtain ⟨m, hkm, rfl, HY, hp⟩ := hrel
          by_cases hlm : m < ls.length
          · obtain ⟨bl, lof, rfl, hl⟩ := HLK.out.elems 1 iV_len (by omega) (by omega)
            have hm := List.getElem?_eq_getElem hlm
            replace hl := hl m _ hm
            have HM := Lib.hid hm
            clear hm
            generalize ls[m] = t at hl HM
            simp only [iV, Nat.mul_one] at hl
            have HT := Lib.hid hl
            clear hl
            have e3 : (0 : Int) ≤ (m : Int) := by omega
            have e4 : (m : Int) < (ls.length : Int) := by omega
            go_wp2_with (first | go_skip | (first | (refine hA1 ?_; clear hp; intro b w1 hp) | refine hL0 ?_ | (refine hS0 ?_; clear hp; intro w1 hp)))
            by_cases hle : leadsP os t
            · have HXC : RowKit.Hid (leadsB os t = true) := Lib.hid (leadsB_iff.2 hle)
              have HLE := Lib.hid hle
              clear hle
              refine wp_region_keeps _ (Keeps.all hp.drew) [] [(0, true), (1, true), (2, true), (3, true), (4, true), (5, true), (6, false), (7, true)] (by kernel_rfl) (by kernel_rfl) rfl (by kernel_rfl) (fun _ _ d _ _ h => by cases d <;> exact h) ?_
              replace hp := hp.drew
              repeat' (with_reducible refine plan_is ?_); first | (with_reducible refine plan_nil ?_) | refine tk12 ?_ | (refine plan_do rfl (fun K hK => ?_); go_wp2_with (first | (go_at_call 146; (with_reducible refine (leads146 od _ os oc nx t0 t1 t2 t3 fa fs.length fc hol' _ _ (HO.out.below hp.below)).mono ?_); rintro e w1 ⟨rfl, hb⟩; rw [HXC.out]; replace hp := hp.call hb; clear hb) | go_skip); (refine hK.out _ _ (.inr (kall hp)) ?_); clear hK K; try simp only [put_some, put_none, eval_tmp, eval_const, sSet, zSet, List.getD_cons_succ, List.getD_cons_zero, wrap_eq])
              go_wp2_with fail
              go_roundg (gk - 1)
              case measure => omega
              case rel =>
                refine ⟨m + 1, by omega, by go_num, Lib.hid (fun i y hi hy => ?_), hp⟩
                rcases Nat.lt_or_ge i m with h | h
                · exact HY.out i y h hy
                · have : i = m := by omega
                  subst this
                  rw [HM.out] at hy; injection hy with hy; subst hy; exact HLE.out
            · have HXC : RowKit.Hid (leadsB os t = false) := Lib.hid (by cases hq : leadsB os t with | false => rfl | true => exact absurd (leadsB_iff.1 hq) hle)
              have hr : r = false := HNO.out fun h => hle (h.links _ (List.mem_of_getElem? HJ.out) t (List.mem_of_getElem? HM.out))
              subst hr
              clear HNO HYES hle
              refine wp_region_keeps _ (Keeps.all hp.drew) [] [(0, true), (1, true), (2, true), (3, true), (4, true), (5, true), (6, false), (7, true)] (by kernel_rfl) (by kernel_rfl) rfl (by kernel_rfl) (fun _ _ d _ _ h => by cases d <;> exact h) ?_
              replace hp := hp.drew
              repeat' (with_reducible refine plan_is ?_); first | (with_reducible refine plan_nil ?_) | refine tk12 ?_ | (refine plan_do rfl (fun K hK => ?_); go_wp2_with (first | (go_at_call 146; (with_reducible refine (leads146 od _ os oc nx t0 t1 t2 t3 fa fs.length fc hol' _ _ (HO.out.below hp.below)).mono ?_); rintro e w1 ⟨rfl, hb⟩; rw [HXC.out]; replace hp := hp.call hb; clear hb) | go_skip); (refine hK.out _ _ (.inr (kall hp)) ?_); clear hK K; try simp only [put_some, put_none, eval_tmp, eval_const, sSet, zSet, List.getD_cons_succ, List.getD_cons_zero, wrap_eq])
              go_wp2_with fail
              go_ret
              exact ⟨rfl, hp.below⟩
          · have e4 : decide ((m : Int) < (ls.length : Int)) = false := by simp; omega
            have HLN : RowKit.Hid (∀ t ∈ ls, leadsP os t) := Lib.hid (fun t ht => by
              obtain ⟨i, hi, rfl⟩ := List.getElem_of_mem ht
              exact HY.out i _ (by omega) (List.getElem?_eq_getElem hi))
            go_wp2_with (first | go_skip | (first | (refine hA1 ?_; clear hp; intro b w1 hp) | refine hL0 ?_ | (refine hS0 ?_; clear hp; intro w1 hp)))
            go_roundg (os.length - (j + 1))
            case measure => omega
            case rel => exact ⟨j + 1, xh, by omega, by go_num, HG, HND, Lib.hid (HLT.out.step HJ.out HLN.out), hp.tail⟩
    · have e2 : decide ((j : Int) < (os.length : Int)) = false := by simp; omega
      have hj' : j = os.length := by omega
      subst hj'
      rw [List.take_length] at HND
      have HRISE : RowKit.Hid (HRise nx os) := Lib.hid (HRT.out.done rfl)
      have HLINK : RowKit.Hid (HLinks os) := Lib.hid HLT.out.done
      clear HRT HLT hkj
      have HIN : RowKit.Hid (InR (fs ++ os.map obBl)) := Lib.hid (inR_of h8 HGD.out (List.Perm.refl _) HND.out.weak)
      have HLEN : RowKit.Hid ((fs ++ os.map obBl).length ≤ 2000) := Lib.hid (by rw [List.length_append, List.length_map]; omega)
      have HAP : RowKit.Hid (¬ Apart (fs ++ os.map obBl) → r = false) := Lib.hid (fun h => HNO.out fun h' => h h'.apart)
      have HTP : RowKit.Hid (∀ t ∈ [t0, t1, t2, t3], ¬ leadsP os t → r = false) := Lib.hid (fun t ht h => HNO.out fun h' => h (h'.tops t ht))
      have HFN : RowKit.Hid (Apart (fs ++ os.map obBl) → (∀ t ∈ [t0, t1, t2, t3], leadsP os t) → r = (sumB (fs ++ os.map obBl) == pw od)) := Lib.hid (fun h1 h2 => by
        cases hq : (sumB (fs ++ os.map obBl) == pw od) with
        | true => exact HYES.out ⟨HR1.out, HN1.out, HN2.out, r4, HRISE.out, HND.out, h1, HLINK.out, h2, by simpa [allBl] using hq⟩
        | false => exact HNO.out fun h => by have := h.words; simp only [allBl] at this; rw [this] at hq; simp at hq)
      generalize hbq : fs ++ os.map obBl = bl at HIN HLEN HAP HFN
      have HBL := Lib.hid hbq
      clear hbq
      go_wp2_with (first | (go_at_call 147; (with_reducible refine (blocks147 od oa os oc nx t0 t1 t2 t3 fa fs fc hol' hfl' _ (HO.out.below hp.below) (HF.out.below hp.below)).mono ?_); rintro e w1 ⟨v, RB, rfl, hrb, hpb⟩; rw [HBL.out] at hrb; obtain ⟨al, kl, rfl, KB⟩ := hrb.kept; replace hp := hp.join hpb; clear hpb hrb) | go_skip | (first | (refine hA1 ?_; clear hp; intro b w1 hp) | refine hL0 ?_ | (refine hS0 ?_; clear hp; intro w1 hp)))
      have hrb := hp.rowIs at0
      have hrb' := RowIs.fix0 hrb
      have HRB := Lib.hid hrb'
      have HRW := Lib.hid (KB.at hp (fun p h => List.mem_append_right _ h))
      have HO' := Lib.hid (HO.out.below hp.below)
      have HBW := Lib.hid hp.below
      have HRT := Lib.hid (RowIs.tops hrb')
      clear hrb hrb' KB HNO HYES HRISE HLINK HND HO HF HOO HOS HR1 HGD HN1 HN2 e2
      have hp := Hp.start w1
      have hbl := HLEN.out
      have HB1 : RowKit.Hid True := Lib.hid trivial
      go_wp2_with (first | go_skip | (first | (refine hA1 ?_; clear hp; intro b w1 hp) | refine hL17 ?_ | (refine hS0 ?_; clear hp; intro w1 hp)))
      go_loopg [7] bl.length (fun k i wr => ∃ j : Nat, k + j = bl.length ∧ i = .int .i64 j ∧ RowKit.Hid (ApartTo bl j) ∧ Hp w1.heap.size w1 wr [])
      case atStart => exact ⟨0, by omega, rfl, Lib.hid (fun i k a b h1 h2 => by omega), hp⟩
      case round =>
        clear hp
        obtain ⟨j, hkj, rfl, HA, hp⟩ := hrel
        by_cases hlt : j < bl.length
        · obtain ⟨bq, off, rfl, hx⟩ := HRW.out.elems 2 blV_len (by omega) (by omega)
          have HE := Lib.hid hx
          have hj := List.getElem?_eq_getElem hlt
          replace hx := hx j _ hj
          have HJ := Lib.hid hj
          obtain ⟨q1, q2, q3, q4⟩ := HIN.out _ (List.getElem_mem hlt)
          clear hj
          generalize bl[j] = x at hx HJ q1 q2 q3 q4
          obtain ⟨xp, xo⟩ := x
          simp only [blV] at hx
          simp only at q1 q2 q3 q4
          have HX := Lib.hid hx
          clear hx
          have e1 : (0 : Int) ≤ (j : Int) := by omega
          have e2 : (j : Int) < (bl.length : Int) := by omega
          go_wp2_with (first | go_skip | (first | (refine hA1 ?_; clear hp; intro b w1 hp) | refine hL17 ?_ | (refine hS0 ?_; clear hp; intro w1 hp)))
          go_loopg [8] j (fun k i wr => ∃ m : Nat, k + m = j ∧ i = .int .i64 m ∧ RowKit.Hid (∀ (k : Nat) b, k < m → bl[k]? = some b → ¬ MeetP ⟨xp, xo⟩ b) ∧ Hp w1.heap.size w1 wr [])
          case atStart => exact ⟨0, by omega, rfl, Lib.hid (fun i y h => by omega), hp⟩
          case round =>
            clear hp
            obtain ⟨m, hkm, rfl, HY, hp⟩ := hrel
            by_cases hlm : m < j
            · have hml : m < bl.length := by omega
              have hm := List.getElem?_eq_getElem hml
              have hy := HE.out m _ hm
              have HM := Lib.hid hm
              obtain ⟨s1, s2, s3, s4⟩ := HIN.out _ (List.getElem_mem hml)
              clear hm
              generalize bl[m] = y at hy HM s1 s2 s3 s4
              obtain ⟨yp, yo⟩ := y
              simp only [blV] at hy
              simp only at s1 s2 s3 s4
              have HYR := Lib.hid hy
              clear hy
              have e3 : (0 : Int) ≤ (m : Int) := by omega
              have e4 : (m : Int) < (bl.length : Int) := by omega
              have e5 : (m : Int) < (j : Int) := by omega
              go_wp2_with (first | go_skip | (first | (refine hA1 ?_; clear hp; intro b w1 hp) | refine hL17 ?_ | (refine hS0 ?_; clear hp; intro w1 hp)))
              cases dm : meetB xp xo yp yo
              · have DM := Lib.hid dm
                clear dm
                refine wp_region_keeps _ (Keeps.all hp.drew) [] [(0, true), (1, true), (2, true), (3, true), (4, true), (5, true), (6, true), (7, true), (8, false)] (by kernel_rfl) (by kernel_rfl) rfl (by kernel_rfl) (fun _ _ d _ _ h => by cases d <;> exact h) ?_
                replace hp := hp.drew
                repeat' (with_reducible refine plan_is ?_); first | (with_reducible refine plan_nil ?_) | refine tk13 ?_ | (refine plan_do rfl (fun K hK => ?_); go_wp2_with (first | (go_at_call 148; (with_reducible refine (meet148 _ _ _ _ q1 q2 s1 s2 q4 s4 _).mono ?_); rintro e w1 ⟨rfl, hb⟩; rw [DM.out]; replace hp := hp.call hb; clear hb) | go_skip); (refine hK.out _ _ (.inr (kall hp)) ?_); clear hK K; try simp only [put_some, put_none, eval_tmp, eval_const, sSet, zSet, List.getD_cons_succ, List.getD_cons_zero, wrap_eq])
                go_wp2_with fail
                go_roundg (gk - 1)
                case measure => omega
                case rel =>
                  refine ⟨m + 1, by omega, by go_num, Lib.hid (fun k b hk hb hmm => ?_), hp⟩
                  rcases Nat.lt_or_ge k m with h | h
                  · exact HY.out k b h hb hmm
                  · have : k = m := by omega
                    subst this
                    rw [HM.out] at hb; injection hb with hb; subst hb
                    have := meetB_iff.2 hmm
                    rw [DM.out] at this; cases this
              · have DM := Lib.hid dm
                have hr : r = false := HAP.out fun h => h.get hlm HJ.out HM.out (meetB_iff.1 dm)
                subst hr
                clear dm HAP HTP HFN
                refine wp_region_keeps _ (Keeps.all hp.drew) [] [(0, true), (1, true), (2, true), (3, true), (4, true), (5, true), (6, true), (7, true), (8, false)] (by kernel_rfl) (by kernel_rfl) rfl (by kernel_rfl) (fun _ _ d _ _ h => by cases d <;> exact h) ?_
                replace hp := hp.drew
                repeat' (with_reducible refine plan_is ?_); first | (with_reducible refine plan_nil ?_) | refine tk13 ?_ | (refine plan_do rfl (fun K hK => ?_); go_wp2_with (first | (go_at_call 148; (with_reducible refine (meet148 _ _ _ _ q1 q2 s1 s2 q4 s4 _).mono ?_); rintro e w1 ⟨rfl, hb⟩; rw [DM.out]; replace hp := hp.call hb; clear hb) | go_skip); (refine hK.out _ _ (.inr (kall hp)) ?_); clear hK K; try simp only [put_some, put_none, eval_tmp, eval_const, sSet, zSet, List.getD_cons_succ, List.getD_cons_zero, wrap_eq])
                go_wp2_with fail
                go_ret
                exact ⟨rfl, HBW.out.trans (hp.below.mono HBW.out.size)⟩
            · have e5 : decide ((m : Int) < (j : Int)) = false := by simp; omega
              have hmj : m = j := by omega
              subst hmj
              go_wp2_with (first | go_skip | (first | (refine hA1 ?_; clear hp; intro b w1 hp) | refine hL17 ?_ | (refine hS0 ?_; clear hp; intro w1 hp)))
              go_roundg (bl.length - (m + 1))
              case measure => omega
              case rel =>
                refine ⟨m + 1, by omega, by go_num, Lib.hid (fun i k a b hki hij ha hb => ?_), hp⟩
                rcases Nat.lt_or_ge i m with h | h
                · exact HA.out i k a b hki h ha hb
                · have : i = m := by omega
                  subst this
                  rw [HJ.out] at ha; injection ha with ha; subst ha
                  exact HY.out k b hki hb
        · have e2 : decide ((j : Int) < (bl.length : Int)) = false := by simp; omega
          have hj' : j = bl.length := by omega
          subst hj'
          have HAQ : RowKit.Hid (Apart bl) := Lib.hid HA.out.done
          clear HA HAP hkj
          go_wp2_with (first | go_skip | (first | (refine hA1 ?_; clear hp; intro b w1 hp) | refine hL17 ?_ | (refine hS0 ?_; clear hp; intro w1 hp)))
          go_loopg [9] 4 (fun k i wr => ∃ m : Nat, k + m = 4 ∧ i = .int .i64 m ∧ RowKit.Hid (∀ (i : Nat) y, i < m → [t0, t1, t2, t3][i]? = some y → leadsP os y) ∧ Hp w1.heap.size w1 wr [])
          case atStart => exact ⟨0, by omega, rfl, Lib.hid (fun i y h => by omega), hp⟩
          case round =>
            clear hp
            obtain ⟨m, hkm, rfl, HY, hp⟩ := hrel
            by_cases hlm : m < 4
            · obtain ⟨t, ht⟩ : ∃ t, [t0, t1, t2, t3][m]? = some t := ⟨_, List.getElem?_eq_getElem (by simpa using hlm)⟩
              have HM := Lib.hid ht
              have HT := Lib.hid (HRT.out m t ht)
              clear ht
              have e3 : (0 : Int) ≤ (m : Int) := by omega
              have e4 : (m : Int) < 4 := by omega
              go_wp2_with (first | go_skip | (first | (refine hA1 ?_; clear hp; intro b w1 hp) | refine hL17 ?_ | (refine hS0 ?_; clear hp; intro w1 hp)))
              by_cases hle : leadsP os t
              · have HXC : RowKit.Hid (leadsB os t = true) := Lib.hid (leadsB_iff.2 hle)
                have HLE := Lib.hid hle
                clear hle
                refine wp_region_keeps _ (Keeps.all hp.drew) [] [(0, true), (1, true), (2, true), (3, true), (4, true), (5, false), (6, true)] (by kernel_rfl) (by kernel_rfl) rfl (by kernel_rfl) (fun _ _ d _ _ h => by cases d <;> exact h) ?_
                replace hp := hp.drew
                repeat' (with_reducible refine plan_is ?_); first | (with_reducible refine plan_nil ?_) | refine tk14 ?_ | (refine plan_do rfl (fun K hK => ?_); go_wp2_with (first | (go_at_call 146; (with_reducible refine (leads146 od oa os oc nx t0 t1 t2 t3 fa fs.length fc hol' _ _ (HO'.out.below hp.below)).mono ?_); rintro e w1 ⟨rfl, hb⟩; rw [HXC.out]; replace hp := hp.call hb; clear hb) | go_skip); (refine hK.out _ _ (.inr (kall hp)) ?_); clear hK K; try simp only [put_some, put_none, eval_tmp, eval_const, sSet, zSet, List.getD_cons_succ, List.getD_cons_zero, wrap_eq])
                go_wp2_with fail
                go_roundg (gk - 1)
                case measure => omega
                case rel =>
                  refine ⟨m + 1, by omega, by go_num, Lib.hid (fun i y hi hy => ?_), hp⟩
                  rcases Nat.lt_or_ge i m with h | h
                  · exact HY.out i y h hy
                  · have : i = m := by omega
                    subst this
                    rw [HM.out] at hy; injection hy with hy; subst hy; exact HLE.out
              · have HXC : RowKit.Hid (leadsB os t = false) := Lib.hid (by cases hq : leadsB os t with | false => rfl | true => exact absurd (leadsB_iff.1 hq) hle)
                have hr : r = false := HTP.out t (List.mem_of_getElem? HM.out) hle
                subst hr
                clear HTP HFN hle
                refine wp_region_keeps _ (Keeps.all hp.drew) [] [(0, true), (1, true), (2, true), (3, true), (4, true), (5, false), (6, true)] (by kernel_rfl) (by kernel_rfl) rfl (by kernel_rfl) (fun _ _ d _ _ h => by cases d <;> exact h) ?_
                replace hp := hp.drew
                repeat' (with_reducible refine plan_is ?_); first | (with_reducible refine plan_nil ?_) | refine tk14 ?_ | (refine plan_do rfl (fun K hK => ?_); go_wp2_with (first | (go_at_call 146; (with_reducible refine (leads146 od oa os oc nx t0 t1 t2 t3 fa fs.length fc hol' _ _ (HO'.out.below hp.below)).mono ?_); rintro e w1 ⟨rfl, hb⟩; rw [HXC.out]; replace hp := hp.call hb; clear hb) | go_skip); (refine hK.out _ _ (.inr (kall hp)) ?_); clear hK K; try simp only [put_some, put_none, eval_tmp, eval_const, sSet, zSet, List.getD_cons_succ, List.getD_cons_zero, wrap_eq])
                go_wp2_with fail
                go_ret
                exact ⟨rfl, HBW.out.trans (hp.below.mono HBW.out.size)⟩
            · have e4 : decide ((m : Int) < 4) = false := by simp; omega
              have HTL : RowKit.Hid (∀ t ∈ [t0, t1, t2, t3], leadsP os t) := Lib.hid (fun t ht => by
                obtain ⟨i, hi, rfl⟩ := List.getElem_of_mem ht
                exact HY.out i _ (by simp at hi; omega) (List.getElem?_eq_getElem hi))
              have HRV := Lib.hid (HFN.out HAQ.out HTL.out)
              have ho8 : RowKit.Hid (∀ b ∈ bl, b.o ≤ 8) := Lib.hid (fun b hb => (HIN.out b hb).2.2.2)
              clear HFN HTP
              go_wp2_with (first | go_skip | (first | (refine hA1 ?_; clear hp; intro b w1 hp) | refine hL17 ?_ | (refine hS0 ?_; clear hp; intro w1 hp)))
              refine wp_region_keeps _ (Keeps.all hp.drew) [] [(0, true), (2, true), (3, true), (1, false), (4, false), (5, true), (6, false)] (by kernel_rfl) (by kernel_rfl) rfl (by kernel_rfl) (fun _ _ d _ _ h => by cases d <;> exact h) ?_
              replace hp := hp.drew
              repeat' (with_reducible refine plan_is ?_); first | (with_reducible refine plan_nil ?_) | refine tk15 ?_ | (refine plan_do rfl (fun K hK => ?_); go_wp2_with (first | (go_at_call 149; (with_reducible refine (words149 bl al kl hbl ho8.out _ (HRW.out.below hp.below)).mono ?_); rintro e w1 ⟨rfl, hb⟩; replace hp := hp.call hb; clear hb) | (go_at_call 142; (with_reducible refine (size142 _ (by omega) _).mono ?_); rintro e w' ⟨rfl, rfl⟩) | go_skip); (refine hK.out _ _ (.inr (kall hp)) ?_); clear hK K; try simp only [put_some, put_none, eval_tmp, eval_const, sSet, zSet, List.getD_cons_succ, List.getD_cons_zero, wrap_eq])
              go_wp2_with fail
              go_ret
              exact ⟨ret_bool HRV.out.symm, HBW.out.trans (hp.below.mono HBW.out.size)⟩
end Go.Proofs.YtcjbepaclbhjaaaGreat
