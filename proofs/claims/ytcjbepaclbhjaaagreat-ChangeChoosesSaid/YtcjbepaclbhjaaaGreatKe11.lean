/- Parts of the proof. -/
import Derived.Test.YtcjbepaclbhjaaaGreatKe1
import Derived.Test.YtcjbepaclbhjaaaGreatKe8
import Derived.Test.YtcjbepaclbhjaaaGreatKe3
import Derived.Test.YtcjbepaclbhjaaaGreatKe0
open List renaming set_cons_zero → zSet, set_cons_succ → sSet
/- Texts merged: heap:KSort heap:KCheck. -/
set_option linter.unusedSimpArgs false
set_option linter.unusedVariables false
namespace Go.Proofs.YtcjbepaclbhjaaaGreat
open Go.RowKit Go.Lib Go.Shelf Go.Sort
theorem enter137 (args : Array Value) (w : World) : (callFunc 137 args).run Tryz.prog w = .ok (.enter 137 args) w := enters_of Tryz.func137 (by kernel_rfl) rfl args w
theorem compares137 : Compares 137 := by
  intro x y W
  have hcon := cmp76 x.p y.p
  generalize cmpI x.p y.p = r at hcon ⊢
  go_enter Tryz.func137, Tryz.ntmps137
  go_wp2_with (go_at_call 76; (with_reducible refine (hcon _).mono ?_); rintro e w' ⟨rfl, rfl⟩)
  go_ret
  exact ⟨rfl, 0, _, by rw [alloc_eq_grow, alloc_eq_grow, grow_grow]; rfl⟩
end Go.Proofs.YtcjbepaclbhjaaaGreat
namespace Go.Proofs.YtcjbepaclbhjaaaGreat
open Go.RowKit
theorem chk3_ways {x : Hv} {s : List Bl} {en : Int} {r : Bool} (hi : HRight x ↔ Tl (pw x.od) 0 s ∧ (∀ t ∈ allLinks x.os, leadsP x.os t) ∧ ∀ t ∈ tops x, leadsP x.os t) (hd : Tl (pw x.od) 0 s ↔ en = pw x.od) (hno : ¬ HRight x → r = false) (hyes : HRight x → r = true) :
    ((en == pw x.od) = false ∧ (en != pw x.od) = true ∧ r = false) ∨
    ((en == pw x.od) = true ∧ (en != pw x.od) = false ∧ lostB x.os (allLinks x.os) = true ∧ r = false) ∨
    ((en == pw x.od) = true ∧ (en != pw x.od) = false ∧ lostB x.os (allLinks x.os) = false ∧ lostB x.os (tops x) = true ∧ r = false) ∨
    ((en == pw x.od) = true ∧ (en != pw x.od) = false ∧ lostB x.os (allLinks x.os) = false ∧ lostB x.os (tops x) = false ∧ r = true) := by
  by_cases h1 : en = pw x.od
  · right
    cases h2 : lostB x.os (allLinks x.os) with
    | true =>
      left
      refine ⟨by simp [h1], by simp [h1], rfl, hno fun h => ?_⟩
      obtain ⟨t, ht, hn⟩ := lostB_iff.1 h2
      exact hn ((hi.1 h).2.1 t ht)
    | false =>
      right
      cases h3 : lostB x.os (tops x) with
      | true =>
        left
        refine ⟨by simp [h1], by simp [h1], rfl, rfl, hno fun h => ?_⟩
        obtain ⟨t, ht, hn⟩ := lostB_iff.1 h3
        exact hn ((hi.1 h).2.2 t ht)
      | false =>
        right
        refine ⟨by simp [h1], by simp [h1], rfl, rfl, hyes (hi.2 ⟨hd.2 h1, fun t ht => Classical.byContradiction fun hn => ?_, fun t ht => Classical.byContradiction fun hn => ?_⟩)⟩
        · rw [lostB_iff.2 ⟨t, ht, hn⟩] at h2; cases h2
        · rw [lostB_iff.2 ⟨t, ht, hn⟩] at h3; cases h3
  · left
    exact ⟨by simp [h1], by simp [h1], hno fun h => h1 (hd.1 (hi.1 h).1)⟩
theorem lostTops140 (os : List Ob) (oa : Option Addr) (oc : Nat) (hol : os.length ≤ 1000) (hs : SortedO os) (b : Nat) (t0 t1 t2 t3 : Int) (w : World) (hb : b < w.heap.size) (hc : w.cell? ⟨b, 1, none⟩ = some (.slice oa os.length oc)) (hoa : RowIs w oa (os.flatMap obV)) (ha : RowIs w (some ⟨b, 3, none⟩) ([t0, t1, t2, t3].flatMap iV)) :
    Calls Tryz.prog 140 #[.slice (some ⟨b, 3, none⟩) 4 4, .func (.func 138) #[] #[.pointer (some ⟨b, 0, none⟩)]] w fun e w' => e = .returned (.bool (lostB os [t0, t1, t2, t3])) ∧ Below w.heap.size w w' :=
  contains140 os oa oc hol hs b [t0, t1, t2, t3] (some ⟨b, 3, none⟩) 4 (by simp) w hb hc hoa ha
theorem RowIs.fix {w : World} {b off : Nat} {xs : List Value} (h : RowIs w (some ⟨b, off, none⟩) xs) : ∀ j v, xs[j]? = some v → w.cell? ⟨b, off + j, none⟩ = some v := fun j v hj => by
  obtain ⟨b', off', he, hc⟩ := h j v hj
  injection he with he; injection he with e1 e2; subst e1; subst e2; exact hc
structure AfterSort (w w1 : World) (b1 : Nat) (s d : List Bl) (os : List Ob) (aa oa al : Option Addr) (cells : List Value) (ts : List Int) : Prop where
  perm : s.Perm d
  sort : s.Pairwise fun x y => x.p ≤ y.p
  inr : InR s
  rs : RowIs w1 aa (s.flatMap blV)
  rl : RowIs w1 al ((allLinks os).flatMap iV)
  rt : RowIs w1 (some ⟨b1, 3, none⟩) (ts.flatMap iV)
  ro : RowIs w1 oa (os.flatMap obV)
  rb : ∀ j v, cells[j]? = some v → w1.cell? ⟨b1, 0 + j, none⟩ = some v
  lt : b1 < w1.heap.size
  bw : Below w.heap.size w w1
theorem after_sort {w w1 : World} {b1 T N : Nat} {od : Int} {fs s : List Bl} {os : List Ob} {oa fa : Option Addr} {oc fc n : Nat} {nx t0 t1 t2 t3 : Int} {va vl : Value} {R' RL : List Blk}
    (hperm : s.Perm (fs ++ os.map obBl)) (hsort : s.Pairwise fun x y => x.p ≤ y.p) (hrow : OwnRow 150 2 va (fs ++ os.map obBl).length (s.flatMap blV) R')
    (hl : OwnRow 3 1 vl n ((allLinks os).flatMap iV) RL)
    (hp : Hp w.heap.size w w1 (R' ++ (⟨b1, [.int .i64 od, .slice oa os.length oc, .int .i64 nx, .int .i64 t0, .int .i64 t1, .int .i64 t2, .int .i64 t3, .slice fa fs.length fc], T, N⟩ :: RL)))
    (ho : RowIs w oa (os.flatMap obV)) (hg : Good od fs) (hn : HNeed' od os) (h8 : od ≤ 8) :
    ∃ aa ka al kl, va = .slice aa s.length ka ∧ vl = .slice al (allLinks os).length kl ∧ AfterSort w w1 b1 s (fs ++ os.map obBl) os aa oa al [.int .i64 od, .slice oa os.length oc, .int .i64 nx, .int .i64 t0, .int .i64 t1, .int .i64 t2, .int .i64 t3, .slice fa fs.length fc] [t0, t1, t2, t3] := by
  have hn' : n = (allLinks os).length := by have := hl.1; rw [flat_len iV 1 iV_len] at this; omega
  subst hn'
  rw [← hperm.length_eq] at hrow
  obtain ⟨aa, ka, hva, KA⟩ := hrow.kept
  obtain ⟨al, kl, hvl, KL⟩ := hl.kept
  have hb := (hp.reorder List.perm_middle).rowIs at0
  have hb' := hb.fix
  refine ⟨aa, ka, al, kl, hva, hvl, hperm, hsort, inR_of h8 hg hperm hn, KA.at hp (fun p h => List.mem_append_left _ h), KL.at hp (fun p h => List.mem_append_right _ (List.mem_cons_of_mem _ h)), ?_, ho.below hp.below, hb', (hp.lt (p := ⟨b1, _, T, N⟩) (List.mem_append_right _ (List.mem_cons_self ..))).2, hp.below⟩
  intro j v hj
  refine ⟨b1, 3, rfl, ?_⟩
  have h4 : j < 4 := by have := (List.getElem?_eq_some_iff.1 hj).1; simpa [iV] using this
  have hc : j = 0 ∨ j = 1 ∨ j = 2 ∨ j = 3 := by omega
  rcases hc with rfl | rfl | rfl | rfl
  · exact hb' 3 v hj
  · exact hb' 4 v hj
  · exact hb' 5 v hj
  · exact hb' 6 v hj
set_option maxRecDepth 100000 in
set_option maxHeartbeats 16000000 in
theorem check110 (x : Hv) (hs : x.Small) (w : World) (hx0 : x.Is w) : Calls Tryz.prog 110 #[.agg (hvL x).toArray] w fun e w' => e = .returned (.int .i64 (errI (hrightB x))) ∧ Below w.heap.size w w' := by
  obtain ⟨i0, hi0, hz0, hz1, hz2⟩ := info_parts info150
  obtain ⟨i1, hi1, hy0, hy1, hy2⟩ := info_parts info3
  obtain ⟨od, oa, os, oc, nx, t0, t1, t2, t3, fa, fs, fc⟩ := x
  have W9 := Lib.hid (chk1_ways ⟨od, oa, os, oc, nx, t0, t1, t2, t3, fa, fs, fc⟩)
  obtain ⟨⟨hol, hosm⟩, hfl⟩ := hs
  obtain ⟨ho, hoo, hf⟩ := hx0
  simp only at hol hosm hfl ho hoo hf W9
  simp only [hvL]
  have HNO := Lib.hid (hright_no (x := ⟨od, oa, os, oc, nx, t0, t1, t2, t3, fa, fs, fc⟩))
  have HYES := Lib.hid (hright_yes (x := ⟨od, oa, os, oc, nx, t0, t1, t2, t3, fa, fs, fc⟩))
  generalize hrightB ⟨od, oa, os, oc, nx, t0, t1, t2, t3, fa, fs, fc⟩ = r at W9 HNO HYES ⊢
  have hp := Hp.start w
  have HO := Lib.hid ho
  have HOO := Lib.hid hoo
  have HOS := Lib.hid hosm
  have HF := Lib.hid hf
  clear ho hoo hosm hf
  go_enter Tryz.func110, Tryz.ntmps110
  go_wp2_with (first | go_skip | (first | (refine hA0 ?_; clear hp; intro b w1 hp) | refine hL0 ?_ | (refine hS0 ?_; clear hp; intro w1 hp)))
  refine wp_region_keeps _ (Keeps.all hp.drew) [] [(0, true), (1, true), (2, true), (3, true), (4, false), (5, true), (6, true), (7, true), (8, true), (9, false), (10, true), (11, true), (12, true), (13, true), (14, true), (15, true), (16, false), (17, true), (18, true)] (by kernel_rfl) (by kernel_rfl) rfl (by kernel_rfl) (fun _ _ d _ _ h => by cases d <;> exact h) ?_
  replace hp := hp.drew
  rcases W9.out with ⟨d1, r0⟩ | ⟨d1, d2, r0⟩ | ⟨d1, d2, d4, r0⟩ | ⟨d1, d2, d4, r1, r2, r3, r4⟩
  all_goals clear W9
  all_goals
    repeat' (with_reducible refine plan_is ?_); first | (with_reducible refine plan_nil ?_) | refine tk0 ?_ | (refine plan_do rfl (fun K hK => ?_); go_wp2_with (first | (go_at_call 131; (with_reducible refine (check131 od fs fa fc hfl _ (HF.out.below hp.below)).mono ?_); rintro e w1 ⟨rfl, hb⟩; rw [d1]; replace hp := hp.call hb; clear hb) | (go_at_call 132; (with_reducible refine (within132 _ _ _ _).mono ?_); rintro e w' ⟨rfl, rfl⟩; first | rw [d2] | rw [d3]) | (go_at_call 133; (with_reducible refine (words133 _ (by omega) (by omega) _).mono ?_); rintro e w' ⟨rfl, rfl⟩; try rw [pw8]) | go_skip); (refine hK.out _ _ (.inr (kall hp)) ?_); clear hK K; try simp only [put_some, put_none, eval_tmp, eval_const, sSet, zSet, List.getD_cons_succ, List.getD_cons_zero, wrap_eq])
  all_goals first
    | (subst r0; clear HNO HYES; go_wp2_with fail; go_ret; exact ⟨rfl, hp.below⟩)
    | skip
  · obtain ⟨h3, h8, hgood⟩ := rightB_good r1
    have HR1 := Lib.hid r1
    have HGD := Lib.hid hgood
    have HN1 := Lib.hid r2
    have HN2 := Lib.hid r3
    clear d1 d2 d4 r1 r2 r3 hgood
    go_wp2_with (first | go_skip | (first | (refine hA0 ?_; clear hp; intro b w1 hp) | refine hL0 ?_ | (refine hS0 ?_; clear hp; intro w1 hp)))
    obtain ⟨b1, rfl⟩ := hp.id0
    go_loopg [3, 37] os.length (fun k la i wr => ∃ (j : Nat) (lv : Int), k + j = os.length ∧ i = .int .i64 j ∧ la = .int .i64 lv ∧ RowKit.Hid (RiseTo nx os j lv) ∧ Hp w.heap.size w wr [⟨b1, [.int .i64 od, .slice oa os.length oc, .int .i64 nx, .int .i64 t0, .int .i64 t1, .int .i64 t2, .int .i64 t3, .slice fa fs.length fc], 83, 8⟩])
    case atStart => exact ⟨0, 0, by omega, rfl, rfl, Lib.hid (RiseTo.start nx os), hp⟩
    case round =>
      clear hp
      obtain ⟨j, lv, hkj, rfl, rfl, HRT, hp⟩ := hrel
      by_cases hlt : j < os.length
      · obtain ⟨bq, off, rfl, hx⟩ := HO.out.elems 5 obV_len (by omega) (by omega)
        have hj := List.getElem?_eq_getElem hlt
        replace hx := hx j _ hj
        have HJ := Lib.hid hj
        clear hj
        generalize os[j] = x at hx HJ
        obtain ⟨xh, xp, xo, wa, ws, wc, la, ls, lc⟩ := x
        simp only [obV] at hx
        have HX := Lib.hid hx
        clear hx
        have e1 : (0 : Int) ≤ (j : Int) := by omega
        have e2 : (j : Int) < (os.length : Int) := by omega
        by_cases hb : xh ≤ lv ∨ nx ≤ xh
        · have hr : r = false := HNO.out fun h => HRT.out.fail HJ.out hb h.rise
          subst hr
          clear HNO HYES
          rcases hb with hb | hb
          · have e3 : decide (xh ≤ lv) = true := decide_eq_true hb
            clear hb
            go_wp2_with (first | go_skip | (first | (refine hA0 ?_; clear hp; intro b w1 hp) | refine hL11 ?_ | (refine hS0 ?_; clear hp; intro w1 hp)))
            go_ret
            exact ⟨rfl, hp.below⟩
          · by_cases hc : xh ≤ lv
            · have e3 : decide (xh ≤ lv) = true := decide_eq_true hc
              clear hb hc
              go_wp2_with (first | go_skip | (first | (refine hA0 ?_; clear hp; intro b w1 hp) | refine hL11 ?_ | (refine hS0 ?_; clear hp; intro w1 hp)))
              go_ret
              exact ⟨rfl, hp.below⟩
            · have e3 : decide (xh ≤ lv) = false := decide_eq_false hc
              have e4 : decide (nx ≤ xh) = true := decide_eq_true hb
              clear hb hc
              go_wp2_with (first | go_skip | (first | (refine hA0 ?_; clear hp; intro b w1 hp) | refine hL11 ?_ | (refine hS0 ?_; clear hp; intro w1 hp)))
              go_ret
              exact ⟨rfl, hp.below⟩
        · have h1 : ¬ xh ≤ lv := fun h => hb (.inl h)
          have h2 : ¬ nx ≤ xh := fun h => hb (.inr h)
          have HST := Lib.hid (HRT.out.step HJ.out h1 h2)
          have e3 : decide (xh ≤ lv) = false := decide_eq_false h1
          have e4 : decide (nx ≤ xh) = false := decide_eq_false h2
          clear hb h1 h2
          go_wp2_with (first | go_skip | (first | (refine hA0 ?_; clear hp; intro b w1 hp) | refine hL11 ?_ | (refine hS0 ?_; clear hp; intro w1 hp)))
          go_roundg (gk - 1)
          case measure => omega
          case rel => exact ⟨j + 1, xh, by omega, by go_num, rfl, HST, hp.tail⟩
      · have e2 : decide ((j : Int) < (os.length : Int)) = false := by simp; omega
        have HRISE : RowKit.Hid (HRise nx os) := Lib.hid (HRT.out.done (by omega))
        clear HRT
        go_wp2_with (first | (go_at_call 134; (with_reducible refine (clone134 fa fs.length fc (by omega) _ (lit_len fs) (blsOne fs) _ (HF.out.below hp.below)).mono ?_); rintro e w1 ⟨va, RA, rfl, hra, hpa⟩; replace hp := hp.join hpa; have HRA := Lib.hid hra; clear hpa hra; simp only [List.cons_append, List.nil_append] at hp) | go_skip | (first | (refine hA0 ?_; clear hp; intro b w1 hp) | refine hL0 ?_ | (refine hS0 ?_; clear hp; intro w1 hp)))
        clear e2
        go_loopg [6, 7, 61] os.length (fun k vl va i wr => ∃ (q : Nat) (RL RA : List Blk), k + q = os.length ∧ i = .int .i64 q ∧ RowKit.Hid (OwnRow 3 1 vl (allLinks (os.take q)).length ((allLinks (os.take q)).flatMap iV) RL) ∧ RowKit.Hid (OwnRow 150 2 va (fs.length + q) ((fs ++ (os.take q).map obBl).flatMap blV) RA) ∧ RowKit.Hid ((allLinks (os.take q)).length ≤ q * 16) ∧ RowKit.Hid (HNeed' od (os.take q)) ∧ Hp w.heap.size w wr (⟨b1, [.int .i64 od, .slice oa os.length oc, .int .i64 nx, .int .i64 t0, .int .i64 t1, .int .i64 t2, .int .i64 t3, .slice fa fs.length fc], 83, 8⟩ :: (RL ++ RA)))
        case atStart => exact ⟨0, [], RA, by omega, rfl, Lib.hid (OwnRow.nil _ _), Lib.hid (by simpa using HRA.out), Lib.hid (by simp [allLinks]), Lib.hid (by intro o ho; simp at ho), hp⟩
        case round =>
          clear hp HRA
          obtain ⟨q, RL, RA, hkq, rfl, HRL, HRA, HLL, HND, hp⟩ := hrel
          by_cases hlt : q < os.length
          · obtain ⟨bq, off, rfl, hx⟩ := HO.out.elems 5 obV_len (by omega) (by omega)
            have hj := List.getElem?_eq_getElem hlt
            replace hx := hx q _ hj
            have hmem := List.getElem_mem hlt
            obtain ⟨_, hw2⟩ := HOO.out _ hmem
            obtain ⟨hw3, hw4⟩ := HOS.out _ hmem
            have HJ := Lib.hid hj
            clear hj hmem
            generalize os[q] = x at hx hw2 hw3 hw4 HJ
            have W8 := Lib.hid (chk2_ways h3 h8 HJ.out HND.out (r := r) (fun h => HNO.out fun h' => h h'.need))
            have HTK : RowKit.Hid (os.take (q + 1) = os.take q ++ [x]) := Lib.hid (by rw [List.take_add_one, HJ.out]; rfl)
            obtain ⟨xh, xp, xo, wa, ws, wc, la, ls, lc⟩ := x
            simp only [obV] at hx hw2 hw3 hw4 W8
            have HX := Lib.hid hx
            have HLK := Lib.hid hw2
            clear hx hw2
            have e1 : (0 : Int) ≤ (q : Int) := by omega
            have e2 : (q : Int) < (os.length : Int) := by omega
            go_wp2_with (first | go_skip | (first | (refine hA0 ?_; clear hp; intro b w1 hp) | refine hL11 ?_ | (refine hS0 ?_; clear hp; intro w1 hp)))
            refine wp_region_keeps _ (Keeps.all hp.drew) [] [(0, true), (1, true), (2, true), (3, true), (4, true), (5, true), (7, true), (8, true), (6, false), (9, true), (10, true), (11, true), (12, true), (13, true), (14, true), (15, false), (16, true), (17, true), (18, true), (19, true), (20, true), (21, true), (22, true), (23, false), (24, false), (25, true), (26, true), (27, true), (28, true), (29, true), (30, true), (31, true), (32, false), (33, true), (34, true), (35, true)] (by kernel_rfl) (by kernel_rfl) rfl (by kernel_rfl) (fun _ _ d _ _ h => by cases d <;> exact h) ?_
            replace hp := hp.drew
            rcases W8.out with ⟨nn, d1, d5, d6, r0⟩ | ⟨d1, d2, r0⟩ | ⟨d1, d2, g1, g2, d3, r0⟩ | ⟨d1, d2, g1, g2, d3, g3, g4, d7, d8, d9, d10, r0⟩ | ⟨d1, d2, g1, g2, d3, g3, g4, d7, d8, d9, d10, hnn⟩
            all_goals clear W8
            all_goals
              repeat' (with_reducible refine plan_is ?_); first | (with_reducible refine plan_nil ?_) | refine tk0 ?_ | (refine plan_do rfl (fun K hK => ?_); go_wp2_with (first | (go_at_call 135; (with_reducible refine (need135 _ _ _).mono ?_); rintro e w' ⟨rfl, rfl⟩; rw [d1]) | (go_at_call 132; (with_reducible refine (within132 _ _ _ _).mono ?_); rintro e w' ⟨rfl, rfl⟩; first | rw [d2] | rw [d3]) | (go_at_call 133; (with_reducible refine (words133 _ (by omega) (by omega) _).mono ?_); rintro e w' ⟨rfl, rfl⟩; try rw [pw8]) | go_skip); (refine hK.out _ _ (.inr (kall hp)) ?_); clear hK K; try simp only [put_some, put_none, eval_tmp, eval_const, sSet, zSet, List.getD_cons_succ, List.getD_cons_zero, wrap_eq])
            all_goals first
              | (subst r0; clear HNO HYES; go_wp2_with fail; go_ret; exact ⟨rfl, hp.below⟩)
              | skip
            · have HNN := Lib.hid hnn
              have hls := need_len d1 g3
              have hll := HLL.out
              have sm1 : fs.length + q + 1 ≤ maxLen := by unfold maxLen; omega
              have sm2 : (fs.length + q + 1) * 16 ≤ 140737488355328 := by omega
              have sm3 : (allLinks (os.take q)).length + ls.length ≤ maxLen := by unfold maxLen; omega
              have sm4 : ((allLinks (os.take q)).length + ls.length) * 8 ≤ 140737488355328 := by omega
              clear d1 d2 d3 d7 d8 d9 d10 g1 g2 g3 g4 hnn hll
              have HLS := Lib.hid hls
              clear hls
              go_wp2_with (first | ((with_reducible refine pre_append _ _ 81 rfl ?_); refine wpList_appendGrow (K := [_, _, _]) (R := RA) (M := RL) (hp.reorder (List.Perm.cons _ (List.Perm.cons _ (List.Perm.cons _ (List.Perm.cons _ List.perm_append_comm))))) _ _ _ rfl wy i0 _ 16 Tryz.underlying81 hi0 hz0 hz1 hz2 rfl (by decide) (sTm rfl) HRA.out 1 1 (sTm rfl) (by rfl) (by decide) (by rfl) sm1 sm2 ?_; clear hp HRA; intro va' RA' w1 hra hp; have HRA := Lib.hid hra; clear hra; simp only [List.cons_append, List.nil_append] at hp; simp only [put_some, put_none, sSet, zSet]) | ((with_reducible refine pre_append _ _ 72 rfl ?_); refine wpList_appendGrowRow (K := [_, _, _]) (R := RL) (M := RA') (hp.reorder (List.Perm.cons _ (List.Perm.cons _ (List.Perm.cons _ List.perm_append_comm)))) _ _ _ rfl wy i1 _ 8 Tryz.underlying72 hi1 hy0 hy1 hy2 rfl (by decide) (sTm rfl) HRL.out la ls.length lc (sTm rfl) _ (by rw [flat_len iV 1 iV_len]) (HLK.out.below hp.below) (ints_one ls) sm3 sm4 ?_; clear hp HRL; intro vl' RL' w1 hrl hp; have HRL := Lib.hid hrl; clear hrl; simp only [List.cons_append, List.nil_append] at hp; simp only [put_some, put_none, sSet, zSet]) | go_skip | (first | (refine hA0 ?_; clear hp; intro b w1 hp) | refine hL0 ?_ | (refine hS0 ?_; clear hp; intro w1 hp)))
              go_roundg (gk - 1)
              case measure => omega
              case rel =>
                refine ⟨q + 1, RL', RA', by omega, by go_num, Lib.hid ?_, Lib.hid ?_, Lib.hid ?_, HNN, hp.tail.tail⟩
                · rw [HTK.out, allLinks_snoc, List.length_append, List.flatMap_append]; exact HRL.out
                · rw [HTK.out, obs_map_snoc]; exact HRA.out
                · rw [HTK.out, allLinks_snoc, List.length_append]; have := HLL.out; have := HLS.out; simp only; omega
          · have e2 : decide ((q : Int) < (os.length : Int)) = false := by simp; omega
            have hq : q = os.length := by omega
            subst hq
            rw [List.take_length] at HRL HRA HND HLL
            have hd : RowKit.Hid (OwnRow 150 2 u7 (fs ++ os.map obBl).length ((fs ++ os.map obBl).flatMap blV) RA) := Lib.hid (by simpa using HRA.out)
            have hpd := hp.reorder ((List.Perm.cons _ List.perm_append_comm).trans List.perm_middle.symm)
            have HPD := Lib.hid hpd
            clear hp HRA hpd
            go_wp2_with (first | (go_at_call 136; (with_reducible refine (sorto136 137 enter137 compares137 (fs ++ os.map obBl) hd.out HPD.out (by simp only [List.length_append, List.length_map]; omega)).mono ?_); rintro e w1 ⟨rfl, s, R', hperm, hsort, hrow, hp'⟩; obtain ⟨aa, ka, al, kl, rfl, rfl, HALL⟩ := after_sort hperm hsort hrow HRL.out hp' HO.out HGD.out HND.out h8))
            obtain ⟨hperm, hsort, hinr, hrs, hrl, hrt, hro, hrb, hb1, hbw⟩ := HALL
            have HPM := Lib.hid (show RowKit.Hid (s.Perm (fs ++ os.map obBl)) ∧ RowKit.Hid (s.Pairwise fun x y => x.p ≤ y.p) from ⟨Lib.hid hperm, Lib.hid hsort⟩)
            have HSL := Lib.hid (show s.length ≤ 1000 by rw [hperm.length_eq, List.length_append, List.length_map]; omega)
            have HIN := Lib.hid hinr
            have HRS := Lib.hid hrs
            have HRW := Lib.hid hrl
            have HRT := Lib.hid hrt
            have HRO := Lib.hid hro
            have HRB := Lib.hid hrb
            have HB1 := Lib.hid hb1
            have HBW := Lib.hid hbw
            have HSO : RowKit.Hid (SortedO os) := Lib.hid (HRISE.out.step)
            have HIFF := Lib.hid (right_of (x := ⟨od, oa, os, oc, nx, t0, t1, t2, t3, fa, fs, fc⟩) HR1.out HN1.out HN2.out r4 HRISE.out HND.out hperm hsort)
            clear hperm hsort hinr hrs hrl hrt hro hrb hb1 hbw hp' HPD hd HO HF HRL e2 hrow
            clear HOO HOS
            have hp := Hp.start w1
            go_wp2_with (first | go_skip | (first | (refine hA0 ?_; clear hp; intro b w1 hp) | refine hL0 ?_ | (refine hS0 ?_; clear hp; intro w1 hp)))
            go_loopg [11, 116] s.length (fun k en i wr => ∃ (j : Nat) (ev : Int), k + j = s.length ∧ en = .int .i64 ev ∧ i = .int .i64 j ∧ RowKit.Hid (TileAt (pw od) s j ev) ∧ Hp w1.heap.size w1 wr [])
            case atStart => exact ⟨0, 0, by omega, rfl, rfl, Lib.hid (TileAt.start _ _), hp⟩
            case round =>
              clear hp
              obtain ⟨j, ev, hkj, rfl, rfl, HTA, hp⟩ := hrel
              have hsl := HSL.out
              by_cases hlt : j < s.length
              · obtain ⟨bq, off, rfl, hx⟩ := HRS.out.elems 2 blV_len (by omega) (by omega)
                have hj := List.getElem?_eq_getElem hlt
                replace hx := hx j _ hj
                have HJ := Lib.hid hj
                obtain ⟨_, _, q3, q4⟩ := HIN.out _ (List.getElem_mem hlt)
                clear hj
                generalize s[j] = y at hx HJ q3 q4
                obtain ⟨yp, yo⟩ := y
                simp only [blV] at hx
                simp only at q3 q4
                have HX := Lib.hid hx
                clear hx
                have e1 : (0 : Int) ≤ (j : Int) := by omega
                have e2 : (j : Int) < (s.length : Int) := by omega
                by_cases hne : yp = ev
                · subst hne
                  have HST := Lib.hid (HTA.out.step HIN.out HJ.out)
                  have e3 : (yp != yp) = false := by simp
                  go_wp2_with (first | (go_at_call 133; (with_reducible refine (words133 _ (by omega) (by omega) _).mono ?_); rintro e w' ⟨rfl, rfl⟩; try rw [pw8]) | go_skip | (first | (refine hA0 ?_; clear hp; intro b w1 hp) | refine hL11 ?_ | (refine hS0 ?_; clear hp; intro w1 hp)))
                  go_roundg (gk - 1)
                  case measure => omega
                  case rel => exact ⟨j + 1, _, by omega, congrArg (Value.int .i64) HST.out.2, by go_num, Lib.hid HST.out.1, hp.tail⟩
                · have hr : r = false := HNO.out fun h => HTA.out.fail HJ.out hne (HIFF.out.1 h).1
                  subst hr
                  clear HNO HYES
                  have e3 : (yp != ev) = true := by simpa using hne
                  clear hne
                  go_wp2_with (first | go_skip | (first | (refine hA0 ?_; clear hp; intro b w1 hp) | refine hL11 ?_ | (refine hS0 ?_; clear hp; intro w1 hp)))
                  go_ret
                  exact ⟨rfl, HBW.out.trans (hp.below.mono HBW.out.size)⟩
              · have e2 : decide ((j : Int) < (s.length : Int)) = false := by simp; omega
                have hd := HTA.out.done (by omega)
                have W7 := Lib.hid (chk3_ways HIFF.out hd HNO.out HYES.out)
                have hol' : os.length ≤ 1000 := by omega
                have HLL' : (allLinks os).length ≤ 2000000 := by have := HLL.out; omega
                clear HNO HYES hd HTA HIFF
                rcases W7.out with ⟨d1, d2, r0⟩ | ⟨d1, d2, d3, r0⟩ | ⟨d1, d2, d3, d4, r0⟩ | ⟨d1, d2, d3, d4, r0⟩
                all_goals clear W7
                all_goals simp only at d1 d2
                all_goals try simp only at d3
                all_goals try simp only [tops] at d4
                all_goals
                  subst r0
                  go_wp2_with (first | (go_at_call 140; (with_reducible refine (contains140 os oa oc hol' HSO.out b1 (allLinks os) al kl HLL' _ (Nat.lt_of_lt_of_le HB1.out hp.below.size) ((hp.below.cell (p := ⟨b1, 1, none⟩) HB1.out).trans (HRB.out 1 _ rfl)) (HRO.out.below hp.below) (HRW.out.below hp.below)).mono ?_); rintro e w' ⟨rfl, hb⟩; rw [d3]; replace hp := hp.call hb; clear hb) | (go_at_call 140; (with_reducible refine (lostTops140 os oa oc hol' HSO.out b1 t0 t1 t2 t3 _ (Nat.lt_of_lt_of_le HB1.out hp.below.size) ((hp.below.cell (p := ⟨b1, 1, none⟩) HB1.out).trans (HRB.out 1 _ rfl)) (HRO.out.below hp.below) (HRT.out.below hp.below)).mono ?_); rintro e w' ⟨rfl, hb⟩; rw [d4]; replace hp := hp.call hb; clear hb) | (go_at_call 133; (with_reducible refine (words133 _ (by omega) (by omega) _).mono ?_); rintro e w' ⟨rfl, rfl⟩; try rw [pw8]) | go_skip | (first | (refine hA2 ?_; clear hp; intro b w1 hp) | refine hL12 ?_ | (refine hS0 ?_; clear hp; intro w1 hp)))
                  go_ret
                  exact ⟨rfl, HBW.out.trans (hp.below.mono HBW.out.size)⟩
end Go.Proofs.YtcjbepaclbhjaaaGreat
