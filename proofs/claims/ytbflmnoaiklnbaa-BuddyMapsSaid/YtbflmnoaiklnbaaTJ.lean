/- The walks of queued and rest. -/
import Derived.Test.YtbflmnoaiklnbaaTI
import Derived.Test.YtbflmnoaiklnbaaBSort
import Derived.Test.YtbflmnoaiklnbaaArr
import Derived.Test.YtbflmnoaiklnbaaTKS
set_option linter.unusedSimpArgs false
set_option linter.unusedVariables false
namespace Go.Proofs.Ytbflmnoaiklnbaa
open Go.RowKit Go.Lib Go.Shelf Go.Sort
theorem agg103 : aggB Try.prog 103 1 = true := by kernel_rfl
theorem agg109 : aggB Try.prog 109 1 = true := by kernel_rfl
theorem zero103 : zeroL Try.prog 103 = some ([.pointer none], 1) := by kernel_rfl
theorem enter106 (args : Array Value) (w : World) : (callFunc 106 args).run Try.prog w = .ok (.enter 106 args) w := enters_of Try.func106 (by kernel_rfl) rfl args w
theorem compares106 : Compares 106 := by
  intro x y W
  have hcon := cmp82 x.p y.p
  generalize cmpI x.p y.p = r at hcon ⊢
  go_enter Try.func106, Try.ntmps106
  go_wp2_with (go_at_call 82; (with_reducible refine (hcon _).mono ?_); rintro e w' ⟨rfl, rfl⟩)
  go_ret
  exact ⟨rfl, 0, _, by rw [alloc_eq_grow, alloc_eq_grow, grow_grow]; rfl⟩
def Rested (B : Nat) (w0 : World) (bb : Nat) (v : Value) (l : List Bl) (M : List Blk) (e : Ending) (w' : World) : Prop := ∃ (s : List Bl) (R : List Blk), e = .returned v ∧ OwnRow 44 2 v l.length (s.flatMap blV) R ∧ Hp B w0 w' (⟨bb, [v], 109, 1⟩ :: (R ++ M)) ∧ s.Perm l ∧ s.Pairwise fun x y => x.p ≤ y.p
theorem Srt_in {B : Nat} {w0 w : World} {b9 : Blk} {bb : Nat} {v : Value} {R M : List Blk} (hp : Hp B w0 w (b9 :: ⟨bb, [v], 109, 1⟩ :: (R ++ M))) : Hp B w0 w (R ++ (⟨bb, [v], 109, 1⟩ :: M)) := hp.tail.reorder List.perm_middle.symm
set_option maxRecDepth 100000 in
set_option maxHeartbeats 4000000 in
theorem rest59 {B : Nat} {w0 w : World} {bb : Nat} {v : Value} {l : List Bl} {R M : List Blk} (hp : Hp B w0 w (⟨bb, [v], 109, 1⟩ :: (R ++ M))) (hR : OwnRow 44 2 v l.length (l.flatMap blV) R) (hl : l.length ≤ 5000) :
    Calls Try.prog 59 #[.agg #[.pointer (some ⟨bb, 0, none⟩)]] w (Rested B w0 bb v l M) := by
  have HR := Lib.hid hR
  clear hR
  go_enter Try.func59, Try.ntmps59
  go_wp2_with (first | (go_at_call 80; (with_reducible refine (sorto80 106 enter106 compares106 l HR.out (Srt_in hp) hl).mono ?_); clear hp; rintro e w1 ⟨rfl, s, R', hperm, hsort, hr, hp⟩) | go_skip | ((first | ((with_reducible refine pre_alloc _ rfl ?_); refine lZ hp rfl (by with_reducible first | exact zero44 | exact zero103) ?_; clear hp; intro b w1 hp) | ((with_reducible refine pre_box _ _ rfl ?_); refine lB hp rfl (slot_tmp rfl) rfl ?_; clear hp; intro b w1 hp) | ((with_reducible refine pre_load _ _ rfl ?_); first | refine lO hp rfl (slot_tmp rfl) (by with_reducible first | exact cell3 | exact cell4 | exact cell24 | exact cell101) aa14 ?_ | refine lA hp rfl (slot_tmp rfl) (by with_reducible first | exact agg44 | exact agg103 | exact agg109) aa14 ?_) | ((with_reducible refine pre_store _ _ _ rfl ?_); (first | refine sO hp rfl (slot_tmp rfl) (by with_reducible first | exact cell3 | exact cell4 | exact cell24 | exact cell101) aa14 ?_ | refine sA hp rfl (slot_tmp rfl) (slot_tmp rfl) (by with_reducible first | exact agg44 | exact agg103 | exact agg109) aa14 ?_ | refine sG hp rfl (slot_tmp rfl) (slot_tmp rfl) (by with_reducible first | exact agg44 | exact agg103 | exact agg109) aa14 ?_); clear hp; intro w1 hp; simp only [spl, List.set_cons_zero, List.set_cons_succ] at hp) | ((with_reducible refine pre_build _ _ _ rfl ?_); refine lS hp rfl (by intro w; go_simp; rfl) ?_; clear hp; intro b w1 hp; simp only [List.length_cons, List.length_nil, Nat.reduceAdd] at hp)); simp only [put_some, put_none, List.set_cons_succ, List.set_cons_zero]))
  go_ret
  exact ⟨s, R', rfl, hr, hp.reorder List.perm_middle, hperm, hsort⟩
theorem Keeps.three {B : Nat} {w0 w : World} {L : List Blk} (h : Hp B w0 w L) {i j k : Nat} {p q r : Blk} (hi : L[i]? = some p) (hj : L[j]? = some q) (hk : L[k]? = some r) : Keeps B w0 [p, q, r] w := ⟨L, h, fun s hs => by
  rcases List.mem_cons.1 hs with rfl | hs
  · exact Hp.mem hi
  · rcases List.mem_cons.1 hs with rfl | hs
    · exact Hp.mem hj
    · rw [List.mem_singleton.1 hs]; exact Hp.mem hk⟩
def Queued (w : World) (want : Int) (fs : List Bl) (e : Ending) (w' : World) : Prop := ∃ bb g cap l' vs RS, e = .returned (.tuple #[.agg #[.pointer (some ⟨bb, 0, none⟩)], vs]) ∧ OwnRow 44 2 vs (smalls want fs).length ((smalls want fs).flatMap blV) RS ∧
  QHp w.heap.size w w' bb g cap l' RS ∧ l'.Perm (greats want fs) ∧ HeapF l' l'.length 0 ∧ l'.length ≤ cap ∧ cap ≤ maxLen
theorem Q_in {B : Nat} {w0 w : World} {b6 b4 : Blk} {bb g cap : Nat} {l : List Bl} {RS : List Blk} (hp : Hp B w0 w (b6 :: ⟨bb, [.slice (some ⟨g, 0, none⟩) l.length cap], 109, 1⟩ :: b4 :: ([⟨g, l.flatMap blV, 44, cap * 2⟩] ++ RS))) : QHp B w0 w bb g cap l (b6 :: b4 :: RS) := by
  unfold QHp
  refine hp.reorder ?_
  refine (List.Perm.swap _ _ _).trans (List.Perm.cons _ ?_)
  exact (List.Perm.cons _ (List.Perm.swap _ _ _)).trans (List.Perm.swap _ _ _)
theorem Q_out {B : Nat} {w0 w : World} {b6 b4 : Blk} {bb g cap : Nat} {l : List Bl} {RS : List Blk} (hp : QHp B w0 w bb g cap l (b6 :: b4 :: RS)) : Hp B w0 w (b6 :: b4 :: ⟨bb, [.slice (some ⟨g, 0, none⟩) l.length cap], 109, 1⟩ :: ⟨g, l.flatMap blV, 44, cap * 2⟩ :: RS) := by
  unfold QHp at hp
  refine hp.reorder ?_
  refine ((List.Perm.cons _ (List.Perm.swap _ _ _)).trans (List.Perm.swap _ _ _)).trans (List.Perm.cons _ ?_)
  exact (List.Perm.cons _ (List.Perm.swap _ _ _)).trans (List.Perm.swap _ _ _)
set_option maxRecDepth 100000 in
set_option maxHeartbeats 4000000 in
theorem queued56 (fs : List Bl) (a : Option Addr) (c : Nat) (hl : fs.length ≤ 1000) (want : Int) (hsome : 0 < (greats want fs).length) (w : World) (ha : RowIs w a (fs.flatMap blV)) :
    Calls Try.prog 56 #[.slice a fs.length c, .int .i64 want] w (Queued w want fs) := by
  obtain ⟨i0, hi0, hz0, hz1, hz2⟩ := info_parts info44
  have hp := Hp.start w
  have HA := Lib.hid ha
  clear ha
  go_enter Try.func56, Try.ntmps56
  go_wp2_with (first | go_skip | ((first | ((with_reducible refine pre_alloc _ rfl ?_); refine lZ hp rfl (by with_reducible first | exact zero44 | exact zero103) ?_; clear hp; intro b w1 hp) | ((with_reducible refine pre_box _ _ rfl ?_); refine lB hp rfl (slot_tmp rfl) rfl ?_; clear hp; intro b w1 hp) | ((with_reducible refine pre_load _ _ rfl ?_); first | refine lO hp rfl (slot_tmp rfl) (by with_reducible first | exact cell3 | exact cell4 | exact cell24 | exact cell101) aa14 ?_ | refine lA hp rfl (slot_tmp rfl) (by with_reducible first | exact agg44 | exact agg103 | exact agg109) aa14 ?_) | ((with_reducible refine pre_store _ _ _ rfl ?_); (first | refine sO hp rfl (slot_tmp rfl) (by with_reducible first | exact cell3 | exact cell4 | exact cell24 | exact cell101) aa14 ?_ | refine sA hp rfl (slot_tmp rfl) (slot_tmp rfl) (by with_reducible first | exact agg44 | exact agg103 | exact agg109) aa14 ?_ | refine sG hp rfl (slot_tmp rfl) (slot_tmp rfl) (by with_reducible first | exact agg44 | exact agg103 | exact agg109) aa14 ?_); clear hp; intro w1 hp; simp only [spl, List.set_cons_zero, List.set_cons_succ] at hp) | ((with_reducible refine pre_build _ _ _ rfl ?_); refine lS hp rfl (by intro w; go_simp; rfl) ?_; clear hp; intro b w1 hp; simp only [List.length_cons, List.length_nil, Nat.reduceAdd] at hp)); simp only [put_some, put_none, List.set_cons_succ, List.set_cons_zero]))
  obtain ⟨b6, rfl⟩ := hp.id0
  obtain ⟨b5, rfl⟩ := hp.id1
  obtain ⟨bb, rfl⟩ := hp.id2
  obtain ⟨b4, rfl⟩ := hp.id3
  go_loopg [7, 16] fs.length (fun k vs i wr => ∃ (j : Nat) (vq : Value) (RQ RS : List Blk), k + j = fs.length ∧ i = .int .i64 j ∧ RowKit.Hid (OwnRow 44 2 vq (greats want (fs.take j)).length ((greats want (fs.take j)).flatMap blV) RQ) ∧ RowKit.Hid (OwnRow 44 2 vs (smalls want (fs.take j)).length ((smalls want (fs.take j)).flatMap blV) RS) ∧
    Hp w.heap.size w wr (⟨b6, [.pointer (some ⟨bb, 0, none⟩)], 103, 1⟩ :: ⟨bb, [vq], 109, 1⟩ :: ⟨b4, [.pointer none], 103, 1⟩ :: (RQ ++ RS)))
  case atStart =>
    refine ⟨0, _, [], [⟨b5, [], 44, 0⟩], by omega, rfl, Lib.hid (OwnRow.nil _ _), Lib.hid ⟨rfl, .inr ⟨b5, 0, rfl, Nat.le_refl _, Nat.zero_le _, rfl⟩⟩, ?_⟩
    exact hp.reorder (List.Perm.cons _ ((List.Perm.swap _ _ _).trans (List.Perm.cons _ (List.Perm.swap _ _ _))))
  case round =>
    clear hp
    obtain ⟨j, vq, RQ, RS, hkj, rfl, HRQ, HRS, hp⟩ := hrel
    by_cases hlt : j < fs.length
    · obtain ⟨bq, off, rfl, hx⟩ := HA.out.elems 2 blV_len (by omega) (by omega)
      have hj := List.getElem?_eq_getElem hlt
      replace hx := hx j _ hj
      have HJ := Lib.hid hj
      clear hj
      generalize fs[j] = y at hx HJ
      have gl : (greats want (fs.take j)).length ≤ fs.length := Nat.le_trans (List.length_filter_le _ _) (by rw [List.length_take]; omega)
      have sl : (smalls want (fs.take j)).length ≤ fs.length := Nat.le_trans (List.length_filter_le _ _) (by rw [List.length_take]; omega)
      have sm1 : (greats want (fs.take j)).length + 1 ≤ maxLen := by unfold maxLen; omega
      have sm2 : ((greats want (fs.take j)).length + 1) * 16 ≤ 140737488355328 := by omega
      have sm3 : (smalls want (fs.take j)).length + 1 ≤ maxLen := by unfold maxLen; omega
      have sm4 : ((smalls want (fs.take j)).length + 1) * 16 ≤ 140737488355328 := by omega
      clear gl sl
      by_cases hw : want ≤ y.o
      · have HG := Lib.hid (greats_snoc HJ.out hw)
        obtain ⟨yp, yo⟩ := y
        simp only [blV] at hx
        have HX := Lib.hid hx
        have e1 : (0 : Int) ≤ (j : Int) := by omega
        have e2 : (j : Int) < (fs.length : Int) := by omega
        have e3 : decide (want ≤ yo) = true := decide_eq_true hw
        clear hx hw
        go_wp2_with (first | go_skip | ((first | ((with_reducible refine pre_alloc _ rfl ?_); refine lZ hp rfl (by with_reducible first | exact zero44 | exact zero103) ?_; clear hp; intro b w1 hp) | ((with_reducible refine pre_box _ _ rfl ?_); refine lB hp rfl (slot_tmp rfl) rfl ?_; clear hp; intro b w1 hp) | ((with_reducible refine pre_load _ _ rfl ?_); first | refine lO hp rfl (slot_tmp rfl) (by with_reducible first | exact cell3 | exact cell4 | exact cell24 | exact cell101) aa14 ?_ | refine lA hp rfl (slot_tmp rfl) (by with_reducible first | exact agg44 | exact agg103 | exact agg109) aa14 ?_ | refine lR hp rfl (slot_tmp rfl) (by with_reducible first | exact agg44 | exact agg103 | exact agg109) HX.out ?_) | ((with_reducible refine pre_store _ _ _ rfl ?_); (first | refine sO hp rfl (slot_tmp rfl) (by with_reducible first | exact cell3 | exact cell4 | exact cell24 | exact cell101) aa14 ?_ | refine sA hp rfl (slot_tmp rfl) (slot_tmp rfl) (by with_reducible first | exact agg44 | exact agg103 | exact agg109) aa14 ?_ | refine sG hp rfl (slot_tmp rfl) (slot_tmp rfl) (by with_reducible first | exact agg44 | exact agg103 | exact agg109) aa14 ?_); clear hp; intro w1 hp; simp only [spl, List.set_cons_zero, List.set_cons_succ] at hp) | ((with_reducible refine pre_build _ _ _ rfl ?_); refine lS hp rfl (by intro w; go_simp; rfl) ?_; clear hp; intro b w1 hp; simp only [List.length_cons, List.length_nil, Nat.reduceAdd] at hp)); simp only [put_some, put_none, List.set_cons_succ, List.set_cons_zero]))
        refine wp_region_keeps [_, _, _] (Keeps.three hp.drew at0 at1 at2) [12] [(0, true), (1, true), (2, true), (3, true), (4, true), (5, true), (6, true), (7, true), (8, false), (9, false), (10, true), (11, true), (12, false)] (by kernel_rfl) (by kernel_rfl) rfl (by kernel_rfl) (fun _ _ d _ _ h => by cases d <;> exact h) ?_
        replace hp := hp.drew
        (refine plan_take rfl wy (fun w _ => (by go_simp; try rfl)) ?_)
        try simp only [put_some, put_none, eval_tmp, eval_const, List.set_cons_succ, List.set_cons_zero, List.getD_cons_succ, List.getD_cons_zero, wrap_eq]
        (first | (refine pO rfl rfl (slot_tmp rfl) cell101 aa5 ?_))
        try simp only [put_some, put_none, eval_tmp, eval_const, List.set_cons_succ, List.set_cons_zero, List.getD_cons_succ, List.getD_cons_zero, wrap_eq]
        (refine plan_take rfl wy (fun w _ => (by go_simp; try rfl)) ?_)
        try simp only [put_some, put_none, eval_tmp, eval_const, List.set_cons_succ, List.set_cons_zero, List.getD_cons_succ, List.getD_cons_zero, wrap_eq]
        (first | (refine pO rfl rfl (slot_tmp rfl) cell101 aa5 ?_))
        try simp only [put_some, put_none, eval_tmp, eval_const, List.set_cons_succ, List.set_cons_zero, List.getD_cons_succ, List.getD_cons_zero, wrap_eq]
        (refine plan_take rfl wy (fun w _ => (by go_simp; try rfl)) ?_)
        try simp only [put_some, put_none, eval_tmp, eval_const, List.set_cons_succ, List.set_cons_zero, List.getD_cons_succ, List.getD_cons_zero, wrap_eq]
        (refine plan_take rfl wy (fun w _ => (by go_simp; try rfl)) ?_)
        try simp only [put_some, put_none, eval_tmp, eval_const, List.set_cons_succ, List.set_cons_zero, List.getD_cons_succ, List.getD_cons_zero, wrap_eq]
        (first | (refine pO rfl rfl (slot_tmp rfl) cell24 aa5 ?_))
        try simp only [put_some, put_none, eval_tmp, eval_const, List.set_cons_succ, List.set_cons_zero, List.getD_cons_succ, List.getD_cons_zero, wrap_eq]
        (first | (refine pA rfl rfl (slot_tmp rfl) agg44 aa5 ?_))
        try simp only [put_some, put_none, eval_tmp, eval_const, List.set_cons_succ, List.set_cons_zero, List.getD_cons_succ, List.getD_cons_zero, wrap_eq]
        refine plan_do rfl (fun K hK => ?_)
        go_wp2_with (first | ((with_reducible refine pre_append _ _ 24 rfl ?_); refine wpList_appendGrow (K := [_, _, _, _]) (R := RQ) (M := RS) hp _ _ _ rfl wy i0 _ 16 Try.underlying24 hi0 hz0 hz1 hz2 rfl (by decide) (slot_tmp rfl) HRQ.out 1 1 (slot_tmp rfl) (by rfl) (by decide) (by rfl) sm1 sm2 ?_; clear hp HRQ; intro v' R' w1 hr hp; have HRQ := Lib.hid hr; obtain ⟨g', cap', rfl, hc1, hc2, rfl⟩ := hr.cons; simp only [List.cons_append, List.nil_append] at hp; simp only [put_some, put_none, List.set_cons_succ, List.set_cons_zero]) | go_skip | ((first | ((with_reducible refine pre_alloc _ rfl ?_); refine lZ hp rfl (by with_reducible first | exact zero44 | exact zero103) ?_; clear hp; intro b w1 hp) | ((with_reducible refine pre_box _ _ rfl ?_); refine lB hp rfl (slot_tmp rfl) rfl ?_; clear hp; intro b w1 hp) | ((with_reducible refine pre_load _ _ rfl ?_); first | refine lO hp rfl (slot_tmp rfl) (by with_reducible first | exact cell3 | exact cell4 | exact cell24 | exact cell101) aa14 ?_ | refine lA hp rfl (slot_tmp rfl) (by with_reducible first | exact agg44 | exact agg103 | exact agg109) aa14 ?_ | refine lR hp rfl (slot_tmp rfl) (by with_reducible first | exact agg44 | exact agg103 | exact agg109) HX.out ?_) | ((with_reducible refine pre_store _ _ _ rfl ?_); (first | refine sO hp rfl (slot_tmp rfl) (by with_reducible first | exact cell3 | exact cell4 | exact cell24 | exact cell101) aa14 ?_ | refine sA hp rfl (slot_tmp rfl) (slot_tmp rfl) (by with_reducible first | exact agg44 | exact agg103 | exact agg109) aa14 ?_ | refine sG hp rfl (slot_tmp rfl) (slot_tmp rfl) (by with_reducible first | exact agg44 | exact agg103 | exact agg109) aa14 ?_); clear hp; intro w1 hp; simp only [spl, List.set_cons_zero, List.set_cons_succ] at hp) | ((with_reducible refine pre_build _ _ _ rfl ?_); refine lS hp rfl (by intro w; go_simp; rfl) ?_; clear hp; intro b w1 hp; simp only [List.length_cons, List.length_nil, Nat.reduceAdd] at hp)); simp only [put_some, put_none, List.set_cons_succ, List.set_cons_zero]))
        refine hK.out _ _ (.inr (Keeps.three hp aa5 aa5 aa5)) ?_
        clear hK K
        try simp only [put_some, put_none, eval_tmp, eval_const, List.set_cons_succ, List.set_cons_zero, List.getD_cons_succ, List.getD_cons_zero, wrap_eq]
        refine plan_do rfl (fun K hK => ?_)
        go_wp2_with (first | go_skip | ((with_reducible refine pre_append _ _ 24 rfl ?_); refine wpList_appendGrow (K := [_, _, _, _]) (R := RQ) (M := RS) hp _ _ _ rfl wy i0 _ 16 Try.underlying24 hi0 hz0 hz1 hz2 rfl (by decide) (slot_tmp rfl) HRQ.out 1 1 (slot_tmp rfl) (by rfl) (by decide) (by rfl) sm1 sm2 ?_; clear hp HRQ; intro v' R' w1 hr hp; have HRQ := Lib.hid hr; obtain ⟨g', cap', rfl, hc1, hc2, rfl⟩ := hr.cons; simp only [List.cons_append, List.nil_append] at hp; simp only [put_some, put_none, List.set_cons_succ, List.set_cons_zero]))
        refine hK.out _ _ (.inr (Keeps.three hp aa5 aa5 aa5)) ?_
        clear hK K
        try simp only [put_some, put_none, eval_tmp, eval_const, List.set_cons_succ, List.set_cons_zero, List.getD_cons_succ, List.getD_cons_zero, wrap_eq]
        (refine plan_take rfl wy (fun w _ => (by go_simp; try rfl)) ?_)
        try simp only [put_some, put_none, eval_tmp, eval_const, List.set_cons_succ, List.set_cons_zero, List.getD_cons_succ, List.getD_cons_zero, wrap_eq]
        (refine plan_take rfl wy (fun w _ => (by go_simp; try rfl)) ?_)
        try simp only [put_some, put_none, eval_tmp, eval_const, List.set_cons_succ, List.set_cons_zero, List.getD_cons_succ, List.getD_cons_zero, wrap_eq]
        refine plan_do rfl (fun K hK => ?_)
        go_wp2_with (first | ((with_reducible refine pre_append _ _ 24 rfl ?_); refine wpList_appendGrow (K := [_, _, _, _]) (R := RQ) (M := RS) hp _ _ _ rfl wy i0 _ 16 Try.underlying24 hi0 hz0 hz1 hz2 rfl (by decide) (slot_tmp rfl) HRQ.out 1 1 (slot_tmp rfl) (by rfl) (by decide) (by rfl) sm1 sm2 ?_; clear hp HRQ; intro v' R' w1 hr hp; have HRQ := Lib.hid hr; obtain ⟨g', cap', rfl, hc1, hc2, rfl⟩ := hr.cons; simp only [List.cons_append, List.nil_append] at hp; simp only [put_some, put_none, List.set_cons_succ, List.set_cons_zero]) | go_skip | ((first | ((with_reducible refine pre_alloc _ rfl ?_); refine lZ hp rfl (by with_reducible first | exact zero44 | exact zero103) ?_; clear hp; intro b w1 hp) | ((with_reducible refine pre_box _ _ rfl ?_); refine lB hp rfl (slot_tmp rfl) rfl ?_; clear hp; intro b w1 hp) | ((with_reducible refine pre_load _ _ rfl ?_); first | refine lO hp rfl (slot_tmp rfl) (by with_reducible first | exact cell3 | exact cell4 | exact cell24 | exact cell101) aa14 ?_ | refine lA hp rfl (slot_tmp rfl) (by with_reducible first | exact agg44 | exact agg103 | exact agg109) aa14 ?_ | refine lR hp rfl (slot_tmp rfl) (by with_reducible first | exact agg44 | exact agg103 | exact agg109) HX.out ?_) | ((with_reducible refine pre_store _ _ _ rfl ?_); (first | refine sO hp rfl (slot_tmp rfl) (by with_reducible first | exact cell3 | exact cell4 | exact cell24 | exact cell101) aa14 ?_ | refine sA hp rfl (slot_tmp rfl) (slot_tmp rfl) (by with_reducible first | exact agg44 | exact agg103 | exact agg109) aa14 ?_ | refine sG hp rfl (slot_tmp rfl) (slot_tmp rfl) (by with_reducible first | exact agg44 | exact agg103 | exact agg109) aa14 ?_); clear hp; intro w1 hp; simp only [spl, List.set_cons_zero, List.set_cons_succ] at hp) | ((with_reducible refine pre_build _ _ _ rfl ?_); refine lS hp rfl (by intro w; go_simp; rfl) ?_; clear hp; intro b w1 hp; simp only [List.length_cons, List.length_nil, Nat.reduceAdd] at hp)); simp only [put_some, put_none, List.set_cons_succ, List.set_cons_zero]))
        refine hK.out _ _ (.inl rfl) ?_
        clear hK K
        try simp only [put_some, put_none, eval_tmp, eval_const, List.set_cons_succ, List.set_cons_zero, List.getD_cons_succ, List.getD_cons_zero, wrap_eq]
        refine plan_nil ?_
        go_wp2_with fail
        go_roundg (gk - 1)
        case measure => omega
        case rel => exact ⟨j + 1, _, _, RS, by omega, by go_num, Lib.hid (by rw [HG.out.1, List.length_append, List.flatMap_append]; exact HRQ.out), Lib.hid (by rw [HG.out.2]; exact HRS.out), hp.tail⟩
      · have HG := Lib.hid (smalls_snoc HJ.out hw)
        obtain ⟨yp, yo⟩ := y
        simp only [blV] at hx
        have HX := Lib.hid hx
        have e1 : (0 : Int) ≤ (j : Int) := by omega
        have e2 : (j : Int) < (fs.length : Int) := by omega
        have e3 : decide (want ≤ yo) = false := decide_eq_false hw
        clear hx hw
        go_wp2_with (first | ((with_reducible refine pre_append _ _ 24 rfl ?_); refine wpList_appendGrow (K := [_, _, _, _]) (R := RS) (M := RQ) (hp.reorder (List.Perm.cons _ (List.Perm.cons _ (List.Perm.cons _ (List.Perm.cons _ (List.Perm.cons _ List.perm_append_comm)))))) _ _ _ rfl wy i0 _ 16 Try.underlying24 hi0 hz0 hz1 hz2 rfl (by decide) (slot_tmp rfl) HRS.out 1 1 (slot_tmp rfl) (by rfl) (by decide) (by rfl) sm3 sm4 ?_; clear hp HRS; intro v' R' w1 hr hp; have HRS := Lib.hid hr; clear hr; simp only [List.cons_append, List.nil_append] at hp; simp only [put_some, put_none, List.set_cons_succ, List.set_cons_zero]) | go_skip | ((first | ((with_reducible refine pre_alloc _ rfl ?_); refine lZ hp rfl (by with_reducible first | exact zero44 | exact zero103) ?_; clear hp; intro b w1 hp) | ((with_reducible refine pre_box _ _ rfl ?_); refine lB hp rfl (slot_tmp rfl) rfl ?_; clear hp; intro b w1 hp) | ((with_reducible refine pre_load _ _ rfl ?_); first | refine lO hp rfl (slot_tmp rfl) (by with_reducible first | exact cell3 | exact cell4 | exact cell24 | exact cell101) aa14 ?_ | refine lA hp rfl (slot_tmp rfl) (by with_reducible first | exact agg44 | exact agg103 | exact agg109) aa14 ?_ | refine lR hp rfl (slot_tmp rfl) (by with_reducible first | exact agg44 | exact agg103 | exact agg109) HX.out ?_) | ((with_reducible refine pre_store _ _ _ rfl ?_); (first | refine sO hp rfl (slot_tmp rfl) (by with_reducible first | exact cell3 | exact cell4 | exact cell24 | exact cell101) aa14 ?_ | refine sA hp rfl (slot_tmp rfl) (slot_tmp rfl) (by with_reducible first | exact agg44 | exact agg103 | exact agg109) aa14 ?_ | refine sG hp rfl (slot_tmp rfl) (slot_tmp rfl) (by with_reducible first | exact agg44 | exact agg103 | exact agg109) aa14 ?_); clear hp; intro w1 hp; simp only [spl, List.set_cons_zero, List.set_cons_succ] at hp) | ((with_reducible refine pre_build _ _ _ rfl ?_); refine lS hp rfl (by intro w; go_simp; rfl) ?_; clear hp; intro b w1 hp; simp only [List.length_cons, List.length_nil, Nat.reduceAdd] at hp)); simp only [put_some, put_none, List.set_cons_succ, List.set_cons_zero]))
        go_roundg (gk - 1)
        case measure => omega
        case rel => exact ⟨j + 1, vq, RQ, _, by omega, by go_num, Lib.hid (by rw [HG.out.2]; exact HRQ.out), Lib.hid (by rw [HG.out.1, List.length_append, List.flatMap_append]; exact HRS.out), (hp.tail).reorder (List.Perm.cons _ (List.Perm.cons _ (List.Perm.cons _ List.perm_append_comm)))⟩
    · have e2 : decide ((j : Int) < (fs.length : Int)) = false := by simp; omega
      rw [List.take_of_length_le (by omega)] at HRQ HRS
      obtain ⟨n, hn⟩ : ∃ n, (greats want fs).length = n + 1 := ⟨(greats want fs).length - 1, by omega⟩
      have hrq := HRQ.out
      rw [hn] at hrq
      obtain ⟨g', cap', rfl, hc1, hc2, rfl⟩ := hrq.cons
      rw [← hn] at hp hc1
      have HC := Lib.hid (And.intro hc1 hc2)
      have HLQ : RowKit.Hid ((greats want fs).length ≤ 2000) := Lib.hid (Nat.le_trans (List.length_filter_le _ _) (by omega))
      clear hrq hc1 hc2 hn hsome
      go_wp2_with (first | (go_at_call 103; (with_reducible refine (init103 (Q_in hp) HLQ.out).mono ?_); clear hp; rintro e w1 ⟨rfl, l2, hq, hperm2, hheap⟩; have hp := Q_out hq; clear hq) | go_skip | ((first | ((with_reducible refine pre_alloc _ rfl ?_); refine lZ hp rfl (by with_reducible first | exact zero44 | exact zero103) ?_; clear hp; intro b w1 hp) | ((with_reducible refine pre_box _ _ rfl ?_); refine lB hp rfl (slot_tmp rfl) rfl ?_; clear hp; intro b w1 hp) | ((with_reducible refine pre_load _ _ rfl ?_); first | refine lO hp rfl (slot_tmp rfl) (by with_reducible first | exact cell3 | exact cell4 | exact cell24 | exact cell101) aa14 ?_ | refine lA hp rfl (slot_tmp rfl) (by with_reducible first | exact agg44 | exact agg103 | exact agg109) aa14 ?_) | ((with_reducible refine pre_store _ _ _ rfl ?_); (first | refine sO hp rfl (slot_tmp rfl) (by with_reducible first | exact cell3 | exact cell4 | exact cell24 | exact cell101) aa14 ?_ | refine sA hp rfl (slot_tmp rfl) (slot_tmp rfl) (by with_reducible first | exact agg44 | exact agg103 | exact agg109) aa14 ?_ | refine sG hp rfl (slot_tmp rfl) (slot_tmp rfl) (by with_reducible first | exact agg44 | exact agg103 | exact agg109) aa14 ?_); clear hp; intro w1 hp; simp only [spl, List.set_cons_zero, List.set_cons_succ] at hp) | ((with_reducible refine pre_build _ _ _ rfl ?_); refine lS hp rfl (by intro w; go_simp; rfl) ?_; clear hp; intro b w1 hp; simp only [List.length_cons, List.length_nil, Nat.reduceAdd] at hp)); simp only [put_some, put_none, List.set_cons_succ, List.set_cons_zero]))
      exact bodyPost_ret (results_many (rs := [.cell 4 103, .tmp 5]) Try.results56 (.cell rfl (hp.loadAgg agg103 at1 0 _ (by rfl) (by rfl)) (.tmp rfl .nil))) rfl
        ⟨bb, g', cap', l2, _, RS, rfl, HRS.out, hp.tail.tail, hperm2, hheap, by rw [hperm2.length_eq]; exact HC.out.1, HC.out.2⟩
end Go.Proofs.Ytbflmnoaiklnbaa
