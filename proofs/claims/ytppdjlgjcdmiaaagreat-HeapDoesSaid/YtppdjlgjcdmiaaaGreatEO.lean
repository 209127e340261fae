/- The walk of the document's Own of heaps: what it makes stands in blocks of its own. -/
import Derived.Test.YtppdjlgjcdmiaaaGreatKRefA
import Derived.Test.YtppdjlgjcdmiaaaGreatDO
set_option linter.unusedSimpArgs false
set_option linter.unusedVariables false
namespace Go.Proofs.YtppdjlgjcdmiaaaGreat
open Go.RowKit
theorem ceEO0 {ty : TypeId} (h : cellB Tryz.prog ty = true := by with_reducible first | exact cell3 | exact cell4 | exact cell65 | exact cell22 | exact cell24) : cellB Tryz.prog ty = true := h
def OwnPostO (w : World) (x : Hv) (e : Ending) (w' : World) : Prop := ∃ y RO RF M, e = .returned (.agg (hvL y).toArray) ∧ x.Sm y ∧ HvR y RO RF M ∧ Hp w.heap.size w w' (RO ++ (RF ++ M))
def OwnRelO (w : World) (b1 b2 : Nat) (l1 l2 : List Value) (os : List Ob) (q : Nat) (v : Value) (wr : World) : Prop :=
  ∃ (ys : List Ob) (R M : List Blk), RowKit.Hid (ys.length = q) ∧ RowKit.Hid (∀ (i : Nat) a b, os[i]? = some a → ys[i]? = some b → a.Sm b) ∧ RowKit.Hid (OwnRow 67 5 v q (ys.flatMap obV) R) ∧ RowKit.Hid (ObsR ys M) ∧
    Hp w.heap.size w wr (⟨b2, l2, 26, 8⟩ :: ⟨b1, l1, 26, 8⟩ :: (R ++ M))
set_option maxRecDepth 100000 in
set_option maxHeartbeats 8000000 in
theorem owno9 (x : Hv) (hs : x.Small) (w : World) (hx0 : x.Is w) : Calls Tryz.prog 9 #[.agg (hvL x).toArray] w (OwnPostO w x) := by
  obtain ⟨i0, hi0, hz0, hz1, hz2⟩ := info_parts info67
  obtain ⟨i1, hi1, hy0, hy1, hy2⟩ := info_parts info3
  obtain ⟨od, oa, os, oc, nx, t0, t1, t2, t3, fa, fs, fc⟩ := x
  obtain ⟨⟨hol, hosm⟩, hfl⟩ := hs
  obtain ⟨ho, hoo, hf⟩ := hx0
  simp only at hol hosm hfl ho hoo hf
  simp only [hvL]
  have hp := Hp.start w
  have HO := Lib.hid ho
  have HOO := Lib.hid hoo
  have HOS := Lib.hid hosm
  have HF := Lib.hid hf
  have HFL : RowKit.Hid (fs.length ≤ 2000) := Lib.hid (by omega)
  clear ho hoo hosm hf
  go_enter Tryz.func9, Tryz.ntmps9
  go_wp2_with (first | go_skip | ((first | ((with_reducible refine pre_alloc _ rfl ?_); refine lZ hp rfl (by with_reducible first | exact zero26 | exact zero67) ?_; clear hp; intro b w1 hp) | ((with_reducible refine pre_box _ _ rfl ?_); refine lB hp rfl (slot_tmp rfl) rfl ?_; clear hp; intro b w1 hp) | ((with_reducible refine pre_load _ _ rfl ?_); first | refine lO hp rfl (slot_tmp rfl) ceEO0 aa14 ?_ | refine lA hp rfl (slot_tmp rfl) (by with_reducible first | exact agg26 | exact agg67) aa14 ?_ | refine lR hp rfl (slot_tmp rfl) (by with_reducible first | exact agg26 | exact agg67) HX.out ?_) | ((with_reducible refine pre_store _ _ _ rfl ?_); (first | refine sO hp rfl (slot_tmp rfl) ceEO0 aa14 ?_ | refine sA hp rfl (slot_tmp rfl) (slot_tmp rfl) (by with_reducible first | exact agg26 | exact agg67) aa14 ?_ | refine sG hp rfl (slot_tmp rfl) (slot_tmp rfl) (by with_reducible first | exact agg26 | exact agg67) aa14 ?_); clear hp; intro w1 hp; simp only [spl, List.set_cons_zero, List.set_cons_succ] at hp) | ((with_reducible refine pre_build _ _ _ rfl ?_); refine lS hp rfl (by intro w; go_simp; rfl) ?_; clear hp; intro b w1 hp; simp only [List.length_cons, List.length_nil, Nat.reduceAdd] at hp)); simp only [put_some, put_none, List.set_cons_succ, List.set_cons_zero]))
  rename_i b1 _ _ _
  go_loopg [3, 4] os.length (fun k v i wr => ∃ q : Nat, k + q = os.length ∧ i = .int .i64 q ∧ OwnRelO w b1 b [.int .i64 od, .slice oa os.length oc, .int .i64 nx, .int .i64 t0, .int .i64 t1, .int .i64 t2, .int .i64 t3, .slice fa fs.length fc] [.int .i64 0, .slice none 0 0, .int .i64 0, .int .i64 0, .int .i64 0, .int .i64 0, .int .i64 0, .slice none 0 0] os q v wr)
  case atStart =>
    exact ⟨0, by omega, rfl, [], [], [], Lib.hid rfl, Lib.hid (fun i a b _ h => by simp at h), Lib.hid (OwnRow.nil _ _), Lib.hid .nil, hp⟩
  case round =>
    clear hp
    obtain ⟨q, hkq, rfl, ys, R, M, HYL, HYS, HR, HM, hp⟩ := hrel
    by_cases hlt : q < os.length
    · obtain ⟨bq, off, rfl, hx⟩ := HO.out.elems 5 obV_len (by omega) (by omega)
      have hj := List.getElem?_eq_getElem hlt
      replace hx := hx q _ hj
      have hmem := List.getElem_mem hlt
      obtain ⟨hw1, hw2⟩ := HOO.out _ hmem
      obtain ⟨hw3, hw4⟩ := HOS.out _ hmem
      have HJ := Lib.hid hj
      clear hj hmem
      generalize os[q] = x at hx hw1 hw2 hw3 hw4 HJ
      obtain ⟨xh, xp, xo, wa, ws, wc, la, ls, lc⟩ := x
      simp only [obV] at hx hw1 hw2 hw3 hw4
      have HX := Lib.hid hx
      have HW := Lib.hid hw1
      have HLK := Lib.hid hw2
      clear hx hw1 hw2
      have e1 : (0 : Int) ≤ (q : Int) := by omega
      have e2 : (q : Int) < (os.length : Int) := by omega
      have sm1 : ws.length ≤ maxLen := by unfold maxLen; omega
      have sm2 : ws.length * 8 ≤ 140737488355328 := by omega
      have sm3 : ls.length ≤ maxLen := by unfold maxLen; omega
      have sm4 : ls.length * 8 ≤ 140737488355328 := by omega
      have sm5 : q + 1 ≤ maxLen := by unfold maxLen; omega
      have sm6 : (q + 1) * 72 ≤ 140737488355328 := by omega
      go_wp2_with (first | ((with_reducible refine pre_append _ _ 65 rfl ?_); refine wpList_appendRowK hp _ _ _ rfl wy 3 i1 _ 1 8 Tryz.underlying65 hi1 hy0 hy1 hy2 rfl (by decide) (slot_tmp rfl) wa ws.length wc (slot_tmp rfl) _ (by rw [flat_len iV 1 iV_len]) (HW.out.below hp.below) (ints_one ws) sm1 sm2 ?_; clear hp; intro a1 c1 R1 w1 _ hr1 hp; have HR1 := Lib.hid hr1; clear hr1; simp only [List.cons_append, List.append_assoc] at hp; simp only [put_some, put_none, List.set_cons_succ, List.set_cons_zero]) | ((with_reducible refine pre_append _ _ 65 rfl ?_); refine wpList_appendRowK hp _ _ _ rfl wy 3 i1 _ 1 8 Tryz.underlying65 hi1 hy0 hy1 hy2 rfl (by decide) (slot_tmp rfl) la ls.length lc (slot_tmp rfl) _ (by rw [flat_len iV 1 iV_len]) (HLK.out.below hp.below) (ints_one ls) sm3 sm4 ?_; clear hp; intro a2 c2 R2 w1 _ hr2 hp; have HR2 := Lib.hid hr2; clear hr2; simp only [List.cons_append, List.append_assoc] at hp; simp only [put_some, put_none, List.set_cons_succ, List.set_cons_zero]) | ((with_reducible refine pre_append _ _ 22 rfl ?_); refine wpList_appendGrow (K := [_, _, _]) hp _ _ _ rfl wy i0 _ 72 Tryz.underlying22 hi0 hz0 hz1 hz2 rfl (by decide) (slot_tmp rfl) HR.out 1 1 (slot_tmp rfl) (by rfl) (by decide) (by rfl) sm5 sm6 ?_; clear hp HR; intro v' R' w1 hR' hp; have HR' := Lib.hid hR'; clear hR'; simp only [List.cons_append, List.nil_append] at hp; simp only [put_some, put_none, List.set_cons_succ, List.set_cons_zero]) | go_skip | ((first | ((with_reducible refine pre_alloc _ rfl ?_); refine lZ hp rfl (by with_reducible first | exact zero26 | exact zero67) ?_; clear hp; intro b w1 hp) | ((with_reducible refine pre_box _ _ rfl ?_); refine lB hp rfl (slot_tmp rfl) rfl ?_; clear hp; intro b w1 hp) | ((with_reducible refine pre_load _ _ rfl ?_); first | refine lO hp rfl (slot_tmp rfl) ceEO0 aa14 ?_ | refine lA hp rfl (slot_tmp rfl) (by with_reducible first | exact agg26 | exact agg67) aa14 ?_ | refine lR hp rfl (slot_tmp rfl) (by with_reducible first | exact agg26 | exact agg67) HX.out ?_) | ((with_reducible refine pre_store _ _ _ rfl ?_); (first | refine sO hp rfl (slot_tmp rfl) ceEO0 aa14 ?_ | refine sA hp rfl (slot_tmp rfl) (slot_tmp rfl) (by with_reducible first | exact agg26 | exact agg67) aa14 ?_ | refine sG hp rfl (slot_tmp rfl) (slot_tmp rfl) (by with_reducible first | exact agg26 | exact agg67) aa14 ?_); clear hp; intro w1 hp; simp only [spl, List.set_cons_zero, List.set_cons_succ] at hp) | ((with_reducible refine pre_build _ _ _ rfl ?_); refine lS hp rfl (by intro w; go_simp; rfl) ?_; clear hp; intro b w1 hp; simp only [List.length_cons, List.length_nil, Nat.reduceAdd] at hp)); simp only [put_some, put_none, List.set_cons_succ, List.set_cons_zero]))
      go_roundg (os.length - (q + 1))
      case measure => omega
      case rel =>
        refine ⟨q + 1, by omega, by go_num, ys ++ [⟨xh, xp, xo, a1, ws, c1, a2, ls, c2⟩], R', M ++ (R1 ++ R2), Lib.hid (by rw [List.length_append, HYL.out]; rfl), Lib.hid (ObsSm.snoc HJ.out ⟨rfl, rfl, rfl, rfl, rfl⟩ HYL.out HYS.out), Lib.hid (by rw [obs_snoc]; exact HR'.out), Lib.hid (HM.out.snoc ⟨R1, R2, rfl, HR1.out, HR2.out⟩), hp.tail⟩
    · have e2 : decide ((q : Int) < (os.length : Int)) = false := by simp; omega
      have HQ : RowKit.Hid (os.length = q) := Lib.hid (by omega)
      obtain rfl := HYL.out
      obtain ⟨a3, c3, rfl, _⟩ := HR.out.kept
      go_wp2_with (first | (go_at_call 25; refine (owng25 fs fa fc HFL.out _ (HF.out.below hp.below)).mono ?_; rintro e w1 ⟨v4, R4, rfl, hr4, hp4⟩; obtain ⟨a4, c4, rfl, _⟩ := hr4.kept; replace hp := hp.join hp4; have HR4 := Lib.hid hr4; clear hp4 hr4; simp only [List.cons_append, List.append_assoc] at hp) | go_skip | ((first | ((with_reducible refine pre_alloc _ rfl ?_); refine lZ hp rfl (by with_reducible first | exact zero26 | exact zero67) ?_; clear hp; intro b w1 hp) | ((with_reducible refine pre_box _ _ rfl ?_); refine lB hp rfl (slot_tmp rfl) rfl ?_; clear hp; intro b w1 hp) | ((with_reducible refine pre_load _ _ rfl ?_); first | refine lO hp rfl (slot_tmp rfl) ceEO0 aa14 ?_ | refine lA hp rfl (slot_tmp rfl) (by with_reducible first | exact agg26 | exact agg67) aa14 ?_ | refine lR hp rfl (slot_tmp rfl) (by with_reducible first | exact agg26 | exact agg67) HX.out ?_) | ((with_reducible refine pre_store _ _ _ rfl ?_); (first | refine sO hp rfl (slot_tmp rfl) ceEO0 aa14 ?_ | refine sA hp rfl (slot_tmp rfl) (slot_tmp rfl) (by with_reducible first | exact agg26 | exact agg67) aa14 ?_ | refine sG hp rfl (slot_tmp rfl) (slot_tmp rfl) (by with_reducible first | exact agg26 | exact agg67) aa14 ?_); clear hp; intro w1 hp; simp only [spl, List.set_cons_zero, List.set_cons_succ] at hp) | ((with_reducible refine pre_build _ _ _ rfl ?_); refine lS hp rfl (by intro w; go_simp; rfl) ?_; clear hp; intro b w1 hp; simp only [List.length_cons, List.length_nil, Nat.reduceAdd] at hp)); simp only [put_some, put_none, List.set_cons_succ, List.set_cons_zero]))
      refine bodyPost_ret (results_one (rs := [.cell 2 26]) Tryz.results9 (.cell rfl (hp.loadAgg agg26 at0 0 _ (by rfl) (by rfl)) .nil)) rfl ⟨⟨od, a3, ys, c3, nx, t0, t1, t2, t3, a4, fs, c4⟩, R, R4, M, rfl, ⟨rfl, rfl, rfl, rfl, rfl, rfl, ⟨HQ.out, HYS.out⟩, rfl⟩, ⟨HR.out, HR4.out, HM.out⟩, hp.tail.tail.kp⟩
end Go.Proofs.YtppdjlgjcdmiaaaGreat
