/- The walk of slices.Insert at rows of clients (made from prep/PIns). -/
import Derived.Test.YtppdjlgjcdmiaaaGreatQA
import Derived.Test.YtppdjlgjcdmiaaaGreatQC
set_option linter.unusedSimpArgs false
set_option linter.unusedVariables false
namespace Go.Proofs.YtppdjlgjcdmiaaaGreat
open Go.RowKit
theorem size57 : (Tryz.prog.info? 57).map (·.size) = some 4 := by kernel_rfl
def insLR (c : Nat) (xs news : List Value) (i : Nat) : List Value := xs.take (i * c) ++ (news ++ xs.drop (i * c))
def InsPostR (B : Nat) (w0 : World) (n : Nat) (xs : List Value) (M : List Blk) (e : Ending) (w' : World) : Prop := ∃ v' R', e = .returned v' ∧ OwnRow 57 4 v' n xs R' ∧ Hp B w0 w' (R' ++ M)
set_option maxRecDepth 100000 in
set_option maxHeartbeats 4000000 in
theorem ins40_end (n : Nat) (hn : n ≤ 1000) (xs : List Value) (v : Value) {B : Nat} {w0 w : World} {R M : List Blk} (news : List Value) (hnl : news.length = 4) (hn1 : news.all (·.oneCell') = true) (bv : Nat) (ev : TypeId) (mv : Nat) (hR : OwnRow 57 4 v n xs R) (hp : Hp B w0 w (⟨bv, news, ev, mv⟩ :: (R ++ M))) :
    Calls Tryz.prog 40 #[v, .int .i64 n, .slice (some ⟨bv, 0, none⟩) 1 1] w (InsPostR B w0 (n + 1) (insLR 4 xs news n) M) := by
  obtain ⟨i0, hi0, hz0, hz1, hz2⟩ := info_parts info57
  have HNL : RowKit.Hid (news.length = 1 * 4) := Lib.hid (by rw [hnl])
  have HN1 := Lib.hid hn1
  have HR := Lib.hid hR
  have hxl := hR.1
  have HI : RowKit.Hid (insLR 4 xs news n = xs ++ news) := Lib.hid (by unfold insLR; rw [List.take_of_length_le (by omega), List.drop_eq_nil_of_le (by omega), List.append_nil])
  have sm1 : n + 1 ≤ maxLen := by unfold maxLen; omega
  have sm2 : (n + 1) * 32 ≤ 140737488355328 := by omega
  rcases hR with ⟨_, ⟨h0, hv, hx, hr⟩ | ⟨g, cap, hv, hnc, hcm, hr⟩⟩
  · subst h0 hv hx hr
    clear hnl hn1 hxl
    go_enter Tryz.func40, Tryz.ntmps40
    go_wp2_with (first | ((with_reducible refine pre_append _ _ 41 rfl ?_); refine wpList_appendGrow (K := []) hp _ _ _ rfl wy i0 _ 32 Tryz.underlying41 hi0 hz0 hz1 hz2 rfl (by decide) (slot_tmp rfl) HR.out 1 1 (slot_tmp rfl) HNL.out (by decide) HN1.out sm1 sm2 ?_; clear hp; intro v' R' w1 hR' hp; have HR' := Lib.hid hR'; clear hR'; simp only [put_some, put_none, List.set_cons_succ, List.set_cons_zero]) | go_skip)
    go_ret
    exact ⟨v', R', rfl, by rw [HI.out]; exact HR'.out, hp⟩
  · subst hv hr
    clear hnl hn1 hxl
    go_enter Tryz.func40, Tryz.ntmps40
    go_wp2_with (first | ((with_reducible refine pre_append _ _ 41 rfl ?_); refine wpList_appendGrow (K := []) hp _ _ _ rfl wy i0 _ 32 Tryz.underlying41 hi0 hz0 hz1 hz2 rfl (by decide) (slot_tmp rfl) HR.out 1 1 (slot_tmp rfl) HNL.out (by decide) HN1.out sm1 sm2 ?_; clear hp; intro v' R' w1 hR' hp; have HR' := Lib.hid hR'; clear hR'; simp only [put_some, put_none, List.set_cons_succ, List.set_cons_zero]) | go_skip)
    all_goals
      go_ret
      exact ⟨v', R', rfl, by rw [HI.out]; exact HR'.out, hp⟩
theorem ins_lenR (n i : Nat) (hi : i ≤ n) (xs news : List Value) (hx : xs.length = n * 4) (hn : news.length = 1 * 4) : (insLR 4 xs news i).length = (n + 1) * 4 := by
  unfold insLR; rw [List.length_append, List.length_append, List.length_take, List.length_drop]; omega
theorem Hp.sub2R {B : Nat} {w0 w : World} {L : List Blk} {p q r : Blk} (hp : Hp B w0 w (p :: q :: r :: L)) : Hp B w0 w ([p] ++ L) := by
  have hs : List.Sublist (p :: L) (p :: q :: r :: L) := List.Sublist.cons_cons p ((List.sublist_cons_self r L).trans (List.sublist_cons_self q _))
  exact ⟨hp.below, hp.size, (hs.map _).nodup hp.nodup, fun x hx => hp.own x (hs.subset hx)⟩
theorem ins_aR (i : Nat) (xs zs news : List Value) (h : (xs.take (i * 4)).length = i * 4) : (xs.take (i * 4) ++ zs).take (i * 4) ++ (news ++ (xs.take (i * 4) ++ zs).drop (i * 4 + 1 * 4)) = xs.take (i * 4) ++ (news ++ zs.drop 4) := by
  generalize xs.take (i * 4) = ys at h ⊢
  rw [List.take_append_of_le_length (by omega), List.take_of_length_le (by omega), List.drop_append, List.drop_eq_nil_of_le (by omega), List.nil_append, h]
  congr 3; omega
theorem ins_bR (n i : Nat) (hi : i < n) (xs zs news : List Value) (hx : xs.length = n * 4) (hz : zs.length = (n + 1 - i) * 4) (hn : news.length = 1 * 4) :
    (xs.take (i * 4) ++ (news ++ zs.drop 4)).take ((i + 1) * 4) ++ (xs.drop (i * 4) ++ (xs.take (i * 4) ++ (news ++ zs.drop 4)).drop ((i + 1) * 4 + (n - i) * 4)) = insLR 4 xs news i := by
  have h : (xs.take (i * 4)).length = i * 4 := by rw [List.length_take]; omega
  unfold insLR
  generalize xs.take (i * 4) = ys at h ⊢
  have hl : (ys ++ (news ++ zs.drop 4)).length ≤ (i + 1) * 4 + (n - i) * 4 := by rw [List.length_append, List.length_append, List.length_drop]; omega
  rw [List.drop_eq_nil_of_le hl, List.append_nil, ← List.append_assoc, ← List.append_assoc, List.take_append_of_le_length (by rw [List.length_append]; omega), List.take_of_length_le (by rw [List.length_append]; omega)]
set_option maxRecDepth 100000 in
set_option maxHeartbeats 4000000 in
theorem ins40_grow (n i : Nat) (hn : n ≤ 1000) (hi : i < n) (xs : List Value) (hxl : xs.length = n * 4) (g cap : Nat) (hnc : n ≤ cap) (hcap : cap < n + 1) {B : Nat} {w0 w : World} {M : List Blk} (news : List Value) (hnl : news.length = 4) (hn1 : news.all (·.oneCell') = true) (hx1 : xs.all (·.oneCell') = true) (bv : Nat) (ev : TypeId) (mv : Nat) (hp : Hp B w0 w (⟨bv, news, ev, mv⟩ :: ⟨g, xs, 57, cap * 4⟩ :: M)) :
    Calls Tryz.prog 40 #[.slice (some ⟨g, 0, none⟩) n cap, .int .i64 i, .slice (some ⟨bv, 0, none⟩) 1 1] w (InsPostR B w0 (n + 1) (insLR 4 xs news i) M) := by
  obtain ⟨i0, hi0, hz0, hz1, hz2⟩ := info_parts info57
  have HNL : RowKit.Hid (news.length = 1 * 4) := Lib.hid (by rw [hnl])
  have HN1 := Lib.hid hn1
  have HX1 := Lib.hid hx1
  have HTL : RowKit.Hid ((xs.take (i * 4)).length = i * 4) := Lib.hid (by rw [List.length_take]; omega)
  have HTK : RowKit.Hid (∀ (j : Nat) u, (xs.take (i * 4))[j]? = some u → xs[j]? = some u) := Lib.hid (fun j u hj => by
    rw [List.getElem?_take] at hj
    split at hj
    · exact hj
    · cases hj)
  have HKZ : RowKit.Hid (((n : Int) + 1 - (i : Int)) = ((n + 1 - i : Nat) : Int)) := Lib.hid (by omega)
  have HSUM : RowKit.Hid (i + (n + 1 - i) = n + 1) := Lib.hid (by omega)
  have HMIN : RowKit.Hid (Nat.min 1 (n + 1 - i) = 1) := Lib.hid (Nat.min_eq_left (by omega))
  have k0 : 0 < n + 1 - i := by omega
  have kg : cap < i + (n + 1 - i) := by omega
  have k63 : i + (n + 1 - i) ≤ maxLen := by unfold maxLen; omega
  have kby : (i + (n + 1 - i)) * 32 ≤ 100000000 := by omega
  have f1 : (0 : Int) ≤ (i : Int) := by omega
  have f2 : (i : Int) ≤ (n : Int) := by omega
  have f3 : (i : Int) ≤ (cap : Int) := by omega
  have f4 : ((i : Int) == (n : Int)) = false := by simp; omega
  have f5 : (cap : Int) < (n : Int) + 1 := by omega
  have f6 : ¬ (cap = i) := by omega
  have HXL := Lib.hid hxl
  have HIL := Lib.hid (ins_lenR n i (by omega) xs news hxl (by rw [hnl]))
  clear hnl hn1 hx1 hxl
  go_enter Tryz.func40, Tryz.ntmps40
  go_wp2_with (first | (at_builtin; refine wpList_appendZeros hp _ _ 57 _ _ rfl wy Tryz.underlying41 .i64 Tryz.underlying3 i0 _ hi0 hz0 4 32 hz1 hz2 rfl (by decide) g i cap (slot_tmp rfl) (xs.take (i * 4)) HTL.out (fun j u hj => hp.cell at1 (HTK.out j u hj)) _ (n + 1 - i) HKZ.out (slot_tmp rfl) k0 kg k63 kby ?_; clear hp; intro g2 cap2 w1 hc2 hcm2 hp; rw [HSUM.out] at hc2 ⊢; generalize hzs : (Builtin.zeroCells _ (n + 1 - i)).toList = zs at hp; have HZL := Lib.hid (show zs.length = (n + 1 - i) * 4 by rw [← hzs, Array.length_toList, size_zeroCells]; rfl); clear hzs; have f7 : ¬ (cap2 = i) := (by omega); have f8 : ¬ (cap2 = i + 1) := (by omega); have f9 : (i : Int) ≤ (cap2 : Int) := (by omega); have HFIT : RowKit.Hid (i * 4 + 1 * 4 ≤ (xs.take (i * 4) ++ zs).length) := Lib.hid (by rw [List.length_append, HTL.out, HZL.out]; omega); simp only [put_some, put_none, List.set_cons_succ, List.set_cons_zero]) | ((with_reducible refine pre_copy _ _ _ _ rfl ?_); refine wpList_copyAt hp _ _ 57 _ _ rfl wy Tryz.underlying41 4 size57 g2 (i * 4) (n + 1 - i) (cap2 - i) (slot_tmp rfl) bv 0 1 1 (slot_tmp rfl) 0 _ _ at0 1 HMIN.out news HNL.out HFIT.out (fun j u hj => hp.cell at1 (by rw [Nat.zero_add]; exact hj)) HN1.out ?_; clear hp; intro v2 w1 hp; simp only [List.set_cons_zero] at hp; simp only [put_some, put_none, List.set_cons_succ, List.set_cons_zero]) | go_skip)
  have HL1 : RowKit.Hid ((xs.take (i * 4) ++ zs).take (i * 4) ++ (news ++ (xs.take (i * 4) ++ zs).drop (i * 4 + 1 * 4)) = xs.take (i * 4) ++ (news ++ zs.drop 4)) := Lib.hid (ins_aR i xs zs news HTL.out)
  rw [HL1.out] at hp
  have HMIN2 : RowKit.Hid (Nat.min (n - i) (n - i) = n - i) := Lib.hid (Nat.min_self _)
  have HDL : RowKit.Hid ((xs.drop (i * 4)).length = (n - i) * 4) := Lib.hid (by rw [List.length_drop, HXL.out]; omega)
  have HFIT2 : RowKit.Hid ((i + 1) * 4 + (n - i) * 4 ≤ (xs.take (i * 4) ++ (news ++ zs.drop 4)).length) := Lib.hid (by rw [List.length_append, List.length_append, List.length_drop, HTL.out, HNL.out, HZL.out]; omega)
  have HD1 : RowKit.Hid ((xs.drop (i * 4)).all (·.oneCell') = true) := Lib.hid (by rw [List.all_eq_true]; intro u hu; exact List.all_eq_true.1 HX1.out u (List.mem_of_mem_drop hu))
  have HDK : RowKit.Hid (∀ (j : Nat) u, (xs.drop (i * 4))[j]? = some u → xs[i * 4 + j]? = some u) := Lib.hid (fun j u hj => by rw [List.getElem?_drop] at hj; exact hj)
  have HW1 : RowKit.Hid (wrap64 ((i : Int) + 1) = (i : Int) + 1) := Lib.hid (by unfold wrap64; omega)
  have f10 : ((i : Int) + 1).toNat = i + 1 := by omega
  have f11 : (0 : Int) ≤ (i : Int) + 1 := by omega
  have f12 : (i : Int) + 1 ≤ (n : Int) + 1 := by omega
  refine wp_region_keeps _ (Keeps.all hp.drew) [8] [(0, true), (1, true), (2, true), (3, true), (4, true), (5, true), (6, true), (7, true), (8, false)] (by kernel_rfl) (by kernel_rfl) rfl (by kernel_rfl) (fun _ _ d _ _ h => by cases d <;> exact h) ?_
  replace hp := hp.drew
  repeat' (with_reducible refine plan_is ?_); first | (with_reducible refine plan_nil ?_) | ((with_reducible refine plan_t ?_); refine plan_tk rfl ?_; (first | ((with_reducible refine tk_mv _ rfl ?_); refine tM rfl ?_) | refine tG (fun w _ => (by go_simp; try rfl)) ?_); try simp only [put_some, put_none, eval_tmp, eval_const, List.set_cons_succ, List.set_cons_zero, List.getD_cons_succ, List.getD_cons_zero, wrap_eq, HW1.out]) | (refine plan_do rfl (fun K hK => ?_); go_wp2_with (((with_reducible refine pre_copy _ _ _ _ rfl ?_); refine wpList_copyAt hp _ _ 57 _ _ rfl wy Tryz.underlying41 4 size57 g2 ((i + 1) * 4) (n - i) (cap2 - (i + 1)) (slot_tmp rfl) g (i * 4) (n - i) (cap - i) (slot_tmp rfl) 0 _ _ at0 (n - i) HMIN2.out (xs.drop (i * 4)) HDL.out HFIT2.out (fun j u hj => hp.cell at2 (HDK.out j u hj)) HD1.out ?_; clear hp; intro v2 w1 hp; simp only [List.set_cons_zero] at hp; simp only [put_some, put_none, List.set_cons_succ, List.set_cons_zero])); (first | refine hK.out _ _ (.inl rfl) ?_ | refine hK.out _ _ (.inr (kall hp)) ?_); clear hK K; try simp only [put_some, put_none, eval_tmp, eval_const, List.set_cons_succ, List.set_cons_zero, List.getD_cons_succ, List.getD_cons_zero, wrap_eq, HW1.out])
  go_wp2_with fail
  go_ret
  refine ⟨_, [⟨g2, insLR 4 xs news i, 57, cap2 * 4⟩], rfl, ⟨HIL.out, .inr ⟨g2, cap2, rfl, hc2, hcm2, rfl⟩⟩, ?_⟩
  rw [ins_bR n i hi xs zs news HXL.out HZL.out HNL.out] at hp
  exact hp.sub2R
theorem over78 {B : Nat} {w0 w : World} {L : List Blk} {bv g ev mv nv cap od : Nat} {news l : List Value} {eg : TypeId} (hp : Hp B w0 w (⟨bv, news, ev, mv⟩ :: ⟨g, l, eg, nv⟩ :: L)) (hnv : nv ≠ 0) (lb cb : Nat) :
    (callFunc 78 #[.slice (some ⟨bv, 0, none⟩) 1 1, .slice (some ⟨g, od, none⟩) lb cb]).run Tryz.prog w = .ok (.value (.bool false)) w := by
  have hne : bv ≠ g := by
    have := hp.nodup
    simp only [List.map_cons, List.nodup_cons, List.mem_cons] at this
    exact fun h => this.1 (.inl h)
  rw [run_callFunc_extern Tryz.func78 (by kernel_rfl) (by kernel_rfl) (by kernel_rfl) (e := Extern.SlicesOverlaps.overlaps #[41, 41] #[4]) (by kernel_rfl),
    Lib.run_overlaps_apart w 41 4 57 Tryz.underlying41 4 (fun w => (run_isAgg_agg agg57 w).2) ⟨bv, 0, none⟩ ⟨g, od, none⟩ 1 1 lb cb hne ev eg mv nv (hp.shape at0) (hp.shape at1) hnv (hp.free at0 0) (hp.free at0 mv)]
  rfl
theorem ins_cR (n i : Nat) (hi : i < n) (xs l2 : List Value) (hx : xs.length = n * 4) (h2 : l2.length = 4) :
    (xs ++ l2).take ((i + 1) * 4) ++ (xs.drop (i * 4) ++ (xs ++ l2).drop ((i + 1) * 4 + (n - i) * 4)) = xs.take ((i + 1) * 4) ++ xs.drop (i * 4) := by
  generalize xs.drop (i * 4) = ds
  rw [List.take_append_of_le_length (by omega), List.drop_eq_nil_of_le (by rw [List.length_append]; omega), List.append_nil]
theorem ins_dR (n i : Nat) (hi : i < n) (xs news : List Value) (hx : xs.length = n * 4) :
    (xs.take ((i + 1) * 4) ++ xs.drop (i * 4)).take (i * 4) ++ (news ++ (xs.take ((i + 1) * 4) ++ xs.drop (i * 4)).drop (i * 4 + 1 * 4)) = insLR 4 xs news i := by
  unfold insLR
  rw [List.take_append_of_le_length (by rw [List.length_take]; omega), List.take_take, Nat.min_eq_left (by omega), List.drop_append, List.drop_eq_nil_of_le (by rw [List.length_take]; omega), List.nil_append, List.length_take, Nat.min_eq_left (by omega), show i * 4 + 1 * 4 - (i + 1) * 4 = 0 by omega, List.drop_zero]
set_option maxRecDepth 100000 in
set_option maxHeartbeats 4000000 in
theorem ins40_room (n i : Nat) (hn : n ≤ 1000) (hi : i < n) (xs : List Value) (hxl : xs.length = n * 4) (g cap : Nat) (hcm : cap ≤ maxLen) (hcap : n + 1 ≤ cap) {B : Nat} {w0 w : World} {M : List Blk} (news : List Value) (hnl : news.length = 4) (hn1 : news.all (·.oneCell') = true) (hx1 : xs.all (·.oneCell') = true) (bv : Nat) (ev : TypeId) (mv : Nat) (hp : Hp B w0 w (⟨bv, news, ev, mv⟩ :: ⟨g, xs, 57, cap * 4⟩ :: M)) :
    Calls Tryz.prog 40 #[.slice (some ⟨g, 0, none⟩) n cap, .int .i64 i, .slice (some ⟨bv, 0, none⟩) 1 1] w (InsPostR B w0 (n + 1) (insLR 4 xs news i) M) := by
  obtain ⟨l2, hl2, hp2⟩ := (hp.reorder (List.Perm.swap _ _ _)).more 4 (by omega)
  replace hp := hp2.reorder (List.Perm.swap _ _ _)
  clear hp2
  have HNL : RowKit.Hid (news.length = 1 * 4) := Lib.hid (by rw [hnl])
  have HN1 := Lib.hid hn1
  have HMIN : RowKit.Hid (Nat.min 1 (n + 1 - i) = 1) := Lib.hid (Nat.min_eq_left (by omega))
  have HMIN3 : RowKit.Hid (Nat.min (n + 1 - i) (n - i) = n - i) := Lib.hid (Nat.min_eq_right (by omega))
  have HDL : RowKit.Hid ((xs.drop (i * 4)).length = (n - i) * 4) := Lib.hid (by rw [List.length_drop, hxl]; omega)
  have HD1 : RowKit.Hid ((xs.drop (i * 4)).all (·.oneCell') = true) := Lib.hid (by rw [List.all_eq_true]; intro u hu; exact List.all_eq_true.1 hx1 u (List.mem_of_mem_drop hu))
  have HDK : RowKit.Hid (∀ (j : Nat) u, (xs.drop (i * 4))[j]? = some u → (xs ++ l2)[i * 4 + j]? = some u) := Lib.hid (fun j u hj => by
    rw [List.getElem?_drop] at hj
    rw [List.getElem?_append_left (List.getElem?_eq_some_iff.1 hj).1]; exact hj)
  have HFIT3 : RowKit.Hid ((i + 1) * 4 + (n - i) * 4 ≤ (xs ++ l2).length) := Lib.hid (by rw [List.length_append, hxl, hl2]; omega)
  have HFIT4 : RowKit.Hid (i * 4 + 1 * 4 ≤ (xs.take ((i + 1) * 4) ++ xs.drop (i * 4)).length) := Lib.hid (by rw [List.length_append, List.length_take, List.length_drop, hxl]; omega)
  have HC := Lib.hid (ins_cR n i hi xs l2 hxl hl2)
  have HDD := Lib.hid (ins_dR n i hi xs news hxl)
  have HIL := Lib.hid (ins_lenR n i (by omega) xs news hxl (by rw [hnl]))
  have hov : ∀ od lb cb, (callFunc 78 #[.slice (some ⟨bv, 0, none⟩) 1 1, .slice (some ⟨g, od, none⟩) lb cb]).run Tryz.prog w = .ok (.value (.bool false)) w := fun od lb cb => over78 (od := od) (cap := 0) hp (by omega) lb cb
  have f1 : (0 : Int) ≤ (i : Int) := by omega
  have f2 : (i : Int) ≤ (n : Int) := by omega
  have f3 : (i : Int) ≤ (cap : Int) := by omega
  have f4 : ((i : Int) == (n : Int)) = false := by simp; omega
  have f5 : decide ((cap : Int) < (n : Int) + 1) = false := by simp; omega
  have f6 : ¬ (cap = i) := by omega
  have f7 : ¬ (cap = i + 1) := by omega
  have HW1 : RowKit.Hid (wrap64 ((i : Int) + 1) = (i : Int) + 1) := Lib.hid (by unfold wrap64; omega)
  have f10 : ((i : Int) + 1).toNat = i + 1 := by omega
  have f11 : (0 : Int) ≤ (i : Int) + 1 := by omega
  have f12 : (i : Int) + 1 ≤ (n : Int) + 1 := by omega
  have f13 : (n : Int) + 1 ≤ (cap : Int) := by omega
  have f14 : (0 : Int) ≤ (n : Int) + 1 := by omega
  have f15 : ((n : Int) + 1).toNat = n + 1 := by omega
  have f16 : (i : Int) ≤ (n : Int) + 1 := by omega
  clear hnl hn1 hx1 hxl hl2
  go_enter Tryz.func40, Tryz.ntmps40
  go_wp2_with (first | (simp only [hov]; done) | go_skip)
  refine wp_region_keeps _ (Keeps.all hp.drew) [8] [(0, true), (1, true), (2, true), (3, true), (4, true), (5, true), (6, true), (7, true), (8, false)] (by kernel_rfl) (by kernel_rfl) rfl (by kernel_rfl) (fun _ _ d _ _ h => by cases d <;> exact h) ?_
  replace hp := hp.drew
  repeat' (with_reducible refine plan_is ?_); first | (with_reducible refine plan_nil ?_) | ((with_reducible refine plan_t ?_); refine plan_tk rfl ?_; (first | ((with_reducible refine tk_mv _ rfl ?_); refine tM rfl ?_) | refine tG (fun w _ => (by go_simp; try rfl)) ?_); try simp only [put_some, put_none, eval_tmp, eval_const, List.set_cons_succ, List.set_cons_zero, List.getD_cons_succ, List.getD_cons_zero, wrap_eq, HW1.out]) | (refine plan_do rfl (fun K hK => ?_); go_wp2_with (((with_reducible refine pre_copy _ _ _ _ rfl ?_); refine wpList_copyAt hp _ _ 57 _ _ rfl wy Tryz.underlying41 4 size57 g ((i + 1) * 4) (n - i) (cap - (i + 1)) (slot_tmp rfl) g (i * 4) (n + 1 - i) (cap - i) (slot_tmp rfl) 1 _ _ at1 (n - i) HMIN3.out (xs.drop (i * 4)) HDL.out HFIT3.out (fun j u hj => hp.cell at1 (HDK.out j u hj)) HD1.out ?_; clear hp; intro v2 w1 hp; simp only [List.set_cons_succ, List.set_cons_zero] at hp; simp only [put_some, put_none, List.set_cons_succ, List.set_cons_zero])); (first | refine hK.out _ _ (.inl rfl) ?_ | refine hK.out _ _ (.inr (kall hp)) ?_); clear hK K; try simp only [put_some, put_none, eval_tmp, eval_const, List.set_cons_succ, List.set_cons_zero, List.getD_cons_succ, List.getD_cons_zero, wrap_eq, HW1.out])
  rw [HC.out] at hp
  go_wp2_with (first | ((with_reducible refine pre_copy _ _ _ _ rfl ?_); refine wpList_copyAt hp _ _ 57 _ _ rfl wy Tryz.underlying41 4 size57 g (i * 4) (n + 1 - i) (cap - i) (slot_tmp rfl) bv 0 1 1 (slot_tmp rfl) 1 _ _ at1 1 HMIN.out news HNL.out HFIT4.out (fun j u hj => hp.cell at0 (by rw [Nat.zero_add]; exact hj)) HN1.out ?_; clear hp; intro v3 w1 hp; simp only [List.set_cons_succ, List.set_cons_zero] at hp; simp only [put_some, put_none, List.set_cons_succ, List.set_cons_zero]) | go_skip)
  rw [HDD.out] at hp
  go_ret
  refine ⟨_, [⟨g, insLR 4 xs news i, 57, cap * 4⟩], rfl, ⟨HIL.out, .inr ⟨g, cap, rfl, by omega, hcm, rfl⟩⟩, hp.tail⟩
theorem ins40 (n i : Nat) (hn : n ≤ 1000) (hi : i ≤ n) (xs : List Value) (v : Value) {B : Nat} {w0 w : World} {R M : List Blk} (news : List Value) (hnl : news.length = 4) (hn1 : news.all (·.oneCell') = true) (hx1 : xs.all (·.oneCell') = true) (bv : Nat) (ev : TypeId) (mv : Nat) (hR : OwnRow 57 4 v n xs R) (hp : Hp B w0 w (⟨bv, news, ev, mv⟩ :: (R ++ M))) :
    Calls Tryz.prog 40 #[v, .int .i64 i, .slice (some ⟨bv, 0, none⟩) 1 1] w (InsPostR B w0 (n + 1) (insLR 4 xs news i) M) := by
  rcases Nat.eq_or_lt_of_le hi with h | h
  · subst h
    exact ins40_end i hn xs v news hnl hn1 bv ev mv hR hp
  · obtain ⟨hxl, ⟨h0, _⟩ | ⟨g, cap, hv, hnc, hcm, hr⟩⟩ := hR
    · omega
    · subst hv hr
      rcases Nat.lt_or_ge cap (n + 1) with h2 | h2
      · exact ins40_grow n i hn h xs hxl g cap hnc h2 news hnl hn1 hx1 bv ev mv hp
      · exact ins40_room n i hn h xs hxl g cap hcm h2 news hnl hn1 hx1 bv ev mv hp
end Go.Proofs.YtppdjlgjcdmiaaaGreat
