/- Parts of the proof. -/
import Derived.Test.YtcjbepaclbhjaaaGreatKd1
import Derived.Test.YtcjbepaclbhjaaaGreatKd0
import Derived.Test.YtcjbepaclbhjaaaGreatKd3
import Derived.Test.YtcjbepaclbhjaaaGreatKd26
open List renaming set_cons_zero → zSet, set_cons_succ → sSet
/- The walk of slices.Insert at votes (made from tab/YN). -/
set_option linter.unusedSimpArgs false
set_option linter.unusedVariables false
namespace Go.Proofs.YtcjbepaclbhjaaaGreat
open Go.RowKit
theorem size27 : (Tryz.prog.info? 27).map (·.size) = some 6 := by kernel_rfl
def insLV (c : Nat) (xs news : List Value) (i : Nat) : List Value := xs.take (i * c) ++ (news ++ xs.drop (i * c))
def InsPostV (B : Nat) (w0 : World) (n : Nat) (xs : List Value) (M : List Blk) (e : Ending) (w' : World) : Prop := ∃ v' R', e = .returned v' ∧ OwnRow 27 6 v' n xs R' ∧ Hp B w0 w' (R' ++ M)
set_option maxRecDepth 100000 in
set_option maxHeartbeats 4000000 in
theorem ins44_end (n : Nat) (hn : n ≤ 1000) (xs : List Value) (v : Value) {B : Nat} {w0 w : World} {R M : List Blk} (news : List Value) (hnl : news.length = 6) (hn1 : news.all (·.oneCell') = true) (bv : Nat) (ev : TypeId) (mv : Nat) (hR : OwnRow 27 6 v n xs R) (hp : Hp B w0 w (⟨bv, news, ev, mv⟩ :: (R ++ M))) :
    Calls Tryz.prog 44 #[v, .int .i64 n, .slice (some ⟨bv, 0, none⟩) 1 1] w (InsPostV B w0 (n + 1) (insLV 6 xs news n) M) := by
  obtain ⟨i0, hi0, hz0, hz1, hz2⟩ := info_parts info27
  have HNL : RowKit.Hid (news.length = 1 * 6) := Lib.hid (by rw [hnl])
  have HN1 := Lib.hid hn1
  have HR := Lib.hid hR
  have hxl := hR.1
  have HI : RowKit.Hid (insLV 6 xs news n = xs ++ news) := Lib.hid (by unfold insLV; rw [List.take_of_length_le (by omega), List.drop_eq_nil_of_le (by omega), List.append_nil])
  have sm1 : n + 1 ≤ maxLen := by unfold maxLen; omega
  have sm2 : (n + 1) * 64 ≤ 140737488355328 := by omega
  rcases hR with ⟨_, ⟨h0, hv, hx, hr⟩ | ⟨g, cap, hv, hnc, hcm, hr⟩⟩
  · subst h0 hv hx hr
    clear hnl hn1 hxl
    go_enter Tryz.func44, Tryz.ntmps44
    go_wp2_with (first | ((with_reducible refine pre_append _ _ 25 rfl ?_); refine wpList_appendGrow (K := []) hp _ _ _ rfl wy i0 _ 64 Tryz.underlying25 hi0 hz0 hz1 hz2 rfl (by decide) (sTm rfl) HR.out 1 1 (sTm rfl) HNL.out (by decide) HN1.out sm1 sm2 ?_; clear hp; intro v' R' w1 hR' hp; have HR' := Lib.hid hR'; clear hR'; simp only [put_some, put_none, sSet, zSet]) | go_skip)
    go_ret
    exact ⟨v', R', rfl, by rw [HI.out]; exact HR'.out, hp⟩
  · subst hv hr
    clear hnl hn1 hxl
    go_enter Tryz.func44, Tryz.ntmps44
    go_wp2_with (first | ((with_reducible refine pre_append _ _ 25 rfl ?_); refine wpList_appendGrow (K := []) hp _ _ _ rfl wy i0 _ 64 Tryz.underlying25 hi0 hz0 hz1 hz2 rfl (by decide) (sTm rfl) HR.out 1 1 (sTm rfl) HNL.out (by decide) HN1.out sm1 sm2 ?_; clear hp; intro v' R' w1 hR' hp; have HR' := Lib.hid hR'; clear hR'; simp only [put_some, put_none, sSet, zSet]) | go_skip)
    all_goals
      go_ret
      exact ⟨v', R', rfl, by rw [HI.out]; exact HR'.out, hp⟩
theorem ins_lenV (n i : Nat) (hi : i ≤ n) (xs news : List Value) (hx : xs.length = n * 6) (hn : news.length = 1 * 6) : (insLV 6 xs news i).length = (n + 1) * 6 := by
  unfold insLV; rw [List.length_append, List.length_append, List.length_take, List.length_drop]; omega
theorem Hp.sub2V {B : Nat} {w0 w : World} {L : List Blk} {p q r : Blk} (hp : Hp B w0 w (p :: q :: r :: L)) : Hp B w0 w ([p] ++ L) := by
  have hs : List.Sublist (p :: L) (p :: q :: r :: L) := List.Sublist.cons_cons p ((List.sublist_cons_self r L).trans (List.sublist_cons_self q _))
  exact ⟨hp.below, hp.size, (hs.map _).nodup hp.nodup, fun x hx => hp.own x (hs.subset hx)⟩
theorem ins_aV (i : Nat) (xs zs news : List Value) (h : (xs.take (i * 6)).length = i * 6) : (xs.take (i * 6) ++ zs).take (i * 6) ++ (news ++ (xs.take (i * 6) ++ zs).drop (i * 6 + 1 * 6)) = xs.take (i * 6) ++ (news ++ zs.drop 6) := by
  generalize xs.take (i * 6) = ys at h ⊢
  rw [List.take_append_of_le_length (by omega), List.take_of_length_le (by omega), List.drop_append, List.drop_eq_nil_of_le (by omega), List.nil_append, h]
  congr 3; omega
theorem ins_bV (n i : Nat) (hi : i < n) (xs zs news : List Value) (hx : xs.length = n * 6) (hz : zs.length = (n + 1 - i) * 6) (hn : news.length = 1 * 6) :
    (xs.take (i * 6) ++ (news ++ zs.drop 6)).take ((i + 1) * 6) ++ (xs.drop (i * 6) ++ (xs.take (i * 6) ++ (news ++ zs.drop 6)).drop ((i + 1) * 6 + (n - i) * 6)) = insLV 6 xs news i := by
  have h : (xs.take (i * 6)).length = i * 6 := by rw [List.length_take]; omega
  unfold insLV
  generalize xs.take (i * 6) = ys at h ⊢
  have hl : (ys ++ (news ++ zs.drop 6)).length ≤ (i + 1) * 6 + (n - i) * 6 := by rw [List.length_append, List.length_append, List.length_drop]; omega
  rw [List.drop_eq_nil_of_le hl, List.append_nil, ← List.append_assoc, ← List.append_assoc, List.take_append_of_le_length (by rw [List.length_append]; omega), List.take_of_length_le (by rw [List.length_append]; omega)]
set_option maxRecDepth 100000 in
set_option maxHeartbeats 4000000 in
theorem ins44_grow (n i : Nat) (hn : n ≤ 1000) (hi : i < n) (xs : List Value) (hxl : xs.length = n * 6) (g cap : Nat) (hnc : n ≤ cap) (hcap : cap < n + 1) {B : Nat} {w0 w : World} {M : List Blk} (news : List Value) (hnl : news.length = 6) (hn1 : news.all (·.oneCell') = true) (hx1 : xs.all (·.oneCell') = true) (bv : Nat) (ev : TypeId) (mv : Nat) (hp : Hp B w0 w (⟨bv, news, ev, mv⟩ :: ⟨g, xs, 27, cap * 6⟩ :: M)) :
    Calls Tryz.prog 44 #[.slice (some ⟨g, 0, none⟩) n cap, .int .i64 i, .slice (some ⟨bv, 0, none⟩) 1 1] w (InsPostV B w0 (n + 1) (insLV 6 xs news i) M) := by
  obtain ⟨i0, hi0, hz0, hz1, hz2⟩ := info_parts info27
  have HNL : RowKit.Hid (news.length = 1 * 6) := Lib.hid (by rw [hnl])
  have HN1 := Lib.hid hn1
  have HX1 := Lib.hid hx1
  have HTL : RowKit.Hid ((xs.take (i * 6)).length = i * 6) := Lib.hid (by rw [List.length_take]; omega)
  have HTK : RowKit.Hid (∀ (j : Nat) u, (xs.take (i * 6))[j]? = some u → xs[j]? = some u) := Lib.hid (fun j u hj => by
    rw [List.getElem?_take] at hj
    split at hj
    · exact hj
    · cases hj)
  have HKZ : RowKit.Hid (((n : Int) + 1 - (i : Int)) = ((n + 1 - i : Nat) : Int)) := Lib.hid (by omega)
  have HSUM : RowKit.Hid (i + (n + 1 - i) = n + 1) := Lib.hid (by omega)
  have HMIN : RowKit.Hid (Nat.min 1 (n + 1 - i) = 1) := Lib.hid (Nat.min_eq_left (by omega))
  have k0 : 0 < n + 1 - i := by omega
  have kg : cap < i + (n + 1 - i) := by omega
  have k63 : i + (n + 1 - i) ≤ maxLen := by unfold maxLen; omega
  have kby : (i + (n + 1 - i)) * 64 ≤ 100000000 := by omega
  have f1 : (0 : Int) ≤ (i : Int) := by omega
  have f2 : (i : Int) ≤ (n : Int) := by omega
  have f3 : (i : Int) ≤ (cap : Int) := by omega
  have f4 : ((i : Int) == (n : Int)) = false := by simp; omega
  have f5 : (cap : Int) < (n : Int) + 1 := by omega
  have f6 : ¬ (cap = i) := by omega
  have HXL := Lib.hid hxl
  have HIL := Lib.hid (ins_lenV n i (by omega) xs news hxl (by rw [hnl]))
  clear hnl hn1 hx1 hxl
  go_enter Tryz.func44, Tryz.ntmps44
  go_wp2_with (first | (at_builtin; refine wpList_appendZeros hp _ _ 27 _ _ rfl wy Tryz.underlying25 .i64 Tryz.underlying3 i0 _ hi0 hz0 6 64 hz1 hz2 rfl (by decide) g i cap (sTm rfl) (xs.take (i * 6)) HTL.out (fun j u hj => hp.cell at1 (HTK.out j u hj)) _ (n + 1 - i) HKZ.out (sTm rfl) k0 kg k63 kby ?_; clear hp; intro g2 cap2 w1 hc2 hcm2 hp; rw [HSUM.out] at hc2 ⊢; generalize hzs : (Builtin.zeroCells _ (n + 1 - i)).toList = zs at hp; have HZL := Lib.hid (show zs.length = (n + 1 - i) * 6 by rw [← hzs, Array.length_toList, size_zeroCells]; rfl); clear hzs; have f7 : ¬ (cap2 = i) := (by omega); have f8 : ¬ (cap2 = i + 1) := (by omega); have f9 : (i : Int) ≤ (cap2 : Int) := (by omega); have HFIT : RowKit.Hid (i * 6 + 1 * 6 ≤ (xs.take (i * 6) ++ zs).length) := Lib.hid (by rw [List.length_append, HTL.out, HZL.out]; omega); simp only [put_some, put_none, sSet, zSet]) | ((with_reducible refine pre_copy _ _ _ _ rfl ?_); refine wpList_copyAt hp _ _ 27 _ _ rfl wy Tryz.underlying25 6 size27 g2 (i * 6) (n + 1 - i) (cap2 - i) (sTm rfl) bv 0 1 1 (sTm rfl) 0 _ _ at0 1 HMIN.out news HNL.out HFIT.out (fun j u hj => hp.cell at1 (by rw [Nat.zero_add]; exact hj)) HN1.out ?_; clear hp; intro v2 w1 hp; simp only [zSet] at hp; simp only [put_some, put_none, sSet, zSet]) | go_skip)
  have HL1 : RowKit.Hid ((xs.take (i * 6) ++ zs).take (i * 6) ++ (news ++ (xs.take (i * 6) ++ zs).drop (i * 6 + 1 * 6)) = xs.take (i * 6) ++ (news ++ zs.drop 6)) := Lib.hid (ins_aV i xs zs news HTL.out)
  rw [HL1.out] at hp
  have HMIN2 : RowKit.Hid (Nat.min (n - i) (n - i) = n - i) := Lib.hid (Nat.min_self _)
  have HDL : RowKit.Hid ((xs.drop (i * 6)).length = (n - i) * 6) := Lib.hid (by rw [List.length_drop, HXL.out]; omega)
  have HFIT2 : RowKit.Hid ((i + 1) * 6 + (n - i) * 6 ≤ (xs.take (i * 6) ++ (news ++ zs.drop 6)).length) := Lib.hid (by rw [List.length_append, List.length_append, List.length_drop, HTL.out, HNL.out, HZL.out]; omega)
  have HD1 : RowKit.Hid ((xs.drop (i * 6)).all (·.oneCell') = true) := Lib.hid (by rw [List.all_eq_true]; intro u hu; exact List.all_eq_true.1 HX1.out u (List.mem_of_mem_drop hu))
  have HDK : RowKit.Hid (∀ (j : Nat) u, (xs.drop (i * 6))[j]? = some u → xs[i * 6 + j]? = some u) := Lib.hid (fun j u hj => by rw [List.getElem?_drop] at hj; exact hj)
  have HW1 : RowKit.Hid (wrap64 ((i : Int) + 1) = (i : Int) + 1) := Lib.hid (by unfold wrap64; omega)
  have f10 : ((i : Int) + 1).toNat = i + 1 := by omega
  have f11 : (0 : Int) ≤ (i : Int) + 1 := by omega
  have f12 : (i : Int) + 1 ≤ (n : Int) + 1 := by omega
  refine wp_region_keeps _ (Keeps.all hp.drew) [8] [(0, true), (1, true), (2, true), (3, true), (4, true), (5, true), (6, true), (7, true), (8, false)] (by kernel_rfl) (by kernel_rfl) rfl (by kernel_rfl) (fun _ _ d _ _ h => by cases d <;> exact h) ?_
  replace hp := hp.drew
  repeat' (with_reducible refine plan_is ?_); first | (with_reducible refine plan_nil ?_) | refine tk5 ?_ | (refine plan_do rfl (fun K hK => ?_); go_wp2_with (((with_reducible refine pre_copy _ _ _ _ rfl ?_); refine wpList_copyAt hp _ _ 27 _ _ rfl wy Tryz.underlying25 6 size27 g2 ((i + 1) * 6) (n - i) (cap2 - (i + 1)) (sTm rfl) g (i * 6) (n - i) (cap - i) (sTm rfl) 0 _ _ at0 (n - i) HMIN2.out (xs.drop (i * 6)) HDL.out HFIT2.out (fun j u hj => hp.cell at2 (HDK.out j u hj)) HD1.out ?_; clear hp; intro v2 w1 hp; simp only [zSet] at hp; simp only [put_some, put_none, sSet, zSet])); (first | refine hK.out _ _ (.inl rfl) ?_ | refine hK.out _ _ (.inr (kall hp)) ?_); clear hK K; try simp only [put_some, put_none, eval_tmp, eval_const, sSet, zSet, List.getD_cons_succ, List.getD_cons_zero, wrap_eq, HW1.out])
  go_wp2_with fail
  go_ret
  refine ⟨_, [⟨g2, insLV 6 xs news i, 27, cap2 * 6⟩], rfl, ⟨HIL.out, .inr ⟨g2, cap2, rfl, hc2, hcm2, rfl⟩⟩, ?_⟩
  rw [ins_bV n i hi xs zs news HXL.out HZL.out HNL.out] at hp
  exact hp.sub2V
theorem over66 {B : Nat} {w0 w : World} {L : List Blk} {bv g ev mv nv cap od : Nat} {news l : List Value} {eg : TypeId} (hp : Hp B w0 w (⟨bv, news, ev, mv⟩ :: ⟨g, l, eg, nv⟩ :: L)) (hnv : nv ≠ 0) (lb cb : Nat) :
    (callFunc 66 #[.slice (some ⟨bv, 0, none⟩) 1 1, .slice (some ⟨g, od, none⟩) lb cb]).run Tryz.prog w = .ok (.value (.bool false)) w := by
  have hne : bv ≠ g := by
    have := hp.nodup
    simp only [List.map_cons, List.nodup_cons, List.mem_cons] at this
    exact fun h => this.1 (.inl h)
  rw [run_callFunc_extern Tryz.func66 (by kernel_rfl) (by kernel_rfl) (by kernel_rfl) (e := Extern.SlicesOverlaps.overlaps #[25, 25] #[4]) (by kernel_rfl),
    Lib.run_overlaps_apart w 25 4 27 Tryz.underlying25 6 (fun w => (run_isAgg_agg agg27 w).2) ⟨bv, 0, none⟩ ⟨g, od, none⟩ 1 1 lb cb hne ev eg mv nv (hp.shape at0) (hp.shape at1) hnv (hp.free at0 0) (hp.free at0 mv)]
  rfl
theorem ins_cV (n i : Nat) (hi : i < n) (xs l2 : List Value) (hx : xs.length = n * 6) (h2 : l2.length = 6) :
    (xs ++ l2).take ((i + 1) * 6) ++ (xs.drop (i * 6) ++ (xs ++ l2).drop ((i + 1) * 6 + (n - i) * 6)) = xs.take ((i + 1) * 6) ++ xs.drop (i * 6) := by
  generalize xs.drop (i * 6) = ds
  rw [List.take_append_of_le_length (by omega), List.drop_eq_nil_of_le (by rw [List.length_append]; omega), List.append_nil]
theorem ins_dV (n i : Nat) (hi : i < n) (xs news : List Value) (hx : xs.length = n * 6) :
    (xs.take ((i + 1) * 6) ++ xs.drop (i * 6)).take (i * 6) ++ (news ++ (xs.take ((i + 1) * 6) ++ xs.drop (i * 6)).drop (i * 6 + 1 * 6)) = insLV 6 xs news i := by
  unfold insLV
  rw [List.take_append_of_le_length (by rw [List.length_take]; omega), List.take_take, Nat.min_eq_left (by omega), List.drop_append, List.drop_eq_nil_of_le (by rw [List.length_take]; omega), List.nil_append, List.length_take, Nat.min_eq_left (by omega), show i * 6 + 1 * 6 - (i + 1) * 6 = 0 by omega, List.drop_zero]
set_option maxRecDepth 100000 in
set_option maxHeartbeats 4000000 in
theorem ins44_room (n i : Nat) (hn : n ≤ 1000) (hi : i < n) (xs : List Value) (hxl : xs.length = n * 6) (g cap : Nat) (hcm : cap ≤ maxLen) (hcap : n + 1 ≤ cap) {B : Nat} {w0 w : World} {M : List Blk} (news : List Value) (hnl : news.length = 6) (hn1 : news.all (·.oneCell') = true) (hx1 : xs.all (·.oneCell') = true) (bv : Nat) (ev : TypeId) (mv : Nat) (hp : Hp B w0 w (⟨bv, news, ev, mv⟩ :: ⟨g, xs, 27, cap * 6⟩ :: M)) :
    Calls Tryz.prog 44 #[.slice (some ⟨g, 0, none⟩) n cap, .int .i64 i, .slice (some ⟨bv, 0, none⟩) 1 1] w (InsPostV B w0 (n + 1) (insLV 6 xs news i) M) := by
  obtain ⟨l2, hl2, hp2⟩ := (hp.reorder (List.Perm.swap _ _ _)).more 6 (by omega)
  replace hp := hp2.reorder (List.Perm.swap _ _ _)
  clear hp2
  have HNL : RowKit.Hid (news.length = 1 * 6) := Lib.hid (by rw [hnl])
  have HN1 := Lib.hid hn1
  have HMIN : RowKit.Hid (Nat.min 1 (n + 1 - i) = 1) := Lib.hid (Nat.min_eq_left (by omega))
  have HMIN3 : RowKit.Hid (Nat.min (n + 1 - i) (n - i) = n - i) := Lib.hid (Nat.min_eq_right (by omega))
  have HDL : RowKit.Hid ((xs.drop (i * 6)).length = (n - i) * 6) := Lib.hid (by rw [List.length_drop, hxl]; omega)
  have HD1 : RowKit.Hid ((xs.drop (i * 6)).all (·.oneCell') = true) := Lib.hid (by rw [List.all_eq_true]; intro u hu; exact List.all_eq_true.1 hx1 u (List.mem_of_mem_drop hu))
  have HDK : RowKit.Hid (∀ (j : Nat) u, (xs.drop (i * 6))[j]? = some u → (xs ++ l2)[i * 6 + j]? = some u) := Lib.hid (fun j u hj => by
    rw [List.getElem?_drop] at hj
    rw [List.getElem?_append_left (List.getElem?_eq_some_iff.1 hj).1]; exact hj)
  have HFIT3 : RowKit.Hid ((i + 1) * 6 + (n - i) * 6 ≤ (xs ++ l2).length) := Lib.hid (by rw [List.length_append, hxl, hl2]; omega)
  have HFIT4 : RowKit.Hid (i * 6 + 1 * 6 ≤ (xs.take ((i + 1) * 6) ++ xs.drop (i * 6)).length) := Lib.hid (by rw [List.length_append, List.length_take, List.length_drop, hxl]; omega)
  have HC := Lib.hid (ins_cV n i hi xs l2 hxl hl2)
  have HDD := Lib.hid (ins_dV n i hi xs news hxl)
  have HIL := Lib.hid (ins_lenV n i (by omega) xs news hxl (by rw [hnl]))
  have hov : ∀ od lb cb, (callFunc 66 #[.slice (some ⟨bv, 0, none⟩) 1 1, .slice (some ⟨g, od, none⟩) lb cb]).run Tryz.prog w = .ok (.value (.bool false)) w := fun od lb cb => over66 (od := od) (cap := 0) hp (by omega) lb cb
  have f1 : (0 : Int) ≤ (i : Int) := by omega
  have f2 : (i : Int) ≤ (n : Int) := by omega
  have f3 : (i : Int) ≤ (cap : Int) := by omega
  have f4 : ((i : Int) == (n : Int)) = false := by simp; omega
  have f5 : decide ((cap : Int) < (n : Int) + 1) = false := by simp; omega
  have f6 : ¬ (cap = i) := by omega
  have f7 : ¬ (cap = i + 1) := by omega
  have HW1 : RowKit.Hid (wrap64 ((i : Int) + 1) = (i : Int) + 1) := Lib.hid (by unfold wrap64; omega)
  have f10 : ((i : Int) + 1).toNat = i + 1 := by omega
  have f11 : (0 : Int) ≤ (i : Int) + 1 := by omega
  have f12 : (i : Int) + 1 ≤ (n : Int) + 1 := by omega
  have f13 : (n : Int) + 1 ≤ (cap : Int) := by omega
  have f14 : (0 : Int) ≤ (n : Int) + 1 := by omega
  have f15 : ((n : Int) + 1).toNat = n + 1 := by omega
  have f16 : (i : Int) ≤ (n : Int) + 1 := by omega
  clear hnl hn1 hx1 hxl hl2
  go_enter Tryz.func44, Tryz.ntmps44
  go_wp2_with (first | (simp only [hov]; done) | go_skip)
  refine wp_region_keeps _ (Keeps.all hp.drew) [8] [(0, true), (1, true), (2, true), (3, true), (4, true), (5, true), (6, true), (7, true), (8, false)] (by kernel_rfl) (by kernel_rfl) rfl (by kernel_rfl) (fun _ _ d _ _ h => by cases d <;> exact h) ?_
  replace hp := hp.drew
  repeat' (with_reducible refine plan_is ?_); first | (with_reducible refine plan_nil ?_) | refine tk5 ?_ | (refine plan_do rfl (fun K hK => ?_); go_wp2_with (((with_reducible refine pre_copy _ _ _ _ rfl ?_); refine wpList_copyAt hp _ _ 27 _ _ rfl wy Tryz.underlying25 6 size27 g ((i + 1) * 6) (n - i) (cap - (i + 1)) (sTm rfl) g (i * 6) (n + 1 - i) (cap - i) (sTm rfl) 1 _ _ at1 (n - i) HMIN3.out (xs.drop (i * 6)) HDL.out HFIT3.out (fun j u hj => hp.cell at1 (HDK.out j u hj)) HD1.out ?_; clear hp; intro v2 w1 hp; simp only [sSet, zSet] at hp; simp only [put_some, put_none, sSet, zSet])); (first | refine hK.out _ _ (.inl rfl) ?_ | refine hK.out _ _ (.inr (kall hp)) ?_); clear hK K; try simp only [put_some, put_none, eval_tmp, eval_const, sSet, zSet, List.getD_cons_succ, List.getD_cons_zero, wrap_eq, HW1.out])
  rw [HC.out] at hp
  go_wp2_with (first | ((with_reducible refine pre_copy _ _ _ _ rfl ?_); refine wpList_copyAt hp _ _ 27 _ _ rfl wy Tryz.underlying25 6 size27 g (i * 6) (n + 1 - i) (cap - i) (sTm rfl) bv 0 1 1 (sTm rfl) 1 _ _ at1 1 HMIN.out news HNL.out HFIT4.out (fun j u hj => hp.cell at0 (by rw [Nat.zero_add]; exact hj)) HN1.out ?_; clear hp; intro v3 w1 hp; simp only [sSet, zSet] at hp; simp only [put_some, put_none, sSet, zSet]) | go_skip)
  rw [HDD.out] at hp
  go_ret
  refine ⟨_, [⟨g, insLV 6 xs news i, 27, cap * 6⟩], rfl, ⟨HIL.out, .inr ⟨g, cap, rfl, by omega, hcm, rfl⟩⟩, hp.tail⟩
theorem ins44 (n i : Nat) (hn : n ≤ 1000) (hi : i ≤ n) (xs : List Value) (v : Value) {B : Nat} {w0 w : World} {R M : List Blk} (news : List Value) (hnl : news.length = 6) (hn1 : news.all (·.oneCell') = true) (hx1 : xs.all (·.oneCell') = true) (bv : Nat) (ev : TypeId) (mv : Nat) (hR : OwnRow 27 6 v n xs R) (hp : Hp B w0 w (⟨bv, news, ev, mv⟩ :: (R ++ M))) :
    Calls Tryz.prog 44 #[v, .int .i64 i, .slice (some ⟨bv, 0, none⟩) 1 1] w (InsPostV B w0 (n + 1) (insLV 6 xs news i) M) := by
  rcases Nat.eq_or_lt_of_le hi with h | h
  · subst h
    exact ins44_end i hn xs v news hnl hn1 bv ev mv hR hp
  · obtain ⟨hxl, ⟨h0, _⟩ | ⟨g, cap, hv, hnc, hcm, hr⟩⟩ := hR
    · omega
    · subst hv hr
      rcases Nat.lt_or_ge cap (n + 1) with h2 | h2
      · exact ins44_grow n i hn h xs hxl g cap hnc h2 news hnl hn1 hx1 bv ev mv hp
      · exact ins44_room n i hn h xs hxl g cap hcm h2 news hnl hn1 hx1 bv ev mv hp
end Go.Proofs.YtcjbepaclbhjaaaGreat
/- The walk of each: votes in memory of their own. -/
namespace Go.Proofs.YtcjbepaclbhjaaaGreat
open Go.RowKit
def EachRel (w : World) (l : List Vt) (q : Nat) (v : Value) (wr : World) : Prop :=
  ∃ (ys : List Vt) (R M : List Blk), RowKit.Hid (VtsSm (l.take q) ys) ∧ RowKit.Hid (OwnRow 27 6 v q (ys.flatMap vtV) R) ∧ RowKit.Hid (OwnVs ys M) ∧ Hp w.heap.size w wr (R ++ M)
def EachPost (w : World) (l : List Vt) (e : Ending) (w' : World) : Prop :=
  ∃ (v : Value) (ys : List Vt) (R M : List Blk), e = .returned v ∧ VtsSm l ys ∧ OwnRow 27 6 v l.length (ys.flatMap vtV) R ∧ OwnVs ys M ∧ Hp w.heap.size w w' (R ++ M)
set_option maxRecDepth 100000 in
set_option maxHeartbeats 8000000 in
theorem each40 (l : List Vt) (a : Option Addr) (c : Nat) (hl : l.length ≤ 1000) (hes : ∀ v ∈ l, v.es.length ≤ 100000) (w : World) (ha : RowIs w a (l.flatMap vtV)) (hv : ∀ v ∈ l, v.Is w) :
    Calls Tryz.prog 40 #[.slice a l.length c, .func (.func 28) #[] #[]] w (EachPost w l) := by
  obtain ⟨i0, hi0, hz0, hz1, hz2⟩ := info_parts info27
  have hp := Hp.start w
  have HA := Lib.hid ha
  have HES := Lib.hid hes
  have HVS := Lib.hid hv
  clear ha hes hv
  go_enter Tryz.func40, Tryz.ntmps40
  go_wp2_with (first | go_skip | (first | (refine hA1 ?_; clear hp; intro b w1 hp) | refine hL11 ?_ | (refine hS0 ?_; clear hp; intro w1 hp)))
  go_loopg [5, 10] l.length (fun k v i wr => ∃ q : Nat, k + q = l.length ∧ i = .int .i64 q ∧ EachRel w l q v wr)
  case atStart => exact ⟨0, by omega, rfl, [], [], [], Lib.hid ⟨by simp, fun i a b h => by simp at h⟩, Lib.hid (OwnRow.nil _ _), Lib.hid trivial, hp⟩
  case round =>
    clear hp
    obtain ⟨q, hkq, rfl, ys, R, M, HSM, HR, HM, hp⟩ := hrel
    by_cases hlt : q < l.length
    · obtain ⟨bq, off, rfl, hx⟩ := HA.out.elems 6 vtV_len (by omega) (by omega)
      have hj := List.getElem?_eq_getElem hlt
      replace hx := hx q _ hj
      have hmem := List.getElem_mem hlt
      have hv := HVS.out _ hmem
      have hel := HES.out _ hmem
      have HJ := Lib.hid hj
      clear hj hmem
      generalize l[q] = x at hx hv hel HJ
      obtain ⟨nd, nm, bs, nu, cm, va, es, vc⟩ := x
      simp only [vtV] at hx
      simp only at hel
      have HX := Lib.hid hx
      have HV : RowKit.Hid (RowIs w va (es.flatMap envL)) := Lib.hid hv
      clear hx hv
      have e1 : (0 : Int) ≤ (q : Int) := by omega
      have e2 : (q : Int) < (l.length : Int) := by omega
      have sm5 : q + 1 ≤ maxLen := by unfold maxLen; omega
      have sm6 : (q + 1) * 64 ≤ 140737488355328 := by omega
      go_wp2_with (first | (go_at_call 28; (with_reducible refine (own28 nd nm bs nu cm va es vc hel _ (HV.out.below hp.below)).mono ?_); rintro e w1 ⟨a2, c2, R2, rfl, hk2, hp2⟩; replace hp := hp.join hp2; have HK2 := Lib.hid hk2; clear hp2 hk2; simp only [List.cons_append, List.nil_append, List.append_assoc] at hp) | ((with_reducible refine pre_build _ _ _ rfl ?_); refine wpList_buildSlice_hp hp _ _ _ rfl wy [.int .i64 nd, .int .i64 nm, .int .i64 bs, .int .i64 nu, .int .i64 cm, .slice a2 es.length c2] 27 (by intro w; go_simp; try rfl) ?_; clear hp; intro bb w1 hp; simp only [put_some, put_none, sSet, zSet]) | ((with_reducible refine pre_append _ _ 25 rfl ?_); refine wpList_appendGrow (K := [_]) (R := R) (M := M ++ R2) hp _ _ _ rfl wy i0 _ 64 Tryz.underlying25 hi0 hz0 hz1 hz2 rfl (by decide) (sTm rfl) HR.out 1 1 (sTm rfl) (by rfl) (by decide) (by rfl) sm5 sm6 ?_; clear hp HR; intro v' R' w1 hR' hp; have HR' := Lib.hid hR'; clear hR'; simp only [List.cons_append, List.nil_append] at hp; simp only [put_some, put_none, sSet, zSet]) | go_skip | (first | (refine hA1 ?_; clear hp; intro b w1 hp) | refine hL11 ?_ | (refine hS0 ?_; clear hp; intro w1 hp)))
      go_roundg (l.length - (q + 1))
      case measure => omega
      case rel =>
        refine ⟨q + 1, by omega, by go_num, ys ++ [⟨nd, nm, bs, nu, cm, a2, es, c2⟩], R', M ++ R2, Lib.hid ?_, Lib.hid (by rw [List.flatMap_append]; exact HR'.out), Lib.hid (HM.out.snoc (y := ⟨nd, nm, bs, nu, cm, a2, es, c2⟩) HK2.out), hp.kp⟩
        rw [List.take_add_one, HJ.out]; exact VtsSm.snoc HSM.out ⟨rfl, rfl, rfl, rfl, rfl, rfl⟩
    · have e2 : decide ((q : Int) < (l.length : Int)) = false := by simp; omega
      obtain rfl : q = l.length := by omega
      go_wp2_with (first | go_skip | (first | (refine hA1 ?_; clear hp; intro b w1 hp) | refine hL11 ?_ | (refine hS0 ?_; clear hp; intro w1 hp)))
      go_ret
      exact ⟨_, ys, R, M, rfl, by have := HSM.out; rw [List.take_length] at this; exact this, HR.out, HM.out, hp⟩
end Go.Proofs.YtcjbepaclbhjaaaGreat
