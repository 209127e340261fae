/- Parts of the proof. -/
import Derived.Test.YtcjbepaclbhjaaaGreatKe1
import Derived.Test.YtcjbepaclbhjaaaGreatKe6
import Derived.Test.YtcjbepaclbhjaaaGreatKe8
open List renaming set_cons_zero → zSet, set_cons_succ → sSet
/- The walk of slices.Insert of two blocks ahead of a row that begins anywhere in its block. -/
set_option linter.unusedSimpArgs false
set_option linter.unusedVariables false
namespace Go.Proofs.YtcjbepaclbhjaaaGreat
open Go.RowKit
def InsPost2 (B : Nat) (w0 : World) (n : Nat) (xs : List Value) (M : List Blk) (e : Ending) (w' : World) : Prop := ∃ v' R', e = .returned v' ∧ SubRow 150 2 v' n xs R' ∧ Hp B w0 w' (R' ++ M)
set_option maxRecDepth 100000 in
set_option maxHeartbeats 4000000 in
theorem ins2158_end (v : Value) {B : Nat} {w0 w : World} {R M : List Blk} (news : List Value) (hnl : news.length = 4) (hn1 : news.all (·.oneCell') = true) (bv : Nat) (ev : TypeId) (mv : Nat) (hR : SubRow 150 2 v 0 [] R) (hp : Hp B w0 w (⟨bv, news, ev, mv⟩ :: (R ++ M))) :
    Calls Tryz.prog 158 #[v, .int .i64 0, .slice (some ⟨bv, 0, none⟩) 2 2] w (InsPost2 B w0 2 news M) := by
  obtain ⟨i0, hi0, hz0, hz1, hz2⟩ := info_parts info150
  have HNL : RowKit.Hid (news.length = 2 * 2) := Lib.hid (by rw [hnl])
  have HN1 := Lib.hid hn1
  have HR := Lib.hid hR
  rcases hR with ⟨_, ⟨_, ⟨a, rfl⟩, rfl⟩ | ⟨g, off, cap, pre, rfl, _, _, _, rfl⟩⟩
  · clear hnl hn1
    rcases a with _ | ⟨g, off, x⟩
    all_goals
      go_enter Tryz.func158, Tryz.ntmps158
      go_wp2_with (first | ((with_reducible refine pre_append2 _ _ 81 81 rfl ?_); refine wpList_appendSub (K := [_]) (M := M) hp _ _ _ _ rfl wy 150 i0 _ 2 16 Tryz.underlying81 hi0 hz0 hz1 hz2 rfl _ 0 [] (sTm rfl) HR.out _ (sTm rfl) 2 news (Src.ofRow Tryz.underlying81 (by decide) _ 2 2 news HNL.out (hp.rowIs at0) HN1.out) (by decide) (by decide) ?_; clear hp; intro v' R' w1 hR' hp; have HR' := Lib.hid hR'; clear hR'; simp only [put_some, put_none, sSet, zSet]) | go_skip)
      go_ret
      exact ⟨v', R', rfl, by simpa using HR'.out, hp.tail⟩
  · clear hnl hn1
    by_cases hc : cap = 0
    · subst hc
      go_enter Tryz.func158, Tryz.ntmps158
      go_wp2_with (first | ((with_reducible refine pre_append2 _ _ 81 81 rfl ?_); refine wpList_appendSub (K := [_]) (M := M) hp _ _ _ _ rfl wy 150 i0 _ 2 16 Tryz.underlying81 hi0 hz0 hz1 hz2 rfl _ 0 [] (sTm rfl) HR.out _ (sTm rfl) 2 news (Src.ofRow Tryz.underlying81 (by decide) _ 2 2 news HNL.out (hp.rowIs at0) HN1.out) (by decide) (by decide) ?_; clear hp; intro v' R' w1 hR' hp; have HR' := Lib.hid hR'; clear hR'; simp only [put_some, put_none, sSet, zSet]) | go_skip)
      go_ret
      exact ⟨v', R', rfl, by simpa using HR'.out, hp.tail⟩
    · go_enter Tryz.func158, Tryz.ntmps158
      go_wp2_with (first | ((with_reducible refine pre_append2 _ _ 81 81 rfl ?_); refine wpList_appendSub (K := [_]) (M := M) hp _ _ _ _ rfl wy 150 i0 _ 2 16 Tryz.underlying81 hi0 hz0 hz1 hz2 rfl _ 0 [] (sTm rfl) HR.out _ (sTm rfl) 2 news (Src.ofRow Tryz.underlying81 (by decide) _ 2 2 news HNL.out (hp.rowIs at0) HN1.out) (by decide) (by decide) ?_; clear hp; intro v' R' w1 hR' hp; have HR' := Lib.hid hR'; clear hR'; simp only [put_some, put_none, sSet, zSet]) | go_skip)
      go_ret
      exact ⟨v', R', rfl, by simpa using HR'.out, hp.tail⟩
theorem pre_get {pre xs : List Value} {off j : Nat} {u : Value} (h : pre.length = off) (hj : xs[j]? = some u) : (pre ++ xs)[off + j]? = some u := by
  rw [List.getElem?_append_right (by omega), show off + j - pre.length = j by omega]; exact hj
set_option maxRecDepth 100000 in
set_option maxHeartbeats 4000000 in
theorem ins2158_grow (n : Nat) (h0 : 0 < n) (hn : n ≤ 1000) (xs : List Value) (hxl : xs.length = n * 2) (g off cap : Nat) (pre : List Value) (hpre : pre.length = off) (hnc : n ≤ cap) (hcap : cap < n + 2) {B : Nat} {w0 w : World} {M : List Blk} (news : List Value) (hnl : news.length = 4) (hn1 : news.all (·.oneCell') = true) (hx1 : xs.all (·.oneCell') = true) (bv : Nat) (ev : TypeId) (mv N : Nat) (hp : Hp B w0 w (⟨bv, news, ev, mv⟩ :: ⟨g, pre ++ xs, 150, N⟩ :: M)) :
    Calls Tryz.prog 158 #[.slice (some ⟨g, off, none⟩) n cap, .int .i64 0, .slice (some ⟨bv, 0, none⟩) 2 2] w (InsPost2 B w0 (n + 2) (news ++ xs) M) := by
  obtain ⟨i0, hi0, hz0, hz1, hz2⟩ := info_parts info150
  have HNL : RowKit.Hid (news.length = 2 * 2) := Lib.hid (by rw [hnl])
  have HN1 := Lib.hid hn1
  have HX1 := Lib.hid hx1
  have HXL := Lib.hid hxl
  have HDK : RowKit.Hid (∀ (j : Nat) u, xs[j]? = some u → (pre ++ xs)[off + j]? = some u) := Lib.hid (fun j u hj => pre_get hpre hj)
  have HKZ : RowKit.Hid ((n : Int) + 2 = ((n + 2 : Nat) : Int)) := Lib.hid (by omega)
  have HMIN : RowKit.Hid (Nat.min 2 (n + 2) = 2) := Lib.hid (Nat.min_eq_left (by omega))
  have HMIN2 : RowKit.Hid (Nat.min n n = n) := Lib.hid (Nat.min_self _)
  have k0 : 0 < n + 2 := by omega
  have kg : cap < n + 2 := by omega
  have k63 : n + 2 ≤ maxLen := by unfold maxLen; omega
  have kby : (n + 2) * 16 ≤ 100000000 := by omega
  have f1 : (0 : Int) ≤ (n : Int) := by omega
  have f2 : (0 : Int) ≤ (cap : Int) := by omega
  have f4 : ((0 : Int) == (n : Int)) = false := by simp; omega
  have f5 : (cap : Int) < (n : Int) + 2 := by omega
  have f6 : ¬ (cap = 0) := by omega
  clear hnl hn1 hx1 hxl
  go_enter Tryz.func158, Tryz.ntmps158
  go_wp2_with (first | (at_builtin; refine wpList_appendZeros0 hp _ _ 150 _ _ rfl wy Tryz.underlying81 .i64 Tryz.underlying3 i0 _ hi0 hz0 2 16 hz1 hz2 rfl (by decide) _ cap (sTm rfl) _ (n + 2) HKZ.out (sTm rfl) k0 kg k63 kby ?_; clear hp; intro g2 cap2 w1 hc2 hcm2 hp; generalize hzs : (Builtin.zeroCells _ (n + 2)).toList = zs at hp; have HZL := Lib.hid (show zs.length = (n + 2) * 2 by rw [← hzs, Array.length_toList, size_zeroCells]; rfl); clear hzs; have f7 : ¬ (cap2 = 0) := (by omega); have f8 : ¬ (cap2 = 2) := (by omega); have f9 : (2 : Int) ≤ (cap2 : Int) := (by omega); have HFIT : RowKit.Hid (0 + 2 * 2 ≤ zs.length) := Lib.hid (by rw [HZL.out]; omega); simp only [put_some, put_none, sSet, zSet]) | ((with_reducible refine pre_copy _ _ _ _ rfl ?_); refine wpList_copyAt hp _ _ 150 _ _ rfl wy Tryz.underlying81 2 size150 g2 0 (n + 2) cap2 (sTm rfl) bv 0 2 2 (sTm rfl) 0 _ _ at0 2 HMIN.out news HNL.out HFIT.out (fun j u hj => hp.cell at1 (by rw [Nat.zero_add]; exact hj)) HN1.out ?_; clear hp; intro v2 w1 hp; simp only [zSet] at hp; simp only [put_some, put_none, sSet, zSet]) | go_skip)
  have HL1 : RowKit.Hid (zs.take 0 ++ (news ++ zs.drop (0 + 2 * 2)) = news ++ zs.drop 4) := Lib.hid (by simp)
  rw [HL1.out] at hp
  have HFIT2 : RowKit.Hid (4 + n * 2 ≤ (news ++ zs.drop 4).length) := Lib.hid (by rw [List.length_append, List.length_drop, HNL.out, HZL.out]; omega)
  have f10 : (2 : Int) ≤ (n : Int) + 2 := by omega
  have HW1 : RowKit.Hid (wrap64 (2 : Int) = 2) := Lib.hid (by unfold wrap64; omega)
  refine wp_region_keeps _ (Keeps.all hp.drew) [8] [(0, true), (1, true), (2, true), (3, true), (4, true), (5, true), (6, true), (7, true), (8, false)] (by kernel_rfl) (by kernel_rfl) rfl (by kernel_rfl) (fun _ _ d _ _ h => by cases d <;> exact h) ?_
  replace hp := hp.drew
  repeat' (with_reducible refine plan_is ?_); first | (with_reducible refine plan_nil ?_) | refine tk5 ?_ | (refine plan_do rfl (fun K hK => ?_); go_wp2_with (((with_reducible refine pre_copy _ _ _ _ rfl ?_); refine wpList_copyAt hp _ _ 150 _ _ rfl wy Tryz.underlying81 2 size150 g2 4 n (cap2 - 2) (sTm rfl) g off n cap (sTm rfl) 0 _ _ at0 n HMIN2.out xs HXL.out HFIT2.out (fun j u hj => hp.cell at2 (HDK.out j u hj)) HX1.out ?_; clear hp; intro v2 w1 hp; simp only [zSet] at hp; simp only [put_some, put_none, sSet, zSet])); (first | refine hK.out _ _ (.inl rfl) ?_ | refine hK.out _ _ (.inr (kall hp)) ?_); clear hK K; try simp only [put_some, put_none, eval_tmp, eval_const, sSet, zSet, List.getD_cons_succ, List.getD_cons_zero, wrap_eq, HW1.out])
  go_wp2_with fail
  go_ret
  have hyl : (news ++ xs).length = (n + 2) * 2 := by rw [List.length_append, HNL.out, HXL.out]; omega
  refine ⟨_, [⟨g2, news ++ xs, 150, cap2 * 2⟩], rfl, ⟨hyl, .inr ⟨g2, 0, cap2, [], rfl, hc2, hcm2, rfl, by rw [Nat.zero_add, List.nil_append]⟩⟩, ?_⟩
  have e : (news ++ zs.drop 4).take 4 ++ (xs ++ (news ++ zs.drop 4).drop (4 + n * 2)) = news ++ xs := by
    rw [List.take_append_of_le_length (by rw [HNL.out]; omega), List.take_of_length_le (by rw [HNL.out]; omega), List.drop_eq_nil_of_le (by rw [List.length_append, List.length_drop, HNL.out, HZL.out]; omega), List.append_nil]
  rw [e] at hp
  exact hp.kp
theorem over2169 {B : Nat} {w0 w : World} {L : List Blk} {bv g ev mv nv : Nat} {news l : List Value} {eg : TypeId} (hp : Hp B w0 w (⟨bv, news, ev, mv⟩ :: ⟨g, l, eg, nv⟩ :: L)) (hnv : nv ≠ 0) (od lb cb : Nat) :
    (callFunc 169 #[.slice (some ⟨bv, 0, none⟩) 2 2, .slice (some ⟨g, od, none⟩) lb cb]).run Tryz.prog w = .ok (.value (.bool false)) w := by
  have hne : bv ≠ g := by
    have := hp.nodup
    simp only [List.map_cons, List.nodup_cons, List.mem_cons] at this
    exact fun h => this.1 (.inl h)
  rw [run_callFunc_extern Tryz.func169 (by kernel_rfl) (by kernel_rfl) (by kernel_rfl) (e := Extern.SlicesOverlaps.overlaps #[81, 81] #[4]) (by kernel_rfl),
    Lib.run_overlaps_apart w 81 4 150 Tryz.underlying81 2 (fun w => (run_isAgg_agg agg150 w).2) ⟨bv, 0, none⟩ ⟨g, od, none⟩ 2 2 lb cb hne ev eg mv nv (hp.shape at0) (hp.shape at1) hnv (hp.free at0 0) (hp.free at0 mv)]
  rfl
theorem ins2_c (n off : Nat) (pre xs l2 : List Value) (hp : pre.length = off) (hx : xs.length = n * 2) (h2 : l2.length = 4) :
    (pre ++ xs ++ l2).take (off + 4) ++ (xs ++ (pre ++ xs ++ l2).drop (off + 4 + n * 2)) = pre ++ ((xs ++ l2).take 4 ++ xs) := by
  rw [List.drop_eq_nil_of_le (by rw [List.length_append, List.length_append]; omega), List.append_nil, List.append_assoc pre xs l2, List.take_append, List.take_of_length_le (by omega), hp, show off + 4 - off = 4 by omega, List.append_assoc]
theorem ins2_d (off : Nat) (pre ys xs news : List Value) (hp : pre.length = off) (hy : ys.length = 4) :
    (pre ++ (ys ++ xs)).take off ++ (news ++ (pre ++ (ys ++ xs)).drop (off + 2 * 2)) = pre ++ (news ++ xs) := by
  rw [List.take_append_of_le_length (by omega), List.take_of_length_le (by omega), List.drop_append, List.drop_eq_nil_of_le (by omega), List.nil_append, hp, show off + 2 * 2 - off = 4 by omega, List.drop_append_of_le_length (by omega), List.drop_eq_nil_of_le (by omega), List.nil_append]
set_option maxRecDepth 100000 in
set_option maxHeartbeats 4000000 in
theorem ins2158_room (n : Nat) (h0 : 0 < n) (hn : n ≤ 1000) (xs : List Value) (hxl : xs.length = n * 2) (g off cap : Nat) (pre : List Value) (hpre : pre.length = off) (hcm : cap ≤ maxLen) (hcap : n + 2 ≤ cap) {B : Nat} {w0 w : World} {M : List Blk} (news : List Value) (hnl : news.length = 4) (hn1 : news.all (·.oneCell') = true) (hx1 : xs.all (·.oneCell') = true) (bv : Nat) (ev : TypeId) (mv : Nat) (hp : Hp B w0 w (⟨bv, news, ev, mv⟩ :: ⟨g, pre ++ xs, 150, off + cap * 2⟩ :: M)) :
    Calls Tryz.prog 158 #[.slice (some ⟨g, off, none⟩) n cap, .int .i64 0, .slice (some ⟨bv, 0, none⟩) 2 2] w (InsPost2 B w0 (n + 2) (news ++ xs) M) := by
  obtain ⟨l2, hl2, hp2⟩ := (hp.reorder (List.Perm.swap _ _ _)).more 4 (by rw [List.length_append, hpre, hxl]; omega)
  replace hp := hp2.reorder (List.Perm.swap _ _ _)
  clear hp2
  have HNL : RowKit.Hid (news.length = 2 * 2) := Lib.hid (by rw [hnl])
  have HN1 := Lib.hid hn1
  have HX1 := Lib.hid hx1
  have HXL := Lib.hid hxl
  have HMIN : RowKit.Hid (Nat.min 2 (n + 2) = 2) := Lib.hid (Nat.min_eq_left (by omega))
  have HMIN3 : RowKit.Hid (Nat.min (n + 2) n = n) := Lib.hid (Nat.min_eq_right (by omega))
  have HDK : RowKit.Hid (∀ (j : Nat) u, xs[j]? = some u → (pre ++ xs ++ l2)[off + j]? = some u) := Lib.hid (fun j u hj => by
    rw [List.append_assoc]
    refine pre_get hpre ?_
    rw [List.getElem?_append_left (List.getElem?_eq_some_iff.1 hj).1]; exact hj)
  have HFIT3 : RowKit.Hid (off + 4 + n * 2 ≤ (pre ++ xs ++ l2).length) := Lib.hid (by rw [List.length_append, List.length_append, hpre, hxl, hl2]; omega)
  have hyl : ((xs ++ l2).take 4).length = 4 := by rw [List.length_take, List.length_append, hl2]; omega
  have HFIT4 : RowKit.Hid (off + 2 * 2 ≤ (pre ++ ((xs ++ l2).take 4 ++ xs)).length) := Lib.hid (by rw [List.length_append, List.length_append, hyl, hpre]; omega)
  have HC := Lib.hid (ins2_c n off pre xs l2 hpre hxl hl2)
  have HDD := Lib.hid (ins2_d off pre ((xs ++ l2).take 4) xs news hpre hyl)
  have HPRE := Lib.hid hpre
  have hov : ∀ od lb cb, (callFunc 169 #[.slice (some ⟨bv, 0, none⟩) 2 2, .slice (some ⟨g, od, none⟩) lb cb]).run Tryz.prog w = .ok (.value (.bool false)) w := fun od lb cb => over2169 hp (by omega) od lb cb
  have f1 : (0 : Int) ≤ (n : Int) := by omega
  have f2 : (0 : Int) ≤ (cap : Int) := by omega
  have f4 : ((0 : Int) == (n : Int)) = false := by simp; omega
  have f5 : decide ((cap : Int) < (n : Int) + 2) = false := by simp; omega
  have f6 : ¬ (cap = 0) := by omega
  have f7 : ¬ (cap = 2) := by omega
  have f13 : (n : Int) + 2 ≤ (cap : Int) := by omega
  have f14 : (0 : Int) ≤ (n : Int) + 2 := by omega
  have f15 : ((n : Int) + 2).toNat = n + 2 := by omega
  have f16 : (2 : Int) ≤ (n : Int) + 2 := by omega
  have HW1 : RowKit.Hid (wrap64 (2 : Int) = 2) := Lib.hid (by unfold wrap64; omega)
  have f17 : (2 : Int) ≤ (cap : Int) := by omega
  clear hnl hn1 hx1 hxl hl2 hyl
  go_enter Tryz.func158, Tryz.ntmps158
  go_wp2_with (first | (simp only [hov]; done) | go_skip)
  refine wp_region_keeps _ (Keeps.all hp.drew) [8] [(0, true), (1, true), (2, true), (3, true), (4, true), (5, true), (6, true), (7, true), (8, false)] (by kernel_rfl) (by kernel_rfl) rfl (by kernel_rfl) (fun _ _ d _ _ h => by cases d <;> exact h) ?_
  replace hp := hp.drew
  repeat' (with_reducible refine plan_is ?_); first | (with_reducible refine plan_nil ?_) | refine tk5 ?_ | (refine plan_do rfl (fun K hK => ?_); go_wp2_with (((with_reducible refine pre_copy _ _ _ _ rfl ?_); refine wpList_copyAt hp _ _ 150 _ _ rfl wy Tryz.underlying81 2 size150 g (off + 4) n (cap - 2) (sTm rfl) g off (n + 2) cap (sTm rfl) 1 _ _ at1 n HMIN3.out xs HXL.out HFIT3.out (fun j u hj => hp.cell at1 (HDK.out j u hj)) HX1.out ?_; clear hp; intro v2 w1 hp; simp only [sSet, zSet] at hp; simp only [put_some, put_none, sSet, zSet])); (first | refine hK.out _ _ (.inl rfl) ?_ | refine hK.out _ _ (.inr (kall hp)) ?_); clear hK K; try simp only [put_some, put_none, eval_tmp, eval_const, sSet, zSet, List.getD_cons_succ, List.getD_cons_zero, wrap_eq, HW1.out])
  rw [HC.out] at hp
  go_wp2_with (first | ((with_reducible refine pre_copy _ _ _ _ rfl ?_); refine wpList_copyAt hp _ _ 150 _ _ rfl wy Tryz.underlying81 2 size150 g off (n + 2) cap (sTm rfl) bv 0 2 2 (sTm rfl) 1 _ _ at1 2 HMIN.out news HNL.out HFIT4.out (fun j u hj => hp.cell at0 (by rw [Nat.zero_add]; exact hj)) HN1.out ?_; clear hp; intro v3 w1 hp; simp only [sSet, zSet] at hp; simp only [put_some, put_none, sSet, zSet]) | go_skip)
  rw [HDD.out] at hp
  go_ret
  refine ⟨_, [⟨g, pre ++ (news ++ xs), 150, off + cap * 2⟩], rfl, ⟨by rw [List.length_append, HNL.out, HXL.out]; omega, .inr ⟨g, off, cap, pre, rfl, hcap, hcm, HPRE.out, rfl⟩⟩, hp.tail⟩
theorem ins2158 (n : Nat) (hn : n ≤ 1000) (xs : List Value) (v : Value) {B : Nat} {w0 w : World} {R M : List Blk} (news : List Value) (hnl : news.length = 4) (hn1 : news.all (·.oneCell') = true) (hx1 : xs.all (·.oneCell') = true) (bv : Nat) (ev : TypeId) (mv : Nat) (hR : SubRow 150 2 v n xs R) (hp : Hp B w0 w (⟨bv, news, ev, mv⟩ :: (R ++ M))) :
    Calls Tryz.prog 158 #[v, .int .i64 0, .slice (some ⟨bv, 0, none⟩) 2 2] w (InsPost2 B w0 (n + 2) (news ++ xs) M) := by
  rcases Nat.eq_zero_or_pos n with h0 | h0
  · subst h0
    have hx : xs = [] := List.eq_nil_of_length_eq_zero (by simpa using hR.1)
    subst hx
    rw [List.append_nil]
    exact ins2158_end v news hnl hn1 bv ev mv hR hp
  · obtain ⟨hxl, ⟨h, _⟩ | ⟨g, off, cap, pre, hv, hnc, hcm, hpre, hr⟩⟩ := hR
    · omega
    · subst hv hr
      rcases Nat.lt_or_ge cap (n + 2) with h2 | h2
      · exact ins2158_grow n h0 hn xs hxl g off cap pre hpre hnc h2 news hnl hn1 hx1 bv ev mv _ hp
      · exact ins2158_room n h0 hn xs hxl g off cap pre hpre hcm h2 news hnl hn1 hx1 bv ev mv hp
end Go.Proofs.YtcjbepaclbhjaaaGreat
