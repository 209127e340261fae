/- Parts of the proof. -/
import Derived.Test.YtcjbepaclbhjaaaGreatCl4
import Derived.Test.YtcjbepaclbhjaaaGreatCl6
import Derived.Test.YtcjbepaclbhjaaaGreatCl7
import Derived.Test.YtcjbepaclbhjaaaGreatCl2
open List renaming set_cons_zero → zSet, set_cons_succ → sSet
/- The walk of slices.Insert of two blocks ahead of a row that begins anywhere in its block. -/
set_option linter.unusedSimpArgs false
set_option linter.unusedVariables false
namespace Go.Proofs.YtcjbepaclbhjaaaGreat
open Go.RowKit
def InsPost2 (B : Nat) (w0 : World) (n : Nat) (xs : List Value) (M : List Blk) (e : Ending) (w' : World) : Prop := ∃ v' R', e = .returned v' ∧ SubRow 150 2 v' n xs R' ∧ Hp B w0 w' (R' ++ M)
set_option maxRecDepth 100000 in
set_option maxHeartbeats 4000000 in
theorem ins2158_end (v : Value) {B : Nat} {w0 w : World} {R M : List Blk} (news : List Value) (hnl : news.length = 4) (hn1 : news.all (·.oneCell') = true) (bv : Nat) (ev : TypeId) (mv : Nat) (hR : SubRow 150 2 v 0 [] R) (hp : Hp B w0 w (⟨bv, news, ev, mv⟩ :: (R ++ M))) :
    Calls Tryz.prog 158 #[v, .int .i64 0, .slice (some ⟨bv, 0, none⟩) 2 2] w (InsPost2 B w0 2 news M) := by
  obtain ⟨i0, hi0, hz0, hz1, hz2⟩ := info_parts info150
  have HNL : RowKit.Hid (news.length = 2 * 2) := Lib.hid (by rw [hnl])
  have HN1 := Lib.hid hn1
  have HR := Lib.hid hR
  rcases hR with ⟨_, ⟨_, ⟨a, rfl⟩, rfl⟩ | ⟨g, off, cap, pre, rfl, _, _, _, rfl⟩⟩
  · clear hnl hn1
    rcases a with _ | ⟨g, off, x⟩
    all_goals
      go_enter Tryz.func158, Tryz.ntmps158
      go_wp2_with (first | ((with_reducible refine pre_append2 _ _ 81 81 rfl ?_); refine wpList_appendSub (K := [_]) (M := M) hp _ _ _ _ rfl wy 150 i0 _ 2 16 Tryz.underlying81 hi0 hz0 hz1 hz2 rfl _ 0 [] (sTm rfl) HR.out _ (sTm rfl) 2 news (Src.ofRow Tryz.underlying81 (by decide) _ 2 2 news HNL.out (hp.rowIs at0) HN1.out) (by decide) (by decide) ?_; clear hp; intro v' R' w1 hR' hp; have HR' := Lib.hid hR'; clear hR'; simp only [put_some, put_none, sSet, zSet]) | go_skip)
      go_ret
      exact ⟨v', R', rfl, by simpa using HR'.out, hp.tail⟩
  · clear hnl hn1
    by_cases hc : cap = 0
    · subst hc
      go_enter Tryz.func158, Tryz.ntmps158
      go_wp2_with (first | ((with_reducible refine pre_append2 _ _ 81 81 rfl ?_); refine wpList_appendSub (K := [_]) (M := M) hp _ _ _ _ rfl wy 150 i0 _ 2 16 Tryz.underlying81 hi0 hz0 hz1 hz2 rfl _ 0 [] (sTm rfl) HR.out _ (sTm rfl) 2 news (Src.ofRow Tryz.underlying81 (by decide) _ 2 2 news HNL.out (hp.rowIs at0) HN1.out) (by decide) (by decide) ?_; clear hp; intro v' R' w1 hR' hp; have HR' := Lib.hid hR'; clear hR'; simp only [put_some, put_none, sSet, zSet]) | go_skip)
      go_ret
      exact ⟨v', R', rfl, by simpa using HR'.out, hp.tail⟩
    · go_enter Tryz.func158, Tryz.ntmps158
      go_wp2_with (first | ((with_reducible refine pre_append2 _ _ 81 81 rfl ?_); refine wpList_appendSub (K := [_]) (M := M) hp _ _ _ _ rfl wy 150 i0 _ 2 16 Tryz.underlying81 hi0 hz0 hz1 hz2 rfl _ 0 [] (sTm rfl) HR.out _ (sTm rfl) 2 news (Src.ofRow Tryz.underlying81 (by decide) _ 2 2 news HNL.out (hp.rowIs at0) HN1.out) (by decide) (by decide) ?_; clear hp; intro v' R' w1 hR' hp; have HR' := Lib.hid hR'; clear hR'; simp only [put_some, put_none, sSet, zSet]) | go_skip)
      go_ret
      exact ⟨v', R', rfl, by simpa using HR'.out, hp.tail⟩
theorem pre_get {pre xs : List Value} {off j : Nat} {u : Value} (h : pre.length = off) (hj : xs[j]? = some u) : (pre ++ xs)[off + j]? = some u := by
  rw [List.getElem?_append_right (by omega), show off + j - pre.length = j by omega]; exact hj
set_option maxRecDepth 100000 in
set_option maxHeartbeats 4000000 in
theorem ins2158_grow (n : Nat) (h0 : 0 < n) (hn : n ≤ 1000) (xs : List Value) (hxl : xs.length = n * 2) (g off cap : Nat) (pre : List Value) (hpre : pre.length = off) (hnc : n ≤ cap) (hcap : cap < n + 2) {B : Nat} {w0 w : World} {M : List Blk} (news : List Value) (hnl : news.length = 4) (hn1 : news.all (·.oneCell') = true) (hx1 : xs.all (·.oneCell') = true) (bv : Nat) (ev : TypeId) (mv N : Nat) (hp : Hp B w0 w (⟨bv, news, ev, mv⟩ :: ⟨g, pre ++ xs, 150, N⟩ :: M)) :
    Calls Tryz.prog 158 #[.slice (some ⟨g, off, none⟩) n cap, .int .i64 0, .slice (some ⟨bv, 0, none⟩) 2 2] w (InsPost2 B w0 (n + 2) (news ++ xs) M) := by
  obtain ⟨i0, hi0, hz0, hz1, hz2⟩ := info_parts info150
  have HNL : RowKit.Hid (news.length = 2 * 2) := Lib.hid (by rw [hnl])
  have HN1 := Lib.hid hn1
  have HX1 := Lib.hid hx1
  have HXL := Lib.hid hxl
  have HDK : RowKit.Hid (∀ (j : Nat) u, xs[j]? = some u → (pre ++ xs)[off + j]? = some u) := Lib.hid (fun j u hj => pre_get hpre hj)
  have HKZ : RowKit.Hid ((n : Int) + 2 = ((n + 2 : Nat) : Int)) := Lib.hid (by omega)
  have HMIN : RowKit.Hid (Nat.min 2 (n + 2) = 2) := Lib.hid (Nat.min_eq_left (by omega))
  have HMIN2 : RowKit.Hid (Nat.min n n = n) := Lib.hid (Nat.min_self _)
  have k0 : 0 < n + 2 := by omega
  have kg : cap < n + 2 := by omega
  have k63 : n + 2 ≤ maxLen := by unfold maxLen; omega
  have kby : (n + 2) * 16 ≤ 100000000 := by omega
  have f1 : (0 : Int) ≤ (n : Int) := by omega
  have f2 : (0 : Int) ≤ (cap : Int) := by omega
  have f4 : ((0 : Int) == (n : Int)) = false := by simp; omega
  have f5 : (cap : Int) < (n : Int) + 2 := by omega
  have f6 : ¬ (cap = 0) := by omega
  clear hnl hn1 hx1 hxl
  go_enter Tryz.func158, Tryz.ntmps158
  go_wp2_with (first | (at_builtin; refine wpList_appendZeros0 hp _ _ 150 _ _ rfl wy Tryz.underlying81 .i64 Tryz.underlying3 i0 _ hi0 hz0 2 16 hz1 hz2 rfl (by decide) _ cap (sTm rfl) _ (n + 2) HKZ.out (sTm rfl) k0 kg k63 kby ?_; clear hp; intro g2 cap2 w1 hc2 hcm2 hp; generalize hzs : (Builtin.zeroCells _ (n + 2)).toList = zs at hp; have HZL := Lib.hid (show zs.length = (n + 2) * 2 by rw [← hzs, Array.length_toList, size_zeroCells]; rfl); clear hzs; have f7 : ¬ (cap2 = 0) := (by omega); have f8 : ¬ (cap2 = 2) := (by omega); have f9 : (2 : Int) ≤ (cap2 : Int) := (by omega); have HFIT : RowKit.Hid (0 + 2 * 2 ≤ zs.length) := Lib.hid (by rw [HZL.out]; omega); simp only [put_some, put_none, sSet, zSet]) | ((with_reducible refine pre_copy _ _ _ _ rfl ?_); refine wpList_copyAt hp _ _ 150 _ _ rfl wy Tryz.underlying81 2 size150 g2 0 (n + 2) cap2 (sTm rfl) bv 0 2 2 (sTm rfl) 0 _ _ at0 2 HMIN.out news HNL.out HFIT.out (fun j u hj => hp.cell at1 (by rw [Nat.zero_add]; exact hj)) HN1.out ?_; clear hp; intro v2 w1 hp; simp only [zSet] at hp; simp only [put_some, put_none, sSet, zSet]) | go_skip)
  have HL1 : RowKit.Hid (zs.take 0 ++ (news ++ zs.drop (0 + 2 * 2)) = news ++ zs.drop 4) := Lib.hid (by simp)
  rw [HL1.out] at hp
  have HFIT2 : RowKit.Hid (4 + n * 2 ≤ (news ++ zs.drop 4).length) := Lib.hid (by rw [List.length_append, List.length_drop, HNL.out, HZL.out]; omega)
  have f10 : (2 : Int) ≤ (n : Int) + 2 := by omega
  have HW1 : RowKit.Hid (wrap64 (2 : Int) = 2) := Lib.hid (by unfold wrap64; omega)
  refine wp_region_keeps _ (Keeps.all hp.drew) [8] [(0, true), (1, true), (2, true), (3, true), (4, true), (5, true), (6, true), (7, true), (8, false)] (by kernel_rfl) (by kernel_rfl) rfl (by kernel_rfl) (fun _ _ d _ _ h => by cases d <;> exact h) ?_
  replace hp := hp.drew
  repeat' (with_reducible refine plan_is ?_); first | (with_reducible refine plan_nil ?_) | ((with_reducible refine plan_t ?_); refine plan_tk rfl ?_; (first | ((with_reducible refine tk_mv _ rfl ?_); refine tM rfl ?_) | refine tG (fun w _ => (by go_simp; try rfl)) ?_); try simp only [put_some, put_none, eval_tmp, eval_const, sSet, zSet, List.getD_cons_succ, List.getD_cons_zero, wrap_eq, HW1.out]) | (refine plan_do rfl (fun K hK => ?_); go_wp2_with (((with_reducible refine pre_copy _ _ _ _ rfl ?_); refine wpList_copyAt hp _ _ 150 _ _ rfl wy Tryz.underlying81 2 size150 g2 4 n (cap2 - 2) (sTm rfl) g off n cap (sTm rfl) 0 _ _ at0 n HMIN2.out xs HXL.out HFIT2.out (fun j u hj => hp.cell at2 (HDK.out j u hj)) HX1.out ?_; clear hp; intro v2 w1 hp; simp only [zSet] at hp; simp only [put_some, put_none, sSet, zSet])); (first | refine hK.out _ _ (.inl rfl) ?_ | refine hK.out _ _ (.inr (kall hp)) ?_); clear hK K; try simp only [put_some, put_none, eval_tmp, eval_const, sSet, zSet, List.getD_cons_succ, List.getD_cons_zero, wrap_eq, HW1.out])
  go_wp2_with fail
  go_ret
  have hyl : (news ++ xs).length = (n + 2) * 2 := by rw [List.length_append, HNL.out, HXL.out]; omega
  refine ⟨_, [⟨g2, news ++ xs, 150, cap2 * 2⟩], rfl, ⟨hyl, .inr ⟨g2, 0, cap2, [], rfl, hc2, hcm2, rfl, by rw [Nat.zero_add, List.nil_append]⟩⟩, ?_⟩
  have e : (news ++ zs.drop 4).take 4 ++ (xs ++ (news ++ zs.drop 4).drop (4 + n * 2)) = news ++ xs := by
    rw [List.take_append_of_le_length (by rw [HNL.out]; omega), List.take_of_length_le (by rw [HNL.out]; omega), List.drop_eq_nil_of_le (by rw [List.length_append, List.length_drop, HNL.out, HZL.out]; omega), List.append_nil]
  rw [e] at hp
  exact hp.kp
theorem over2169 {B : Nat} {w0 w : World} {L : List Blk} {bv g ev mv nv : Nat} {news l : List Value} {eg : TypeId} (hp : Hp B w0 w (⟨bv, news, ev, mv⟩ :: ⟨g, l, eg, nv⟩ :: L)) (hnv : nv ≠ 0) (od lb cb : Nat) :
    (callFunc 169 #[.slice (some ⟨bv, 0, none⟩) 2 2, .slice (some ⟨g, od, none⟩) lb cb]).run Tryz.prog w = .ok (.value (.bool false)) w := by
  have hne : bv ≠ g := by
    have := hp.nodup
    simp only [List.map_cons, List.nodup_cons, List.mem_cons] at this
    exact fun h => this.1 (.inl h)
  rw [run_callFunc_extern Tryz.func169 (by kernel_rfl) (by kernel_rfl) (by kernel_rfl) (e := Extern.SlicesOverlaps.overlaps #[81, 81] #[4]) (by kernel_rfl),
    Lib.run_overlaps_apart w 81 4 150 Tryz.underlying81 2 (fun w => (run_isAgg_agg agg150 w).2) ⟨bv, 0, none⟩ ⟨g, od, none⟩ 2 2 lb cb hne ev eg mv nv (hp.shape at0) (hp.shape at1) hnv (hp.free at0 0) (hp.free at0 mv)]
  rfl
theorem ins2_c (n off : Nat) (pre xs l2 : List Value) (hp : pre.length = off) (hx : xs.length = n * 2) (h2 : l2.length = 4) :
    (pre ++ xs ++ l2).take (off + 4) ++ (xs ++ (pre ++ xs ++ l2).drop (off + 4 + n * 2)) = pre ++ ((xs ++ l2).take 4 ++ xs) := by
  rw [List.drop_eq_nil_of_le (by rw [List.length_append, List.length_append]; omega), List.append_nil, List.append_assoc pre xs l2, List.take_append, List.take_of_length_le (by omega), hp, show off + 4 - off = 4 by omega, List.append_assoc]
theorem ins2_d (off : Nat) (pre ys xs news : List Value) (hp : pre.length = off) (hy : ys.length = 4) :
    (pre ++ (ys ++ xs)).take off ++ (news ++ (pre ++ (ys ++ xs)).drop (off + 2 * 2)) = pre ++ (news ++ xs) := by
  rw [List.take_append_of_le_length (by omega), List.take_of_length_le (by omega), List.drop_append, List.drop_eq_nil_of_le (by omega), List.nil_append, hp, show off + 2 * 2 - off = 4 by omega, List.drop_append_of_le_length (by omega), List.drop_eq_nil_of_le (by omega), List.nil_append]
set_option maxRecDepth 100000 in
set_option maxHeartbeats 4000000 in
theorem ins2158_room (n : Nat) (h0 : 0 < n) (hn : n ≤ 1000) (xs : List Value) (hxl : xs.length = n * 2) (g off cap : Nat) (pre : List Value) (hpre : pre.length = off) (hcm : cap ≤ maxLen) (hcap : n + 2 ≤ cap) {B : Nat} {w0 w : World} {M : List Blk} (news : List Value) (hnl : news.length = 4) (hn1 : news.all (·.oneCell') = true) (hx1 : xs.all (·.oneCell') = true) (bv : Nat) (ev : TypeId) (mv : Nat) (hp : Hp B w0 w (⟨bv, news, ev, mv⟩ :: ⟨g, pre ++ xs, 150, off + cap * 2⟩ :: M)) :
    Calls Tryz.prog 158 #[.slice (some ⟨g, off, none⟩) n cap, .int .i64 0, .slice (some ⟨bv, 0, none⟩) 2 2] w (InsPost2 B w0 (n + 2) (news ++ xs) M) := by
  obtain ⟨l2, hl2, hp2⟩ := (hp.reorder (List.Perm.swap _ _ _)).more 4 (by rw [List.length_append, hpre, hxl]; omega)
  replace hp := hp2.reorder (List.Perm.swap _ _ _)
  clear hp2
  have HNL : RowKit.Hid (news.length = 2 * 2) := Lib.hid (by rw [hnl])
  have HN1 := Lib.hid hn1
  have HX1 := Lib.hid hx1
  have HXL := Lib.hid hxl
  have HMIN : RowKit.Hid (Nat.min 2 (n + 2) = 2) := Lib.hid (Nat.min_eq_left (by omega))
  have HMIN3 : RowKit.Hid (Nat.min (n + 2) n = n) := Lib.hid (Nat.min_eq_right (by omega))
  have HDK : RowKit.Hid (∀ (j : Nat) u, xs[j]? = some u → (pre ++ xs ++ l2)[off + j]? = some u) := Lib.hid (fun j u hj => by
    rw [List.append_assoc]
    refine pre_get hpre ?_
    rw [List.getElem?_append_left (List.getElem?_eq_some_iff.1 hj).1]; exact hj)
  have HFIT3 : RowKit.Hid (off + 4 + n * 2 ≤ (pre ++ xs ++ l2).length) := Lib.hid (by rw [List.length_append, List.length_append, hpre, hxl, hl2]; omega)
  have hyl : ((xs ++ l2).take 4).length = 4 := by rw [List.length_take, List.length_append, hl2]; omega
  have HFIT4 : RowKit.Hid (off + 2 * 2 ≤ (pre ++ ((xs ++ l2).take 4 ++ xs)).length) := Lib.hid (by rw [List.length_append, List.length_append, hyl, hpre]; omega)
  have HC := Lib.hid (ins2_c n off pre xs l2 hpre hxl hl2)
  have HDD := Lib.hid (ins2_d off pre ((xs ++ l2).take 4) xs news hpre hyl)
  have HPRE := Lib.hid hpre
  have hov : ∀ od lb cb, (callFunc 169 #[.slice (some ⟨bv, 0, none⟩) 2 2, .slice (some ⟨g, od, none⟩) lb cb]).run Tryz.prog w = .ok (.value (.bool false)) w := fun od lb cb => over2169 hp (by omega) od lb cb
  have f1 : (0 : Int) ≤ (n : Int) := by omega
  have f2 : (0 : Int) ≤ (cap : Int) := by omega
  have f4 : ((0 : Int) == (n : Int)) = false := by simp; omega
  have f5 : decide ((cap : Int) < (n : Int) + 2) = false := by simp; omega
  have f6 : ¬ (cap = 0) := by omega
  have f7 : ¬ (cap = 2) := by omega
  have f13 : (n : Int) + 2 ≤ (cap : Int) := by omega
  have f14 : (0 : Int) ≤ (n : Int) + 2 := by omega
  have f15 : ((n : Int) + 2).toNat = n + 2 := by omega
  have f16 : (2 : Int) ≤ (n : Int) + 2 := by omega
  have HW1 : RowKit.Hid (wrap64 (2 : Int) = 2) := Lib.hid (by unfold wrap64; omega)
  have f17 : (2 : Int) ≤ (cap : Int) := by omega
  clear hnl hn1 hx1 hxl hl2 hyl
  go_enter Tryz.func158, Tryz.ntmps158
  go_wp2_with (first | (simp only [hov]; done) | go_skip)
  refine wp_region_keeps _ (Keeps.all hp.drew) [8] [(0, true), (1, true), (2, true), (3, true), (4, true), (5, true), (6, true), (7, true), (8, false)] (by kernel_rfl) (by kernel_rfl) rfl (by kernel_rfl) (fun _ _ d _ _ h => by cases d <;> exact h) ?_
  replace hp := hp.drew
  repeat' (with_reducible refine plan_is ?_); first | (with_reducible refine plan_nil ?_) | ((with_reducible refine plan_t ?_); refine plan_tk rfl ?_; (first | ((with_reducible refine tk_mv _ rfl ?_); refine tM rfl ?_) | refine tG (fun w _ => (by go_simp; try rfl)) ?_); try simp only [put_some, put_none, eval_tmp, eval_const, sSet, zSet, List.getD_cons_succ, List.getD_cons_zero, wrap_eq, HW1.out]) | (refine plan_do rfl (fun K hK => ?_); go_wp2_with (((with_reducible refine pre_copy _ _ _ _ rfl ?_); refine wpList_copyAt hp _ _ 150 _ _ rfl wy Tryz.underlying81 2 size150 g (off + 4) n (cap - 2) (sTm rfl) g off (n + 2) cap (sTm rfl) 1 _ _ at1 n HMIN3.out xs HXL.out HFIT3.out (fun j u hj => hp.cell at1 (HDK.out j u hj)) HX1.out ?_; clear hp; intro v2 w1 hp; simp only [sSet, zSet] at hp; simp only [put_some, put_none, sSet, zSet])); (first | refine hK.out _ _ (.inl rfl) ?_ | refine hK.out _ _ (.inr (kall hp)) ?_); clear hK K; try simp only [put_some, put_none, eval_tmp, eval_const, sSet, zSet, List.getD_cons_succ, List.getD_cons_zero, wrap_eq, HW1.out])
  rw [HC.out] at hp
  go_wp2_with (first | ((with_reducible refine pre_copy _ _ _ _ rfl ?_); refine wpList_copyAt hp _ _ 150 _ _ rfl wy Tryz.underlying81 2 size150 g off (n + 2) cap (sTm rfl) bv 0 2 2 (sTm rfl) 1 _ _ at1 2 HMIN.out news HNL.out HFIT4.out (fun j u hj => hp.cell at0 (by rw [Nat.zero_add]; exact hj)) HN1.out ?_; clear hp; intro v3 w1 hp; simp only [sSet, zSet] at hp; simp only [put_some, put_none, sSet, zSet]) | go_skip)
  rw [HDD.out] at hp
  go_ret
  refine ⟨_, [⟨g, pre ++ (news ++ xs), 150, off + cap * 2⟩], rfl, ⟨by rw [List.length_append, HNL.out, HXL.out]; omega, .inr ⟨g, off, cap, pre, rfl, hcap, hcm, HPRE.out, rfl⟩⟩, hp.tail⟩
theorem ins2158 (n : Nat) (hn : n ≤ 1000) (xs : List Value) (v : Value) {B : Nat} {w0 w : World} {R M : List Blk} (news : List Value) (hnl : news.length = 4) (hn1 : news.all (·.oneCell') = true) (hx1 : xs.all (·.oneCell') = true) (bv : Nat) (ev : TypeId) (mv : Nat) (hR : SubRow 150 2 v n xs R) (hp : Hp B w0 w (⟨bv, news, ev, mv⟩ :: (R ++ M))) :
    Calls Tryz.prog 158 #[v, .int .i64 0, .slice (some ⟨bv, 0, none⟩) 2 2] w (InsPost2 B w0 (n + 2) (news ++ xs) M) := by
  rcases Nat.eq_zero_or_pos n with h0 | h0
  · subst h0
    have hx : xs = [] := List.eq_nil_of_length_eq_zero (by simpa using hR.1)
    subst hx
    rw [List.append_nil]
    exact ins2158_end v news hnl hn1 bv ev mv hR hp
  · obtain ⟨hxl, ⟨h, _⟩ | ⟨g, off, cap, pre, hv, hnc, hcm, hpre, hr⟩⟩ := hR
    · omega
    · subst hv hr
      rcases Nat.lt_or_ge cap (n + 2) with h2 | h2
      · exact ins2158_grow n h0 hn xs hxl g off cap pre hpre hnc h2 news hnl hn1 hx1 bv ev mv _ hp
      · exact ins2158_room n h0 hn xs hxl g off cap pre hpre hcm h2 news hnl hn1 hx1 bv ev mv hp
end Go.Proofs.YtcjbepaclbhjaaaGreat
/- What objects leave of a region: the plain law. No program in sight. -/
namespace Go.Proofs.YtcjbepaclbhjaaaGreat
def metO (sz : Int) (b : Bl) (x : Ob) : Bool := decide (x.p ≤ sz) && (decide (b.p < x.p + pw x.o) && decide (x.p < b.p + pw b.o))
def metB (sz : Int) (os : List Ob) (b : Bl) : Bool := os.any (metO sz b)
def lfN (sz : Int) (os : List Ob) : Nat → Int → List Bl
  | 0, p => if metB sz os ⟨p, 0⟩ = true then [] else [⟨p, 0⟩]
  | k + 1, p => if metB sz os ⟨p, ((k + 1 : Nat) : Int)⟩ = true then lfN sz os k p ++ lfN sz os k (p + pw k) else [⟨p, ((k + 1 : Nat) : Int)⟩]
theorem metB_iff {sz : Int} {os : List Ob} {b : Bl} : metB sz os b = true ↔ ∃ x ∈ os, x.p ≤ sz ∧ b.p < x.p + pw x.o ∧ x.p < b.p + pw b.o := by
  unfold metB metO
  rw [List.any_eq_true]
  simp only [Bool.and_eq_true, decide_eq_true_eq]
def hasW (os : List Ob) (w : Int) : Prop := ∃ x ∈ os, InW (obBl x) w
theorem met_word {sz : Int} {os : List Ob} {b : Bl} (hb : b.p + pw b.o ≤ sz) : metB sz os b = true ↔ ∃ w, InW b w ∧ hasW os w := by
  rw [metB_iff]
  constructor
  · rintro ⟨x, hx, h1, h2, h3⟩
    have p1 := pw_pos x.o
    have p2 := pw_pos b.o
    by_cases h : x.p ≤ b.p
    · exact ⟨b.p, ⟨Int.le_refl _, by omega⟩, x, hx, by simp only [obBl]; exact h, by simp only [obBl]; omega⟩
    · exact ⟨x.p, ⟨by omega, by omega⟩, x, hx, by simp only [obBl]; omega, by simp only [obBl]; omega⟩
  · rintro ⟨w, ⟨h1, h2⟩, x, hx, h3, h4⟩
    simp only [obBl] at h3 h4
    exact ⟨x, hx, by omega, by omega, by omega⟩
structure AtK (od : Int) (k : Nat) (p : Int) : Prop where
  ko : (k : Int) ≤ od
  lo : 0 ≤ p
  hi : p + pw k ≤ pw od
  al : p % pw k = 0
theorem AtK.may {od : Int} {k : Nat} {p : Int} (h : AtK od k p) : MayP od ⟨p, k⟩ := ⟨by simp only; omega, h.ko, h.lo, by simp only; have := h.hi; omega, h.al⟩
theorem pwS (k : Nat) : pw ((k + 1 : Nat) : Int) = 2 * pw k := by
  have := pw_succ (o := (k : Int)) (by omega)
  rw [← this]; congr 1
theorem AtK.left {od : Int} {k : Nat} {p : Int} (h : AtK od (k + 1) p) : AtK od k p := by
  have h1 := pwS k
  have h2 := pw_pos (k : Int)
  have h3 := h.hi
  have h4 := h.al
  rw [h1] at h3 h4
  exact ⟨by have := h.ko; omega, h.lo, by omega, Int.emod_eq_zero_of_dvd (Int.dvd_trans ⟨2, by omega⟩ (Int.dvd_of_emod_eq_zero h4))⟩
theorem AtK.right {od : Int} {k : Nat} {p : Int} (h : AtK od (k + 1) p) : AtK od k (p + pw k) := by
  have h0 := h.left
  have h1 := pwS k
  have h2 := pw_pos (k : Int)
  have h3 := h.hi
  rw [h1] at h3
  exact ⟨h0.ko, by have := h.lo; omega, by omega, by rw [Int.add_emod_right]; exact h0.al⟩
theorem lf_facts {od : Int} {os : List Ob} : ∀ (k : Nat) (p : Int), AtK od k p →
    (∀ b ∈ lfN (pw od) os k p, MayP od b ∧ b.o ≤ k ∧ p ≤ b.p ∧ b.p + pw b.o ≤ p + pw k) ∧ Disj (lfN (pw od) os k p) ∧ (∀ w, cov (lfN (pw od) os k p) w ↔ InW ⟨p, k⟩ w ∧ ¬ hasW os w)
  | 0, p, h => by
    have hm := met_word (os := os) (b := ⟨p, 0⟩) (by have := h.hi; simpa using this)
    have p0 : pw 0 = 1 := by decide
    have hin : ∀ w, InW ⟨p, 0⟩ w ↔ w = p := fun w => by
      unfold InW
      simp only [p0]; omega
    unfold lfN
    split
    · rename_i hmt
      obtain ⟨w0, hw0, hh⟩ := hm.1 hmt
      refine ⟨fun b hb => (by cases hb), List.Pairwise.nil, fun w => ⟨fun ⟨x, hx, _⟩ => (by cases hx), fun ⟨h1, h2⟩ => ?_⟩⟩
      have e1 := (hin w0).1 hw0
      have e2 := (hin w).1 h1
      rw [e2, ← e1] at h2
      exact absurd hh h2
    · rename_i hmt
      refine ⟨fun b hb => ?_, List.pairwise_singleton _ _, fun w => ⟨fun ⟨x, hx, hw⟩ => ?_, fun ⟨h1, _⟩ => ⟨_, List.mem_singleton.2 rfl, h1⟩⟩⟩
      · obtain rfl := List.mem_singleton.1 hb
        exact ⟨h.may, by simp, Int.le_refl _, Int.le_refl _⟩
      · obtain rfl := List.mem_singleton.1 hx
        exact ⟨hw, fun hh => hmt (hm.2 ⟨w, hw, hh⟩)⟩
  | k + 1, p, h => by
    have hm := met_word (os := os) (b := ⟨p, ((k + 1 : Nat) : Int)⟩) h.hi
    have h1 := pwS k
    have h2 := pw_pos (k : Int)
    obtain ⟨l1, l2, l3⟩ := lf_facts k p h.left
    obtain ⟨r1, r2, r3⟩ := lf_facts k (p + pw k) h.right
    unfold lfN
    split
    · refine ⟨fun b hb => ?_, ?_, fun w => ?_⟩
      · rcases List.mem_append.1 hb with hb | hb
        · obtain ⟨a1, a2, a3, a4⟩ := l1 b hb
          exact ⟨a1, by omega, a3, by rw [h1]; omega⟩
        · obtain ⟨a1, a2, a3, a4⟩ := r1 b hb
          exact ⟨a1, by omega, by omega, by rw [h1]; omega⟩
      · refine List.pairwise_append.2 ⟨l2, r2, fun a ha b hb => ?_⟩
        have := (l1 a ha).2.2.2
        have := (r1 b hb).2.2.1
        omega
      · have hsplit : cov (lfN (pw od) os k p ++ lfN (pw od) os k (p + pw k)) w ↔ cov (lfN (pw od) os k p) w ∨ cov (lfN (pw od) os k (p + pw k)) w := by
          constructor
          · rintro ⟨x, hx, hw⟩
            rcases List.mem_append.1 hx with hx | hx
            · exact .inl ⟨x, hx, hw⟩
            · exact .inr ⟨x, hx, hw⟩
          · rintro (⟨x, hx, hw⟩ | ⟨x, hx, hw⟩)
            · exact ⟨x, List.mem_append_left _ hx, hw⟩
            · exact ⟨x, List.mem_append_right _ hx, hw⟩
        rw [hsplit, l3, r3]
        unfold InW
        simp only [h1]
        constructor
        · rintro (⟨⟨a, b⟩, c⟩ | ⟨⟨a, b⟩, c⟩)
          · exact ⟨⟨by omega, by omega⟩, c⟩
          · exact ⟨⟨by omega, by omega⟩, c⟩
        · rintro ⟨⟨a, b⟩, c⟩
          by_cases hw : w < p + pw k
          · exact .inl ⟨⟨a, hw⟩, c⟩
          · exact .inr ⟨⟨by omega, by omega⟩, c⟩
    · rename_i hmt
      refine ⟨fun b hb => ?_, List.pairwise_singleton _ _, fun w => ⟨fun ⟨x, hx, hw⟩ => ?_, fun ⟨h1, _⟩ => ⟨_, List.mem_singleton.2 rfl, h1⟩⟩⟩
      · obtain rfl := List.mem_singleton.1 hb
        exact ⟨h.may, Int.le_refl _, Int.le_refl _, Int.le_refl _⟩
      · obtain rfl := List.mem_singleton.1 hx
        exact ⟨hw, fun hh => hmt (hm.2 ⟨w, hw, hh⟩)⟩
theorem lf_cover {od : Int} {os : List Ob} (h8 : od ≤ 8) : ∀ (k : Nat) (p : Int), AtK od k p → ∀ b : Bl, MayP od b → b.o ≤ k → p ≤ b.p → b.p + pw b.o ≤ p + pw k → (∀ w, InW b w → ¬ hasW os w) →
    ∃ z ∈ lfN (pw od) os k p, b.o ≤ z.o ∧ z.p ≤ b.p ∧ b.p + pw b.o ≤ z.p + pw z.o
  | 0, p, h, b, hb, ho, h1, h2, hw => by
    have p0 : pw 0 = 1 := by decide
    have e0 : b.o = 0 := by have := hb.1; omega
    rw [e0] at h2
    simp only [Int.natCast_zero, p0] at h2
    have e1 : b.p = p := by simp at h2; omega
    have hm := met_word (os := os) (b := ⟨p, 0⟩) (by have := h.hi; simpa using this)
    unfold lfN
    rw [if_neg]
    · exact ⟨_, List.mem_singleton.2 rfl, by simp [e0], by simp only; omega, by simp only [e0]; omega⟩
    · intro hmt
      obtain ⟨w, hw1, hw2⟩ := hm.1 hmt
      refine hw w ?_ hw2
      unfold InW at hw1 ⊢
      rw [e0]; simp only at hw1; omega
  | k + 1, p, h, b, hb, ho, h1, h2, hw => by
    have hs := pwS k
    have hpk := pw_pos (k : Int)
    have hpb := pw_pos b.o
    have hm := met_word (os := os) (b := ⟨p, ((k + 1 : Nat) : Int)⟩) h.hi
    unfold lfN
    split
    · rename_i hmt
      by_cases hbo : b.o ≤ k
      · rw [hs] at h2
        by_cases hl : b.p < p + pw k
        · have hn := nested h8 hb h.left.may hbo ⟨hl, by simp only; omega⟩
          obtain ⟨z, hz, g⟩ := lf_cover h8 k p h.left b hb hbo h1 hn.2 hw
          exact ⟨z, List.mem_append_left _ hz, g⟩
        · obtain ⟨z, hz, g⟩ := lf_cover h8 k (p + pw k) h.right b hb hbo (by omega) (by omega) hw
          exact ⟨z, List.mem_append_right _ hz, g⟩
      · exfalso
        have e1 : b.o = ((k + 1 : Nat) : Int) := by omega
        obtain ⟨w, hw1, hw2⟩ := hm.1 hmt
        refine hw w ?_ hw2
        unfold InW at hw1 ⊢
        rw [e1] at h2 ⊢
        simp only at hw1; omega
    · exact ⟨_, List.mem_singleton.2 rfl, ho, by simp only; exact h1, by simp only; exact h2⟩
theorem lf_can {od : Int} {os : List Ob} (h3 : 0 ≤ od) (h8 : od ≤ 8) : Can od (lfN (pw od) os od.toNat 0) := by
  have hn : ((od.toNat : Nat) : Int) = od := by omega
  have h0 : AtK od od.toNat 0 := ⟨by omega, Int.le_refl _, by rw [hn]; omega, by simp⟩
  obtain ⟨f1, f2, f3⟩ := lf_facts (os := os) od.toNat 0 h0
  refine ⟨f2, fun x hx => (f1 x hx).1, fun x hx y hy ho ht => ?_⟩
  have hmy := (f1 y hy).1
  have hmx := (f1 x hx).1
  have hmm := merge_may hmy h8 ho
  have hpy := pw_pos y.o
  have hs := pw_succ (o := y.o) hmy.1
  have hc := twin_cases hmy h8 ho
  rw [ht] at hc
  have hxo : x.o = y.o := by rw [← ht, twin_o]
  have hpar : (mergeB y).p = min y.p x.p := by unfold mergeB; rw [ht]
  have hpo : (mergeB y).o = y.o + 1 := rfl
  have hfree : ∀ w, InW (mergeB y) w → ¬ hasW os w := fun w hw => by
    unfold InW at hw
    rw [hpar, hpo, hs] at hw
    have hcw : cov (lfN (pw od) os od.toNat 0) w := by
      rcases hc with ⟨e, _, _⟩ | ⟨e, _, _⟩
      · have e' : x.p = y.p + pw y.o := by rw [e]
        by_cases g : w < y.p + pw y.o
        · exact ⟨y, hy, by unfold InW; omega⟩
        · exact ⟨x, hx, by unfold InW; rw [hxo]; omega⟩
      · have e' : x.p = y.p - pw y.o := by rw [e]
        by_cases g : w < y.p
        · exact ⟨x, hx, by unfold InW; rw [hxo]; omega⟩
        · exact ⟨y, hy, by unfold InW; omega⟩
    exact ((f3 w).1 hcw).2
  have hpe := hmm.end_le
  obtain ⟨z, hz, g1, g2, g3⟩ := lf_cover h8 od.toNat 0 h0 (mergeB y) hmm (by rw [hn]; exact hmm.2.1) hmm.2.2.1 (by rw [hn]; omega) hfree
  have hzy : y = z := Classical.byContradiction fun hne => f2.apart hy hz hne (by
    rw [hpo, hs] at g3
    rw [hpar] at g2 g3
    refine ⟨?_, ?_⟩
    · rcases hc with ⟨e, _, _⟩ | ⟨e, _, _⟩
      · have e' : x.p = y.p + pw y.o := by rw [e]
        omega
      · have e' : x.p = y.p - pw y.o := by rw [e]
        omega
    · omega)
  rw [← hzy, hpo] at g1
  omega
theorem tl_cover {E : Int} : ∀ {l : List Bl} {a : Int}, Tl E a l → ∀ w, a ≤ w → w < E → cov l w
  | [], a, h, w, h1, h2 => by simp [Tl] at h; omega
  | b :: r, a, h, w, h1, h2 => by
    obtain ⟨rfl, h3⟩ := h
    by_cases g : w < b.p + pw b.o
    · exact ⟨b, by simp, h1, g⟩
    · obtain ⟨x, hx, hw⟩ := tl_cover h3 w (by omega) h2
      exact ⟨x, List.mem_cons_of_mem _ hx, hw⟩
theorem hright_cov {x : Hv} (hx : HRight x) (w : Int) : cov x.fs w ↔ (0 ≤ w ∧ w < pw x.od) ∧ ¬ hasW x.os w := by
  have hf := hx.free
  unfold rightB at hf
  rw [Bool.and_eq_true] at hf
  have hg : Good x.od x.fs := by simpa using hf.2
  obtain ⟨s, hs⟩ : ∃ s, s = (allBl x).mergeSort (fun a b => decide (a.p ≤ b.p)) := ⟨_, rfl⟩
  have hperm : s.Perm (allBl x) := by rw [hs]; exact List.mergeSort_perm _ _
  have hsort : s.Pairwise fun a b => a.p ≤ b.p := by
    rw [hs]
    have := List.pairwise_mergeSort (le := fun a b : Bl => decide (a.p ≤ b.p)) (by intro a b c h1 h2; simp at *; omega) (by intro a b; simp; omega) (allBl x)
    exact this.imp (by intro a b h; simpa using h)
  have ht := (tile_iff hg hperm hsort hx.need.weak).2 ⟨hx.need, hx.apart, hx.words⟩
  constructor
  · rintro ⟨b, hb, hw⟩
    obtain ⟨i, hi, rfl⟩ := List.getElem_of_mem hb
    have hm := (hg i _ (List.getElem?_eq_getElem hi)).1
    refine ⟨⟨by have := hm.2.2.1; have := hw.1; omega, by have := hm.end_le; have := hw.2; omega⟩, ?_⟩
    rintro ⟨o, ho, hwo⟩
    have ha := hx.apart
    unfold Apart allBl at ha
    exact (List.pairwise_append.1 ha).2.2 _ hb _ (List.mem_map_of_mem ho) (meet_of hw hwo)
  · rintro ⟨⟨h1, h2⟩, h3⟩
    obtain ⟨b, hb, hw⟩ := tl_cover ht w h1 h2
    rcases List.mem_append.1 (hperm.mem_iff.1 hb) with hb | hb
    · exact ⟨b, hb, hw⟩
    · obtain ⟨o, ho, rfl⟩ := List.mem_map.1 hb
      exact absurd ⟨o, ho, hw⟩ h3
theorem hright_od {x : Hv} (hx : HRight x) : 3 ≤ x.od ∧ x.od ≤ 8 := by
  have hf := hx.free
  unfold rightB regionB at hf
  rw [Bool.and_eq_true] at hf
  simpa using hf.1
theorem left_free {x : Hv} (hx : HRight x) : lfN (pw x.od) x.os x.od.toNat 0 = x.fs := by
  obtain ⟨h3, h8⟩ := hright_od hx
  have hf := hx.free
  unfold rightB at hf
  rw [Bool.and_eq_true] at hf
  have hg : Good x.od x.fs := by simpa using hf.2
  have hn : ((x.od.toNat : Nat) : Int) = x.od := by omega
  have h0 : AtK x.od x.od.toNat 0 := ⟨by omega, Int.le_refl _, by rw [hn]; omega, by simp⟩
  refine Can.uniq h8 (lf_can (by omega) h8) (hg.can h8) (fun w => ?_)
  rw [(lf_facts (os := x.os) x.od.toNat 0 h0).2.2 w, hright_cov hx w]
  unfold InW
  simp only [hn]
  constructor
  · rintro ⟨⟨a, b⟩, c⟩; exact ⟨⟨a, by omega⟩, c⟩
  · rintro ⟨⟨a, b⟩, c⟩; exact ⟨⟨a, by omega⟩, c⟩
theorem lf_len {od : Int} {os : List Ob} (h3 : 3 ≤ od) (h8 : od ≤ 8) : (lfN (pw od) os od.toNat 0).length ≤ 256 := by
  have := (lf_can (os := os) (by omega) h8).good.len h3
  have := pw_le h8
  omega
end Go.Proofs.YtcjbepaclbhjaaaGreat
