import Derived.Test.YtaafajaadfgaoaaGreatTb0
import Derived.Test.YtaafajaadfgaoaaGreatTb2
import Derived.Test.YtaafajaadfgaoaaGreatTb10
set_option linter.unusedSimpArgs false
set_option linter.unusedVariables false
set_option maxRecDepth 100000
set_option maxHeartbeats 60000000
namespace Go.Proofs.YtaafajaadfgaoaaGreat
open Go.RowKit
theorem zgD : (Tryz.prog.info? 120).map (·.size) = some 4 := by kernel_rfl
def zcN (c : Nat) (xs news : List Value) (i : Nat) : List Value := xs.take (i * c) ++ (news ++ xs.drop (i * c))
def zey (B : Nat) (w0 : World) (n : Nat) (xs : List Value) (M : List Blk) (e : Ending) (w' : World) : Prop := ∃ v' R', e = .returned v' ∧ zH 120 4 v' n xs R' ∧ Hp B w0 w' (R' ++ M)
theorem zjO (n : Nat) (hn : n ≤ 1000) (xs : List Value) (v : Value) {B : Nat} {w0 w : World} {R M : List Blk} (news : List Value) (hnl : news.length = 4) (hn1 : news.all (·.oneCell') = true) (bv : Nat) (ev : TypeId) (mv : Nat) (hR : zH 120 4 v n xs R) (hp : Hp B w0 w (⟨bv, news, ev, mv⟩ :: (R ++ M))) :
  Calls Tryz.prog 125 #[v, .int .i64 n, .slice (some ⟨bv, 0, none⟩) 1 1] w (zey B w0 (n + 1) (zcN 4 xs news n) M) := by
 obtain ⟨i0, hi0, hz0, hz1, hz2⟩ := info_parts zeZ
 have HNL : Hid (news.length = 1 * 4) := z0j (by rw [hnl])
 have HN1 := z0j hn1
 have HR := z0j hR
 have hxl := hR.1
 have HI : Hid (zcN 4 xs news n = xs ++ news) := z0j (by unfold zcN; rw [List.take_of_length_le (by omega), List.drop_eq_nil_of_le (by omega), List.append_nil])
 have sm1 : n + 1 ≤ maxLen := by unfold maxLen; omega
 have sm2 : (n + 1) * 32 ≤ 140737488355328 := by omega
 rcases hR with ⟨_, ⟨h0, hv, hx, hr⟩ | ⟨g, cap, hv, hnc, hcm, hr⟩⟩
 ·subst h0 hv hx hr
  clear hnl hn1 hxl
  go_enter Tryz.func125, Tryz.ntmps125
  go_wp2_with (first | ((refine zM _ _ 48 rfl ?_); refine zG (K := []) hp _ _ _ rfl wy i0 _ 32 Tryz.underlying48 hi0 hz0 hz1 hz2 rfl (by decide) (zb rfl) HR.out 1 1 (zb rfl) HNL.out (by decide) HN1.out sm1 sm2 ?_; clear hp; intro v' R' w1 hR' hp; have HR' := z0j hR'; clear hR'; simp only [ze, zd, z0b, z0a]) | go_skip)
  go_ret
  exact ⟨v', R', rfl, by rw [HI.out]; exact HR'.out, hp⟩
 ·subst hv hr
  clear hnl hn1 hxl
  go_enter Tryz.func125, Tryz.ntmps125
  go_wp2_with (first | ((refine zM _ _ 48 rfl ?_); refine zG (K := []) hp _ _ _ rfl wy i0 _ 32 Tryz.underlying48 hi0 hz0 hz1 hz2 rfl (by decide) (zb rfl) HR.out 1 1 (zb rfl) HNL.out (by decide) HN1.out sm1 sm2 ?_; clear hp; intro v' R' w1 hR' hp; have HR' := z0j hR'; clear hR'; simp only [ze, zd, z0b, z0a]) | go_skip)
  all_goals
   go_ret
   exact ⟨v', R', rfl, by rw [HI.out]; exact HR'.out, hp⟩
theorem zi2 (n i : Nat) (hi : i ≤ n) (xs news : List Value) (hx : xs.length = n * 4) (hn : news.length = 1 * 4) : (zcN 4 xs news i).length = (n + 1) * 4 := by
 unfold zcN; rw [List.length_append, List.length_append, List.length_take, List.length_drop]; omega
theorem Hp.sub2R {B : Nat} {w0 w : World} {L : List Blk} {p q r : Blk} (hp : Hp B w0 w (p :: q :: r :: L)) : Hp B w0 w ([p] ++ L) := by
 have hs : List.Sublist (p :: L) (p :: q :: r :: L) := List.Sublist.cons_cons p ((List.sublist_cons_self r L).trans (List.sublist_cons_self q _))
 exact ⟨hp.below, hp.size, (hs.map _).nodup hp.nodup, fun x hx => hp.own x (hs.subset hx)⟩
theorem zoz (i : Nat) (xs zs news : List Value) (h : (xs.take (i * 4)).length = i * 4) : (xs.take (i * 4) ++ zs).take (i * 4) ++ (news ++ (xs.take (i * 4) ++ zs).drop (i * 4 + 1 * 4)) = xs.take (i * 4) ++ (news ++ zs.drop 4) := by
 generalize xs.take (i * 4) = ys at h ⊢
 rw [List.take_append_of_le_length (by omega), List.take_of_length_le (by omega), List.drop_append, List.drop_eq_nil_of_le (by omega), List.nil_append, h]
 congr 3; omega
theorem zoA (n i : Nat) (hi : i < n) (xs zs news : List Value) (hx : xs.length = n * 4) (hz : zs.length = (n + 1 - i) * 4) (hn : news.length = 1 * 4) :
  (xs.take (i * 4) ++ (news ++ zs.drop 4)).take ((i + 1) * 4) ++ (xs.drop (i * 4) ++ (xs.take (i * 4) ++ (news ++ zs.drop 4)).drop ((i + 1) * 4 + (n - i) * 4)) = zcN 4 xs news i := by
 have h : (xs.take (i * 4)).length = i * 4 := by rw [List.length_take]; omega
 unfold zcN
 generalize xs.take (i * 4) = ys at h ⊢
 have hl : (ys ++ (news ++ zs.drop 4)).length ≤ (i + 1) * 4 + (n - i) * 4 := by rw [List.length_append, List.length_append, List.length_drop]; omega
 rw [List.drop_eq_nil_of_le hl, List.append_nil, ← List.append_assoc, ← List.append_assoc, List.take_append_of_le_length (by rw [List.length_append]; omega), List.take_of_length_le (by rw [List.length_append]; omega)]
theorem zif (n i : Nat) (hn : n ≤ 1000) (hi : i < n) (xs : List Value) (hxl : xs.length = n * 4) (g cap : Nat) (hnc : n ≤ cap) (hcap : cap < n + 1) {B : Nat} {w0 w : World} {M : List Blk} (news : List Value) (hnl : news.length = 4) (hn1 : news.all (·.oneCell') = true) (hx1 : xs.all (·.oneCell') = true) (bv : Nat) (ev : TypeId) (mv : Nat) (hp : Hp B w0 w (⟨bv, news, ev, mv⟩ :: ⟨g, xs, 120, cap * 4⟩ :: M)) :
  Calls Tryz.prog 125 #[.slice (some ⟨g, 0, none⟩) n cap, .int .i64 i, .slice (some ⟨bv, 0, none⟩) 1 1] w (zey B w0 (n + 1) (zcN 4 xs news i) M) := by
 obtain ⟨i0, hi0, hz0, hz1, hz2⟩ := info_parts zeZ
 have HNL : Hid (news.length = 1 * 4) := z0j (by rw [hnl])
 have HN1 := z0j hn1
 have HX1 := z0j hx1
 have HTL : Hid ((xs.take (i * 4)).length = i * 4) := z0j (by rw [List.length_take]; omega)
 have HTK : Hid (∀ (j : Nat) u, (xs.take (i * 4))[j]? = some u → xs[j]? = some u) := z0j (fun j u hj => by
  rw [List.getElem?_take] at hj
  split at hj
  ·exact hj
  ·cases hj)
 have HKZ : Hid (((n : Int) + 1 - (i : Int)) = ((n + 1 - i : Nat) : Int)) := z0j (by omega)
 have HSUM : Hid (i + (n + 1 - i) = n + 1) := z0j (by omega)
 have HMIN : Hid (Nat.min 1 (n + 1 - i) = 1) := z0j (Nat.min_eq_left (by omega))
 have k0 : 0 < n + 1 - i := by omega
 have kg : cap < i + (n + 1 - i) := by omega
 have k63 : i + (n + 1 - i) ≤ maxLen := by unfold maxLen; omega
 have kby : (i + (n + 1 - i)) * 32 ≤ 100000000 := by omega
 have f1 : (0 : Int) ≤ (i : Int) := by omega
 have f2 : (i : Int) ≤ (n : Int) := by omega
 have f3 : (i : Int) ≤ (cap : Int) := by omega
 have f4 : ((i : Int) == (n : Int)) = false := by simp; omega
 have f5 : (cap : Int) < (n : Int) + 1 := by omega
 have f6 : ¬ (cap = i) := by omega
 have HXL := z0j hxl
 have HIL := z0j (zi2 n i (by omega) xs news hxl (by rw [hnl]))
 clear hnl hn1 hx1 hxl
 go_enter Tryz.func125, Tryz.ntmps125
 go_wp2_with (first | (at_builtin; refine zbT hp _ _ 120 _ _ rfl wy Tryz.underlying48 .i64 Tryz.underlying3 i0 _ hi0 hz0 4 32 hz1 hz2 rfl (by decide) g i cap (zb rfl) (xs.take (i * 4)) HTL.out (fun j u hj => hp.cell at1 (HTK.out j u hj)) _ (n + 1 - i) HKZ.out (zb rfl) k0 kg k63 kby ?_; clear hp; intro g2 cap2 w1 hc2 hcm2 hp; rw [HSUM.out] at hc2 ⊢; generalize hzs : (Builtin.zeroCells _ (n + 1 - i)).toList = zs at hp; have HZL := z0j (show zs.length = (n + 1 - i) * 4 by rw [← hzs, Array.length_toList, size_zeroCells]; rfl); clear hzs; have f7 : ¬ (cap2 = i) := (by omega); have f8 : ¬ (cap2 = i + 1) := (by omega); have f9 : (i : Int) ≤ (cap2 : Int) := (by omega); have HFIT : Hid (i * 4 + 1 * 4 ≤ (xs.take (i * 4) ++ zs).length) := z0j (by rw [List.length_append, HTL.out, HZL.out]; omega); simp only [ze, zd, z0b, z0a]) | ((refine zbN _ _ _ _ rfl ?_); refine Z2 hp _ _ 120 _ _ rfl wy Tryz.underlying48 4 zgD g2 (i * 4) (n + 1 - i) (cap2 - i) (zb rfl) bv 0 1 1 (zb rfl) 0 _ _ at0 1 HMIN.out news HNL.out HFIT.out (fun j u hj => hp.cell at1 (by rw [Nat.zero_add]; exact hj)) HN1.out ?_; clear hp; intro v2 w1 hp; simp only [z0a] at hp; simp only [ze, zd, z0b, z0a]) | go_skip)
 have HL1 : Hid ((xs.take (i * 4) ++ zs).take (i * 4) ++ (news ++ (xs.take (i * 4) ++ zs).drop (i * 4 + 1 * 4)) = xs.take (i * 4) ++ (news ++ zs.drop 4)) := z0j (zoz i xs zs news HTL.out)
 rw [HL1.out] at hp
 have HMIN2 : Hid (Nat.min (n - i) (n - i) = n - i) := z0j (Nat.min_self _)
 have HDL : Hid ((xs.drop (i * 4)).length = (n - i) * 4) := z0j (by rw [List.length_drop, HXL.out]; omega)
 have HFIT2 : Hid ((i + 1) * 4 + (n - i) * 4 ≤ (xs.take (i * 4) ++ (news ++ zs.drop 4)).length) := z0j (by rw [List.length_append, List.length_append, List.length_drop, HTL.out, HNL.out, HZL.out]; omega)
 have HD1 : Hid ((xs.drop (i * 4)).all (·.oneCell') = true) := z0j (by rw [List.all_eq_true]; intro u hu; exact List.all_eq_true.1 HX1.out u (List.mem_of_mem_drop hu))
 have HDK : Hid (∀ (j : Nat) u, (xs.drop (i * 4))[j]? = some u → xs[i * 4 + j]? = some u) := z0j (fun j u hj => by rw [List.getElem?_drop] at hj; exact hj)
 have HW1 : Hid (wrap64 ((i : Int) + 1) = (i : Int) + 1) := z0j (by unfold wrap64; omega)
 have f10 : ((i : Int) + 1).toNat = i + 1 := by omega
 have f11 : (0 : Int) ≤ (i : Int) + 1 := by omega
 have f12 : (i : Int) + 1 ≤ (n : Int) + 1 := by omega
 refine zk _ (zA.all hp.drew) [8] [(0, true), (1, true), (2, true), (3, true), (4, true), (5, true), (6, true), (7, true), (8, false)] (by kernel_rfl) (by kernel_rfl) rfl (by kernel_rfl) (fun _ _ d _ _ h => by cases d <;> exact h) ?_
 replace hp := hp.drew
 repeat' (with_reducible refine zB ?_); first | (with_reducible refine zt ?_) | ((with_reducible refine zI ?_); refine zy rfl ?_; (first | ((with_reducible refine zV _ rfl ?_); refine tM rfl ?_) | refine tG (fun w _ => (by go_simp; try rfl)) ?_); try simp only [ze, zd, zn, zj, z0b, z0a, z0d, z0c, zr, HW1.out]) | (refine zF rfl (fun K hK => ?_); go_wp2_with (((refine zbN _ _ _ _ rfl ?_); refine Z2 hp _ _ 120 _ _ rfl wy Tryz.underlying48 4 zgD g2 ((i + 1) * 4) (n - i) (cap2 - (i + 1)) (zb rfl) g (i * 4) (n - i) (cap - i) (zb rfl) 0 _ _ at0 (n - i) HMIN2.out (xs.drop (i * 4)) HDL.out HFIT2.out (fun j u hj => hp.cell at2 (HDK.out j u hj)) HD1.out ?_; clear hp; intro v2 w1 hp; simp only [z0a] at hp; simp only [ze, zd, z0b, z0a])); (first | refine hK.out _ _ (.inl rfl) ?_ | refine hK.out _ _ (.inr (zd2 hp)) ?_); clear hK K; try simp only [ze, zd, zn, zj, z0b, z0a, z0d, z0c, zr, HW1.out])
 go_wp2_with fail
 go_ret
 refine ⟨_, [⟨g2, zcN 4 xs news i, 120, cap2 * 4⟩], rfl, ⟨HIL.out, .inr ⟨g2, cap2, rfl, hc2, hcm2, rfl⟩⟩, ?_⟩
 rw [zoA n i hi xs zs news HXL.out HZL.out HNL.out] at hp
 exact hp.sub2R
theorem znJ {B : Nat} {w0 w : World} {L : List Blk} {bv g ev mv nv cap od : Nat} {news l : List Value} {eg : TypeId} (hp : Hp B w0 w (⟨bv, news, ev, mv⟩ :: ⟨g, l, eg, nv⟩ :: L)) (hnv : nv ≠ 0) (lb cb : Nat) :
  (callFunc 190 #[.slice (some ⟨bv, 0, none⟩) 1 1, .slice (some ⟨g, od, none⟩) lb cb]).run Tryz.prog w = .ok (.value (.bool false)) w := by
 have hne : bv ≠ g := by
  have := hp.nodup
  simp only [List.map_cons, List.nodup_cons, List.mem_cons] at this
  exact fun h => this.1 (.inl h)
 rw [run_callFunc_extern Tryz.func190 (by kernel_rfl) (by kernel_rfl) (by kernel_rfl) (e := Extern.SlicesOverlaps.overlaps #[48, 48] #[4]) (by kernel_rfl),
  Lib.run_overlaps_apart w 48 4 120 Tryz.underlying48 4 (fun w => (zaW zC w).2) ⟨bv, 0, none⟩ ⟨g, od, none⟩ 1 1 lb cb hne ev eg mv nv (hp.shape at0) (hp.shape at1) hnv (hp.free at0 0) (hp.free at0 mv)]
 rfl
theorem zoB (n i : Nat) (hi : i < n) (xs l2 : List Value) (hx : xs.length = n * 4) (h2 : l2.length = 4) :
  (xs ++ l2).take ((i + 1) * 4) ++ (xs.drop (i * 4) ++ (xs ++ l2).drop ((i + 1) * 4 + (n - i) * 4)) = xs.take ((i + 1) * 4) ++ xs.drop (i * 4) := by
 generalize xs.drop (i * 4) = ds
 rw [List.take_append_of_le_length (by omega), List.drop_eq_nil_of_le (by rw [List.length_append]; omega), List.append_nil]
theorem zoC (n i : Nat) (hi : i < n) (xs news : List Value) (hx : xs.length = n * 4) :
  (xs.take ((i + 1) * 4) ++ xs.drop (i * 4)).take (i * 4) ++ (news ++ (xs.take ((i + 1) * 4) ++ xs.drop (i * 4)).drop (i * 4 + 1 * 4)) = zcN 4 xs news i := by
 unfold zcN
 rw [List.take_append_of_le_length (by rw [List.length_take]; omega), List.take_take, Nat.min_eq_left (by omega), List.drop_append, List.drop_eq_nil_of_le (by rw [List.length_take]; omega), List.nil_append, List.length_take, Nat.min_eq_left (by omega), show i * 4 + 1 * 4 - (i + 1) * 4 = 0 by omega, List.drop_zero]
theorem zig (n i : Nat) (hn : n ≤ 1000) (hi : i < n) (xs : List Value) (hxl : xs.length = n * 4) (g cap : Nat) (hcm : cap ≤ maxLen) (hcap : n + 1 ≤ cap) {B : Nat} {w0 w : World} {M : List Blk} (news : List Value) (hnl : news.length = 4) (hn1 : news.all (·.oneCell') = true) (hx1 : xs.all (·.oneCell') = true) (bv : Nat) (ev : TypeId) (mv : Nat) (hp : Hp B w0 w (⟨bv, news, ev, mv⟩ :: ⟨g, xs, 120, cap * 4⟩ :: M)) :
  Calls Tryz.prog 125 #[.slice (some ⟨g, 0, none⟩) n cap, .int .i64 i, .slice (some ⟨bv, 0, none⟩) 1 1] w (zey B w0 (n + 1) (zcN 4 xs news i) M) := by
 obtain ⟨l2, hl2, hp2⟩ := (hp.reorder (List.Perm.swap _ _ _)).more 4 (by omega)
 replace hp := hp2.reorder (List.Perm.swap _ _ _)
 clear hp2
 have HNL : Hid (news.length = 1 * 4) := z0j (by rw [hnl])
 have HN1 := z0j hn1
 have HMIN : Hid (Nat.min 1 (n + 1 - i) = 1) := z0j (Nat.min_eq_left (by omega))
 have HMIN3 : Hid (Nat.min (n + 1 - i) (n - i) = n - i) := z0j (Nat.min_eq_right (by omega))
 have HDL : Hid ((xs.drop (i * 4)).length = (n - i) * 4) := z0j (by rw [List.length_drop, hxl]; omega)
 have HD1 : Hid ((xs.drop (i * 4)).all (·.oneCell') = true) := z0j (by rw [List.all_eq_true]; intro u hu; exact List.all_eq_true.1 hx1 u (List.mem_of_mem_drop hu))
 have HDK : Hid (∀ (j : Nat) u, (xs.drop (i * 4))[j]? = some u → (xs ++ l2)[i * 4 + j]? = some u) := z0j (fun j u hj => by
  rw [List.getElem?_drop] at hj
  rw [List.getElem?_append_left (List.getElem?_eq_some_iff.1 hj).1]; exact hj)
 have HFIT3 : Hid ((i + 1) * 4 + (n - i) * 4 ≤ (xs ++ l2).length) := z0j (by rw [List.length_append, hxl, hl2]; omega)
 have HFIT4 : Hid (i * 4 + 1 * 4 ≤ (xs.take ((i + 1) * 4) ++ xs.drop (i * 4)).length) := z0j (by rw [List.length_append, List.length_take, List.length_drop, hxl]; omega)
 have HC := z0j (zoB n i hi xs l2 hxl hl2)
 have HDD := z0j (zoC n i hi xs news hxl)
 have HIL := z0j (zi2 n i (by omega) xs news hxl (by rw [hnl]))
 have hov : ∀ od lb cb, (callFunc 190 #[.slice (some ⟨bv, 0, none⟩) 1 1, .slice (some ⟨g, od, none⟩) lb cb]).run Tryz.prog w = .ok (.value (.bool false)) w := fun od lb cb => znJ (od := od) (cap := 0) hp (by omega) lb cb
 have f1 : (0 : Int) ≤ (i : Int) := by omega
 have f2 : (i : Int) ≤ (n : Int) := by omega
 have f3 : (i : Int) ≤ (cap : Int) := by omega
 have f4 : ((i : Int) == (n : Int)) = false := by simp; omega
 have f5 : decide ((cap : Int) < (n : Int) + 1) = false := by simp; omega
 have f6 : ¬ (cap = i) := by omega
 have f7 : ¬ (cap = i + 1) := by omega
 have HW1 : Hid (wrap64 ((i : Int) + 1) = (i : Int) + 1) := z0j (by unfold wrap64; omega)
 have f10 : ((i : Int) + 1).toNat = i + 1 := by omega
 have f11 : (0 : Int) ≤ (i : Int) + 1 := by omega
 have f12 : (i : Int) + 1 ≤ (n : Int) + 1 := by omega
 have f13 : (n : Int) + 1 ≤ (cap : Int) := by omega
 have f14 : (0 : Int) ≤ (n : Int) + 1 := by omega
 have f15 : ((n : Int) + 1).toNat = n + 1 := by omega
 have f16 : (i : Int) ≤ (n : Int) + 1 := by omega
 clear hnl hn1 hx1 hxl hl2
 go_enter Tryz.func125, Tryz.ntmps125
 go_wp2_with (first | (simp only [hov]; done) | go_skip)
 refine zk _ (zA.all hp.drew) [8] [(0, true), (1, true), (2, true), (3, true), (4, true), (5, true), (6, true), (7, true), (8, false)] (by kernel_rfl) (by kernel_rfl) rfl (by kernel_rfl) (fun _ _ d _ _ h => by cases d <;> exact h) ?_
 replace hp := hp.drew
 repeat' (with_reducible refine zB ?_); first | (with_reducible refine zt ?_) | ((with_reducible refine zI ?_); refine zy rfl ?_; (first | ((with_reducible refine zV _ rfl ?_); refine tM rfl ?_) | refine tG (fun w _ => (by go_simp; try rfl)) ?_); try simp only [ze, zd, zn, zj, z0b, z0a, z0d, z0c, zr, HW1.out]) | (refine zF rfl (fun K hK => ?_); go_wp2_with (((refine zbN _ _ _ _ rfl ?_); refine Z2 hp _ _ 120 _ _ rfl wy Tryz.underlying48 4 zgD g ((i + 1) * 4) (n - i) (cap - (i + 1)) (zb rfl) g (i * 4) (n + 1 - i) (cap - i) (zb rfl) 1 _ _ at1 (n - i) HMIN3.out (xs.drop (i * 4)) HDL.out HFIT3.out (fun j u hj => hp.cell at1 (HDK.out j u hj)) HD1.out ?_; clear hp; intro v2 w1 hp; simp only [z0b, z0a] at hp; simp only [ze, zd, z0b, z0a])); (first | refine hK.out _ _ (.inl rfl) ?_ | refine hK.out _ _ (.inr (zd2 hp)) ?_); clear hK K; try simp only [ze, zd, zn, zj, z0b, z0a, z0d, z0c, zr, HW1.out])
 rw [HC.out] at hp
 go_wp2_with (first | ((refine zbN _ _ _ _ rfl ?_); refine Z2 hp _ _ 120 _ _ rfl wy Tryz.underlying48 4 zgD g (i * 4) (n + 1 - i) (cap - i) (zb rfl) bv 0 1 1 (zb rfl) 1 _ _ at1 1 HMIN.out news HNL.out HFIT4.out (fun j u hj => hp.cell at0 (by rw [Nat.zero_add]; exact hj)) HN1.out ?_; clear hp; intro v3 w1 hp; simp only [z0b, z0a] at hp; simp only [ze, zd, z0b, z0a]) | go_skip)
 rw [HDD.out] at hp
 go_ret
 refine ⟨_, [⟨g, zcN 4 xs news i, 120, cap * 4⟩], rfl, ⟨HIL.out, .inr ⟨g, cap, rfl, by omega, hcm, rfl⟩⟩, hp.tail⟩
theorem zoy (n i : Nat) (hn : n ≤ 1000) (hi : i ≤ n) (xs : List Value) (v : Value) {B : Nat} {w0 w : World} {R M : List Blk} (news : List Value) (hnl : news.length = 4) (hn1 : news.all (·.oneCell') = true) (hx1 : xs.all (·.oneCell') = true) (bv : Nat) (ev : TypeId) (mv : Nat) (hR : zH 120 4 v n xs R) (hp : Hp B w0 w (⟨bv, news, ev, mv⟩ :: (R ++ M))) :
  Calls Tryz.prog 125 #[v, .int .i64 i, .slice (some ⟨bv, 0, none⟩) 1 1] w (zey B w0 (n + 1) (zcN 4 xs news i) M) := by
 rcases Nat.eq_or_lt_of_le hi with h | h
 ·subst h
  exact zjO i hn xs v news hnl hn1 bv ev mv hR hp
 ·obtain ⟨hxl, ⟨h0, _⟩ | ⟨g, cap, hv, hnc, hcm, hr⟩⟩ := hR
  ·omega
  ·subst hv hr
   rcases Nat.lt_or_ge cap (n + 1) with h2 | h2
   ·exact zif n i hn h xs hxl g cap hnc h2 news hnl hn1 hx1 bv ev mv hp
   ·exact zig n i hn h xs hxl g cap hcm h2 news hnl hn1 hx1 bv ev mv hp
open Go.RowKit
theorem zel : zac Tryz.prog 31 11 = true := by kernel_rfl
theorem zlF : zbl Tryz.prog 31 = some ([.int .i64 0, .int .i64 0, .int .i64 0, .int .i64 0, .int .i64 0, .int .i64 0, .int .i64 0, .int .i64 0, .int .i64 0, .int .i64 0, .int .i64 0], 11) := by kernel_rfl
def inM (n lo hi : Int) : Bool := decide (lo ≤ n) && decide (n ≤ hi)
structure Opv where
 k : Int
 h : Int
 i : Int
 n : Int
 m : Int
 v : Int
 t : Int
 deriving DecidableEq
structure Env where
 nu : Int
 vi : Int
 cl : Int
 sq : Int
 op : Opv
def opL (o : Opv) : List Value := [.int .i64 o.k, .int .i64 o.h, .int .i64 o.i, .int .i64 o.n, .int .i64 o.m, .int .i64 o.v, .int .i64 o.t]
def zo9 (e : Env) : List Value := [.int .i64 e.nu, .int .i64 e.vi, .int .i64 e.cl, .int .i64 e.sq] ++ opL e.op
def op0 : Opv := ⟨0, 0, 0, 0, 0, 0, 0⟩
def zdn (e : Env) : Bool := inM e.nu 1 900000000 && inM e.vi 0 900000000 && (if e.cl = 0 then decide (e.sq = 0) && decide (e.op = op0) else inM e.cl 1 4 && inM e.sq 1 1000000)
theorem zdQ (n lo hi : Int) (w : World) : Calls Tryz.prog 186 #[.int .i64 n, .int .i64 lo, .int .i64 hi] w fun e w' => e = .returned (.bool (inM n lo hi)) ∧ w = w' := by
 go_enter Tryz.func186, Tryz.ntmps186
 go_wp2
 all_goals go_ret
 all_goals refine ⟨Ze ?_, rfl⟩
 all_goals (simp [inM, *]; try omega)
theorem zdR (n lo hi : Int) (w : World) : Calls Tryz.prog 192 #[.int .i64 n, .int .i64 lo, .int .i64 hi] w fun e w' => e = .returned (.bool (inM n lo hi)) ∧ w = w' := by
 go_enter Tryz.func192, Tryz.ntmps192
 go_wp2
 all_goals go_ret
 all_goals refine ⟨Ze ?_, rfl⟩
 all_goals (simp [inM, *]; try omega)
theorem zi5 (e : Env) : (inM e.nu 1 900000000 = false ∧ (e.cl == 0) = true ∧ zdn e = false) ∨ (inM e.nu 1 900000000 = false ∧ (e.cl == 0) = false ∧ zdn e = false) ∨
  (inM e.nu 1 900000000 = true ∧ inM e.vi 0 900000000 = false ∧ (e.cl == 0) = true ∧ zdn e = false) ∨ (inM e.nu 1 900000000 = true ∧ inM e.vi 0 900000000 = false ∧ (e.cl == 0) = false ∧ zdn e = false) ∨
  (inM e.nu 1 900000000 = true ∧ inM e.vi 0 900000000 = true ∧ (e.cl == 0) = true ∧ (e.sq == 0) = false ∧ zdn e = false) ∨
  (inM e.nu 1 900000000 = true ∧ inM e.vi 0 900000000 = true ∧ (e.cl == 0) = true ∧ (e.sq == 0) = true ∧ zdn e = decide (e.op = op0)) ∨
  (inM e.nu 1 900000000 = true ∧ inM e.vi 0 900000000 = true ∧ (e.cl == 0) = false ∧ inM e.cl 1 4 = false ∧ zdn e = false) ∨
  (inM e.nu 1 900000000 = true ∧ inM e.vi 0 900000000 = true ∧ (e.cl == 0) = false ∧ inM e.cl 1 4 = true ∧ zdn e = inM e.sq 1 1000000) := by
 unfold zdn
 by_cases hc : e.cl = 0 <;> by_cases hs : e.sq = 0 <;> simp only [hc, hs, if_true, if_false, beq_self_eq_true, decide_true, decide_false, Bool.true_and, Bool.false_and, Bool.and_false] <;> cases inM e.nu 1 900000000 <;> cases inM e.vi 0 900000000 <;> simp [hc, hs] <;> (try cases inM e.cl 1 4) <;> simp
theorem zoE (e : Env) (w : World) : Calls Tryz.prog 119 #[.agg (zo9 e).toArray] w fun x w' => x = .returned (.bool (zdn e)) ∧ Below w.heap.size w w' := by
 have hp := Hp.start w
 have H := zi5 e
 generalize hm : zdn e = r at H
 clear hm
 obtain ⟨nu, vi, cl, sq, ⟨k, h, i, n, m, v, t⟩⟩ := e
 simp only at H
 simp only [zo9, opL, z0f, z0e]
 have k1 := zdQ nu 1 900000000
 have k2 := zdQ vi 0 900000000
 have k3 := zdQ cl 1 4
 have k4 := zdQ sq 1 1000000
 rcases H with ⟨a1, a2, a3⟩ | ⟨a1, a2, a3⟩ | ⟨a1, a2, a3, a4⟩ | ⟨a1, a2, a3, a4⟩ | ⟨a1, a2, a3, a4, a5⟩ | ⟨a1, a2, a3, a4, a5⟩ | ⟨a1, a2, a3, a4, a5⟩ | ⟨a1, a2, a3, a4, a5⟩
 all_goals
  try rw [a1] at k1
  try rw [a2] at k2
  try rw [a4] at k3
  have K1 := z0j k1
  have K2 := z0j k2
  have K3 := z0j k3
  have K4 := z0j k4
  clear k1 k2 k3 k4
  subst r
  go_enter Tryz.func119, Tryz.ntmps119
  go_wp2_with (first | (go_at_call 186; (first | (with_reducible refine (K1.out _).mono ?_) | (with_reducible refine (K2.out _).mono ?_) | (with_reducible refine (K3.out _).mono ?_) | (with_reducible refine (K4.out _).mono ?_)); rintro e w' ⟨rfl, rfl⟩) | go_skip | ((first | ((refine zh _ rfl ?_); refine lZ hp rfl zlF ?_; clear hp; intro b w1 hp) | ((refine zi _ _ rfl ?_); refine lB hp rfl (zb rfl) rfl ?_; clear hp; intro b w1 hp) | ((refine zg _ _ rfl ?_); first | refine lO hp rfl (zb rfl) (by with_reducible first | exact zw | exact Zd) zq ?_ | refine lA hp rfl (zb rfl) (by with_reducible first | exact zel | exact zcw) zq ?_) | ((refine zf _ _ _ rfl ?_); (first | refine sO hp rfl (zb rfl) (by with_reducible first | exact zw | exact Zd) zq ?_ | refine sA hp rfl (zb rfl) (zb rfl) (by with_reducible first | exact zel | exact zcw) zq ?_ | refine sG hp rfl (zb rfl) (zb rfl) (by with_reducible first | exact zel | exact zcw) zq ?_); clear hp; intro w1 hp; simp only [spl, z0a, z0b] at hp)); simp only [ze, zd, z0b, z0a]))
  all_goals go_ret
 all_goals first
  | exact ⟨rfl, hp.below⟩
  | exact ⟨Eq.trans (b := Ending.returned (.bool true)) rfl (Ze (by simp [op0, *])), hp.below⟩
  | exact ⟨Eq.trans (b := Value.bool true) rfl (congrArg Value.bool (by simp [op0, *])), hp.below⟩
  | exact ⟨Eq.trans (b := Ending.returned (.bool false)) rfl (Ze (by simp [op0, *])), hp.below⟩
  | exact ⟨Eq.trans (b := Value.bool false) rfl (congrArg Value.bool (by simp [op0, *])), hp.below⟩
theorem zoF (e : Env) (w : World) : Calls Tryz.prog 126 #[.agg (zo9 e).toArray] w fun x w' => x = .returned (.bool (zdn e)) ∧ Below w.heap.size w w' := by
 have hp := Hp.start w
 have H := zi5 e
 generalize hm : zdn e = r at H
 clear hm
 obtain ⟨nu, vi, cl, sq, ⟨k, h, i, n, m, v, t⟩⟩ := e
 simp only at H
 simp only [zo9, opL, z0f, z0e]
 have k1 := zdR nu 1 900000000
 have k2 := zdR vi 0 900000000
 have k3 := zdR cl 1 4
 have k4 := zdR sq 1 1000000
 rcases H with ⟨a1, a2, a3⟩ | ⟨a1, a2, a3⟩ | ⟨a1, a2, a3, a4⟩ | ⟨a1, a2, a3, a4⟩ | ⟨a1, a2, a3, a4, a5⟩ | ⟨a1, a2, a3, a4, a5⟩ | ⟨a1, a2, a3, a4, a5⟩ | ⟨a1, a2, a3, a4, a5⟩
 all_goals
  try rw [a1] at k1
  try rw [a2] at k2
  try rw [a4] at k3
  have K1 := z0j k1
  have K2 := z0j k2
  have K3 := z0j k3
  have K4 := z0j k4
  clear k1 k2 k3 k4
  subst r
  go_enter Tryz.func126, Tryz.ntmps126
  go_wp2_with (first | (go_at_call 192; (first | (with_reducible refine (K1.out _).mono ?_) | (with_reducible refine (K2.out _).mono ?_) | (with_reducible refine (K3.out _).mono ?_) | (with_reducible refine (K4.out _).mono ?_)); rintro e w' ⟨rfl, rfl⟩) | go_skip | ((first | ((refine zh _ rfl ?_); refine lZ hp rfl zlF ?_; clear hp; intro b w1 hp) | ((refine zi _ _ rfl ?_); refine lB hp rfl (zb rfl) rfl ?_; clear hp; intro b w1 hp) | ((refine zg _ _ rfl ?_); first | refine lO hp rfl (zb rfl) (by with_reducible first | exact zw | exact Zd) zq ?_ | refine lA hp rfl (zb rfl) (by with_reducible first | exact zel | exact zcw) zq ?_) | ((refine zf _ _ _ rfl ?_); (first | refine sO hp rfl (zb rfl) (by with_reducible first | exact zw | exact Zd) zq ?_ | refine sA hp rfl (zb rfl) (zb rfl) (by with_reducible first | exact zel | exact zcw) zq ?_ | refine sG hp rfl (zb rfl) (zb rfl) (by with_reducible first | exact zel | exact zcw) zq ?_); clear hp; intro w1 hp; simp only [spl, z0a, z0b] at hp)); simp only [ze, zd, z0b, z0a]))
  all_goals go_ret
 all_goals first
  | exact ⟨rfl, hp.below⟩
  | exact ⟨Eq.trans (b := Ending.returned (.bool true)) rfl (Ze (by simp [op0, *])), hp.below⟩
  | exact ⟨Eq.trans (b := Value.bool true) rfl (congrArg Value.bool (by simp [op0, *])), hp.below⟩
  | exact ⟨Eq.trans (b := Ending.returned (.bool false)) rfl (Ze (by simp [op0, *])), hp.below⟩
  | exact ⟨Eq.trans (b := Value.bool false) rfl (congrArg Value.bool (by simp [op0, *])), hp.below⟩
end Go.Proofs.YtaafajaadfgaoaaGreat
