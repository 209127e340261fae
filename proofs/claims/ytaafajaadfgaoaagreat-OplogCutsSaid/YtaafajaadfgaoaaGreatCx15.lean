import Derived.Test.YtaafajaadfgaoaaGreatCx14
set_option linter.unusedSimpArgs false
set_option linter.unusedVariables false
set_option maxRecDepth 100000
set_option maxHeartbeats 60000000
namespace Go.Proofs.YtaafajaadfgaoaaGreat
open Go.RowKit
theorem zs6 {ty : TypeId} {k : Nat} (h : ZB Tryz.prog ty k = true := by with_reducible first | exact zW | exact zD | exact zcp | exact Zf | exact ziG) : ZB Tryz.prog ty k = true := h
theorem zuu {ty : TypeId} (h : zy Tryz.prog ty = true := by with_reducible first | exact zr | exact Ze | exact Zh | exact z7 | exact zmr) : zy Tryz.prog ty = true := h
theorem zk4 {l : List Ob} {h : Int} (hn : Z2 l h = none) (a : Option Addr) (c : Nat) (hl : l.length ≤ 1000) (hs : zac l) (w : World) (ha : zm w a (l.flatMap obV)) :
  Calls Tryz.prog 200 #[.slice a l.length c, .int .i64 h] w fun e w' => (∃ k : Nat, e = .returned (.tuple #[.int .i64 k, .bool false])) ∧ Below w.heap.size w w' :=
 (zgM l a c hl hs h w ha).mono fun e w' ⟨k, he, hk, hb⟩ => ⟨⟨k, by
  have := zic hs hk
  rw [hn] at this
  cases hq : zcG l h k with
  | false => rw [hq] at he; exact he
  | true => rw [hq] at this; cases this⟩, hb⟩
theorem ZU {l : List Ob} {h : Int} {i : Nat} (hn : Z2 l h = some i) (a : Option Addr) (c : Nat) (hl : l.length ≤ 1000) (hs : zac l) (w : World) (ha : zm w a (l.flatMap obV)) :
  Calls Tryz.prog 200 #[.slice a l.length c, .int .i64 h] w fun e w' => e = .returned (.tuple #[.int .i64 i, .bool true]) ∧ Below w.heap.size w w' :=
 (zgM l a c hl hs h w ha).mono fun e w' ⟨k, he, hk, hb⟩ => ⟨by
  have := zic hs hk
  rw [hn] at this
  cases hq : zcG l h k with
  | false => rw [hq] at this; cases this
  | true => rw [hq] at this he; injection this with this; subst this; exact he, hb⟩
theorem zkN {x : Hv} (hx : zJ x) {kk hh ii nn cc vv tt : Int} (hn : Z2 x.os hh = none) {B bw : Nat} {w0 w : World} {K : List Blk} (hW : zQ B w0 w bw x K) : Calls Tryz.prog 152 #[.pointer (some ⟨bw, 0, none⟩), .agg #[.int .i64 kk, .int .i64 hh, .int .i64 ii, .int .i64 nn, .int .i64 cc, .int .i64 vv, .int .i64 tt]] w (zO B w0 bw x 51 0 K) := by
 obtain ⟨RO, RF, M, hR, hp⟩ := hW
 have HR := z0j hR
 have HS := z0j hx.sorted
 have hol : x.os.length ≤ 1000 := by have := hx.len; omega
 obtain ⟨od, oa, os, oc, nx, t0, t1, t2, t3, fa, fs, fc⟩ := x
 simp only [hvL] at hp
 simp only at hn hol HS
 have HPL := z0j hn
 have HRO : Hid (ZK RO fun w => zm w oa (os.flatMap obV)) := z0j hR.objs.keptS
 clear hn hR hx
 go_enter Tryz.func152, Tryz.ntmps152
 go_wp2_with (first | ((first | ((refine zi _ rfl ?_); refine lZ hp rfl Zi ?_; clear hp; intro b w1 hp) | ((refine zk _ _ rfl ?_); refine lB hp rfl (za rfl) rfl ?_; clear hp; intro b w1 hp)); simp only [zc, zb, z0b, z0a]))
 refine zf [_, _] (zt.two hp.drew at1 at2) [] [(0, true), (1, true), (2, true), (3, true), (4, true), (5, true), (6, true), (7, false), (8, true), (9, true), (10, true), (11, false), (12, false)] (by kernel_rfl) (by kernel_rfl) rfl (by kernel_rfl) (fun _ _ d _ _ h => by cases d <;> exact h) ?_
 replace hp := hp.drew
 repeat' (with_reducible refine zq ?_); first | (with_reducible refine zl ?_) | ((with_reducible refine zw ?_); refine zn rfl ?_; (first | ((with_reducible refine zH _ rfl ?_); refine tM rfl ?_) | ((with_reducible refine zI _ _ rfl ?_); refine tO rfl (za rfl) (by with_reducible first | exact zr | exact z7) aa5 ?_) | refine tG (fun w _ => (by go_simp; try rfl)) ?_); try simp only [zc, zb, zh, ze, z0b, z0a, z0d, z0c, zj]) | (refine zv rfl (fun K hK => ?_); go_wp2_with (first | (go_at_call 200; (with_reducible refine (zk4 HPL.out oa oc hol HS.out _ (HRO.out.at hp (fun p hm => by simp [hm]))).mono ?_); rintro e w1 ⟨⟨kf, rfl⟩, hb⟩; replace hp := hp.call hb; clear hb)); (refine hK.out _ _ (.inr (zt.two hp aa5 aa5)) ?_); clear hK K; try simp only [zc, zb, zh, ze, z0b, z0a, z0d, z0c, zj])
 go_wp2_with (first | (go_at_call 75; (with_reducible refine (zlz _ _).mono ?_); rintro e w1 ⟨rfl, hb⟩; replace hp := hp.call hb; clear hb; unfold zb8) | ((first | ((refine zg _ _ _ rfl ?_); (first | refine sA hp rfl (za rfl) (za rfl) zs6 zK ?_); clear hp; intro w1 hp; simp only [spl, z0a, z0b] at hp)); simp only [zc, zb, z0b, z0a]))
 exact bodyPost_ret (zu (rs := [.cell 4 54]) Tryz.results152 (.cell rfl (hp.loadAgg Zf at0 0 _ (by rfl) (by rfl)) .nil)) rfl (zQ.sm ⟨RO, RF, M, HR.out, hp.tail.tail⟩ rfl)
theorem ziy {x : Hv} {RO RF M K : List Blk} (hR : HvR x RO RF M) {br bo b : Nat} {c d : List Value} {B : Nat} {w0 w : World} (hp : Hp B w0 w (⟨br, c, 54, 2⟩ :: ⟨bo, d, 29, 7⟩ :: ⟨b, hvL x, 113, 8⟩ :: (RO ++ (RF ++ (M ++ K))))) :
  zQ B w0 w b x (K ++ [⟨br, c, 54, 2⟩, ⟨bo, d, 29, 7⟩]) := ⟨RO, RF, M, hR, hp.kp⟩
theorem zkL {x : Hv} (hx : zJ x) {hh ii nn cc vv tt : Int} {i : Nat} {g : Ob} (hn : Z2 x.os hh = some i) (hg : x.os[i]? = some g) {B bw : Nat} {w0 w : World} {K9 : List Blk} (hW : zQ B w0 w bw x K9) :
  Calls Tryz.prog 152 #[.pointer (some ⟨bw, 0, none⟩), .agg #[.int .i64 2, .int .i64 hh, .int .i64 ii, .int .i64 nn, .int .i64 cc, .int .i64 vv, .int .i64 tt]] w (zO B w0 bw (zeF x i g) 0 0 K9) := by
 obtain ⟨RO, RF, M, hR, hp⟩ := hW
 have HR := z0j hR
 have HS := z0j hx.sorted
 have HG := z0j hg
 have hol : x.os.length ≤ 1000 := by have := hx.len; omega
 have HFREE : Hid (∀ {K : List Blk} {w : World}, zQ B w0 w bw x K → Calls Tryz.prog 203 #[.pointer (some ⟨bw, 0, none⟩), .int .i64 i] w (zO B w0 bw (zeF x i g) 0 0 K)) := z0j (fun h => zrs x hx i g hg h)
 have HWK : Hid (∀ {br bo : Nat} {c d : List Value} {w : World}, Hp B w0 w (⟨br, c, 54, 2⟩ :: ⟨bo, d, 29, 7⟩ :: ⟨bw, hvL x, 113, 8⟩ :: (RO ++ (RF ++ (M ++ K9)))) → zQ B w0 w bw x (K9 ++ [⟨br, c, 54, 2⟩, ⟨bo, d, 29, 7⟩])) := z0j (fun h => ziy hR h)
 generalize zeF x i g = s at HFREE ⊢
 obtain ⟨od, oa, os, oc, nx, t0, t1, t2, t3, fa, fs, fc⟩ := x
 simp only [hvL] at hp HWK
 simp only at hn hol HS
 have HPL := z0j hn
 have HRO : Hid (ZK RO fun w => zm w oa (os.flatMap obV)) := z0j hR.objs.keptS
 clear hn hR hx hg HG
 go_enter Tryz.func152, Tryz.ntmps152
 go_wp2_with (first | ((first | ((refine zi _ rfl ?_); refine lZ hp rfl Zi ?_; clear hp; intro b w1 hp) | ((refine zk _ _ rfl ?_); refine lB hp rfl (za rfl) rfl ?_; clear hp; intro b w1 hp)); simp only [zc, zb, z0b, z0a]))
 refine zf [_, _] (zt.two hp.drew at1 at2) [] [(0, true), (1, true), (2, true), (3, true), (4, true), (5, true), (6, true), (7, false), (8, true), (9, true), (10, true), (11, false), (12, false)] (by kernel_rfl) (by kernel_rfl) rfl (by kernel_rfl) (fun _ _ d _ _ h => by cases d <;> exact h) ?_
 replace hp := hp.drew
 repeat' (with_reducible refine zq ?_); first | (with_reducible refine zl ?_) | ((with_reducible refine zw ?_); refine zn rfl ?_; (first | ((with_reducible refine zH _ rfl ?_); refine tM rfl ?_) | ((with_reducible refine zI _ _ rfl ?_); refine tO rfl (za rfl) (by with_reducible first | exact zr | exact z7) aa5 ?_) | refine tG (fun w _ => (by go_simp; try rfl)) ?_); try simp only [zc, zb, zh, ze, z0b, z0a, z0d, z0c, zj]) | (refine zv rfl (fun K hK => ?_); go_wp2_with (first | (go_at_call 200; (with_reducible refine (ZU HPL.out oa oc hol HS.out _ (HRO.out.at hp (fun p hm => by simp [hm]))).mono ?_); rintro e w1 ⟨rfl, hb⟩; replace hp := hp.call hb; clear hb)); (refine hK.out _ _ (.inr (zt.two hp aa5 aa5)) ?_); clear hK K; try simp only [zc, zb, zh, ze, z0b, z0a, z0d, z0c, zj])
 obtain ⟨br, rfl⟩ := hp.id0
 obtain ⟨bo, rfl⟩ := hp.id1
 go_wp2_with (first | (go_at_call 203; (with_reducible refine (HFREE.out (HWK.out hp)).mono ?_); clear hp; rintro e w1 ⟨rfl, y, hy, RO2, RF2, M2, hR2, hp⟩; replace hp := hp.kp (L' := ⟨br, [.int .i64 0, .int .i64 0], 54, 2⟩ :: ⟨bw, hvL y, 113, 8⟩ :: (RO2 ++ (RF2 ++ (M2 ++ K9)))); have HR2 := z0j hR2; have HY := z0j hy; clear hy hR2; unfold zb8) | ((first | ((refine zd _ _ rfl ?_); first | refine lO hp rfl (za rfl) zuu zK ?_) | ((refine zg _ _ _ rfl ?_); (first | refine sA hp rfl (za rfl) (za rfl) zs6 zK ?_); clear hp; intro w1 hp; simp only [spl, z0a, z0b] at hp)); simp only [zc, zb, z0b, z0a]))
 exact bodyPost_ret (zu (rs := [.cell 4 54]) Tryz.results152 (.cell rfl (hp.loadAgg Zf at0 0 _ (by rfl) (by rfl)) .nil)) rfl ⟨rfl, y, HY.out, RO2, RF2, M2, HR2.out, hp.tail⟩
end Go.Proofs.YtaafajaadfgaoaaGreat
