import Derived.Test.YtjcbpfbifbfkcaaGreatTq13
set_option linter.unusedSimpArgs false
set_option linter.unusedVariables false
set_option maxRecDepth 100000
set_option maxHeartbeats 60000000
namespace Go.Proofs.YtjcbpfbifbfkcaaGreat
open Go.RowKit
theorem zuf {ty : TypeId} {k : Nat} (h : ZM Tryz.prog ty k = true := by with_reducible first | exact zP | exact zG | exact zf8 | exact zt | exact zac) : ZM Tryz.prog ty k = true := h
theorem zpm {ty : TypeId} (h : zF Tryz.prog ty = true := by with_reducible first | exact zm | exact Zt | exact Zi | exact Zd | exact zl5) : zF Tryz.prog ty = true := h
theorem zk5 {l : List Ob} {h : Int} (hn : Z3 l h = none) (a : Option Addr) (c : Nat) (hl : l.length ≤ 1000) (hs : zai l) (w : World) (ha : zr w a (l.flatMap obV)) :
  Calls Tryz.prog 193 #[.slice a l.length c, .int .i64 h] w fun e w' => (∃ k : Nat, e = .returned (.tuple #[.int .i64 k, .bool false])) ∧ Below w.heap.size w w' :=
 (zgF l a c hl hs h w ha).mono fun e w' ⟨k, he, hk, hb⟩ => ⟨⟨k, by
  have := zhQ hs hk
  rw [hn] at this
  cases hq : zcJ l h k with
  | false => rw [hq] at he; exact he
  | true => rw [hq] at this; cases this⟩, hb⟩
theorem ZX {l : List Ob} {h : Int} {i : Nat} (hn : Z3 l h = some i) (a : Option Addr) (c : Nat) (hl : l.length ≤ 1000) (hs : zai l) (w : World) (ha : zr w a (l.flatMap obV)) :
  Calls Tryz.prog 193 #[.slice a l.length c, .int .i64 h] w fun e w' => e = .returned (.tuple #[.int .i64 i, .bool true]) ∧ Below w.heap.size w w' :=
 (zgF l a c hl hs h w ha).mono fun e w' ⟨k, he, hk, hb⟩ => ⟨by
  have := zhQ hs hk
  rw [hn] at this
  cases hq : zcJ l h k with
  | false => rw [hq] at this; cases this
  | true => rw [hq] at this he; injection this with this; subst this; exact he, hb⟩
theorem zli {x : Hv} (hx : zQ x) {kk hh ii nn cc vv tt : Int} (hn : Z3 x.os hh = none) {B bw : Nat} {w0 w : World} {K : List Blk} (hW : zY B w0 w bw x K) : Calls Tryz.prog 153 #[.pointer (some ⟨bw, 0, none⟩), .agg #[.int .i64 kk, .int .i64 hh, .int .i64 ii, .int .i64 nn, .int .i64 cc, .int .i64 vv, .int .i64 tt]] w (zU B w0 bw x 51 0 K) := by
 obtain ⟨RO, RF, M, hR, hp⟩ := hW
 have HR := z0j hR
 have HS := z0j hx.sorted
 have hol : x.os.length ≤ 1000 := by have := hx.len; omega
 obtain ⟨od, oa, os, oc, nx, t0, t1, t2, t3, fa, fs, fc⟩ := x
 simp only [hvL] at hp
 simp only at hn hol HS
 have HPL := z0j hn
 have HRO : Hid (ZD RO fun w => zr w oa (os.flatMap obV)) := z0j hR.objs.keptS
 clear hn hR hx
 go_enter Tryz.func153, Tryz.ntmps153
 go_wp2_with (first | go_skip | ((first | ((refine zf _ rfl ?_); refine lZ hp rfl zL ?_; clear hp; intro b w1 hp) | ((refine zi _ _ rfl ?_); refine lB hp rfl (za rfl) rfl ?_; clear hp; intro b w1 hp) | ((refine ze _ _ rfl ?_); refine lO hp rfl (za rfl) zpm zn ?_) | ((refine zd _ _ _ rfl ?_); (first | refine sO hp rfl (za rfl) zm zn ?_ | refine sA hp rfl (za rfl) (za rfl) zt zn ?_ | refine sG hp rfl (za rfl) (za rfl) zt zn ?_); clear hp; intro w1 hp; simp only [spl, z0a, z0b] at hp)); simp only [zc, zb, z0b, z0a]))
 refine zh [_, _] (zv.two hp.drew at1 at2) [] [(0, true), (1, true), (2, true), (3, true), (4, true), (5, true), (6, true), (7, false), (8, true), (9, true), (10, true), (11, false), (12, false)] (by kernel_rfl) (by kernel_rfl) rfl (by kernel_rfl) (fun _ _ d _ _ h => by cases d <;> exact h) ?_
 replace hp := hp.drew
 repeat' (with_reducible refine zx ?_); first | (with_reducible refine zq ?_) | ((with_reducible refine zE ?_); refine zu rfl ?_; (first | ((with_reducible refine zT _ rfl ?_); refine tM rfl ?_) | ((with_reducible refine zW _ _ rfl ?_); refine tO rfl (za rfl) (by with_reducible first | exact zm | exact Zd) aa5 ?_) | refine tG (fun w _ => (by go_simp; try rfl)) ?_); try simp only [zc, zb, zj, zg, z0b, z0a, z0d, z0c, zl]) | (refine zC rfl (fun K hK => ?_); go_wp2_with (first | (go_at_call 193; (with_reducible refine (zk5 HPL.out oa oc hol HS.out _ (HRO.out.at hp (fun p hm => by simp [hm]))).mono ?_); rintro e w1 ⟨⟨kf, rfl⟩, hb⟩; replace hp := hp.call hb; clear hb) | go_skip); (refine hK.out _ _ (.inr (zv.two hp aa5 aa5)) ?_); clear hK K; try simp only [zc, zb, zj, zg, z0b, z0a, z0d, z0c, zl])
 go_wp2_with (first | (go_at_call 86; (with_reducible refine (zds _ _).mono ?_); rintro e w1 ⟨rfl, hb⟩; replace hp := hp.call hb; clear hb; unfold zaP) | go_skip | ((first | ((refine zf _ rfl ?_); refine lZ hp rfl zL ?_; clear hp; intro b w1 hp) | ((refine zi _ _ rfl ?_); refine lB hp rfl (za rfl) rfl ?_; clear hp; intro b w1 hp) | ((refine ze _ _ rfl ?_); refine lO hp rfl (za rfl) zpm zn ?_) | ((refine zd _ _ _ rfl ?_); (first | refine sO hp rfl (za rfl) zm zn ?_ | refine sA hp rfl (za rfl) (za rfl) zt zn ?_ | refine sG hp rfl (za rfl) (za rfl) zt zn ?_); clear hp; intro w1 hp; simp only [spl, z0a, z0b] at hp)); simp only [zc, zb, z0b, z0a]))
 exact bodyPost_ret (zA (rs := [.cell 4 71]) Tryz.results153 (.cell rfl (hp.loadAgg zt at0 0 _ (by rfl) (by rfl)) .nil)) rfl (zY.sm ⟨RO, RF, M, HR.out, hp.tail.tail⟩ rfl)
theorem zhI {x : Hv} {RO RF M K : List Blk} (hR : HvR x RO RF M) {br bo b : Nat} {c d : List Value} {B : Nat} {w0 w : World} (hp : Hp B w0 w (⟨br, c, 71, 2⟩ :: ⟨bo, d, 36, 7⟩ :: ⟨b, hvL x, 133, 8⟩ :: (RO ++ (RF ++ (M ++ K))))) :
  zY B w0 w b x (K ++ [⟨br, c, 71, 2⟩, ⟨bo, d, 36, 7⟩]) := ⟨RO, RF, M, hR, hp.kp⟩
theorem zkM {x : Hv} (hx : zQ x) {hh ii nn cc vv tt : Int} {i : Nat} {g : Ob} (hn : Z3 x.os hh = some i) (hg : x.os[i]? = some g) {B bw : Nat} {w0 w : World} {K9 : List Blk} (hW : zY B w0 w bw x K9) :
  Calls Tryz.prog 153 #[.pointer (some ⟨bw, 0, none⟩), .agg #[.int .i64 2, .int .i64 hh, .int .i64 ii, .int .i64 nn, .int .i64 cc, .int .i64 vv, .int .i64 tt]] w (zU B w0 bw (zfQ x i g) 0 0 K9) := by
 obtain ⟨RO, RF, M, hR, hp⟩ := hW
 have HR := z0j hR
 have HS := z0j hx.sorted
 have HG := z0j hg
 have hol : x.os.length ≤ 1000 := by have := hx.len; omega
 have HFREE : Hid (∀ {K : List Blk} {w : World}, zY B w0 w bw x K → Calls Tryz.prog 196 #[.pointer (some ⟨bw, 0, none⟩), .int .i64 i] w (zU B w0 bw (zfQ x i g) 0 0 K)) := z0j (fun h => zqL x hx i g hg h)
 have HWK : Hid (∀ {br bo : Nat} {c d : List Value} {w : World}, Hp B w0 w (⟨br, c, 71, 2⟩ :: ⟨bo, d, 36, 7⟩ :: ⟨bw, hvL x, 133, 8⟩ :: (RO ++ (RF ++ (M ++ K9)))) → zY B w0 w bw x (K9 ++ [⟨br, c, 71, 2⟩, ⟨bo, d, 36, 7⟩])) := z0j (fun h => zhI hR h)
 generalize zfQ x i g = s at HFREE ⊢
 obtain ⟨od, oa, os, oc, nx, t0, t1, t2, t3, fa, fs, fc⟩ := x
 simp only [hvL] at hp HWK
 simp only at hn hol HS
 have HPL := z0j hn
 have HRO : Hid (ZD RO fun w => zr w oa (os.flatMap obV)) := z0j hR.objs.keptS
 clear hn hR hx hg HG
 go_enter Tryz.func153, Tryz.ntmps153
 go_wp2_with (first | go_skip | ((first | ((refine zf _ rfl ?_); refine lZ hp rfl zL ?_; clear hp; intro b w1 hp) | ((refine zi _ _ rfl ?_); refine lB hp rfl (za rfl) rfl ?_; clear hp; intro b w1 hp) | ((refine ze _ _ rfl ?_); refine lO hp rfl (za rfl) zpm zn ?_) | ((refine zd _ _ _ rfl ?_); (first | refine sO hp rfl (za rfl) zm zn ?_ | refine sA hp rfl (za rfl) (za rfl) zt zn ?_ | refine sG hp rfl (za rfl) (za rfl) zt zn ?_); clear hp; intro w1 hp; simp only [spl, z0a, z0b] at hp)); simp only [zc, zb, z0b, z0a]))
 refine zh [_, _] (zv.two hp.drew at1 at2) [] [(0, true), (1, true), (2, true), (3, true), (4, true), (5, true), (6, true), (7, false), (8, true), (9, true), (10, true), (11, false), (12, false)] (by kernel_rfl) (by kernel_rfl) rfl (by kernel_rfl) (fun _ _ d _ _ h => by cases d <;> exact h) ?_
 replace hp := hp.drew
 repeat' (with_reducible refine zx ?_); first | (with_reducible refine zq ?_) | ((with_reducible refine zE ?_); refine zu rfl ?_; (first | ((with_reducible refine zT _ rfl ?_); refine tM rfl ?_) | ((with_reducible refine zW _ _ rfl ?_); refine tO rfl (za rfl) (by with_reducible first | exact zm | exact Zd) aa5 ?_) | refine tG (fun w _ => (by go_simp; try rfl)) ?_); try simp only [zc, zb, zj, zg, z0b, z0a, z0d, z0c, zl]) | (refine zC rfl (fun K hK => ?_); go_wp2_with (first | (go_at_call 193; (with_reducible refine (ZX HPL.out oa oc hol HS.out _ (HRO.out.at hp (fun p hm => by simp [hm]))).mono ?_); rintro e w1 ⟨rfl, hb⟩; replace hp := hp.call hb; clear hb) | go_skip); (refine hK.out _ _ (.inr (zv.two hp aa5 aa5)) ?_); clear hK K; try simp only [zc, zb, zj, zg, z0b, z0a, z0d, z0c, zl])
 obtain ⟨br, rfl⟩ := hp.id0
 obtain ⟨bo, rfl⟩ := hp.id1
 go_wp2_with (first | (go_at_call 196; (with_reducible refine (HFREE.out (HWK.out hp)).mono ?_); clear hp; rintro e w1 ⟨rfl, y, hy, RO2, RF2, M2, hR2, hp⟩; replace hp := hp.kp (L' := ⟨br, [.int .i64 0, .int .i64 0], 71, 2⟩ :: ⟨bw, hvL y, 133, 8⟩ :: (RO2 ++ (RF2 ++ (M2 ++ K9)))); have HR2 := z0j hR2; have HY := z0j hy; clear hy hR2; unfold zaP) | go_skip | ((first | ((refine zf _ rfl ?_); refine lZ hp rfl zL ?_; clear hp; intro b w1 hp) | ((refine zi _ _ rfl ?_); refine lB hp rfl (za rfl) rfl ?_; clear hp; intro b w1 hp) | ((refine ze _ _ rfl ?_); refine lO hp rfl (za rfl) zpm zn ?_) | ((refine zd _ _ _ rfl ?_); (first | refine sO hp rfl (za rfl) zm zn ?_ | refine sA hp rfl (za rfl) (za rfl) zt zn ?_ | refine sG hp rfl (za rfl) (za rfl) zt zn ?_); clear hp; intro w1 hp; simp only [spl, z0a, z0b] at hp)); simp only [zc, zb, z0b, z0a]))
 exact bodyPost_ret (zA (rs := [.cell 4 71]) Tryz.results153 (.cell rfl (hp.loadAgg zt at0 0 _ (by rfl) (by rfl)) .nil)) rfl ⟨rfl, y, HY.out, RO2, RF2, M2, HR2.out, hp.tail⟩
end Go.Proofs.YtjcbpfbifbfkcaaGreat
