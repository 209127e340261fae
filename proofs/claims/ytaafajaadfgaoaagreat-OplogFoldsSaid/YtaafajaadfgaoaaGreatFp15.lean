import Derived.Test.YtaafajaadfgaoaaGreatFp14
import Derived.Test.YtaafajaadfgaoaaGreatFp8
set_option linter.unusedSimpArgs false
set_option linter.unusedVariables false
set_option maxRecDepth 100000
set_option maxHeartbeats 60000000
namespace Go.Proofs.YtaafajaadfgaoaaGreat
open Go.RowKit
theorem zdN {ty : TypeId} (h : zB Tryz.prog ty = true := by with_reducible first | exact zq | exact zA | exact zcq | exact za8) : zB Tryz.prog ty = true := h
theorem zhr : zcW Tryz.prog 3 = some ([.int .i64 0], 1) := by kernel_rfl
def zmf (B : Nat) (w0 : World) (sz : Int) (os : List Ob) (res : List Bl) (b7 : Nat) (L : List Blk) (k : Nat) (vf vo : Value) (wr : World) : Prop :=
 ∃ (fr ou : List Bl) (Rf Ro : List Blk), k = wtL fr ∧ wtL fr ≤ 511 ∧ Hid (zD 124 2 vf fr.length (fr.flatMap blV) Rf) ∧ Hid (zJ 124 2 vo ou.length (ou.flatMap blV) Ro) ∧ Hid (∀ b ∈ fr, zeY b) ∧ Hid (ou ++ fr.flatMap (lfB sz os) = res) ∧
  Hp B w0 wr (⟨b7, [.int .i64 sz], 3, 1⟩ :: (Ro ++ (Rf ++ L)))
theorem zgY (l : List Bl) : (l.flatMap blV).all (·.oneCell') = true := by
 rw [List.all_eq_true]; intro u hu; obtain ⟨x, _, hx⟩ := List.mem_flatMap.1 hu; simp [blV] at hx; rcases hx with rfl | rfl <;> rfl
theorem zk7 {B : Nat} {w0 w : World} {L Ro Rf : List Blk} {p1 p2 p3 : Blk} {m : Nat} (hm : m ≤ 1000) {r : List Bl} {v : Value} (hR : zD 124 2 v m (r.flatMap blV) Rf) {p o q : Int} {bv : Nat} {ev : TypeId} {mv : Nat} (hp : Hp B w0 w (⟨bv, [.int .i64 p, .int .i64 o, .int .i64 q, .int .i64 o], ev, mv⟩ :: p1 :: p2 :: p3 :: (Ro ++ (Rf ++ L)))) :
  Calls Tryz.prog 212 #[v, .int .i64 0, .slice (some ⟨bv, 0, none⟩) 2 2] w fun e w' => ∃ v' R', e = .returned v' ∧ zD 124 2 v' (m + 2) ((⟨p, o⟩ :: ⟨q, o⟩ :: r : List Bl).flatMap blV) R' ∧ Hp B w0 w' (p1 :: p2 :: p3 :: (Ro ++ (R' ++ L))) := by
 refine (zmA m hm (r.flatMap blV) v [.int .i64 p, .int .i64 o, .int .i64 q, .int .i64 o] rfl rfl (zgY r) bv ev mv hR (M := p1 :: p2 :: p3 :: (Ro ++ L)) hp.kp).mono fun e w' h => ?_
 obtain ⟨v', R', he, h1, h2⟩ := h
 exact ⟨v', R', he, h1, h2.kp⟩
theorem zjs {r : List Bl} {b : Bl} {g off cap : Nat} {pre : List Value} {Rf : List Blk} (h1 : r.length + 1 ≤ cap) (hrf : Rf = [⟨g, pre ++ (blV b ++ r.flatMap blV), 124, off + cap * 2⟩])
  (htl : cap ≠ 1 → zD 124 2 (.slice (some ⟨g, off + 2, none⟩) r.length (cap - 1)) r.length (r.flatMap blV) Rf) :
  ∃ (ad : Nat) (Rn : List Blk), zD 124 2 (.slice (some ⟨g, ad, none⟩) r.length (cap - 1)) r.length (r.flatMap blV) Rn ∧ (∀ f : Blk → Nat, (Rn.map f).sum ≤ (Rf.map f).sum) ∧ ((cap = 1 ∧ ad = off) ∨ (cap ≠ 1 ∧ ad = off + 2)) := by
 by_cases hc : cap = 1
 ·have hr : r = [] := List.eq_nil_of_length_eq_zero (by omega)
  subst hr hc
  exact ⟨off, [], zD.nil _ _ _, fun f => by simp, .inl ⟨rfl, rfl⟩⟩
 ·exact ⟨off + 2, Rf, htl hc, fun f => Nat.le_refl _, .inr ⟨hc, rfl⟩⟩
theorem Hp.fin3 {B : Nat} {w0 w : World} {p1 p2 p3 : Blk} {Ro Rf Rn L : List Blk} (hp : Hp B w0 w (p1 :: p2 :: p3 :: (Ro ++ (Rf ++ L)))) (h : ∀ f : Blk → Nat, (Rn.map f).sum ≤ (Rf.map f).sum) : Hp B w0 w (p3 :: (Ro ++ (Rn ++ L))) :=
 hp.keep (fun f => by have := h f; simp only [List.map_append, List.map_cons, List.sum_append, List.sum_cons]; omega)
theorem Hp.fin4 {B : Nat} {w0 w : World} {p0 p1 p2 p3 : Blk} {Ro Rf Rn L : List Blk} (hp : Hp B w0 w (p0 :: p1 :: p2 :: p3 :: (Ro ++ (Rf ++ L)))) (h : ∀ f : Blk → Nat, (Rn.map f).sum ≤ (Rf.map f).sum) : Hp B w0 w (p0 :: p1 :: p2 :: p3 :: (Ro ++ (Rn ++ L))) :=
 hp.keep (fun f => by have := h f; simp only [List.map_append, List.map_cons, List.sum_append, List.sum_cons]; omega)
theorem zmq {a b : Bl} {r : List Bl} (h1 : zeY a) (h2 : zeY b) (h3 : ∀ x ∈ r, zeY x) : ∀ x ∈ (a :: b :: r), zeY x := fun x hx => by
 rcases List.mem_cons.1 hx with rfl | hx
 ·exact h1
 ·rcases List.mem_cons.1 hx with rfl | hx
  ·exact h2
  ·exact h3 x hx
theorem zmC (od : Int) (h3 : 3 ≤ od) (h8 : od ≤ 8) (os : List Ob) (a : Option Addr) (c : Nat) (hol : os.length ≤ 600) (hob : ∀ x ∈ os, zdi x) (v : Value) {B : Nat} {w0 w : World} {R L : List Blk} (hR : zD 124 2 v 1 (blV ⟨0, od⟩) R) (hs : zfA B w0 L fun w => zr w a (os.flatMap obV)) (hp : Hp B w0 w (R ++ L)) :
  Calls Tryz.prog 183 #[.int .i64 od, v, .slice a os.length c] w (zkB B w0 (lfN (pw od) os od.toNat 0) L) := by
 obtain ⟨i0, hi0, hz0, hz1, hz2⟩ := info_parts zcD
 have HLEN := z0j (zjK (os := os) h3 h8)
 have HO0 : Hid (0 ≤ od) := z0j (by omega)
 have HO8 := z0j h8
 have HOB := z0j hob
 have HS := z0j hs
 have HR0 := z0j hR
 have hpw := zb5 h8
 have hpw1 := zP od
 have HFIT0 : Hid (zeY ⟨0, od⟩ ∧ wtL [⟨0, od⟩] ≤ 511) := z0j (by
  refine ⟨⟨by simp only; omega, h8, Int.le_refl _, by simp only; omega⟩, ?_⟩
  have : (2 : Nat) ^ od.toNat ≤ 2 ^ 8 := Nat.pow_le_pow_right (by decide) (by omega)
  simp only [wtL, wtB, List.map_cons, List.map_nil, List.sum_cons, List.sum_nil]
  omega)
 obtain ⟨res, hres⟩ : ∃ res, res = lfN (pw od) os od.toNat 0 := ⟨_, rfl⟩
 rw [← hres] at HLEN ⊢
 have HRES : Hid ([] ++ [(⟨0, od⟩ : Bl)].flatMap (lfB (pw od) os) = res) := z0j (by rw [hres]; simp [lfB])
 clear hob hs hR hpw hpw1 h3 h8 hres
 go_enter Tryz.func183, Tryz.ntmps183
 go_wp2_with (first | (go_at_call 141; first | ((with_reducible refine (zab _ HO0.out HO8.out _).mono ?_); rintro e w' ⟨rfl, rfl⟩) | ((with_reducible refine (zab _ HP0.out HP8.out _).mono ?_); rintro e w' ⟨rfl, rfl⟩)) | go_skip | ((first | ((refine zg _ rfl ?_); refine lZ hp rfl (by with_reducible first | exact zI | exact zhr) ?_; clear hp; intro b w1 hp) | ((refine zh _ _ rfl ?_); refine lB hp rfl (za rfl) rfl ?_; clear hp; intro b w1 hp) | ((refine zf _ _ rfl ?_); first | refine lO hp rfl (za rfl) zdN aa5 ?_ | refine lA hp rfl (za rfl) zt aa5 ?_) | ((refine zd _ _ _ rfl ?_); (first | refine sO hp rfl (za rfl) zdN aa5 ?_ | refine sA hp rfl (za rfl) (za rfl) zt aa5 ?_ | refine sG hp rfl (za rfl) (za rfl) zt aa5 ?_); clear hp; intro w1 hp; simp only [spl, z0a, z0b] at hp) | ((refine zi _ _ _ rfl ?_); refine lS hp rfl (by intro w; go_simp; rfl) ?_; clear hp; intro b w1 hp; simp only [z0g, z0h, Nat.reduceAdd] at hp)); simp only [zc, zb, z0b, z0a]))
 obtain ⟨b7, rfl⟩ := hp.id0
 go_loopg [1, 8] (wtL [⟨0, od⟩]) (fun k vf vo wr => zmf B w0 (pw od) os res b7 L k vf vo wr)
 case atStart => exact ⟨[⟨0, od⟩], [], R, [], rfl, HFIT0.out.2, z0j (by simpa using HR0.out), z0j (zJ.nil _ _), z0j (fun b hb => by rw [List.mem_singleton.1 hb]; exact HFIT0.out.1), HRES, hp⟩
 case round =>
  clear hp HR0 HRES HFIT0
  obtain ⟨fr, ou, Rf, Ro, rfl, hwt, HFR, HOU, HFIT, HEQ, hp⟩ := hrel
  cases fr with
  | nil =>
   obtain ⟨va, vk, rfl, _, _⟩ := HFR.out.kept
   simp only [z0h]
   go_wp2_with (first | go_skip | ((first | ((refine zg _ rfl ?_); refine lZ hp rfl (by with_reducible first | exact zI | exact zhr) ?_; clear hp; intro b w1 hp) | ((refine zh _ _ rfl ?_); refine lB hp rfl (za rfl) rfl ?_; clear hp; intro b w1 hp) | ((refine zf _ _ rfl ?_); first | refine lO hp rfl (za rfl) zdN aa5 ?_ | refine lA hp rfl (za rfl) zt aa5 ?_) | ((refine zd _ _ _ rfl ?_); (first | refine sO hp rfl (za rfl) zdN aa5 ?_ | refine sA hp rfl (za rfl) (za rfl) zt aa5 ?_ | refine sG hp rfl (za rfl) (za rfl) zt aa5 ?_); clear hp; intro w1 hp; simp only [spl, z0a, z0b] at hp) | ((refine zi _ _ _ rfl ?_); refine lS hp rfl (by intro w; go_simp; rfl) ?_; clear hp; intro b w1 hp; simp only [z0g, z0h, Nat.reduceAdd] at hp)); simp only [zc, zb, z0b, z0a]))
   go_ret
   have he : ou = res := by have := HEQ.out; simpa using this
   subst he
   exact ⟨_, Ro, rfl, HOU.out, hp.tail.kp⟩
  | cons b r =>
   have hfr := HFR.out
   rw [List.flatMap_cons, List.length_cons] at hfr
   obtain ⟨g, off, cap, pre, rfl, hcn, hcm, hrf, hpre, htl, htl0⟩ := hfr.head (zbv b) (by decide)
   clear htl0
   obtain ⟨f1, f2, f3, f4⟩ := HFIT.out b (by simp)
   have hpb := zP b.o
   have HFR2 : Hid (∀ x ∈ r, zeY x) := z0j (fun x hx => HFIT.out x (List.mem_cons_of_mem _ hx))
   have hwl := zm3 (b :: r)
   have HWL : Hid (r.length ≤ 1000) := z0j (by rw [List.length_cons] at hwl; omega)
   have HWT : Hid (wtL (b :: r) = wtB b + wtL r ∧ 1 ≤ wtB b ∧ wtL (b :: r) ≤ 511) := z0j ⟨zcP b r, zku b, hwt⟩
   have hou : ou.length ≤ 256 := by
    have h := HLEN.out
    rw [← HEQ.out, List.length_append] at h
    omega
   have HOL1 : Hid (ou.length + 1 ≤ maxLen) := z0j (by unfold maxLen; omega)
   have HOL2 : Hid ((ou.length + 1) * 16 ≤ 140737488355328) := z0j (by omega)
   have HB0 : Hid (zaG Rf fun w => ∀ j u, (blV b)[j]? = some u → w.cell? ⟨g, off + j, none⟩ = some u) := z0j (by
    rw [hrf]
    intro B' w0' w' L' hp' hm' j u hj
    obtain ⟨k, hk, hkl⟩ := List.getElem_of_mem (hm' _ (List.mem_singleton.2 rfl))
    refine hp'.cell (i := k) (by rw [List.getElem?_eq_getElem hk, hkl]) (zhl hpre ?_)
    rw [List.getElem?_append_left (List.getElem?_eq_some_iff.1 hj).1]; exact hj)
   have HNO := z0j (fun h => zoe (sz := pw od) (os := os) (b := b) f1 h)
   have HZE := z0j (fun h0 h => zmD (sz := pw od) (os := os) (b := b) h0 h)
   have HSP := z0j (fun h0 h => zld (sz := pw od) (os := os) (b := b) h0 h)
   have HWS := z0j (fun h0 q => zlL (b := b) h0 q)
   have HRM : Hid (ou ++ (lfB (pw od) os b ++ r.flatMap (lfB (pw od) os)) = res) := z0j (by have := HEQ.out; rwa [List.flatMap_cons] at this)
   obtain ⟨ad, Rn, hsub, hdr, hcase⟩ := zjs hcn hrf htl
   have HSUB := z0j hsub
   have HDR := z0j hdr
   obtain ⟨mm, hmm⟩ : ∃ mm, zjT (pw od) os b = mm := ⟨_, rfl⟩
   have HM0 := z0j hmm
   obtain ⟨p, o⟩ := b
   simp only at f1 f2 f3 f4 hpb
   simp only [blV] at HB0
   have HM : Hid (os.any (znx (pw od) p (p + pw o)) = mm) := z0j HM0.out
   have HP0 := z0j f1
   have HP8 := z0j f2
   have HWE : Hid (wrap64 (p + pw o) = p + pw o) := z0j (by unfold wrap64; omega)
   have HFB := z0j (show zeY ⟨p, o⟩ from ⟨f1, f2, f3, f4⟩)
   have g0 : (0 : Int) < ((r.length + 1 : Nat) : Int) := by omega
   have g1 : (1 : Int) ≤ ((r.length + 1 : Nat) : Int) := by omega
   have g2 : (1 : Int) ≤ (cap : Int) := by omega
   clear hfr htl hrf hcm hwl hwt hou hsub hdr hmm HEQ HFIT HFR hpre f3 f4 hpb
   rcases hcase with ⟨hc, rfl⟩ | ⟨hc, rfl⟩
   case' inl => have HSUB : Hid (zD 124 2 (.slice (some ⟨g, ad, none⟩) r.length 0) r.length (r.flatMap blV) Rn) := z0j (by have hr0 : r.length = 0 := (by omega); have := HSUB.out; rw [hr0, hc] at this; rw [hr0]; exact this)
   all_goals
    go_wp2_with (first | ((refine zf 124 _ rfl ?_); refine zce (Hp.start _) _ _ rfl wy _ _ (za rfl) 2 zt [.int .i64 p, .int .i64 o] (HB0.out.at hp (by intro p hp2; simp [hp2])) rfl ?_; simp only [zc, zb, z0b, z0a]) | go_skip | ((first | ((refine zg _ rfl ?_); refine lZ hp rfl (by with_reducible first | exact zI | exact zhr) ?_; clear hp; intro b w1 hp) | ((refine zh _ _ rfl ?_); refine lB hp rfl (za rfl) rfl ?_; clear hp; intro b w1 hp) | ((refine zf _ _ rfl ?_); first | refine lO hp rfl (za rfl) zdN aa5 ?_ | refine lA hp rfl (za rfl) zt aa5 ?_) | ((refine zd _ _ _ rfl ?_); (first | refine sO hp rfl (za rfl) zdN aa5 ?_ | refine sA hp rfl (za rfl) (za rfl) zt aa5 ?_ | refine sG hp rfl (za rfl) (za rfl) zt aa5 ?_); clear hp; intro w1 hp; simp only [spl, z0a, z0b] at hp) | ((refine zi _ _ _ rfl ?_); refine lS hp rfl (by intro w; go_simp; rfl) ?_; clear hp; intro b w1 hp; simp only [z0g, z0h, Nat.reduceAdd] at hp)); simp only [zc, zb, z0b, z0a]))
    obtain ⟨b9, rfl⟩ := hp.id0
    refine ZT [_] (zE.one hp.drew at0) [] (.take 0 (.take 1 (.take 2 (.take 3 (.two 4 (.take 5 (.one 6 (.one 7 .nil))) 6 (.one 4 (.take 5 (.one 7 .nil)))))))) (by kernel_rfl) (by kernel_rfl) (by kernel_rfl) (by kernel_rfl) (fun _ _ d _ _ h => by cases d <;> exact h) ?_
    replace hp := hp.drew
    repeat' (with_reducible refine zdd ?_); first | (with_reducible refine zcl ?_) | ((with_reducible refine zbB ?_); refine zy rfl ?_; (first | ((with_reducible refine Zt _ _ rfl ?_); refine tO rfl (za rfl) zq aa5 ?_) | refine tG (fun w _ => (by go_simp; try rfl)) ?_); refine zde ?_; try simp only [zc, zb, zm, zj, z0b, z0a, z0d, z0c, zn, HWE.out]) | ((first | refine zcm (zaA rfl (fun K hK => ?_)) | refine zcn (zaA rfl (fun K hK => ?_)) (zaA rfl (fun K hK => ?_))) <;> (go_wp2_with (first | (go_at_call 141; first | ((with_reducible refine (zab _ HO0.out HO8.out _).mono ?_); rintro e w' ⟨rfl, rfl⟩) | ((with_reducible refine (zab _ HP0.out HP8.out _).mono ?_); rintro e w' ⟨rfl, rfl⟩)) | go_skip | ((first | ((refine zg _ rfl ?_); refine lZ hp rfl (by with_reducible first | exact zI | exact zhr) ?_; clear hp; intro b w1 hp) | ((refine zd _ _ _ rfl ?_); (first | refine sO hp rfl (za rfl) zdN aa5 ?_ | refine sA hp rfl (za rfl) (za rfl) zt aa5 ?_ | refine sG hp rfl (za rfl) (za rfl) zt aa5 ?_); clear hp; intro w1 hp; simp only [spl, z0a, z0b] at hp)); simp only [zc, zb, z0b, z0a])); (refine hK.out _ _ (.inr (zE.one hp aa5)) ?_); clear hK K; try simp only [zc, zb, zm, zj, z0b, z0a, z0d, z0c, zn, HWE.out]))
    all_goals
     obtain ⟨b10, rfl⟩ := hp.id0
     cases mm with
     | false =>
      go_wp2_with (first | (go_at_call 210; (with_reducible refine (zc4 (pw od) p (p + pw o) os a c hol HOB.out _ _ _ _ (HS.out.at hp (by intro p hp2; simp [hp2])) (zam.of (hp.cell at2 rfl)) (zam.of (hp.cell at1 rfl)) (zam.of (hp.cell at0 rfl))).mono ?_); rintro e w1 ⟨rfl, hb⟩; replace hp := hp.call hb; clear hb; rw [HM.out]) | ((refine Zb _ _ 45 rfl ?_); refine zM (K := [_, _, _]) (R := Ro) (M := Rf ++ L) hp _ _ _ rfl wy i0 _ 16 Tryz.underlying45 hi0 hz0 hz1 hz2 rfl (by decide) (za rfl) HOU.out 1 1 (za rfl) (by rfl) (by decide) (by rfl) HOL1.out HOL2.out ?_; clear hp; intro v' R' w1 hR' hp; have HR' := z0j hR'; clear hR'; simp only [z0f, z0e] at hp; simp only [zc, zb, z0b, z0a]) | go_skip | ((first | ((refine zg _ rfl ?_); refine lZ hp rfl (by with_reducible first | exact zI | exact zhr) ?_; clear hp; intro b w1 hp) | ((refine zh _ _ rfl ?_); refine lB hp rfl (za rfl) rfl ?_; clear hp; intro b w1 hp) | ((refine zf _ _ rfl ?_); first | refine lO hp rfl (za rfl) zdN aa5 ?_ | refine lA hp rfl (za rfl) zt aa5 ?_) | ((refine zd _ _ _ rfl ?_); (first | refine sO hp rfl (za rfl) zdN aa5 ?_ | refine sA hp rfl (za rfl) (za rfl) zt aa5 ?_ | refine sG hp rfl (za rfl) (za rfl) zt aa5 ?_); clear hp; intro w1 hp; simp only [spl, z0a, z0b] at hp) | ((refine zi _ _ _ rfl ?_); refine lS hp rfl (by intro w; go_simp; rfl) ?_; clear hp; intro b w1 hp; simp only [z0g, z0h, Nat.reduceAdd] at hp)); simp only [zc, zb, z0b, z0a]))
      go_roundg (wtL r)
      case measure => have := HWT.out; omega
      case rel => exact ⟨r, ou ++ [⟨p, o⟩], Rn, R', rfl, by have := HWT.out; omega, HSUB, z0j (by have := HR'.out; rw [List.flatMap_append, List.length_append]; exact this), HFR2, z0j (by have h := HRM.out; rw [HNO.out HM0.out] at h; simpa using h), Hp.fin3 hp HDR.out⟩
     | true =>
      by_cases ho : o = 0
      ·have z : decide (0 < o) = false := by rw [ho]; decide
       have HO := z0j ho
       clear ho
       go_wp2_with (first | (go_at_call 210; (with_reducible refine (zc4 (pw od) p (p + pw o) os a c hol HOB.out _ _ _ _ (HS.out.at hp (by intro p hp2; simp [hp2])) (zam.of (hp.cell at2 rfl)) (zam.of (hp.cell at1 rfl)) (zam.of (hp.cell at0 rfl))).mono ?_); rintro e w1 ⟨rfl, hb⟩; replace hp := hp.call hb; clear hb; rw [HM.out]) | go_skip | ((first | ((refine zg _ rfl ?_); refine lZ hp rfl (by with_reducible first | exact zI | exact zhr) ?_; clear hp; intro b w1 hp) | ((refine zh _ _ rfl ?_); refine lB hp rfl (za rfl) rfl ?_; clear hp; intro b w1 hp) | ((refine zf _ _ rfl ?_); first | refine lO hp rfl (za rfl) zdN aa5 ?_ | refine lA hp rfl (za rfl) zt aa5 ?_) | ((refine zd _ _ _ rfl ?_); (first | refine sO hp rfl (za rfl) zdN aa5 ?_ | refine sA hp rfl (za rfl) (za rfl) zt aa5 ?_ | refine sG hp rfl (za rfl) (za rfl) zt aa5 ?_); clear hp; intro w1 hp; simp only [spl, z0a, z0b] at hp) | ((refine zi _ _ _ rfl ?_); refine lS hp rfl (by intro w; go_simp; rfl) ?_; clear hp; intro b w1 hp; simp only [z0g, z0h, Nat.reduceAdd] at hp)); simp only [zc, zb, z0b, z0a]))
       go_roundg (wtL r)
       case measure => have := HWT.out; omega
       case rel => exact ⟨r, ou, Rn, Ro, rfl, by have := HWT.out; omega, HSUB, HOU, HFR2, z0j (by have h := HRM.out; rw [HZE.out HO.out HM0.out] at h; simpa using h), Hp.fin3 hp HDR.out⟩
      ·have z : decide (0 < o) = true := decide_eq_true (by omega)
       have hz : 0 < o := by omega
       have HZ := z0j hz
       have hw1 : wrap64 (o - 1) = o - 1 := by unfold wrap64; omega
       have HQ0 : Hid (0 ≤ o - 1) := z0j (by omega)
       have HQ8 : Hid (o - 1 ≤ 8) := z0j (by omega)
       have hb := HFB.out
       have hs := zbk (o := o - 1) (by omega)
       have hpp := zP (o - 1)
       rw [show o - 1 + 1 = o by omega] at hs
       have HWE2 : Hid (wrap64 (p + pw (o - 1)) = p + pw (o - 1)) := z0j (by have h3 := hb.2.2.1; have h4 := hb.2.2.2; simp only at h3 h4; unfold wrap64; omega)
       have HFB2 : Hid (zeY ⟨p, o - 1⟩ ∧ zeY ⟨p + pw (o - 1), o - 1⟩) := z0j (by
        have h3 := hb.2.2.1; have h4 := hb.2.2.2; simp only at h3 h4
        exact ⟨⟨by simp only; omega, by simp only; omega, h3, by simp only; omega⟩, ⟨by simp only; omega, by simp only; omega, by simp only; omega, by simp only; omega⟩⟩)
       have HINS : Hid (∀ {vn : Value}, zD 124 2 vn r.length (r.flatMap blV) Rn → ∀ {bv : Nat} {ev : TypeId} {mv : Nat} {w1 : World} {p1 p2 p3 : Blk}, Hp B w0 w1 (⟨bv, [.int .i64 p, .int .i64 (o - 1), .int .i64 (p + pw (o - 1)), .int .i64 (o - 1)], ev, mv⟩ :: p1 :: p2 :: p3 :: (Ro ++ (Rf ++ L))) →
         Calls Tryz.prog 212 #[vn, .int .i64 0, .slice (some ⟨bv, 0, none⟩) 2 2] w1 fun e w' => ∃ v' R', e = .returned v' ∧ zD 124 2 v' (r.length + 2) ((⟨p, o - 1⟩ :: ⟨p + pw (o - 1), o - 1⟩ :: r : List Bl).flatMap blV) R' ∧ Hp B w0 w' (p1 :: p2 :: p3 :: (Ro ++ (R' ++ L)))) := z0j (fun hs => fun hp => zk7 HWL.out hs (Hp.fin4 hp HDR.out))
       clear hb hs hpp ho
       go_wp2_with (first | (go_at_call 210; (with_reducible refine (zc4 (pw od) p (p + pw o) os a c hol HOB.out _ _ _ _ (HS.out.at hp (by intro p hp2; simp [hp2])) (zam.of (hp.cell at2 rfl)) (zam.of (hp.cell at1 rfl)) (zam.of (hp.cell at0 rfl))).mono ?_); rintro e w1 ⟨rfl, hb⟩; replace hp := hp.call hb; clear hb; rw [HM.out]) | go_skip | ((first | ((refine zg _ rfl ?_); refine lZ hp rfl (by with_reducible first | exact zI | exact zhr) ?_; clear hp; intro b w1 hp) | ((refine zh _ _ rfl ?_); refine lB hp rfl (za rfl) rfl ?_; clear hp; intro b w1 hp) | ((refine zf _ _ rfl ?_); first | refine lO hp rfl (za rfl) zdN aa5 ?_ | refine lA hp rfl (za rfl) zt aa5 ?_) | ((refine zd _ _ _ rfl ?_); (first | refine sO hp rfl (za rfl) zdN aa5 ?_ | refine sA hp rfl (za rfl) (za rfl) zt aa5 ?_ | refine sG hp rfl (za rfl) (za rfl) zt aa5 ?_); clear hp; intro w1 hp; simp only [spl, z0a, z0b] at hp) | ((refine zi _ _ _ rfl ?_); refine lS hp rfl (by intro w; go_simp; rfl) ?_; clear hp; intro b w1 hp; simp only [z0g, z0h, Nat.reduceAdd] at hp)); simp only [zc, zb, z0b, z0a]))
       refine zk [_, _] (zE.two hp.drew at0 at1) [] [(0, true), (1, true), (2, true), (3, true), (4, true), (5, true), (6, true), (7, true), (10, true), (8, false), (9, true), (11, true), (12, false), (13, false), (14, false)] (by kernel_rfl) (by kernel_rfl) rfl (by kernel_rfl) (fun _ _ d _ _ h => by cases d <;> exact h) ?_
       replace hp := hp.drew
       repeat' (with_reducible refine zG ?_); first | (with_reducible refine zw ?_) | ((with_reducible refine zR ?_); refine zy rfl ?_; (first | ((with_reducible refine Zy _ rfl ?_); refine tM rfl ?_) | ((with_reducible refine Zt _ _ rfl ?_); refine tO rfl (za rfl) zq aa5 ?_) | refine tG (fun w _ => (by go_simp; try rfl)) ?_); try simp only [zc, zb, zm, zj, z0b, z0a, z0d, z0c, zn, HWE2.out]) | (refine zQ rfl (fun K hK => ?_); go_wp2_with (first | (go_at_call 141; (with_reducible refine (zab _ HQ0.out HQ8.out _).mono ?_); rintro e w' ⟨rfl, rfl⟩) | (go_at_call 212; (with_reducible refine (HINS.out HSUB.out hp).mono ?_); clear hp; rintro e w1 ⟨v', R', rfl, hr', hp⟩; have HR' := z0j hr'; clear hr') | go_skip | (((refine zi _ _ _ rfl ?_); refine lS hp rfl (by intro w; go_simp; rfl) ?_; clear hp; intro b w1 hp; simp only [z0g, z0h, Nat.reduceAdd] at hp); simp only [zc, zb, z0b, z0a])); (refine hK.out _ _ (.inr (zE.two hp aa5 aa5)) ?_); clear hK K; try simp only [zc, zb, zm, zj, z0b, z0a, z0d, z0c, zn, HWE2.out])
       go_wp2_with fail
       go_roundg (wtL (⟨p, o - 1⟩ :: ⟨p + pw (o - 1), o - 1⟩ :: r))
       case measure => have h1 := HWT.out; have h2 := HWS.out HZ.out (p + pw (o - 1)); rw [zcP, zcP]; omega
       case rel => exact ⟨_, ou, R', Ro, rfl, by have h1 := HWT.out; have h2 := HWS.out HZ.out (p + pw (o - 1)); rw [zcP, zcP]; omega, HR', HOU, z0j (zmq HFB2.out.1 HFB2.out.2 HFR2.out), z0j (by have h := HRM.out; rw [HSP.out HZ.out HM0.out] at h; simpa using h), hp.tail.tail⟩
end Go.Proofs.YtaafajaadfgaoaaGreat
