import Derived.Test.YtjcbpfbifbfkcaaGreatTx19
import Derived.Test.YtjcbpfbifbfkcaaGreatTx10
set_option linter.unusedSimpArgs false
set_option linter.unusedVariables false
set_option maxRecDepth 100000
set_option maxHeartbeats 60000000
namespace Go.Proofs.YtjcbpfbifbfkcaaGreat
open Go.RowKit
theorem za7 {ty : TypeId} {k : Nat} (h : Z6 Tryz.prog ty k = true := by with_reducible first | exact ZH | exact zN | exact zf2) : Z6 Tryz.prog ty k = true := h
theorem zlE {ty : TypeId} (h : zx Tryz.prog ty = true := by with_reducible first | exact zn | exact Zy | exact Zc | exact Zq | exact zX | exact zaN) : zx Tryz.prog ty = true := h
noncomputable def zbM (x : Hv) (b1 : List Nat) : Option (Sv × List Nat) := match nR b1 with
 | none => none
 | some (n, b2) => if 4 < n then none else match zbe zis n.toNat b2 with
  | none => none
  | some (rs, b3) => if stB ⟨x, none, rs, 0⟩ = true then some (⟨x, none, rs, 0⟩, b3) else none
noncomputable def Zl (bs : List Nat) : Option (Sv × List Nat) := match zcE bs with
 | none => none
 | some (t, b1) => match zbI t with
  | none => none
  | some x => zbM x b1
noncomputable def zab (bs : List Nat) : Option Sv := zbr Zl bs
def zgi (w : World) (r : Option Sv) (e : Ending) (w' : World) : Prop :=
 match r with
 | some x => ∃ y R, e = .returned (.tuple #[.agg (svL y).toArray, .int .i64 0]) ∧ y.Sm x ∧ SvO y R ∧ Hp w.heap.size w w' R
 | none => e = .returned (.tuple #[.agg (svL zgc).toArray, .int .i64 60]) ∧ Below w.heap.size w w'
def zal (w0 : World) (br bi : Nat) (r : Option (Sv × List Nat)) (L : List Blk) (e : Ending) (w' : World) : Prop :=
 match r with
 | some (x, bs') => ∃ y RR RO RF M, e = .returned (.agg (svL y).toArray) ∧ y.Sm x ∧ zy 141 4 (.slice y.ra y.rs.length y.rc) y.rs.length (y.rs.flatMap rwV) RR ∧ HvR y.hv RO RF M ∧ Zt w0 br bi bs' [] (RR ++ (RO ++ (RF ++ (M ++ L)))) w'
 | none => e = .panicked zei ∧ Hp w0.heap.size w0 w' L
theorem zfB {bs : List Nat} {x : Hv} (h : zbI bs = some x) : ZF x := by
 unfold zbI zbr at h
 split at h
 ·rename_i y r hy
  split at h
  ·injection h with h
   subst h
   unfold zdu at hy
   split at hy
   ·cases hy
   ·split at hy
    ·cases hy
    ·unfold ZR at hy
     split at hy
     ·cases hy
     ·unfold zcC at hy
      split at hy
      ·cases hy
      ·split at hy
       ·cases hy
       ·split at hy
        ·cases hy
        ·unfold zc6 at hy
         split at hy
         ·split at hy
          ·rename_i hb
           injection hy with hy
           injection hy with hy _
           rw [← hy]
           exact zbW hb
          ·cases hy
         ·cases hy
  ·cases h
 ·cases h
theorem zaS (br c : Nat) (t r : List Nat) (a : Option Addr) (bs : List Nat) (hv : zcE bs = some (t, r)) (hnc : bs.length ≤ c) (hbl : bs.length ≤ 1000000000) {w0 w : World} {x y i : Blk} {L : List Blk} (hp : Hp w0.heap.size w0 w (x :: y :: ⟨br, [.slice a bs.length c], 236, 1⟩ :: i :: L)) (ha : zaH w0 a bs) :
  Calls Tryz.prog 127 #[.pointer (some ⟨br, 0, none⟩)] w fun e w' => e = .returned (.tuple #[.string (strOfNums (nI t)), .int .i64 0]) ∧ ∃ a' c', r.length ≤ c' ∧ zaH w0 a' r ∧ Hp w0.heap.size w0 w' (x :: y :: ⟨br, [.slice a' r.length c'], 236, 1⟩ :: i :: L) := by
 refine (zjy br c t r a bs hv hnc hbl (L := x :: y :: i :: L) (show Hp w0.heap.size w0 w (x :: y :: Rb br a bs.length c :: i :: L) from hp).kp ha).mono fun e w' h => ?_
 obtain ⟨h1, c', h2, a', h3, h4⟩ := h
 exact ⟨h1, a', c', h2, h3, (show Hp w0.heap.size w0 w' (x :: y :: Rb br a' r.length c' :: i :: L) from h4.kp)⟩
theorem ZY (br c : Nat) (a : Option Addr) (bs : List Nat) (hv : zcE bs = none) (hnc : bs.length ≤ c) (hbl : bs.length ≤ 1000000000) {w0 w : World} {x y i : Blk} {L : List Blk} (hp : Hp w0.heap.size w0 w (x :: y :: ⟨br, [.slice a bs.length c], 236, 1⟩ :: i :: L)) (ha : zaH w0 a bs) :
  Calls Tryz.prog 127 #[.pointer (some ⟨br, 0, none⟩)] w fun e w' => (∃ q : Int, (q = 10 ∨ q = 11) ∧ e = .returned (.tuple #[.string ⟨#[]⟩, .int .i64 q])) ∧ w = w' :=
 zfl br c a bs hv hnc hbl (L := x :: y :: i :: L) (show Hp w0.heap.size w0 w (x :: y :: Rb br a bs.length c :: i :: L) from hp).kp ha
theorem zc5 (od : Int) (oa : Option Addr) (os : List Ob) (oc : Nat) (nx t0 t1 t2 t3 : Int) (fa : Option Addr) (fs : List Bl) (fc : Nat) (w : World) : Calls Tryz.prog 125 #[.agg #[.int .i64 od, .slice oa os.length oc, .int .i64 nx, .int .i64 t0, .int .i64 t1, .int .i64 t2, .int .i64 t3, .slice fa fs.length fc], .int .i64 0] w fun e w' => e = .returned (.agg #[.int .i64 od, .slice oa os.length oc, .int .i64 nx, .int .i64 t0, .int .i64 t1, .int .i64 t2, .int .i64 t3, .slice fa fs.length fc]) ∧ Below w.heap.size w w' := zlt ⟨od, oa, os, oc, nx, t0, t1, t2, t3, fa, fs, fc⟩ w
theorem zc7 (w : World) : Calls Tryz.prog 125 #[.agg #[.int .i64 0, .slice none 0 0, .int .i64 0, .int .i64 0, .int .i64 0, .int .i64 0, .int .i64 0, .slice none 0 0], .int .i64 60] w fun e w' => e = .panicked zei ∧ Below w.heap.size w w' := zhn zaY w
theorem Zt.mk7 {w0 w : World} {br bi c : Nat} {a : Option Addr} {bs : List Nat} {x y : Blk} {RR RO RF M L : List Blk} (h1 : bs.length ≤ c) (h2 : zaH w0 a bs)
  (hp : Hp w0.heap.size w0 w (x :: y :: ⟨br, [.slice a bs.length c], 236, 1⟩ :: ⟨bi, [.pointer (some ⟨br, 0, none⟩)], 183, 1⟩ :: (RR ++ (L ++ (RO ++ (RF ++ M)))))) : Zt w0 br bi bs [] (RR ++ (RO ++ (RF ++ (M ++ L)))) w :=
 ⟨a, c, h1, h2, (show Hp w0.heap.size w0 w (x :: y :: Rb br a bs.length c :: Ib bi br :: (RR ++ (L ++ (RO ++ (RF ++ M))))) from hp).kp⟩
theorem zhs {B : Nat} {w0 w : World} {x y r i : Blk} {RR L : List Blk} (hp : Hp B w0 w (r :: i :: (RR ++ (x :: y :: L)))) : Hp B w0 w (x :: y :: r :: i :: (RR ++ L)) := hp.kp
theorem zhx {B : Nat} {w0 w : World} {x y r i : Blk} {L R : List Blk} (hp : Hp B w0 w ((x :: y :: r :: i :: L) ++ R)) : Hp B w0 w (x :: y :: r :: i :: (L ++ R)) := hp.kp
theorem zfR (br bi : Nat) (bs : List Nat) (hbl : bs.length ≤ 1000000000) {w0 w : World} {L : List Blk} (hs : Zt w0 br bi bs [] L w) :
  Calls Tryz.prog 124 #[.pointer (some ⟨bi, 0, none⟩)] w (zal w0 br bi (Zl bs) L) := by
 obtain ⟨a, c, hl, ha, hp⟩ := hs
 have HL := z0j hl
 have HBY := z0j ha.2
 have HA := z0j ha
 have HBL := z0j hbl
 clear hl ha hbl
 simp only [z0e, Rb, Ib] at hp
 cases ht : zcE bs with
 | none =>
  have HT := z0j ht
  have HR : Hid (Zl bs = none) := z0j (by unfold Zl; rw [ht])
  clear ht
  go_enter Tryz.func124, Tryz.ntmps124
  go_wp2_with (first | (go_at_call 127; first | ((with_reducible refine (zaS br _ t b1 _ bs HT.out HL.out HBL.out hp HA.out).mono ?_); clear hp HL HA; rintro e w1 ⟨rfl, a, c, hl, ha, hp⟩; have HL := z0j hl; have HA := z0j ha; clear hl ha) | ((with_reducible refine (ZY br _ _ bs HT.out HL.out HBL.out hp HA.out).mono ?_); rintro e w1 ⟨⟨q, hq, rfl⟩, rfl⟩)) | (go_at_call 126; first | ((with_reducible refine (zdP _ _).mono ?_); rintro e w' ⟨rfl, rfl⟩) | ((with_reducible refine (zaX _ _ hq _).mono ?_); rintro e w' ⟨rfl, rfl⟩)) | go_skip | ((first | ((refine zf _ rfl ?_); refine lZ hp rfl (by with_reducible first | exact Zi | exact ZN) ?_; clear hp; intro b w1 hp) | ((refine ze _ _ rfl ?_); first | refine lO hp rfl (za rfl) Zc aa5 ?_ | refine lA hp rfl (za rfl) ZH aa5 ?_) | ((refine zd _ _ _ rfl ?_); (first | refine sO hp rfl (za rfl) zaN aa5 ?_ | refine sA hp rfl (za rfl) (za rfl) za7 aa5 ?_ | refine sG hp rfl (za rfl) (za rfl) za7 aa5 ?_); clear hp; intro w1 hp; simp only [spl, z0a, z0b] at hp)); simp only [zc, zb, z0b, z0a]))
  refine ⟨rfl, ?_⟩; show zal w0 br bi (Zl bs) L _ _; rw [HR.out]
  exact ⟨rfl, hp.kp⟩
 | some q =>
  obtain ⟨t, b1⟩ := q
  have HT := z0j ht
  obtain ⟨tn, _, _, _, htt, _⟩ := zex ht
  have hby : zao t := by rw [htt]; exact (HBY.out.drop 4).take tn
  have HTB : Hid (zbV (strOfNums (nI t)) = t) := z0j (zcq hby)
  have HSZ : Hid ((strOfNums (nI t)).size = t.length) := z0j (by rw [← ZQ, zcq hby])
  clear htt hby
  cases hh : zbI t with
  | none =>
   have HH := z0j hh
   have HR : Hid (Zl bs = none) := z0j (by unfold Zl; rw [ht]; simp only; rw [hh])
   clear ht hh
   go_enter Tryz.func124, Tryz.ntmps124
   go_wp2_with (first | (go_at_call 127; first | ((with_reducible refine (zaS br _ t b1 _ bs HT.out HL.out HBL.out hp HA.out).mono ?_); clear hp HL HA; rintro e w1 ⟨rfl, a, c, hl, ha, hp⟩; have HL := z0j hl; have HA := z0j ha; clear hl ha) | ((with_reducible refine (ZY br _ _ bs HT.out HL.out HBL.out hp HA.out).mono ?_); rintro e w1 ⟨⟨q, hq, rfl⟩, rfl⟩)) | (go_at_call 126; first | ((with_reducible refine (zdP _ _).mono ?_); rintro e w' ⟨rfl, rfl⟩) | ((with_reducible refine (zaX _ _ hq _).mono ?_); rintro e w' ⟨rfl, rfl⟩)) | ((refine Zx _ _ _ rfl ?_); refine ZM hp 9 74 5 _ rfl wy Tryz.underlying9 Tryz.underlying74 Tryz.underlying5 _ (za rfl) ?_; clear hp; intro ad cb w1 hcb had hp; rw [HTB.out] at had; rw [HSZ.out] at hcb ⊢; have HCB := z0j hcb; have HAD := z0j had; clear hcb had; simp only [zc, zb, z0b, z0a]) | (go_at_call 94; (with_reducible refine (zeR t ad cb HCB.out _ HAD.out).mono ?_); rintro e w1 hq; rw [HH.out] at hq; first | (obtain ⟨y, R, rfl, hy, ⟨RO, RF, M, rfl, hown⟩, hp2⟩ := hq; replace hp := zhx (hp.join hp2); have HY := z0j hy; have HW := z0j hown; clear hy hown hp2; obtain ⟨od, oa, os, oc, nx, t0, t1, t2, t3, fa, fs, fc⟩ := y; simp only [hvL]) | (obtain ⟨rfl, hb⟩ := hq; replace hp := hp.call hb; clear hb; simp only [hvL, zaY])) | (go_at_call 125; first | ((with_reducible refine (zc5 od oa os oc nx t0 t1 t2 t3 fa fs fc _).mono ?_); rintro e w1 ⟨rfl, hb⟩; replace hp := hp.call hb; clear hb) | ((with_reducible refine (zc7 _).mono ?_); rintro e w1 ⟨rfl, hb⟩; replace hp := hp.call hb; clear hb)) | go_skip | ((first | ((refine zf _ rfl ?_); refine lZ hp rfl (by with_reducible first | exact Zi | exact ZN) ?_; clear hp; intro b w1 hp) | ((refine ze _ _ rfl ?_); first | refine lO hp rfl (za rfl) Zc aa5 ?_ | refine lA hp rfl (za rfl) ZH aa5 ?_) | ((refine zd _ _ _ rfl ?_); (first | refine sO hp rfl (za rfl) zaN aa5 ?_ | refine sA hp rfl (za rfl) (za rfl) za7 aa5 ?_ | refine sG hp rfl (za rfl) (za rfl) za7 aa5 ?_); clear hp; intro w1 hp; simp only [spl, z0a, z0b] at hp)); simp only [zc, zb, z0b, z0a]))
   refine ⟨rfl, ?_⟩; show zal w0 br bi (Zl bs) L _ _; rw [HR.out]
   exact ⟨rfl, hp.kp⟩
  | some x =>
   have HH := z0j hh
   have HE0 : Hid (Zl bs = zbM x b1) := z0j (by unfold Zl; rw [ht]; simp only; rw [hh])
   have HXR := z0j (zfB hh)
   clear ht hh
   cases h4 : nR b1 with
   | none =>
    have H4 := z0j h4
    have HR : Hid (Zl bs = none) := z0j (by rw [HE0.out]; unfold zbM; rw [h4])
    clear h4
    go_enter Tryz.func124, Tryz.ntmps124
    go_wp2_with (first | (go_at_call 127; first | ((with_reducible refine (zaS br _ t b1 _ bs HT.out HL.out HBL.out hp HA.out).mono ?_); clear hp HL HA; rintro e w1 ⟨rfl, a, c, hl, ha, hp⟩; have HL := z0j hl; have HA := z0j ha; clear hl ha) | ((with_reducible refine (ZY br _ _ bs HT.out HL.out HBL.out hp HA.out).mono ?_); rintro e w1 ⟨⟨q, hq, rfl⟩, rfl⟩)) | (go_at_call 126; first | ((with_reducible refine (zdP _ _).mono ?_); rintro e w' ⟨rfl, rfl⟩) | ((with_reducible refine (zaX _ _ hq _).mono ?_); rintro e w' ⟨rfl, rfl⟩)) | ((refine Zx _ _ _ rfl ?_); refine ZM hp 9 74 5 _ rfl wy Tryz.underlying9 Tryz.underlying74 Tryz.underlying5 _ (za rfl) ?_; clear hp; intro ad cb w1 hcb had hp; rw [HTB.out] at had; rw [HSZ.out] at hcb ⊢; have HCB := z0j hcb; have HAD := z0j had; clear hcb had; simp only [zc, zb, z0b, z0a]) | (go_at_call 94; (with_reducible refine (zeR t ad cb HCB.out _ HAD.out).mono ?_); rintro e w1 hq; rw [HH.out] at hq; first | (obtain ⟨y, R, rfl, hy, ⟨RO, RF, M, rfl, hown⟩, hp2⟩ := hq; replace hp := zhx (hp.join hp2); have HY := z0j hy; have HW := z0j hown; clear hy hown hp2; obtain ⟨od, oa, os, oc, nx, t0, t1, t2, t3, fa, fs, fc⟩ := y; simp only [hvL]) | (obtain ⟨rfl, hb⟩ := hq; replace hp := hp.call hb; clear hb; simp only [hvL, zaY])) | (go_at_call 125; first | ((with_reducible refine (zc5 od oa os oc nx t0 t1 t2 t3 fa fs fc _).mono ?_); rintro e w1 ⟨rfl, hb⟩; replace hp := hp.call hb; clear hb) | ((with_reducible refine (zc7 _).mono ?_); rintro e w1 ⟨rfl, hb⟩; replace hp := hp.call hb; clear hb)) | (go_at_call 129; refine (Zv br bi _ (K := [_, _]) (L := _) ⟨_, _, HL.out, HA.out, hp⟩).mono ?_; clear hp HL HA; rintro e w1 hq; rw [H4.out] at hq; (first | (obtain ⟨rfl, a, c, hl, ha, hp⟩ := hq; have HL := z0j hl; have HA := z0j ha; clear hl ha; simp only [z0f, z0e, Rb, Ib] at hp) | (obtain ⟨rfl, hp⟩ := hq; simp only [z0f, z0e] at hp))) | go_skip | ((first | ((refine zf _ rfl ?_); refine lZ hp rfl (by with_reducible first | exact Zi | exact ZN) ?_; clear hp; intro b w1 hp) | ((refine ze _ _ rfl ?_); first | refine lO hp rfl (za rfl) Zc aa5 ?_ | refine lA hp rfl (za rfl) ZH aa5 ?_) | ((refine zd _ _ _ rfl ?_); (first | refine sO hp rfl (za rfl) zaN aa5 ?_ | refine sA hp rfl (za rfl) (za rfl) za7 aa5 ?_ | refine sG hp rfl (za rfl) (za rfl) za7 aa5 ?_); clear hp; intro w1 hp; simp only [spl, z0a, z0b] at hp)); simp only [zc, zb, z0b, z0a]))
    refine ⟨rfl, ?_⟩; show zal w0 br bi (Zl bs) L _ _; rw [HR.out]
    exact ⟨rfl, hp.kp⟩
   | some q4 =>
    obtain ⟨k, b2⟩ := q4
    have H4 := z0j h4
    clear h4
    obtain ⟨k, rfl, hk⟩ := zc0 H4.out
    by_cases hk2 : (4 : Int) < (k : Int)
    ·have HK := z0j hk2
     have HR : Hid (Zl bs = none) := z0j (by rw [HE0.out]; unfold zbM; rw [H4.out]; simp only; rw [if_pos hk2])
     clear hk2 hk
     go_enter Tryz.func124, Tryz.ntmps124
     go_wp2_with (first | (go_at_call 127; first | ((with_reducible refine (zaS br _ t b1 _ bs HT.out HL.out HBL.out hp HA.out).mono ?_); clear hp HL HA; rintro e w1 ⟨rfl, a, c, hl, ha, hp⟩; have HL := z0j hl; have HA := z0j ha; clear hl ha) | ((with_reducible refine (ZY br _ _ bs HT.out HL.out HBL.out hp HA.out).mono ?_); rintro e w1 ⟨⟨q, hq, rfl⟩, rfl⟩)) | (go_at_call 126; first | ((with_reducible refine (zdP _ _).mono ?_); rintro e w' ⟨rfl, rfl⟩) | ((with_reducible refine (zaX _ _ hq _).mono ?_); rintro e w' ⟨rfl, rfl⟩)) | ((refine Zx _ _ _ rfl ?_); refine ZM hp 9 74 5 _ rfl wy Tryz.underlying9 Tryz.underlying74 Tryz.underlying5 _ (za rfl) ?_; clear hp; intro ad cb w1 hcb had hp; rw [HTB.out] at had; rw [HSZ.out] at hcb ⊢; have HCB := z0j hcb; have HAD := z0j had; clear hcb had; simp only [zc, zb, z0b, z0a]) | (go_at_call 94; (with_reducible refine (zeR t ad cb HCB.out _ HAD.out).mono ?_); rintro e w1 hq; rw [HH.out] at hq; first | (obtain ⟨y, R, rfl, hy, ⟨RO, RF, M, rfl, hown⟩, hp2⟩ := hq; replace hp := zhx (hp.join hp2); have HY := z0j hy; have HW := z0j hown; clear hy hown hp2; obtain ⟨od, oa, os, oc, nx, t0, t1, t2, t3, fa, fs, fc⟩ := y; simp only [hvL]) | (obtain ⟨rfl, hb⟩ := hq; replace hp := hp.call hb; clear hb; simp only [hvL, zaY])) | (go_at_call 125; first | ((with_reducible refine (zc5 od oa os oc nx t0 t1 t2 t3 fa fs fc _).mono ?_); rintro e w1 ⟨rfl, hb⟩; replace hp := hp.call hb; clear hb) | ((with_reducible refine (zc7 _).mono ?_); rintro e w1 ⟨rfl, hb⟩; replace hp := hp.call hb; clear hb)) | (go_at_call 129; refine (Zv br bi _ (K := [_, _]) (L := _) ⟨_, _, HL.out, HA.out, hp⟩).mono ?_; clear hp HL HA; rintro e w1 hq; rw [H4.out] at hq; (first | (obtain ⟨rfl, a, c, hl, ha, hp⟩ := hq; have HL := z0j hl; have HA := z0j ha; clear hl ha; simp only [z0f, z0e, Rb, Ib] at hp) | (obtain ⟨rfl, hp⟩ := hq; simp only [z0f, z0e] at hp))) | (go_at_call 128; (with_reducible refine (zgX bi k 4 HK.out _).mono ?_); rintro e w' ⟨rfl, rfl⟩) | go_skip | ((first | ((refine zf _ rfl ?_); refine lZ hp rfl (by with_reducible first | exact Zi | exact ZN) ?_; clear hp; intro b w1 hp) | ((refine ze _ _ rfl ?_); first | refine lO hp rfl (za rfl) Zc aa5 ?_ | refine lA hp rfl (za rfl) ZH aa5 ?_) | ((refine zd _ _ _ rfl ?_); (first | refine sO hp rfl (za rfl) zaN aa5 ?_ | refine sA hp rfl (za rfl) (za rfl) za7 aa5 ?_ | refine sG hp rfl (za rfl) (za rfl) za7 aa5 ?_); clear hp; intro w1 hp; simp only [spl, z0a, z0b] at hp)); simp only [zc, zb, z0b, z0a]))
     refine ⟨rfl, ?_⟩; show zal w0 br bi (Zl bs) L _ _; rw [HR.out]
     exact ⟨rfl, hp.kp⟩
    ·have HE2 : Hid (zbM x b1 = match zbe zis k b2 with | none => none | some (rs, b3) => if stB ⟨x, none, rs, 0⟩ = true then some (⟨x, none, rs, 0⟩, b3) else none) := z0j (by unfold zbM; rw [H4.out]; simp only; rw [if_neg hk2, Int.toNat_natCast])
     have HK1 : Hid ((k : Int) ≤ 4) := z0j (by omega)
     have HK2 : Hid (k ≤ 1000) := z0j (by omega)
     clear hk hk2
     cases h5 : zbe zis k b2 with
     | none =>
      have H5 := z0j h5
      have HR : Hid (Zl bs = none) := z0j (by rw [HE0.out, HE2.out, h5])
      clear h5
      go_enter Tryz.func124, Tryz.ntmps124
      go_wp2_with (first | (go_at_call 127; first | ((with_reducible refine (zaS br _ t b1 _ bs HT.out HL.out HBL.out hp HA.out).mono ?_); clear hp HL HA; rintro e w1 ⟨rfl, a, c, hl, ha, hp⟩; have HL := z0j hl; have HA := z0j ha; clear hl ha) | ((with_reducible refine (ZY br _ _ bs HT.out HL.out HBL.out hp HA.out).mono ?_); rintro e w1 ⟨⟨q, hq, rfl⟩, rfl⟩)) | (go_at_call 126; first | ((with_reducible refine (zdP _ _).mono ?_); rintro e w' ⟨rfl, rfl⟩) | ((with_reducible refine (zaX _ _ hq _).mono ?_); rintro e w' ⟨rfl, rfl⟩)) | ((refine Zx _ _ _ rfl ?_); refine ZM hp 9 74 5 _ rfl wy Tryz.underlying9 Tryz.underlying74 Tryz.underlying5 _ (za rfl) ?_; clear hp; intro ad cb w1 hcb had hp; rw [HTB.out] at had; rw [HSZ.out] at hcb ⊢; have HCB := z0j hcb; have HAD := z0j had; clear hcb had; simp only [zc, zb, z0b, z0a]) | (go_at_call 94; (with_reducible refine (zeR t ad cb HCB.out _ HAD.out).mono ?_); rintro e w1 hq; rw [HH.out] at hq; first | (obtain ⟨y, R, rfl, hy, ⟨RO, RF, M, rfl, hown⟩, hp2⟩ := hq; replace hp := zhx (hp.join hp2); have HY := z0j hy; have HW := z0j hown; clear hy hown hp2; obtain ⟨od, oa, os, oc, nx, t0, t1, t2, t3, fa, fs, fc⟩ := y; simp only [hvL]) | (obtain ⟨rfl, hb⟩ := hq; replace hp := hp.call hb; clear hb; simp only [hvL, zaY])) | (go_at_call 125; first | ((with_reducible refine (zc5 od oa os oc nx t0 t1 t2 t3 fa fs fc _).mono ?_); rintro e w1 ⟨rfl, hb⟩; replace hp := hp.call hb; clear hb) | ((with_reducible refine (zc7 _).mono ?_); rintro e w1 ⟨rfl, hb⟩; replace hp := hp.call hb; clear hb)) | (go_at_call 129; refine (Zv br bi _ (K := [_, _]) (L := _) ⟨_, _, HL.out, HA.out, hp⟩).mono ?_; clear hp HL HA; rintro e w1 hq; rw [H4.out] at hq; (first | (obtain ⟨rfl, a, c, hl, ha, hp⟩ := hq; have HL := z0j hl; have HA := z0j ha; clear hl ha; simp only [z0f, z0e, Rb, Ib] at hp) | (obtain ⟨rfl, hp⟩ := hq; simp only [z0f, z0e] at hp))) | (go_at_call 128; have hst : Zt w0 br bi _ [] _ _ := Zt.front (K := [_, _]) (L := L ++ (RO ++ (RF ++ M))) ⟨_, _, HL.out, HA.out, hp⟩; (with_reducible refine (zhY br bi k 4 HK1.out HK2.out _ hst).mono ?_); clear hst; clear hp HL HA; rintro e w1 hq; rw [H5.out] at hq; first | (obtain ⟨vo, RR, rfl, hol, hrr, a, c, hl, ha, hp⟩ := hq; subst hol; obtain ⟨ra, rc, rfl, _⟩ := hrr.kept; have HL := z0j hl; have HA := z0j ha; have HRR := z0j hrr; clear hl ha hrr; simp only [z0f, z0e, Rb, Ib] at hp; replace hp := zhs hp) | (obtain ⟨rfl, hp⟩ := hq; simp only [z0f, z0e] at hp)) | go_skip | ((first | ((refine zf _ rfl ?_); refine lZ hp rfl (by with_reducible first | exact Zi | exact ZN) ?_; clear hp; intro b w1 hp) | ((refine ze _ _ rfl ?_); first | refine lO hp rfl (za rfl) Zc aa5 ?_ | refine lA hp rfl (za rfl) ZH aa5 ?_) | ((refine zd _ _ _ rfl ?_); (first | refine sO hp rfl (za rfl) zaN aa5 ?_ | refine sA hp rfl (za rfl) (za rfl) za7 aa5 ?_ | refine sG hp rfl (za rfl) (za rfl) za7 aa5 ?_); clear hp; intro w1 hp; simp only [spl, z0a, z0b] at hp)); simp only [zc, zb, z0b, z0a]))
      refine ⟨rfl, ?_⟩; show zal w0 br bi (Zl bs) L _ _; rw [HR.out]
      exact ⟨rfl, hp.kp⟩
     | some q5 =>
      obtain ⟨rs, b3⟩ := q5
      have H5 := z0j h5
      have HE3 : Hid (Zl bs = if stB ⟨x, none, rs, 0⟩ = true then some (⟨x, none, rs, 0⟩, b3) else none) := z0j (by rw [HE0.out, HE2.out, h5])
      clear h5
      go_enter Tryz.func124, Tryz.ntmps124
      go_wp2_with (first | (go_at_call 127; first | ((with_reducible refine (zaS br _ t b1 _ bs HT.out HL.out HBL.out hp HA.out).mono ?_); clear hp HL HA; rintro e w1 ⟨rfl, a, c, hl, ha, hp⟩; have HL := z0j hl; have HA := z0j ha; clear hl ha) | ((with_reducible refine (ZY br _ _ bs HT.out HL.out HBL.out hp HA.out).mono ?_); rintro e w1 ⟨⟨q, hq, rfl⟩, rfl⟩)) | (go_at_call 126; first | ((with_reducible refine (zdP _ _).mono ?_); rintro e w' ⟨rfl, rfl⟩) | ((with_reducible refine (zaX _ _ hq _).mono ?_); rintro e w' ⟨rfl, rfl⟩)) | ((refine Zx _ _ _ rfl ?_); refine ZM hp 9 74 5 _ rfl wy Tryz.underlying9 Tryz.underlying74 Tryz.underlying5 _ (za rfl) ?_; clear hp; intro ad cb w1 hcb had hp; rw [HTB.out] at had; rw [HSZ.out] at hcb ⊢; have HCB := z0j hcb; have HAD := z0j had; clear hcb had; simp only [zc, zb, z0b, z0a]) | (go_at_call 94; (with_reducible refine (zeR t ad cb HCB.out _ HAD.out).mono ?_); rintro e w1 hq; rw [HH.out] at hq; first | (obtain ⟨y, R, rfl, hy, ⟨RO, RF, M, rfl, hown⟩, hp2⟩ := hq; replace hp := zhx (hp.join hp2); have HY := z0j hy; have HW := z0j hown; clear hy hown hp2; obtain ⟨od, oa, os, oc, nx, t0, t1, t2, t3, fa, fs, fc⟩ := y; simp only [hvL]) | (obtain ⟨rfl, hb⟩ := hq; replace hp := hp.call hb; clear hb; simp only [hvL, zaY])) | (go_at_call 125; first | ((with_reducible refine (zc5 od oa os oc nx t0 t1 t2 t3 fa fs fc _).mono ?_); rintro e w1 ⟨rfl, hb⟩; replace hp := hp.call hb; clear hb) | ((with_reducible refine (zc7 _).mono ?_); rintro e w1 ⟨rfl, hb⟩; replace hp := hp.call hb; clear hb)) | (go_at_call 129; refine (Zv br bi _ (K := [_, _]) (L := _) ⟨_, _, HL.out, HA.out, hp⟩).mono ?_; clear hp HL HA; rintro e w1 hq; rw [H4.out] at hq; (first | (obtain ⟨rfl, a, c, hl, ha, hp⟩ := hq; have HL := z0j hl; have HA := z0j ha; clear hl ha; simp only [z0f, z0e, Rb, Ib] at hp) | (obtain ⟨rfl, hp⟩ := hq; simp only [z0f, z0e] at hp))) | (go_at_call 128; have hst : Zt w0 br bi _ [] _ _ := Zt.front (K := [_, _]) (L := L ++ (RO ++ (RF ++ M))) ⟨_, _, HL.out, HA.out, hp⟩; (with_reducible refine (zhY br bi k 4 HK1.out HK2.out _ hst).mono ?_); clear hst; clear hp HL HA; rintro e w1 hq; rw [H5.out] at hq; first | (obtain ⟨vo, RR, rfl, hol, hrr, a, c, hl, ha, hp⟩ := hq; subst hol; obtain ⟨ra, rc, rfl, _⟩ := hrr.kept; have HL := z0j hl; have HA := z0j ha; have HRR := z0j hrr; clear hl ha hrr; simp only [z0f, z0e, Rb, Ib] at hp; replace hp := zhs hp) | (obtain ⟨rfl, hp⟩ := hq; simp only [z0f, z0e] at hp)) | go_skip | ((first | ((refine zf _ rfl ?_); refine lZ hp rfl (by with_reducible first | exact Zi | exact ZN) ?_; clear hp; intro b w1 hp) | ((refine ze _ _ rfl ?_); first | refine lO hp rfl (za rfl) Zc aa5 ?_ | refine lA hp rfl (za rfl) ZH aa5 ?_) | ((refine zd _ _ _ rfl ?_); (first | refine sO hp rfl (za rfl) zaN aa5 ?_ | refine sA hp rfl (za rfl) (za rfl) za7 aa5 ?_ | refine sG hp rfl (za rfl) (za rfl) za7 aa5 ?_); clear hp; intro w1 hp; simp only [spl, z0a, z0b] at hp)); simp only [zc, zb, z0b, z0a]))
      have hsm : Sv.Sm ⟨⟨od, oa, os, oc, nx, t0, t1, t2, t3, fa, fs, fc⟩, ra, rs, rc⟩ ⟨x, none, rs, 0⟩ := ⟨HY.out, rfl⟩
      have HSM := z0j hsm
      have HSS : Hid (Sv.Small ⟨⟨od, oa, os, oc, nx, t0, t1, t2, t3, fa, fs, fc⟩, ra, rs, rc⟩) := z0j ⟨HXR.out.small.sm HY.out.symm, HK2.out⟩
      have HIS : Hid (zaa (RR ++ (RO ++ (RF ++ M))) fun w => Sv.Is w ⟨⟨od, oa, os, oc, nx, t0, t1, t2, t3, fa, fs, fc⟩, ra, rs, rc⟩) := z0j ((HRR.out.keptS.and HW.out.kept).mono (fun _ h => h) (fun w ⟨h1, h2⟩ => ⟨h2, h1⟩))
      obtain ⟨b, hb⟩ : ∃ b, stB ⟨⟨od, oa, os, oc, nx, t0, t1, t2, t3, fa, fs, fc⟩, ra, rs, rc⟩ = b := ⟨_, rfl⟩
      have HB := z0j hb
      have HE4 : Hid (Zl bs = if b = true then some (⟨x, none, rs, 0⟩, b3) else none) := z0j (by rw [HE3.out, ← zic hsm, hb])
      clear hsm hb
      cases b with
      | false =>
       have HR : Hid (Zl bs = none) := z0j (by rw [HE4.out, if_neg (by decide)])
       go_wp2_with (first | (go_at_call 89; (with_reducible refine (zeb od oa os oc nx t0 t1 t2 t3 fa fs fc ra rs rc _ HB.out HSS.out _ (HIS.out.at hp (fun p hm => by simp only [List.mem_append, List.mem_cons] at hm ⊢; rcases hm with hm | hm | hm | hm <;> simp [hm]))).mono ?_); rintro e w1 ⟨rfl, hb⟩; replace hp := hp.call hb; clear hb; simp only [zln, if_true, Bool.false_eq_true, if_false]) | (go_at_call 131; first | ((with_reducible refine (zaF _).mono ?_); rintro e w' ⟨rfl, rfl⟩) | ((with_reducible refine (Zf _).mono ?_); rintro e w' ⟨rfl, rfl⟩)) | go_skip | ((first | ((refine zf _ rfl ?_); refine lZ hp rfl (by with_reducible first | exact Zi | exact ZN) ?_; clear hp; intro b w1 hp) | ((refine ze _ _ rfl ?_); first | refine lO hp rfl (za rfl) Zc aa5 ?_ | refine lA hp rfl (za rfl) ZH aa5 ?_) | ((refine zd _ _ _ rfl ?_); (first | refine sO hp rfl (za rfl) zaN aa5 ?_ | refine sA hp rfl (za rfl) (za rfl) za7 aa5 ?_ | refine sG hp rfl (za rfl) (za rfl) za7 aa5 ?_); clear hp; intro w1 hp; simp only [spl, z0a, z0b] at hp)); simp only [zc, zb, z0b, z0a]))
       refine ⟨rfl, ?_⟩; show zal w0 br bi (Zl bs) L _ _; rw [HR.out]
       exact ⟨rfl, hp.kp⟩
      | true =>
       have HR : Hid (Zl bs = some (⟨x, none, rs, 0⟩, b3)) := z0j (by rw [HE4.out, if_pos rfl])
       go_wp2_with (first | (go_at_call 89; (with_reducible refine (zeb od oa os oc nx t0 t1 t2 t3 fa fs fc ra rs rc _ HB.out HSS.out _ (HIS.out.at hp (fun p hm => by simp only [List.mem_append, List.mem_cons] at hm ⊢; rcases hm with hm | hm | hm | hm <;> simp [hm]))).mono ?_); rintro e w1 ⟨rfl, hb⟩; replace hp := hp.call hb; clear hb; simp only [zln, if_true, Bool.false_eq_true, if_false]) | (go_at_call 131; first | ((with_reducible refine (zaF _).mono ?_); rintro e w' ⟨rfl, rfl⟩) | ((with_reducible refine (Zf _).mono ?_); rintro e w' ⟨rfl, rfl⟩)) | go_skip | ((first | ((refine zf _ rfl ?_); refine lZ hp rfl (by with_reducible first | exact Zi | exact ZN) ?_; clear hp; intro b w1 hp) | ((refine ze _ _ rfl ?_); first | refine lO hp rfl (za rfl) Zc aa5 ?_ | refine lA hp rfl (za rfl) ZH aa5 ?_) | ((refine zd _ _ _ rfl ?_); (first | refine sO hp rfl (za rfl) zaN aa5 ?_ | refine sA hp rfl (za rfl) (za rfl) za7 aa5 ?_ | refine sG hp rfl (za rfl) (za rfl) za7 aa5 ?_); clear hp; intro w1 hp; simp only [spl, z0a, z0b] at hp)); simp only [zc, zb, z0b, z0a]))
       refine bodyPost_ret (ZI (rs := [.cell 2 67]) Tryz.results124 (.cell rfl (hp.loadAgg ZH at1 0 _ (by rfl) (by rfl)) .nil)) rfl ?_
       show zal w0 br bi (Zl bs) L _ _
       rw [HR.out]
       exact ⟨⟨⟨od, oa, os, oc, nx, t0, t1, t2, t3, fa, fs, fc⟩, ra, rs, rc⟩, RR, RO, RF, M, rfl, HSM.out, HRR.out, HW.out, Zt.mk7 HL.out HA.out hp⟩
theorem zbR {B : Nat} {w0 w : World} {r i x y z : Blk} {RR RO RF M : List Blk} (hp : Hp B w0 w (r :: i :: (RR ++ (RO ++ (RF ++ (M ++ [x, y, z])))))) : Hp B w0 w (r :: i :: x :: y :: z :: (RR ++ (RO ++ (RF ++ M)))) := hp.kp
theorem zkH (p q r : Addr) (w : World) : CallsD Tryz.prog 180 #[.pointer (some p), .pointer (some q), .pointer (some r)] .returning w fun e u' w' => e = .returned (.tuple #[]) ∧ u' = .returning ∧ w' = w := by
 refine callsD_of_wpS Tryz.func180 rfl fun c₀ cs hu => ?_
 apply wpS_seq
 apply wpS_region
 simp [wpOpsS, go_sem, recoverD, hu, Tryz.ntmps180, Exit.thenS]
 refine wpS_of_wp ?_
 go_wp2
 cases c₀
 simp_all [bodyPostS, results, Tryz.results180]
theorem zj2 (bn bx be : Nat) (y : Sv) {B : Nat} {w0 w : World} {L : List Blk} (hp : Hp B w0 w (⟨bn, [.int .i64 0, .slice none 0 0, .int .i64 0, .int .i64 0, .int .i64 0, .int .i64 0, .int .i64 0, .slice none 0 0, .slice none 0 0], 67, 9⟩ :: ⟨be, [.int .i64 0], 42, 1⟩ :: ⟨bx, svL y, 67, 9⟩ :: L)) :
  CallsD Tryz.prog 180 #[.pointer (some ⟨bn, 0, none⟩), .pointer (some ⟨bx, 0, none⟩), .pointer (some ⟨be, 0, none⟩)] (.panicking zei) w fun e u' w' => e = .returned (.tuple #[]) ∧ u' = .panicking [{ v := .iface 232 (.agg #[]), recovered := true }] ∧ Hp B w0 w' (⟨bn, [.int .i64 0, .slice none 0 0, .int .i64 0, .int .i64 0, .int .i64 0, .int .i64 0, .int .i64 0, .slice none 0 0, .slice none 0 0], 67, 9⟩ :: ⟨be, [.int .i64 60], 42, 1⟩ :: ⟨bx, [.int .i64 0, .slice none 0 0, .int .i64 0, .int .i64 0, .int .i64 0, .int .i64 0, .int .i64 0, .slice none 0 0, .slice none 0 0], 67, 9⟩ :: L) := by
 obtain ⟨⟨od, oa, os, oc, nx, t0, t1, t2, t3, fa, fs, fc⟩, ra, rs, rc⟩ := y
 simp only [svL, hvL, z0f, z0e] at hp
 refine callsD_of_wpS Tryz.func180 rfl fun c₀ cs hu => ?_
 apply wpS_seq
 apply wpS_region
 simp [wpOpsS, go_sem, recoverD, hu, zei, Tryz.ntmps180, Exit.thenS]
 refine wpS_of_wp ?_
 change Code.wp Tryz.prog _ _ ⟨#[.pointer (some ⟨bn, 0, none⟩), .pointer (some ⟨bx, 0, none⟩), .pointer (some ⟨be, 0, none⟩), .iface 232 (.agg #[]), .iface 232 (.agg #[]), undef, undef, undef], []⟩ w
 go_wp2_with (first | go_skip | ((first | ((refine zf _ rfl ?_); refine lZ hp rfl (by with_reducible first | exact Zi | exact ZN) ?_; clear hp; intro b w1 hp) | ((refine zg _ _ rfl ?_); refine lB hp rfl (za rfl) rfl ?_; clear hp; intro b w1 hp) | ((refine ze _ _ rfl ?_); first | refine lO hp rfl (za rfl) zlE aa5 ?_ | refine lA hp rfl (za rfl) za7 aa5 ?_) | ((refine zd _ _ _ rfl ?_); (first | refine sO hp rfl (za rfl) zlE aa5 ?_ | refine sA hp rfl (za rfl) (za rfl) za7 aa5 ?_ | refine sG hp rfl (za rfl) (za rfl) za7 aa5 ?_); clear hp; intro w1 hp; simp only [spl, z0a, z0b] at hp) | ((refine zj _ _ _ rfl ?_); refine lS hp rfl (by intro w; go_simp; rfl) ?_; clear hp; intro b w1 hp; simp only [z0g, z0h, Nat.reduceAdd] at hp)); simp only [zc, zb, z0b, z0a]))
 simp [bodyPostS, results, Tryz.results180]
 exact hp
theorem zfe (bs : List Nat) (a : Option Addr) (c : Nat) (hnc : bs.length ≤ c) (hbl : bs.length ≤ 1000000000) (w : World) (ha : zaH w a bs) :
  Calls Tryz.prog 123 #[.slice a bs.length c, .func (.func 124) #[] #[]] w (zgi w (zab bs)) := by
 have HA := z0j ha
 have HNC := z0j hnc
 have hp := Hp.start w
 have HBL := z0j hbl
 clear ha hnc hbl
 cases hr : Zl bs with
 | none =>
  have HE : Hid (zab bs = none) := z0j (by unfold zab zbr; rw [hr])
  have HR := z0j hr
  clear hr
  go_enter_defers Tryz.func123, Tryz.ntmps123
  go_wp2_with (first | (go_at_call 181; (with_reducible refine (zcw _ _ _ _).mono ?_); rintro e w1 ⟨br, rfl, hp2⟩; replace hp := zco (hp.join hp2); clear hp2) | (go_at_call 124; have hst : Zt w _ _ bs [] _ _ := ⟨a, c, HNC.out, HA.out, zaW hp⟩; (with_reducible refine (zfR _ _ bs HBL.out hst).mono ?_); clear hst; clear hp; rintro e w1 hq; rw [HR.out] at hq; first | (obtain ⟨y, RR, RO, RF, M, rfl, hy, hrr, hown, a2, c2, hl2, ha2, hp⟩ := hq; have HY := z0j hy; have HW := z0j hown; have HWR := z0j hrr; clear hy hown hl2 ha2 hrr; obtain ⟨⟨od, oa, os, oc, nx, t0, t1, t2, t3, fa, fs, fc⟩, ra, rs, rc⟩ := y; simp only [z0e, Rb, Ib] at hp; simp only [svL, hvL, z0f, z0e]; replace hp := zbR hp) | obtain ⟨rfl, hp⟩ := hq) | go_skip | ((first | ((refine zf _ rfl ?_); refine lZ hp rfl (by with_reducible first | exact Zi | exact ZN) ?_; clear hp; intro b w1 hp) | ((refine zg _ _ rfl ?_); refine lB hp rfl (za rfl) rfl ?_; clear hp; intro b w1 hp) | ((refine ze _ _ rfl ?_); first | refine lO hp rfl (za rfl) Zc aa5 ?_ | refine lA hp rfl (za rfl) ZH aa5 ?_) | ((refine zd _ _ _ rfl ?_); (first | refine sO hp rfl (za rfl) zX aa5 ?_ | refine sA hp rfl (za rfl) (za rfl) ZH aa5 ?_ | refine sG hp rfl (za rfl) (za rfl) ZH aa5 ?_); clear hp; intro w1 hp; simp only [spl, z0a, z0b] at hp)); simp only [zc, zb, z0b, z0a]))
  obtain ⟨b2, rfl⟩ := hp.id0; obtain ⟨b3, rfl⟩ := hp.id1; obtain ⟨b4, rfl⟩ := hp.id2; refine leaves_cons (f := 180) (args := #[.pointer (some ⟨b2, 0, none⟩), .pointer (some ⟨b4, 0, none⟩), .pointer (some ⟨b3, 0, none⟩)]) (by simp) (by simp [go_sem]) ?_
  refine (zj2 b2 b4 b3 zgc hp).mono ?_
  clear hp
  rintro e u' w'' ⟨rfl, rfl, hp⟩
  refine ⟨_, zu (rs := [.cell 4 67, .cell 5 42]) Tryz.results123 (.cell rfl (hp.loadAgg ZH at2 0 _ (by rfl) (by rfl)) (.cell rfl (hp.loadOne zX at1 0 _ (by rfl)) .nil)), ?_⟩
  rw [HE.out]
  exact ⟨rfl, hp.below⟩
 | some p =>
  obtain ⟨x, r⟩ := p
  have HR := z0j hr
  by_cases h0 : r.length = 0
  ·have HE : Hid (zab bs = some x) := z0j (by unfold zab zbr; rw [hr]; simp only; rw [if_pos h0])
   have e0 : ((r.length : Int) == 0) = true := by simp [h0]
   clear hr h0
   go_enter_defers Tryz.func123, Tryz.ntmps123
   go_wp2_with (first | (go_at_call 181; (with_reducible refine (zcw _ _ _ _).mono ?_); rintro e w1 ⟨br, rfl, hp2⟩; replace hp := zco (hp.join hp2); clear hp2) | (go_at_call 124; have hst : Zt w _ _ bs [] _ _ := ⟨a, c, HNC.out, HA.out, zaW hp⟩; (with_reducible refine (zfR _ _ bs HBL.out hst).mono ?_); clear hst; clear hp; rintro e w1 hq; rw [HR.out] at hq; first | (obtain ⟨y, RR, RO, RF, M, rfl, hy, hrr, hown, a2, c2, hl2, ha2, hp⟩ := hq; have HY := z0j hy; have HW := z0j hown; have HWR := z0j hrr; clear hy hown hl2 ha2 hrr; obtain ⟨⟨od, oa, os, oc, nx, t0, t1, t2, t3, fa, fs, fc⟩, ra, rs, rc⟩ := y; simp only [z0e, Rb, Ib] at hp; simp only [svL, hvL, z0f, z0e]; replace hp := zbR hp) | obtain ⟨rfl, hp⟩ := hq) | (go_at_call 182; (with_reducible refine (zjc _ _ _ _ hp).mono ?_); rintro e w' ⟨rfl, rfl⟩) | (go_at_call 131; first | ((with_reducible refine (zaF _).mono ?_); rintro e w' ⟨rfl, rfl⟩) | ((with_reducible refine (Zf _).mono ?_); rintro e w' ⟨rfl, rfl⟩)) | go_skip | ((first | ((refine zf _ rfl ?_); refine lZ hp rfl (by with_reducible first | exact Zi | exact ZN) ?_; clear hp; intro b w1 hp) | ((refine zg _ _ rfl ?_); refine lB hp rfl (za rfl) rfl ?_; clear hp; intro b w1 hp) | ((refine ze _ _ rfl ?_); first | refine lO hp rfl (za rfl) Zc aa5 ?_ | refine lA hp rfl (za rfl) ZH aa5 ?_) | ((refine zd _ _ _ rfl ?_); (first | refine sO hp rfl (za rfl) zX aa5 ?_ | refine sA hp rfl (za rfl) (za rfl) ZH aa5 ?_ | refine sG hp rfl (za rfl) (za rfl) ZH aa5 ?_); clear hp; intro w1 hp; simp only [spl, z0a, z0b] at hp)); simp only [zc, zb, z0b, z0a]))
   replace hp := hp.tail.tail
   obtain ⟨b2, rfl⟩ := hp.id0; obtain ⟨b3, rfl⟩ := hp.id1; obtain ⟨b4, rfl⟩ := hp.id2; refine leaves_cons (f := 180) (args := #[.pointer (some ⟨b2, 0, none⟩), .pointer (some ⟨b4, 0, none⟩), .pointer (some ⟨b3, 0, none⟩)]) (by simp) (by simp [go_sem]) ?_
   refine (zkH _ _ _ _).mono ?_
   rintro e u' w'' ⟨rfl, rfl, rfl⟩
   refine ⟨_, zu (rs := [.cell 4 67, .cell 5 42]) Tryz.results123 (.cell rfl (hp.loadAgg ZH at2 0 _ (by rfl) (by rfl)) (.cell rfl (hp.loadOne zX at1 0 _ (by rfl)) .nil)), ?_⟩
   rw [HE.out]
   exact ⟨⟨⟨od, oa, os, oc, nx, t0, t1, t2, t3, fa, fs, fc⟩, ra, rs, rc⟩, _, rfl, HY.out, ⟨RR, _, rfl, HWR.out, RO, RF, M, rfl, HW.out⟩, hp.tail.tail.tail⟩
  ·have HE : Hid (zab bs = none) := z0j (by unfold zab zbr; rw [hr]; simp only; rw [if_neg h0])
   have e0 : ((r.length : Int) == 0) = false := beq_eq_false_iff_ne.2 (by omega)
   clear hr h0
   go_enter_defers Tryz.func123, Tryz.ntmps123
   go_wp2_with (first | (go_at_call 181; (with_reducible refine (zcw _ _ _ _).mono ?_); rintro e w1 ⟨br, rfl, hp2⟩; replace hp := zco (hp.join hp2); clear hp2) | (go_at_call 124; have hst : Zt w _ _ bs [] _ _ := ⟨a, c, HNC.out, HA.out, zaW hp⟩; (with_reducible refine (zfR _ _ bs HBL.out hst).mono ?_); clear hst; clear hp; rintro e w1 hq; rw [HR.out] at hq; first | (obtain ⟨y, RR, RO, RF, M, rfl, hy, hrr, hown, a2, c2, hl2, ha2, hp⟩ := hq; have HY := z0j hy; have HW := z0j hown; have HWR := z0j hrr; clear hy hown hl2 ha2 hrr; obtain ⟨⟨od, oa, os, oc, nx, t0, t1, t2, t3, fa, fs, fc⟩, ra, rs, rc⟩ := y; simp only [z0e, Rb, Ib] at hp; simp only [svL, hvL, z0f, z0e]; replace hp := zbR hp) | obtain ⟨rfl, hp⟩ := hq) | (go_at_call 182; (with_reducible refine (zjc _ _ _ _ hp).mono ?_); rintro e w' ⟨rfl, rfl⟩) | (go_at_call 131; first | ((with_reducible refine (zaF _).mono ?_); rintro e w' ⟨rfl, rfl⟩) | ((with_reducible refine (Zf _).mono ?_); rintro e w' ⟨rfl, rfl⟩)) | go_skip | ((first | ((refine zf _ rfl ?_); refine lZ hp rfl (by with_reducible first | exact Zi | exact ZN) ?_; clear hp; intro b w1 hp) | ((refine zg _ _ rfl ?_); refine lB hp rfl (za rfl) rfl ?_; clear hp; intro b w1 hp) | ((refine ze _ _ rfl ?_); first | refine lO hp rfl (za rfl) Zc aa5 ?_ | refine lA hp rfl (za rfl) ZH aa5 ?_) | ((refine zd _ _ _ rfl ?_); (first | refine sO hp rfl (za rfl) zX aa5 ?_ | refine sA hp rfl (za rfl) (za rfl) ZH aa5 ?_ | refine sG hp rfl (za rfl) (za rfl) ZH aa5 ?_); clear hp; intro w1 hp; simp only [spl, z0a, z0b] at hp)); simp only [zc, zb, z0b, z0a]))
   replace hp := hp.tail.tail
   obtain ⟨b2, rfl⟩ := hp.id0; obtain ⟨b3, rfl⟩ := hp.id1; obtain ⟨b4, rfl⟩ := hp.id2; refine leaves_cons (f := 180) (args := #[.pointer (some ⟨b2, 0, none⟩), .pointer (some ⟨b4, 0, none⟩), .pointer (some ⟨b3, 0, none⟩)]) (by simp) (by simp [go_sem]) ?_
   refine (zj2 b2 b4 b3 ⟨⟨od, oa, os, oc, nx, t0, t1, t2, t3, fa, fs, fc⟩, ra, rs, rc⟩ hp).mono ?_
   clear hp
   rintro e u' w'' ⟨rfl, rfl, hp⟩
   refine ⟨_, zu (rs := [.cell 4 67, .cell 5 42]) Tryz.results123 (.cell rfl (hp.loadAgg ZH at2 0 _ (by rfl) (by rfl)) (.cell rfl (hp.loadOne zX at1 0 _ (by rfl)) .nil)), ?_⟩
   rw [HE.out]
   exact ⟨rfl, hp.below⟩
theorem zjN (bs : List Nat) (a : Option Addr) (c : Nat) (hnc : bs.length ≤ c) (hbl : bs.length ≤ 1000000000) (w : World) (ha : zaH w a bs) :
  Calls Tryz.prog 70 #[.slice a bs.length c] w (zgi w (zab bs)) := by
 have HA := z0j ha
 have HNC := z0j hnc
 have hp := Hp.start w
 have HBL := z0j hbl
 clear ha hnc hbl
 cases hr : zab bs with
 | none =>
  have HR := z0j hr
  clear hr
  go_enter Tryz.func70, Tryz.ntmps70
  go_wp2_with (first | (go_at_call 123; (with_reducible refine (zfe bs a c HNC.out HBL.out _ (HA.out.below hp.below)).mono ?_); rintro e w1 hq; rw [HR.out] at hq; first | (obtain ⟨y, R, rfl, hy, hown, hp2⟩ := hq; replace hp := hp.join hp2; have HY := z0j hy; have HW := z0j hown; clear hy hown hp2; obtain ⟨⟨od, oa, os, oc, nx, t0, t1, t2, t3, fa, fs, fc⟩, ra, rs, rc⟩ := y; simp only [svL, hvL, z0f, z0e] at hp ⊢) | (obtain ⟨rfl, hb⟩ := hq; replace hp := hp.call hb; clear hb; simp only [svL, hvL, zgc, zaY, z0f, z0e])) | go_skip | ((first | ((refine zf _ rfl ?_); refine lZ hp rfl (by with_reducible first | exact Zi | exact ZN) ?_; clear hp; intro b w1 hp) | ((refine zd _ _ _ rfl ?_); (first | refine sA hp rfl (za rfl) (za rfl) ZH aa5 ?_ | refine sG hp rfl (za rfl) (za rfl) ZH aa5 ?_); clear hp; intro w1 hp; simp only [spl, z0a, z0b] at hp)); simp only [zc, zb, z0b, z0a]))
  exact bodyPost_ret (zu (rs := [.cell 2 67, .tmp 3]) Tryz.results70 (.cell rfl (hp.loadAgg ZH at0 0 _ (by rfl) (by rfl)) (.tmp rfl .nil))) rfl ⟨rfl, hp.below⟩
 | some x =>
  have HR := z0j hr
  clear hr
  go_enter Tryz.func70, Tryz.ntmps70
  go_wp2_with (first | (go_at_call 123; (with_reducible refine (zfe bs a c HNC.out HBL.out _ (HA.out.below hp.below)).mono ?_); rintro e w1 hq; rw [HR.out] at hq; first | (obtain ⟨y, R, rfl, hy, hown, hp2⟩ := hq; replace hp := hp.join hp2; have HY := z0j hy; have HW := z0j hown; clear hy hown hp2; obtain ⟨⟨od, oa, os, oc, nx, t0, t1, t2, t3, fa, fs, fc⟩, ra, rs, rc⟩ := y; simp only [svL, hvL, z0f, z0e] at hp ⊢) | (obtain ⟨rfl, hb⟩ := hq; replace hp := hp.call hb; clear hb; simp only [svL, hvL, zgc, zaY, z0f, z0e])) | go_skip | ((first | ((refine zf _ rfl ?_); refine lZ hp rfl (by with_reducible first | exact Zi | exact ZN) ?_; clear hp; intro b w1 hp) | ((refine zd _ _ _ rfl ?_); (first | refine sA hp rfl (za rfl) (za rfl) ZH aa5 ?_ | refine sG hp rfl (za rfl) (za rfl) ZH aa5 ?_); clear hp; intro w1 hp; simp only [spl, z0a, z0b] at hp)); simp only [zc, zb, z0b, z0a]))
  exact bodyPost_ret (zu (rs := [.cell 2 67, .tmp 3]) Tryz.results70 (.cell rfl (hp.loadAgg ZH at0 0 _ (by rfl) (by rfl)) (.tmp rfl .nil))) rfl ⟨⟨⟨od, oa, os, oc, nx, t0, t1, t2, t3, fa, fs, fc⟩, ra, rs, rc⟩, R, rfl, HY.out, HW.out, hp.tail⟩
end Go.Proofs.YtjcbpfbifbfkcaaGreat
