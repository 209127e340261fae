import Derived.Test.YtaafajaadfgaoaaGreatFp18
import Derived.Test.YtaafajaadfgaoaaGreatFp10
set_option linter.unusedSimpArgs false
set_option linter.unusedVariables false
set_option maxRecDepth 100000
set_option maxHeartbeats 60000000
namespace Go.Proofs.YtaafajaadfgaoaaGreat
open Go.RowKit
theorem Z8 {ty : TypeId} {k : Nat} (h : zac Tryz.prog ty k = true := by with_reducible first | exact zaR | exact zN | exact Z6) : zac Tryz.prog ty k = true := h
theorem zaT {ty : TypeId} (h : zB Tryz.prog ty = true := by with_reducible first | exact zq | exact zA | exact zcz | exact ZB | exact Ze | exact za9) : zB Tryz.prog ty = true := h
noncomputable def zbR (x : Hv) (b1 : List Nat) : Option (Sv × List Nat) := match nR b1 with
 | none => none
 | some (n, b2) => if 4 < n then none else match zal zf1 n.toNat b2 with
  | none => none
  | some (rs, b3) => if stB ⟨x, none, rs, 0⟩ = true then some (⟨x, none, rs, 0⟩, b3) else none
noncomputable def Zx (bs : List Nat) : Option (Sv × List Nat) := match zcV bs with
 | none => none
 | some (t, b1) => match Z2 t with
  | none => none
  | some x => zbR x b1
noncomputable def Zz (bs : List Nat) : Option Sv := zbC Zx bs
def zfx (w : World) (r : Option Sv) (e : Ending) (w' : World) : Prop :=
 match r with
 | some x => ∃ y R, e = .returned (.tuple #[.agg (svL y).toArray, .int .i64 0]) ∧ y.Sm x ∧ SvO y R ∧ Hp w.heap.size w w' R
 | none => e = .returned (.tuple #[.agg (svL zh3).toArray, .int .i64 60]) ∧ Below w.heap.size w w'
def za5 (w0 : World) (br bi : Nat) (r : Option (Sv × List Nat)) (L : List Blk) (e : Ending) (w' : World) : Prop :=
 match r with
 | some (x, bs') => ∃ y RR RO RF M, e = .returned (.agg (svL y).toArray) ∧ y.Sm x ∧ zJ 120 4 (.slice y.ra y.rs.length y.rc) y.rs.length (y.rs.flatMap rwV) RR ∧ HvR y.hv RO RF M ∧ ZZ w0 br bi bs' [] (RR ++ (RO ++ (RF ++ (M ++ L)))) w'
 | none => e = .panicked zfB ∧ Hp w0.heap.size w0 w' L
theorem zc6 {bs : List Nat} {x : Hv} (h : Z2 bs = some x) : zai x := by
 unfold Z2 zbC at h
 split at h
 ·rename_i y r hy
  split at h
  ·injection h with h
   subst h
   unfold zba at hy
   split at hy
   ·cases hy
   ·split at hy
    ·cases hy
    ·unfold zae at hy
     split at hy
     ·cases hy
     ·unfold zc0 at hy
      split at hy
      ·cases hy
      ·split at hy
       ·cases hy
       ·split at hy
        ·cases hy
        ·unfold zcA at hy
         split at hy
         ·split at hy
          ·rename_i hb
           injection hy with hy
           injection hy with hy _
           rw [← hy]
           exact zcB hb
          ·cases hy
         ·cases hy
  ·cases h
 ·cases h
theorem zcc (br c : Nat) (t r : List Nat) (a : Option Addr) (bs : List Nat) (hv : zcV bs = some (t, r)) (hnc : bs.length ≤ c) (hbl : bs.length ≤ 1000000000) {w0 w : World} {x y i : Blk} {L : List Blk} (hp : Hp w0.heap.size w0 w (x :: y :: ⟨br, [.slice a bs.length c], 210, 1⟩ :: i :: L)) (ha : zaw w0 a bs) :
  Calls Tryz.prog 101 #[.pointer (some ⟨br, 0, none⟩)] w fun e w' => e = .returned (.tuple #[.string (strOfNums (nI t)), .int .i64 0]) ∧ ∃ a' c', r.length ≤ c' ∧ zaw w0 a' r ∧ Hp w0.heap.size w0 w' (x :: y :: ⟨br, [.slice a' r.length c'], 210, 1⟩ :: i :: L) := by
 refine (zlH br c t r a bs hv hnc hbl (L := x :: y :: i :: L) (show Hp w0.heap.size w0 w (x :: y :: Rb br a bs.length c :: i :: L) from hp).kp ha).mono fun e w' h => ?_
 obtain ⟨h1, c', h2, a', h3, h4⟩ := h
 exact ⟨h1, a', c', h2, h3, (show Hp w0.heap.size w0 w' (x :: y :: Rb br a' r.length c' :: i :: L) from h4.kp)⟩
theorem zaH (br c : Nat) (a : Option Addr) (bs : List Nat) (hv : zcV bs = none) (hnc : bs.length ≤ c) (hbl : bs.length ≤ 1000000000) {w0 w : World} {x y i : Blk} {L : List Blk} (hp : Hp w0.heap.size w0 w (x :: y :: ⟨br, [.slice a bs.length c], 210, 1⟩ :: i :: L)) (ha : zaw w0 a bs) :
  Calls Tryz.prog 101 #[.pointer (some ⟨br, 0, none⟩)] w fun e w' => (∃ q : Int, (q = 10 ∨ q = 11) ∧ e = .returned (.tuple #[.string ⟨#[]⟩, .int .i64 q])) ∧ w = w' :=
 zhq br c a bs hv hnc hbl (L := x :: y :: i :: L) (show Hp w0.heap.size w0 w (x :: y :: Rb br a bs.length c :: i :: L) from hp).kp ha
theorem zgj (od : Int) (oa : Option Addr) (os : List Ob) (oc : Nat) (nx t0 t1 t2 t3 : Int) (fa : Option Addr) (fs : List Bl) (fc : Nat) (w : World) : Calls Tryz.prog 99 #[.agg #[.int .i64 od, .slice oa os.length oc, .int .i64 nx, .int .i64 t0, .int .i64 t1, .int .i64 t2, .int .i64 t3, .slice fa fs.length fc], .int .i64 0] w fun e w' => e = .returned (.agg #[.int .i64 od, .slice oa os.length oc, .int .i64 nx, .int .i64 t0, .int .i64 t1, .int .i64 t2, .int .i64 t3, .slice fa fs.length fc]) ∧ Below w.heap.size w w' := zob ⟨od, oa, os, oc, nx, t0, t1, t2, t3, fa, fs, fc⟩ w
theorem zgk (w : World) : Calls Tryz.prog 99 #[.agg #[.int .i64 0, .slice none 0 0, .int .i64 0, .int .i64 0, .int .i64 0, .int .i64 0, .int .i64 0, .slice none 0 0], .int .i64 60] w fun e w' => e = .panicked zfB ∧ Below w.heap.size w w' := zk1 zaY w
theorem ZZ.mk7 {w0 w : World} {br bi c : Nat} {a : Option Addr} {bs : List Nat} {x y : Blk} {RR RO RF M L : List Blk} (h1 : bs.length ≤ c) (h2 : zaw w0 a bs)
  (hp : Hp w0.heap.size w0 w (x :: y :: ⟨br, [.slice a bs.length c], 210, 1⟩ :: ⟨bi, [.pointer (some ⟨br, 0, none⟩)], 144, 1⟩ :: (RR ++ (L ++ (RO ++ (RF ++ M)))))) : ZZ w0 br bi bs [] (RR ++ (RO ++ (RF ++ (M ++ L)))) w :=
 ⟨a, c, h1, h2, (show Hp w0.heap.size w0 w (x :: y :: Rb br a bs.length c :: Ib bi br :: (RR ++ (L ++ (RO ++ (RF ++ M))))) from hp).kp⟩
theorem zju {B : Nat} {w0 w : World} {x y r i : Blk} {RR L : List Blk} (hp : Hp B w0 w (r :: i :: (RR ++ (x :: y :: L)))) : Hp B w0 w (x :: y :: r :: i :: (RR ++ L)) := hp.kp
theorem zjE {B : Nat} {w0 w : World} {x y r i : Blk} {L R : List Blk} (hp : Hp B w0 w ((x :: y :: r :: i :: L) ++ R)) : Hp B w0 w (x :: y :: r :: i :: (L ++ R)) := hp.kp
theorem zjC (br bi : Nat) (bs : List Nat) (hbl : bs.length ≤ 1000000000) {w0 w : World} {L : List Blk} (hs : ZZ w0 br bi bs [] L w) :
  Calls Tryz.prog 98 #[.pointer (some ⟨bi, 0, none⟩)] w (za5 w0 br bi (Zx bs) L) := by
 obtain ⟨a, c, hl, ha, hp⟩ := hs
 have HL := z0j hl
 have HBY := z0j ha.2
 have HA := z0j ha
 have HBL := z0j hbl
 clear hl ha hbl
 simp only [z0e, Rb, Ib] at hp
 cases ht : zcV bs with
 | none =>
  have HT := z0j ht
  have HR : Hid (Zx bs = none) := z0j (by unfold Zx; rw [ht])
  clear ht
  go_enter Tryz.func98, Tryz.ntmps98
  go_wp2_with (first | (go_at_call 101; first | ((with_reducible refine (zcc br _ t b1 _ bs HT.out HL.out HBL.out hp HA.out).mono ?_); clear hp HL HA; rintro e w1 ⟨rfl, a, c, hl, ha, hp⟩; have HL := z0j hl; have HA := z0j ha; clear hl ha) | ((with_reducible refine (zaH br _ _ bs HT.out HL.out HBL.out hp HA.out).mono ?_); rintro e w1 ⟨⟨q, hq, rfl⟩, rfl⟩)) | (go_at_call 100; first | ((with_reducible refine (zff _ _).mono ?_); rintro e w' ⟨rfl, rfl⟩) | ((with_reducible refine (zb1 _ _ hq _).mono ?_); rintro e w' ⟨rfl, rfl⟩)) | go_skip | ((first | ((refine zg _ rfl ?_); refine lZ hp rfl (by with_reducible first | exact zU | exact zar) ?_; clear hp; intro b w1 hp) | ((refine zh _ _ rfl ?_); refine lB hp rfl (za rfl) rfl ?_; clear hp; intro b w1 hp) | ((refine zf _ _ rfl ?_); first | refine lO hp rfl (za rfl) zaT aa5 ?_ | refine lA hp rfl (za rfl) Z8 aa5 ?_) | ((refine zd _ _ _ rfl ?_); (first | refine sO hp rfl (za rfl) zaT aa5 ?_ | refine sA hp rfl (za rfl) (za rfl) Z8 aa5 ?_ | refine sG hp rfl (za rfl) (za rfl) Z8 aa5 ?_); clear hp; intro w1 hp; simp only [spl, z0a, z0b] at hp) | ((refine zi _ _ _ rfl ?_); refine lS hp rfl (by intro w; go_simp; rfl) ?_; clear hp; intro b w1 hp; simp only [z0g, z0h, Nat.reduceAdd] at hp)); simp only [zc, zb, z0b, z0a]))
  refine ⟨rfl, ?_⟩; show za5 w0 br bi (Zx bs) L _ _; rw [HR.out]
  exact ⟨rfl, hp.kp⟩
 | some q =>
  obtain ⟨t, b1⟩ := q
  have HT := z0j ht
  obtain ⟨tn, _, _, _, htt, _⟩ := zdB ht
  have hby : za4 t := by rw [htt]; exact (HBY.out.drop 4).take tn
  have HTB : Hid (zbG (strOfNums (nI t)) = t) := z0j (zcJ hby)
  have HSZ : Hid ((strOfNums (nI t)).size = t.length) := z0j (by rw [← ZP, zcJ hby])
  clear htt hby
  cases hh : Z2 t with
  | none =>
   have HH := z0j hh
   have HR : Hid (Zx bs = none) := z0j (by unfold Zx; rw [ht]; simp only; rw [hh])
   clear ht hh
   go_enter Tryz.func98, Tryz.ntmps98
   go_wp2_with (first | (go_at_call 101; first | ((with_reducible refine (zcc br _ t b1 _ bs HT.out HL.out HBL.out hp HA.out).mono ?_); clear hp HL HA; rintro e w1 ⟨rfl, a, c, hl, ha, hp⟩; have HL := z0j hl; have HA := z0j ha; clear hl ha) | ((with_reducible refine (zaH br _ _ bs HT.out HL.out HBL.out hp HA.out).mono ?_); rintro e w1 ⟨⟨q, hq, rfl⟩, rfl⟩)) | (go_at_call 100; first | ((with_reducible refine (zff _ _).mono ?_); rintro e w' ⟨rfl, rfl⟩) | ((with_reducible refine (zb1 _ _ hq _).mono ?_); rintro e w' ⟨rfl, rfl⟩)) | ((refine Zl _ _ _ rfl ?_); refine ZE hp 9 57 5 _ rfl wy Tryz.underlying9 Tryz.underlying57 Tryz.underlying5 _ (za rfl) ?_; clear hp; intro ad cb w1 hcb had hp; rw [HTB.out] at had; rw [HSZ.out] at hcb ⊢; have HCB := z0j hcb; have HAD := z0j had; clear hcb had; simp only [zc, zb, z0b, z0a]) | (go_at_call 42; (with_reducible refine (zgh t ad cb HCB.out _ HAD.out).mono ?_); rintro e w1 hq; rw [HH.out] at hq; first | (obtain ⟨y, R, rfl, hy, ⟨RO, RF, M, rfl, hown⟩, hp2⟩ := hq; replace hp := zjE (hp.join hp2); have HY := z0j hy; have HW := z0j hown; clear hy hown hp2; obtain ⟨od, oa, os, oc, nx, t0, t1, t2, t3, fa, fs, fc⟩ := y; simp only [hvL]) | (obtain ⟨rfl, hb⟩ := hq; replace hp := hp.call hb; clear hb; simp only [hvL, zaY])) | (go_at_call 99; first | ((with_reducible refine (zgj od oa os oc nx t0 t1 t2 t3 fa fs fc _).mono ?_); rintro e w1 ⟨rfl, hb⟩; replace hp := hp.call hb; clear hb) | ((with_reducible refine (zgk _).mono ?_); rintro e w1 ⟨rfl, hb⟩; replace hp := hp.call hb; clear hb)) | go_skip | ((first | ((refine zg _ rfl ?_); refine lZ hp rfl (by with_reducible first | exact zU | exact zar) ?_; clear hp; intro b w1 hp) | ((refine zh _ _ rfl ?_); refine lB hp rfl (za rfl) rfl ?_; clear hp; intro b w1 hp) | ((refine zf _ _ rfl ?_); first | refine lO hp rfl (za rfl) zaT aa5 ?_ | refine lA hp rfl (za rfl) Z8 aa5 ?_) | ((refine zd _ _ _ rfl ?_); (first | refine sO hp rfl (za rfl) zaT aa5 ?_ | refine sA hp rfl (za rfl) (za rfl) Z8 aa5 ?_ | refine sG hp rfl (za rfl) (za rfl) Z8 aa5 ?_); clear hp; intro w1 hp; simp only [spl, z0a, z0b] at hp) | ((refine zi _ _ _ rfl ?_); refine lS hp rfl (by intro w; go_simp; rfl) ?_; clear hp; intro b w1 hp; simp only [z0g, z0h, Nat.reduceAdd] at hp)); simp only [zc, zb, z0b, z0a]))
   refine ⟨rfl, ?_⟩; show za5 w0 br bi (Zx bs) L _ _; rw [HR.out]
   exact ⟨rfl, hp.kp⟩
  | some x =>
   have HH := z0j hh
   have HE0 : Hid (Zx bs = zbR x b1) := z0j (by unfold Zx; rw [ht]; simp only; rw [hh])
   have HXR := z0j (zc6 hh)
   clear ht hh
   cases h4 : nR b1 with
   | none =>
    have H4 := z0j h4
    have HR : Hid (Zx bs = none) := z0j (by rw [HE0.out]; unfold zbR; rw [h4])
    clear h4
    go_enter Tryz.func98, Tryz.ntmps98
    go_wp2_with (first | (go_at_call 101; first | ((with_reducible refine (zcc br _ t b1 _ bs HT.out HL.out HBL.out hp HA.out).mono ?_); clear hp HL HA; rintro e w1 ⟨rfl, a, c, hl, ha, hp⟩; have HL := z0j hl; have HA := z0j ha; clear hl ha) | ((with_reducible refine (zaH br _ _ bs HT.out HL.out HBL.out hp HA.out).mono ?_); rintro e w1 ⟨⟨q, hq, rfl⟩, rfl⟩)) | (go_at_call 100; first | ((with_reducible refine (zff _ _).mono ?_); rintro e w' ⟨rfl, rfl⟩) | ((with_reducible refine (zb1 _ _ hq _).mono ?_); rintro e w' ⟨rfl, rfl⟩)) | ((refine Zl _ _ _ rfl ?_); refine ZE hp 9 57 5 _ rfl wy Tryz.underlying9 Tryz.underlying57 Tryz.underlying5 _ (za rfl) ?_; clear hp; intro ad cb w1 hcb had hp; rw [HTB.out] at had; rw [HSZ.out] at hcb ⊢; have HCB := z0j hcb; have HAD := z0j had; clear hcb had; simp only [zc, zb, z0b, z0a]) | (go_at_call 42; (with_reducible refine (zgh t ad cb HCB.out _ HAD.out).mono ?_); rintro e w1 hq; rw [HH.out] at hq; first | (obtain ⟨y, R, rfl, hy, ⟨RO, RF, M, rfl, hown⟩, hp2⟩ := hq; replace hp := zjE (hp.join hp2); have HY := z0j hy; have HW := z0j hown; clear hy hown hp2; obtain ⟨od, oa, os, oc, nx, t0, t1, t2, t3, fa, fs, fc⟩ := y; simp only [hvL]) | (obtain ⟨rfl, hb⟩ := hq; replace hp := hp.call hb; clear hb; simp only [hvL, zaY])) | (go_at_call 99; first | ((with_reducible refine (zgj od oa os oc nx t0 t1 t2 t3 fa fs fc _).mono ?_); rintro e w1 ⟨rfl, hb⟩; replace hp := hp.call hb; clear hb) | ((with_reducible refine (zgk _).mono ?_); rintro e w1 ⟨rfl, hb⟩; replace hp := hp.call hb; clear hb)) | (go_at_call 103; refine (Z3 br bi _ (K := [_, _]) (L := _) ⟨_, _, HL.out, HA.out, hp⟩).mono ?_; clear hp HL HA; rintro e w1 hq; rw [H4.out] at hq; (first | (obtain ⟨rfl, a, c, hl, ha, hp⟩ := hq; have HL := z0j hl; have HA := z0j ha; clear hl ha; simp only [z0f, z0e, Rb, Ib] at hp) | (obtain ⟨rfl, hp⟩ := hq; simp only [z0f, z0e] at hp))) | go_skip | ((first | ((refine zg _ rfl ?_); refine lZ hp rfl (by with_reducible first | exact zU | exact zar) ?_; clear hp; intro b w1 hp) | ((refine zh _ _ rfl ?_); refine lB hp rfl (za rfl) rfl ?_; clear hp; intro b w1 hp) | ((refine zf _ _ rfl ?_); first | refine lO hp rfl (za rfl) zaT aa5 ?_ | refine lA hp rfl (za rfl) Z8 aa5 ?_) | ((refine zd _ _ _ rfl ?_); (first | refine sO hp rfl (za rfl) zaT aa5 ?_ | refine sA hp rfl (za rfl) (za rfl) Z8 aa5 ?_ | refine sG hp rfl (za rfl) (za rfl) Z8 aa5 ?_); clear hp; intro w1 hp; simp only [spl, z0a, z0b] at hp) | ((refine zi _ _ _ rfl ?_); refine lS hp rfl (by intro w; go_simp; rfl) ?_; clear hp; intro b w1 hp; simp only [z0g, z0h, Nat.reduceAdd] at hp)); simp only [zc, zb, z0b, z0a]))
    refine ⟨rfl, ?_⟩; show za5 w0 br bi (Zx bs) L _ _; rw [HR.out]
    exact ⟨rfl, hp.kp⟩
   | some q4 =>
    obtain ⟨k, b2⟩ := q4
    have H4 := z0j h4
    clear h4
    obtain ⟨k, rfl, hk⟩ := zeH H4.out
    by_cases hk2 : (4 : Int) < (k : Int)
    ·have HK := z0j hk2
     have HR : Hid (Zx bs = none) := z0j (by rw [HE0.out]; unfold zbR; rw [H4.out]; simp only; rw [if_pos hk2])
     clear hk2 hk
     go_enter Tryz.func98, Tryz.ntmps98
     go_wp2_with (first | (go_at_call 101; first | ((with_reducible refine (zcc br _ t b1 _ bs HT.out HL.out HBL.out hp HA.out).mono ?_); clear hp HL HA; rintro e w1 ⟨rfl, a, c, hl, ha, hp⟩; have HL := z0j hl; have HA := z0j ha; clear hl ha) | ((with_reducible refine (zaH br _ _ bs HT.out HL.out HBL.out hp HA.out).mono ?_); rintro e w1 ⟨⟨q, hq, rfl⟩, rfl⟩)) | (go_at_call 100; first | ((with_reducible refine (zff _ _).mono ?_); rintro e w' ⟨rfl, rfl⟩) | ((with_reducible refine (zb1 _ _ hq _).mono ?_); rintro e w' ⟨rfl, rfl⟩)) | ((refine Zl _ _ _ rfl ?_); refine ZE hp 9 57 5 _ rfl wy Tryz.underlying9 Tryz.underlying57 Tryz.underlying5 _ (za rfl) ?_; clear hp; intro ad cb w1 hcb had hp; rw [HTB.out] at had; rw [HSZ.out] at hcb ⊢; have HCB := z0j hcb; have HAD := z0j had; clear hcb had; simp only [zc, zb, z0b, z0a]) | (go_at_call 42; (with_reducible refine (zgh t ad cb HCB.out _ HAD.out).mono ?_); rintro e w1 hq; rw [HH.out] at hq; first | (obtain ⟨y, R, rfl, hy, ⟨RO, RF, M, rfl, hown⟩, hp2⟩ := hq; replace hp := zjE (hp.join hp2); have HY := z0j hy; have HW := z0j hown; clear hy hown hp2; obtain ⟨od, oa, os, oc, nx, t0, t1, t2, t3, fa, fs, fc⟩ := y; simp only [hvL]) | (obtain ⟨rfl, hb⟩ := hq; replace hp := hp.call hb; clear hb; simp only [hvL, zaY])) | (go_at_call 99; first | ((with_reducible refine (zgj od oa os oc nx t0 t1 t2 t3 fa fs fc _).mono ?_); rintro e w1 ⟨rfl, hb⟩; replace hp := hp.call hb; clear hb) | ((with_reducible refine (zgk _).mono ?_); rintro e w1 ⟨rfl, hb⟩; replace hp := hp.call hb; clear hb)) | (go_at_call 103; refine (Z3 br bi _ (K := [_, _]) (L := _) ⟨_, _, HL.out, HA.out, hp⟩).mono ?_; clear hp HL HA; rintro e w1 hq; rw [H4.out] at hq; (first | (obtain ⟨rfl, a, c, hl, ha, hp⟩ := hq; have HL := z0j hl; have HA := z0j ha; clear hl ha; simp only [z0f, z0e, Rb, Ib] at hp) | (obtain ⟨rfl, hp⟩ := hq; simp only [z0f, z0e] at hp))) | (go_at_call 102; (with_reducible refine (zit bi k 4 HK.out _).mono ?_); rintro e w' ⟨rfl, rfl⟩) | go_skip | ((first | ((refine zg _ rfl ?_); refine lZ hp rfl (by with_reducible first | exact zU | exact zar) ?_; clear hp; intro b w1 hp) | ((refine zh _ _ rfl ?_); refine lB hp rfl (za rfl) rfl ?_; clear hp; intro b w1 hp) | ((refine zf _ _ rfl ?_); first | refine lO hp rfl (za rfl) zaT aa5 ?_ | refine lA hp rfl (za rfl) Z8 aa5 ?_) | ((refine zd _ _ _ rfl ?_); (first | refine sO hp rfl (za rfl) zaT aa5 ?_ | refine sA hp rfl (za rfl) (za rfl) Z8 aa5 ?_ | refine sG hp rfl (za rfl) (za rfl) Z8 aa5 ?_); clear hp; intro w1 hp; simp only [spl, z0a, z0b] at hp) | ((refine zi _ _ _ rfl ?_); refine lS hp rfl (by intro w; go_simp; rfl) ?_; clear hp; intro b w1 hp; simp only [z0g, z0h, Nat.reduceAdd] at hp)); simp only [zc, zb, z0b, z0a]))
     refine ⟨rfl, ?_⟩; show za5 w0 br bi (Zx bs) L _ _; rw [HR.out]
     exact ⟨rfl, hp.kp⟩
    ·have HE2 : Hid (zbR x b1 = match zal zf1 k b2 with | none => none | some (rs, b3) => if stB ⟨x, none, rs, 0⟩ = true then some (⟨x, none, rs, 0⟩, b3) else none) := z0j (by unfold zbR; rw [H4.out]; simp only; rw [if_neg hk2, Int.toNat_natCast])
     have HK1 : Hid ((k : Int) ≤ 4) := z0j (by omega)
     have HK2 : Hid (k ≤ 1000) := z0j (by omega)
     clear hk hk2
     cases h5 : zal zf1 k b2 with
     | none =>
      have H5 := z0j h5
      have HR : Hid (Zx bs = none) := z0j (by rw [HE0.out, HE2.out, h5])
      clear h5
      go_enter Tryz.func98, Tryz.ntmps98
      go_wp2_with (first | (go_at_call 101; first | ((with_reducible refine (zcc br _ t b1 _ bs HT.out HL.out HBL.out hp HA.out).mono ?_); clear hp HL HA; rintro e w1 ⟨rfl, a, c, hl, ha, hp⟩; have HL := z0j hl; have HA := z0j ha; clear hl ha) | ((with_reducible refine (zaH br _ _ bs HT.out HL.out HBL.out hp HA.out).mono ?_); rintro e w1 ⟨⟨q, hq, rfl⟩, rfl⟩)) | (go_at_call 100; first | ((with_reducible refine (zff _ _).mono ?_); rintro e w' ⟨rfl, rfl⟩) | ((with_reducible refine (zb1 _ _ hq _).mono ?_); rintro e w' ⟨rfl, rfl⟩)) | ((refine Zl _ _ _ rfl ?_); refine ZE hp 9 57 5 _ rfl wy Tryz.underlying9 Tryz.underlying57 Tryz.underlying5 _ (za rfl) ?_; clear hp; intro ad cb w1 hcb had hp; rw [HTB.out] at had; rw [HSZ.out] at hcb ⊢; have HCB := z0j hcb; have HAD := z0j had; clear hcb had; simp only [zc, zb, z0b, z0a]) | (go_at_call 42; (with_reducible refine (zgh t ad cb HCB.out _ HAD.out).mono ?_); rintro e w1 hq; rw [HH.out] at hq; first | (obtain ⟨y, R, rfl, hy, ⟨RO, RF, M, rfl, hown⟩, hp2⟩ := hq; replace hp := zjE (hp.join hp2); have HY := z0j hy; have HW := z0j hown; clear hy hown hp2; obtain ⟨od, oa, os, oc, nx, t0, t1, t2, t3, fa, fs, fc⟩ := y; simp only [hvL]) | (obtain ⟨rfl, hb⟩ := hq; replace hp := hp.call hb; clear hb; simp only [hvL, zaY])) | (go_at_call 99; first | ((with_reducible refine (zgj od oa os oc nx t0 t1 t2 t3 fa fs fc _).mono ?_); rintro e w1 ⟨rfl, hb⟩; replace hp := hp.call hb; clear hb) | ((with_reducible refine (zgk _).mono ?_); rintro e w1 ⟨rfl, hb⟩; replace hp := hp.call hb; clear hb)) | (go_at_call 103; refine (Z3 br bi _ (K := [_, _]) (L := _) ⟨_, _, HL.out, HA.out, hp⟩).mono ?_; clear hp HL HA; rintro e w1 hq; rw [H4.out] at hq; (first | (obtain ⟨rfl, a, c, hl, ha, hp⟩ := hq; have HL := z0j hl; have HA := z0j ha; clear hl ha; simp only [z0f, z0e, Rb, Ib] at hp) | (obtain ⟨rfl, hp⟩ := hq; simp only [z0f, z0e] at hp))) | (go_at_call 102; have hst : ZZ w0 br bi _ [] _ _ := ZZ.front (K := [_, _]) (L := L ++ (RO ++ (RF ++ M))) ⟨_, _, HL.out, HA.out, hp⟩; (with_reducible refine (zjQ br bi k 4 HK1.out HK2.out _ hst).mono ?_); clear hst; clear hp HL HA; rintro e w1 hq; rw [H5.out] at hq; first | (obtain ⟨vo, RR, rfl, hol, hrr, a, c, hl, ha, hp⟩ := hq; subst hol; obtain ⟨ra, rc, rfl, _⟩ := hrr.kept; have HL := z0j hl; have HA := z0j ha; have HRR := z0j hrr; clear hl ha hrr; simp only [z0f, z0e, Rb, Ib] at hp; replace hp := zju hp) | (obtain ⟨rfl, hp⟩ := hq; simp only [z0f, z0e] at hp)) | go_skip | ((first | ((refine zg _ rfl ?_); refine lZ hp rfl (by with_reducible first | exact zU | exact zar) ?_; clear hp; intro b w1 hp) | ((refine zh _ _ rfl ?_); refine lB hp rfl (za rfl) rfl ?_; clear hp; intro b w1 hp) | ((refine zf _ _ rfl ?_); first | refine lO hp rfl (za rfl) zaT aa5 ?_ | refine lA hp rfl (za rfl) Z8 aa5 ?_) | ((refine zd _ _ _ rfl ?_); (first | refine sO hp rfl (za rfl) zaT aa5 ?_ | refine sA hp rfl (za rfl) (za rfl) Z8 aa5 ?_ | refine sG hp rfl (za rfl) (za rfl) Z8 aa5 ?_); clear hp; intro w1 hp; simp only [spl, z0a, z0b] at hp) | ((refine zi _ _ _ rfl ?_); refine lS hp rfl (by intro w; go_simp; rfl) ?_; clear hp; intro b w1 hp; simp only [z0g, z0h, Nat.reduceAdd] at hp)); simp only [zc, zb, z0b, z0a]))
      refine ⟨rfl, ?_⟩; show za5 w0 br bi (Zx bs) L _ _; rw [HR.out]
      exact ⟨rfl, hp.kp⟩
     | some q5 =>
      obtain ⟨rs, b3⟩ := q5
      have H5 := z0j h5
      have HE3 : Hid (Zx bs = if stB ⟨x, none, rs, 0⟩ = true then some (⟨x, none, rs, 0⟩, b3) else none) := z0j (by rw [HE0.out, HE2.out, h5])
      clear h5
      go_enter Tryz.func98, Tryz.ntmps98
      go_wp2_with (first | (go_at_call 101; first | ((with_reducible refine (zcc br _ t b1 _ bs HT.out HL.out HBL.out hp HA.out).mono ?_); clear hp HL HA; rintro e w1 ⟨rfl, a, c, hl, ha, hp⟩; have HL := z0j hl; have HA := z0j ha; clear hl ha) | ((with_reducible refine (zaH br _ _ bs HT.out HL.out HBL.out hp HA.out).mono ?_); rintro e w1 ⟨⟨q, hq, rfl⟩, rfl⟩)) | (go_at_call 100; first | ((with_reducible refine (zff _ _).mono ?_); rintro e w' ⟨rfl, rfl⟩) | ((with_reducible refine (zb1 _ _ hq _).mono ?_); rintro e w' ⟨rfl, rfl⟩)) | ((refine Zl _ _ _ rfl ?_); refine ZE hp 9 57 5 _ rfl wy Tryz.underlying9 Tryz.underlying57 Tryz.underlying5 _ (za rfl) ?_; clear hp; intro ad cb w1 hcb had hp; rw [HTB.out] at had; rw [HSZ.out] at hcb ⊢; have HCB := z0j hcb; have HAD := z0j had; clear hcb had; simp only [zc, zb, z0b, z0a]) | (go_at_call 42; (with_reducible refine (zgh t ad cb HCB.out _ HAD.out).mono ?_); rintro e w1 hq; rw [HH.out] at hq; first | (obtain ⟨y, R, rfl, hy, ⟨RO, RF, M, rfl, hown⟩, hp2⟩ := hq; replace hp := zjE (hp.join hp2); have HY := z0j hy; have HW := z0j hown; clear hy hown hp2; obtain ⟨od, oa, os, oc, nx, t0, t1, t2, t3, fa, fs, fc⟩ := y; simp only [hvL]) | (obtain ⟨rfl, hb⟩ := hq; replace hp := hp.call hb; clear hb; simp only [hvL, zaY])) | (go_at_call 99; first | ((with_reducible refine (zgj od oa os oc nx t0 t1 t2 t3 fa fs fc _).mono ?_); rintro e w1 ⟨rfl, hb⟩; replace hp := hp.call hb; clear hb) | ((with_reducible refine (zgk _).mono ?_); rintro e w1 ⟨rfl, hb⟩; replace hp := hp.call hb; clear hb)) | (go_at_call 103; refine (Z3 br bi _ (K := [_, _]) (L := _) ⟨_, _, HL.out, HA.out, hp⟩).mono ?_; clear hp HL HA; rintro e w1 hq; rw [H4.out] at hq; (first | (obtain ⟨rfl, a, c, hl, ha, hp⟩ := hq; have HL := z0j hl; have HA := z0j ha; clear hl ha; simp only [z0f, z0e, Rb, Ib] at hp) | (obtain ⟨rfl, hp⟩ := hq; simp only [z0f, z0e] at hp))) | (go_at_call 102; have hst : ZZ w0 br bi _ [] _ _ := ZZ.front (K := [_, _]) (L := L ++ (RO ++ (RF ++ M))) ⟨_, _, HL.out, HA.out, hp⟩; (with_reducible refine (zjQ br bi k 4 HK1.out HK2.out _ hst).mono ?_); clear hst; clear hp HL HA; rintro e w1 hq; rw [H5.out] at hq; first | (obtain ⟨vo, RR, rfl, hol, hrr, a, c, hl, ha, hp⟩ := hq; subst hol; obtain ⟨ra, rc, rfl, _⟩ := hrr.kept; have HL := z0j hl; have HA := z0j ha; have HRR := z0j hrr; clear hl ha hrr; simp only [z0f, z0e, Rb, Ib] at hp; replace hp := zju hp) | (obtain ⟨rfl, hp⟩ := hq; simp only [z0f, z0e] at hp)) | go_skip | ((first | ((refine zg _ rfl ?_); refine lZ hp rfl (by with_reducible first | exact zU | exact zar) ?_; clear hp; intro b w1 hp) | ((refine zh _ _ rfl ?_); refine lB hp rfl (za rfl) rfl ?_; clear hp; intro b w1 hp) | ((refine zf _ _ rfl ?_); first | refine lO hp rfl (za rfl) zaT aa5 ?_ | refine lA hp rfl (za rfl) Z8 aa5 ?_) | ((refine zd _ _ _ rfl ?_); (first | refine sO hp rfl (za rfl) zaT aa5 ?_ | refine sA hp rfl (za rfl) (za rfl) Z8 aa5 ?_ | refine sG hp rfl (za rfl) (za rfl) Z8 aa5 ?_); clear hp; intro w1 hp; simp only [spl, z0a, z0b] at hp) | ((refine zi _ _ _ rfl ?_); refine lS hp rfl (by intro w; go_simp; rfl) ?_; clear hp; intro b w1 hp; simp only [z0g, z0h, Nat.reduceAdd] at hp)); simp only [zc, zb, z0b, z0a]))
      have hsm : Sv.Sm ⟨⟨od, oa, os, oc, nx, t0, t1, t2, t3, fa, fs, fc⟩, ra, rs, rc⟩ ⟨x, none, rs, 0⟩ := ⟨HY.out, rfl⟩
      have HSM := z0j hsm
      have HSS : Hid (Sv.Small ⟨⟨od, oa, os, oc, nx, t0, t1, t2, t3, fa, fs, fc⟩, ra, rs, rc⟩) := z0j ⟨HXR.out.small.sm HY.out.symm, HK2.out⟩
      have HIS : Hid (zaG (RR ++ (RO ++ (RF ++ M))) fun w => Sv.Is w ⟨⟨od, oa, os, oc, nx, t0, t1, t2, t3, fa, fs, fc⟩, ra, rs, rc⟩) := z0j ((HRR.out.keptS.and HW.out.kept).mono (fun _ h => h) (fun w ⟨h1, h2⟩ => ⟨h2, h1⟩))
      obtain ⟨b, hb⟩ : ∃ b, stB ⟨⟨od, oa, os, oc, nx, t0, t1, t2, t3, fa, fs, fc⟩, ra, rs, rc⟩ = b := ⟨_, rfl⟩
      have HB := z0j hb
      have HE4 : Hid (Zx bs = if b = true then some (⟨x, none, rs, 0⟩, b3) else none) := z0j (by rw [HE3.out, ← zgL hsm, hb])
      clear hsm hb
      cases b with
      | false =>
       have HR : Hid (Zx bs = none) := z0j (by rw [HE4.out, if_neg (by decide)])
       go_wp2_with (first | (go_at_call 35; (with_reducible refine (zfD od oa os oc nx t0 t1 t2 t3 fa fs fc ra rs rc _ HB.out HSS.out _ (HIS.out.at hp (fun p hm => by simp only [List.mem_append, List.mem_cons] at hm ⊢; rcases hm with hm | hm | hm | hm <;> simp [hm]))).mono ?_); rintro e w1 ⟨rfl, hb⟩; replace hp := hp.call hb; clear hb; simp only [znm, if_true, Bool.false_eq_true, if_false]) | (go_at_call 105; first | ((with_reducible refine (zbF _).mono ?_); rintro e w' ⟨rfl, rfl⟩) | ((with_reducible refine (ZR _).mono ?_); rintro e w' ⟨rfl, rfl⟩)) | go_skip | ((first | ((refine zg _ rfl ?_); refine lZ hp rfl (by with_reducible first | exact zU | exact zar) ?_; clear hp; intro b w1 hp) | ((refine zh _ _ rfl ?_); refine lB hp rfl (za rfl) rfl ?_; clear hp; intro b w1 hp) | ((refine zf _ _ rfl ?_); first | refine lO hp rfl (za rfl) zaT aa5 ?_ | refine lA hp rfl (za rfl) Z8 aa5 ?_) | ((refine zd _ _ _ rfl ?_); (first | refine sO hp rfl (za rfl) zaT aa5 ?_ | refine sA hp rfl (za rfl) (za rfl) Z8 aa5 ?_ | refine sG hp rfl (za rfl) (za rfl) Z8 aa5 ?_); clear hp; intro w1 hp; simp only [spl, z0a, z0b] at hp) | ((refine zi _ _ _ rfl ?_); refine lS hp rfl (by intro w; go_simp; rfl) ?_; clear hp; intro b w1 hp; simp only [z0g, z0h, Nat.reduceAdd] at hp)); simp only [zc, zb, z0b, z0a]))
       refine ⟨rfl, ?_⟩; show za5 w0 br bi (Zx bs) L _ _; rw [HR.out]
       exact ⟨rfl, hp.kp⟩
      | true =>
       have HR : Hid (Zx bs = some (⟨x, none, rs, 0⟩, b3)) := z0j (by rw [HE4.out, if_pos rfl])
       go_wp2_with (first | (go_at_call 35; (with_reducible refine (zfD od oa os oc nx t0 t1 t2 t3 fa fs fc ra rs rc _ HB.out HSS.out _ (HIS.out.at hp (fun p hm => by simp only [List.mem_append, List.mem_cons] at hm ⊢; rcases hm with hm | hm | hm | hm <;> simp [hm]))).mono ?_); rintro e w1 ⟨rfl, hb⟩; replace hp := hp.call hb; clear hb; simp only [znm, if_true, Bool.false_eq_true, if_false]) | (go_at_call 105; first | ((with_reducible refine (zbF _).mono ?_); rintro e w' ⟨rfl, rfl⟩) | ((with_reducible refine (ZR _).mono ?_); rintro e w' ⟨rfl, rfl⟩)) | go_skip | ((first | ((refine zg _ rfl ?_); refine lZ hp rfl (by with_reducible first | exact zU | exact zar) ?_; clear hp; intro b w1 hp) | ((refine zh _ _ rfl ?_); refine lB hp rfl (za rfl) rfl ?_; clear hp; intro b w1 hp) | ((refine zf _ _ rfl ?_); first | refine lO hp rfl (za rfl) zaT aa5 ?_ | refine lA hp rfl (za rfl) Z8 aa5 ?_) | ((refine zd _ _ _ rfl ?_); (first | refine sO hp rfl (za rfl) zaT aa5 ?_ | refine sA hp rfl (za rfl) (za rfl) Z8 aa5 ?_ | refine sG hp rfl (za rfl) (za rfl) Z8 aa5 ?_); clear hp; intro w1 hp; simp only [spl, z0a, z0b] at hp) | ((refine zi _ _ _ rfl ?_); refine lS hp rfl (by intro w; go_simp; rfl) ?_; clear hp; intro b w1 hp; simp only [z0g, z0h, Nat.reduceAdd] at hp)); simp only [zc, zb, z0b, z0a]))
       refine bodyPost_ret (ZI (rs := [.cell 2 50]) Tryz.results98 (.cell rfl (hp.loadAgg zaR at1 0 _ (by rfl) (by rfl)) .nil)) rfl ?_
       show za5 w0 br bi (Zx bs) L _ _
       rw [HR.out]
       exact ⟨⟨⟨od, oa, os, oc, nx, t0, t1, t2, t3, fa, fs, fc⟩, ra, rs, rc⟩, RR, RO, RF, M, rfl, HSM.out, HRR.out, HW.out, ZZ.mk7 HL.out HA.out hp⟩
theorem zdb {B : Nat} {w0 w : World} {r i x y z : Blk} {RR RO RF M : List Blk} (hp : Hp B w0 w (r :: i :: (RR ++ (RO ++ (RF ++ (M ++ [x, y, z])))))) : Hp B w0 w (r :: i :: x :: y :: z :: (RR ++ (RO ++ (RF ++ M)))) := hp.kp
theorem zmx (p q r : Addr) (w : World) : CallsD Tryz.prog 171 #[.pointer (some p), .pointer (some q), .pointer (some r)] .returning w fun e u' w' => e = .returned (.tuple #[]) ∧ u' = .returning ∧ w' = w := by
 refine callsD_of_wpS Tryz.func171 rfl fun c₀ cs hu => ?_
 apply wpS_seq
 apply wpS_region
 simp [wpOpsS, go_sem, recoverD, hu, Tryz.ntmps171, Exit.thenS]
 refine wpS_of_wp ?_
 go_wp2
 cases c₀
 simp_all [bodyPostS, results, Tryz.results171]
theorem zlO (bn bx be : Nat) (y : Sv) {B : Nat} {w0 w : World} {L : List Blk} (hp : Hp B w0 w (⟨bn, [.int .i64 0, .slice none 0 0, .int .i64 0, .int .i64 0, .int .i64 0, .int .i64 0, .int .i64 0, .slice none 0 0, .slice none 0 0], 50, 9⟩ :: ⟨be, [.int .i64 0], 37, 1⟩ :: ⟨bx, svL y, 50, 9⟩ :: L)) :
  CallsD Tryz.prog 171 #[.pointer (some ⟨bn, 0, none⟩), .pointer (some ⟨bx, 0, none⟩), .pointer (some ⟨be, 0, none⟩)] (.panicking zfB) w fun e u' w' => e = .returned (.tuple #[]) ∧ u' = .panicking [{ v := .iface 206 (.agg #[]), recovered := true }] ∧ Hp B w0 w' (⟨bn, [.int .i64 0, .slice none 0 0, .int .i64 0, .int .i64 0, .int .i64 0, .int .i64 0, .int .i64 0, .slice none 0 0, .slice none 0 0], 50, 9⟩ :: ⟨be, [.int .i64 60], 37, 1⟩ :: ⟨bx, [.int .i64 0, .slice none 0 0, .int .i64 0, .int .i64 0, .int .i64 0, .int .i64 0, .int .i64 0, .slice none 0 0, .slice none 0 0], 50, 9⟩ :: L) := by
 obtain ⟨⟨od, oa, os, oc, nx, t0, t1, t2, t3, fa, fs, fc⟩, ra, rs, rc⟩ := y
 simp only [svL, hvL, z0f, z0e] at hp
 refine callsD_of_wpS Tryz.func171 rfl fun c₀ cs hu => ?_
 apply wpS_seq
 apply wpS_region
 simp [wpOpsS, go_sem, recoverD, hu, zfB, Tryz.ntmps171, Exit.thenS]
 refine wpS_of_wp ?_
 change Code.wp Tryz.prog _ _ ⟨#[.pointer (some ⟨bn, 0, none⟩), .pointer (some ⟨bx, 0, none⟩), .pointer (some ⟨be, 0, none⟩), .iface 206 (.agg #[]), .iface 206 (.agg #[]), undef, undef, undef], []⟩ w
 go_wp2_with (first | go_skip | ((first | ((refine zg _ rfl ?_); refine lZ hp rfl (by with_reducible first | exact zU | exact zar) ?_; clear hp; intro b w1 hp) | ((refine zh _ _ rfl ?_); refine lB hp rfl (za rfl) rfl ?_; clear hp; intro b w1 hp) | ((refine zf _ _ rfl ?_); first | refine lO hp rfl (za rfl) zaT aa5 ?_ | refine lA hp rfl (za rfl) Z8 aa5 ?_) | ((refine zd _ _ _ rfl ?_); (first | refine sO hp rfl (za rfl) zaT aa5 ?_ | refine sA hp rfl (za rfl) (za rfl) Z8 aa5 ?_ | refine sG hp rfl (za rfl) (za rfl) Z8 aa5 ?_); clear hp; intro w1 hp; simp only [spl, z0a, z0b] at hp) | ((refine zi _ _ _ rfl ?_); refine lS hp rfl (by intro w; go_simp; rfl) ?_; clear hp; intro b w1 hp; simp only [z0g, z0h, Nat.reduceAdd] at hp)); simp only [zc, zb, z0b, z0a]))
 simp [bodyPostS, results, Tryz.results171]
 exact hp
theorem zh2 (bs : List Nat) (a : Option Addr) (c : Nat) (hnc : bs.length ≤ c) (hbl : bs.length ≤ 1000000000) (w : World) (ha : zaw w a bs) :
  Calls Tryz.prog 97 #[.slice a bs.length c, .func (.func 98) #[] #[]] w (zfx w (Zz bs)) := by
 have HA := z0j ha
 have HNC := z0j hnc
 have hp := Hp.start w
 have HBL := z0j hbl
 clear ha hnc hbl
 cases hr : Zx bs with
 | none =>
  have HE : Hid (Zz bs = none) := z0j (by unfold Zz zbC; rw [hr])
  have HR := z0j hr
  clear hr
  go_enter_defers Tryz.func97, Tryz.ntmps97
  go_wp2_with (first | (go_at_call 172; (with_reducible refine (zdS _ _ _ _).mono ?_); rintro e w1 ⟨br, rfl, hp2⟩; replace hp := zdW (hp.join hp2); clear hp2) | (go_at_call 98; have hst : ZZ w _ _ bs [] _ _ := ⟨a, c, HNC.out, HA.out, zb6 hp⟩; (with_reducible refine (zjC _ _ bs HBL.out hst).mono ?_); clear hst; clear hp; rintro e w1 hq; rw [HR.out] at hq; first | (obtain ⟨y, RR, RO, RF, M, rfl, hy, hrr, hown, a2, c2, hl2, ha2, hp⟩ := hq; have HY := z0j hy; have HW := z0j hown; have HWR := z0j hrr; clear hy hown hl2 ha2 hrr; obtain ⟨⟨od, oa, os, oc, nx, t0, t1, t2, t3, fa, fs, fc⟩, ra, rs, rc⟩ := y; simp only [z0e, Rb, Ib] at hp; simp only [svL, hvL, z0f, z0e]; replace hp := zdb hp) | obtain ⟨rfl, hp⟩ := hq) | go_skip | ((first | ((refine zg _ rfl ?_); refine lZ hp rfl (by with_reducible first | exact zU | exact zar) ?_; clear hp; intro b w1 hp) | ((refine zh _ _ rfl ?_); refine lB hp rfl (za rfl) rfl ?_; clear hp; intro b w1 hp) | ((refine zf _ _ rfl ?_); first | refine lO hp rfl (za rfl) zaT aa5 ?_ | refine lA hp rfl (za rfl) Z8 aa5 ?_) | ((refine zd _ _ _ rfl ?_); (first | refine sO hp rfl (za rfl) zaT aa5 ?_ | refine sA hp rfl (za rfl) (za rfl) Z8 aa5 ?_ | refine sG hp rfl (za rfl) (za rfl) Z8 aa5 ?_); clear hp; intro w1 hp; simp only [spl, z0a, z0b] at hp) | ((refine zi _ _ _ rfl ?_); refine lS hp rfl (by intro w; go_simp; rfl) ?_; clear hp; intro b w1 hp; simp only [z0g, z0h, Nat.reduceAdd] at hp)); simp only [zc, zb, z0b, z0a]))
  obtain ⟨b2, rfl⟩ := hp.id0; obtain ⟨b3, rfl⟩ := hp.id1; obtain ⟨b4, rfl⟩ := hp.id2; refine leaves_cons (f := 171) (args := #[.pointer (some ⟨b2, 0, none⟩), .pointer (some ⟨b4, 0, none⟩), .pointer (some ⟨b3, 0, none⟩)]) (by simp) (by simp [go_sem]) ?_
  refine (zlO b2 b4 b3 zh3 hp).mono ?_
  clear hp
  rintro e u' w'' ⟨rfl, rfl, hp⟩
  refine ⟨_, zl (rs := [.cell 4 50, .cell 5 37]) Tryz.results97 (.cell rfl (hp.loadAgg zaR at2 0 _ (by rfl) (by rfl)) (.cell rfl (hp.loadOne Ze at1 0 _ (by rfl)) .nil)), ?_⟩
  rw [HE.out]
  exact ⟨rfl, hp.below⟩
 | some p =>
  obtain ⟨x, r⟩ := p
  have HR := z0j hr
  by_cases h0 : r.length = 0
  ·have HE : Hid (Zz bs = some x) := z0j (by unfold Zz zbC; rw [hr]; simp only; rw [if_pos h0])
   have e0 : ((r.length : Int) == 0) = true := by simp [h0]
   clear hr h0
   go_enter_defers Tryz.func97, Tryz.ntmps97
   go_wp2_with (first | (go_at_call 172; (with_reducible refine (zdS _ _ _ _).mono ?_); rintro e w1 ⟨br, rfl, hp2⟩; replace hp := zdW (hp.join hp2); clear hp2) | (go_at_call 98; have hst : ZZ w _ _ bs [] _ _ := ⟨a, c, HNC.out, HA.out, zb6 hp⟩; (with_reducible refine (zjC _ _ bs HBL.out hst).mono ?_); clear hst; clear hp; rintro e w1 hq; rw [HR.out] at hq; first | (obtain ⟨y, RR, RO, RF, M, rfl, hy, hrr, hown, a2, c2, hl2, ha2, hp⟩ := hq; have HY := z0j hy; have HW := z0j hown; have HWR := z0j hrr; clear hy hown hl2 ha2 hrr; obtain ⟨⟨od, oa, os, oc, nx, t0, t1, t2, t3, fa, fs, fc⟩, ra, rs, rc⟩ := y; simp only [z0e, Rb, Ib] at hp; simp only [svL, hvL, z0f, z0e]; replace hp := zdb hp) | obtain ⟨rfl, hp⟩ := hq) | (go_at_call 173; (with_reducible refine (zlc _ _ _ _ hp).mono ?_); rintro e w' ⟨rfl, rfl⟩) | (go_at_call 105; first | ((with_reducible refine (zbF _).mono ?_); rintro e w' ⟨rfl, rfl⟩) | ((with_reducible refine (ZR _).mono ?_); rintro e w' ⟨rfl, rfl⟩)) | go_skip | ((first | ((refine zg _ rfl ?_); refine lZ hp rfl (by with_reducible first | exact zU | exact zar) ?_; clear hp; intro b w1 hp) | ((refine zh _ _ rfl ?_); refine lB hp rfl (za rfl) rfl ?_; clear hp; intro b w1 hp) | ((refine zf _ _ rfl ?_); first | refine lO hp rfl (za rfl) zaT aa5 ?_ | refine lA hp rfl (za rfl) Z8 aa5 ?_) | ((refine zd _ _ _ rfl ?_); (first | refine sO hp rfl (za rfl) zaT aa5 ?_ | refine sA hp rfl (za rfl) (za rfl) Z8 aa5 ?_ | refine sG hp rfl (za rfl) (za rfl) Z8 aa5 ?_); clear hp; intro w1 hp; simp only [spl, z0a, z0b] at hp) | ((refine zi _ _ _ rfl ?_); refine lS hp rfl (by intro w; go_simp; rfl) ?_; clear hp; intro b w1 hp; simp only [z0g, z0h, Nat.reduceAdd] at hp)); simp only [zc, zb, z0b, z0a]))
   replace hp := hp.tail.tail
   obtain ⟨b2, rfl⟩ := hp.id0; obtain ⟨b3, rfl⟩ := hp.id1; obtain ⟨b4, rfl⟩ := hp.id2; refine leaves_cons (f := 171) (args := #[.pointer (some ⟨b2, 0, none⟩), .pointer (some ⟨b4, 0, none⟩), .pointer (some ⟨b3, 0, none⟩)]) (by simp) (by simp [go_sem]) ?_
   refine (zmx _ _ _ _).mono ?_
   rintro e u' w'' ⟨rfl, rfl, rfl⟩
   refine ⟨_, zl (rs := [.cell 4 50, .cell 5 37]) Tryz.results97 (.cell rfl (hp.loadAgg zaR at2 0 _ (by rfl) (by rfl)) (.cell rfl (hp.loadOne Ze at1 0 _ (by rfl)) .nil)), ?_⟩
   rw [HE.out]
   exact ⟨⟨⟨od, oa, os, oc, nx, t0, t1, t2, t3, fa, fs, fc⟩, ra, rs, rc⟩, _, rfl, HY.out, ⟨RR, _, rfl, HWR.out, RO, RF, M, rfl, HW.out⟩, hp.tail.tail.tail⟩
  ·have HE : Hid (Zz bs = none) := z0j (by unfold Zz zbC; rw [hr]; simp only; rw [if_neg h0])
   have e0 : ((r.length : Int) == 0) = false := beq_eq_false_iff_ne.2 (by omega)
   clear hr h0
   go_enter_defers Tryz.func97, Tryz.ntmps97
   go_wp2_with (first | (go_at_call 172; (with_reducible refine (zdS _ _ _ _).mono ?_); rintro e w1 ⟨br, rfl, hp2⟩; replace hp := zdW (hp.join hp2); clear hp2) | (go_at_call 98; have hst : ZZ w _ _ bs [] _ _ := ⟨a, c, HNC.out, HA.out, zb6 hp⟩; (with_reducible refine (zjC _ _ bs HBL.out hst).mono ?_); clear hst; clear hp; rintro e w1 hq; rw [HR.out] at hq; first | (obtain ⟨y, RR, RO, RF, M, rfl, hy, hrr, hown, a2, c2, hl2, ha2, hp⟩ := hq; have HY := z0j hy; have HW := z0j hown; have HWR := z0j hrr; clear hy hown hl2 ha2 hrr; obtain ⟨⟨od, oa, os, oc, nx, t0, t1, t2, t3, fa, fs, fc⟩, ra, rs, rc⟩ := y; simp only [z0e, Rb, Ib] at hp; simp only [svL, hvL, z0f, z0e]; replace hp := zdb hp) | obtain ⟨rfl, hp⟩ := hq) | (go_at_call 173; (with_reducible refine (zlc _ _ _ _ hp).mono ?_); rintro e w' ⟨rfl, rfl⟩) | (go_at_call 105; first | ((with_reducible refine (zbF _).mono ?_); rintro e w' ⟨rfl, rfl⟩) | ((with_reducible refine (ZR _).mono ?_); rintro e w' ⟨rfl, rfl⟩)) | go_skip | ((first | ((refine zg _ rfl ?_); refine lZ hp rfl (by with_reducible first | exact zU | exact zar) ?_; clear hp; intro b w1 hp) | ((refine zh _ _ rfl ?_); refine lB hp rfl (za rfl) rfl ?_; clear hp; intro b w1 hp) | ((refine zf _ _ rfl ?_); first | refine lO hp rfl (za rfl) zaT aa5 ?_ | refine lA hp rfl (za rfl) Z8 aa5 ?_) | ((refine zd _ _ _ rfl ?_); (first | refine sO hp rfl (za rfl) zaT aa5 ?_ | refine sA hp rfl (za rfl) (za rfl) Z8 aa5 ?_ | refine sG hp rfl (za rfl) (za rfl) Z8 aa5 ?_); clear hp; intro w1 hp; simp only [spl, z0a, z0b] at hp) | ((refine zi _ _ _ rfl ?_); refine lS hp rfl (by intro w; go_simp; rfl) ?_; clear hp; intro b w1 hp; simp only [z0g, z0h, Nat.reduceAdd] at hp)); simp only [zc, zb, z0b, z0a]))
   replace hp := hp.tail.tail
   obtain ⟨b2, rfl⟩ := hp.id0; obtain ⟨b3, rfl⟩ := hp.id1; obtain ⟨b4, rfl⟩ := hp.id2; refine leaves_cons (f := 171) (args := #[.pointer (some ⟨b2, 0, none⟩), .pointer (some ⟨b4, 0, none⟩), .pointer (some ⟨b3, 0, none⟩)]) (by simp) (by simp [go_sem]) ?_
   refine (zlO b2 b4 b3 ⟨⟨od, oa, os, oc, nx, t0, t1, t2, t3, fa, fs, fc⟩, ra, rs, rc⟩ hp).mono ?_
   clear hp
   rintro e u' w'' ⟨rfl, rfl, hp⟩
   refine ⟨_, zl (rs := [.cell 4 50, .cell 5 37]) Tryz.results97 (.cell rfl (hp.loadAgg zaR at2 0 _ (by rfl) (by rfl)) (.cell rfl (hp.loadOne Ze at1 0 _ (by rfl)) .nil)), ?_⟩
   rw [HE.out]
   exact ⟨rfl, hp.below⟩
theorem zlW (bs : List Nat) (a : Option Addr) (c : Nat) (hnc : bs.length ≤ c) (hbl : bs.length ≤ 1000000000) (w : World) (ha : zaw w a bs) :
  Calls Tryz.prog 37 #[.slice a bs.length c] w (zfx w (Zz bs)) := by
 have HA := z0j ha
 have HNC := z0j hnc
 have hp := Hp.start w
 have HBL := z0j hbl
 clear ha hnc hbl
 cases hr : Zz bs with
 | none =>
  have HR := z0j hr
  clear hr
  go_enter Tryz.func37, Tryz.ntmps37
  go_wp2_with (first | (go_at_call 97; (with_reducible refine (zh2 bs a c HNC.out HBL.out _ (HA.out.below hp.below)).mono ?_); rintro e w1 hq; rw [HR.out] at hq; first | (obtain ⟨y, R, rfl, hy, hown, hp2⟩ := hq; replace hp := hp.join hp2; have HY := z0j hy; have HW := z0j hown; clear hy hown hp2; obtain ⟨⟨od, oa, os, oc, nx, t0, t1, t2, t3, fa, fs, fc⟩, ra, rs, rc⟩ := y; simp only [svL, hvL, z0f, z0e] at hp ⊢) | (obtain ⟨rfl, hb⟩ := hq; replace hp := hp.call hb; clear hb; simp only [svL, hvL, zh3, zaY, z0f, z0e])) | go_skip | ((first | ((refine zg _ rfl ?_); refine lZ hp rfl (by with_reducible first | exact zU | exact zar) ?_; clear hp; intro b w1 hp) | ((refine zh _ _ rfl ?_); refine lB hp rfl (za rfl) rfl ?_; clear hp; intro b w1 hp) | ((refine zf _ _ rfl ?_); first | refine lO hp rfl (za rfl) zaT aa5 ?_ | refine lA hp rfl (za rfl) Z8 aa5 ?_) | ((refine zd _ _ _ rfl ?_); (first | refine sO hp rfl (za rfl) zaT aa5 ?_ | refine sA hp rfl (za rfl) (za rfl) Z8 aa5 ?_ | refine sG hp rfl (za rfl) (za rfl) Z8 aa5 ?_); clear hp; intro w1 hp; simp only [spl, z0a, z0b] at hp) | ((refine zi _ _ _ rfl ?_); refine lS hp rfl (by intro w; go_simp; rfl) ?_; clear hp; intro b w1 hp; simp only [z0g, z0h, Nat.reduceAdd] at hp)); simp only [zc, zb, z0b, z0a]))
  exact bodyPost_ret (zl (rs := [.cell 2 50, .tmp 3]) Tryz.results37 (.cell rfl (hp.loadAgg zaR at0 0 _ (by rfl) (by rfl)) (.tmp rfl .nil))) rfl ⟨rfl, hp.below⟩
 | some x =>
  have HR := z0j hr
  clear hr
  go_enter Tryz.func37, Tryz.ntmps37
  go_wp2_with (first | (go_at_call 97; (with_reducible refine (zh2 bs a c HNC.out HBL.out _ (HA.out.below hp.below)).mono ?_); rintro e w1 hq; rw [HR.out] at hq; first | (obtain ⟨y, R, rfl, hy, hown, hp2⟩ := hq; replace hp := hp.join hp2; have HY := z0j hy; have HW := z0j hown; clear hy hown hp2; obtain ⟨⟨od, oa, os, oc, nx, t0, t1, t2, t3, fa, fs, fc⟩, ra, rs, rc⟩ := y; simp only [svL, hvL, z0f, z0e] at hp ⊢) | (obtain ⟨rfl, hb⟩ := hq; replace hp := hp.call hb; clear hb; simp only [svL, hvL, zh3, zaY, z0f, z0e])) | go_skip | ((first | ((refine zg _ rfl ?_); refine lZ hp rfl (by with_reducible first | exact zU | exact zar) ?_; clear hp; intro b w1 hp) | ((refine zh _ _ rfl ?_); refine lB hp rfl (za rfl) rfl ?_; clear hp; intro b w1 hp) | ((refine zf _ _ rfl ?_); first | refine lO hp rfl (za rfl) zaT aa5 ?_ | refine lA hp rfl (za rfl) Z8 aa5 ?_) | ((refine zd _ _ _ rfl ?_); (first | refine sO hp rfl (za rfl) zaT aa5 ?_ | refine sA hp rfl (za rfl) (za rfl) Z8 aa5 ?_ | refine sG hp rfl (za rfl) (za rfl) Z8 aa5 ?_); clear hp; intro w1 hp; simp only [spl, z0a, z0b] at hp) | ((refine zi _ _ _ rfl ?_); refine lS hp rfl (by intro w; go_simp; rfl) ?_; clear hp; intro b w1 hp; simp only [z0g, z0h, Nat.reduceAdd] at hp)); simp only [zc, zb, z0b, z0a]))
  exact bodyPost_ret (zl (rs := [.cell 2 50, .tmp 3]) Tryz.results37 (.cell rfl (hp.loadAgg zaR at0 0 _ (by rfl) (by rfl)) (.tmp rfl .nil))) rfl ⟨⟨⟨od, oa, os, oc, nx, t0, t1, t2, t3, fa, fs, fc⟩, ra, rs, rc⟩, R, rfl, HY.out, HW.out, hp.tail⟩
end Go.Proofs.YtaafajaadfgaoaaGreat
