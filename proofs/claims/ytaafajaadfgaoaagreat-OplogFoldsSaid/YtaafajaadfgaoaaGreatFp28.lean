import Derived.Test.YtaafajaadfgaoaaGreatFp26
import Derived.Test.YtaafajaadfgaoaaGreatFp27
set_option linter.unusedSimpArgs false
set_option linter.unusedVariables false
set_option maxRecDepth 100000
set_option maxHeartbeats 60000000
namespace Go.Proofs.YtaafajaadfgaoaaGreat
open Go.RowKit
theorem zcL {ty : TypeId} {l : List Value} {n : Nat} (h : zcW Tryz.prog ty = some (l, n) := by with_reducible first | exact zU | exact ZA | exact ZV) : zcW Tryz.prog ty = some (l, n) := h
theorem ZS {ty : TypeId} {k : Nat} (h : zac Tryz.prog ty k = true := by with_reducible first | exact zaR | exact zN | exact zY | exact Zj) : zac Tryz.prog ty k = true := h
theorem zas {ty : TypeId} (h : zB Tryz.prog ty = true := by with_reducible first | exact zq | exact zA | exact za9 | exact zS | exact Zo | exact Ze) : zB Tryz.prog ty = true := h
theorem zmT {st st1 st2 st3 st4 : Option (List Nat)} {c s e v : Int} (h1 : zaQ nR st c st1) (h2 : zaQ nR st1 s st2) (h3 : zaQ nR st2 e st3) (h4 : zaQ iR st3 v st4) : zaQ zf1 st ⟨c, s, e, v⟩ st4 := by
 cases st with
 | none =>
  obtain rfl := h1.none_
  obtain rfl := h2.none_
  obtain rfl := h3.none_
  obtain rfl := h4.none_
  rfl
 | some b =>
  unfold zaQ
  rw [show (some b).bind zf1 = zf1 b from rfl]
  unfold zf1
  cases e1 : nR b with
  | none =>
   obtain rfl := h1.bad e1
   obtain rfl := h2.none_
   obtain rfl := h3.none_
   obtain rfl := h4.none_
   rfl
  | some p1 =>
   obtain ⟨x1, b1⟩ := p1
   obtain ⟨rfl, rfl⟩ := h1.good e1
   simp only
   cases e2 : nR b1 with
   | none =>
    obtain rfl := h2.bad e2
    obtain rfl := h3.none_
    obtain rfl := h4.none_
    rfl
   | some p2 =>
    obtain ⟨x2, b2⟩ := p2
    obtain ⟨rfl, rfl⟩ := h2.good e2
    simp only
    cases e3 : nR b2 with
    | none =>
     obtain rfl := h3.bad e3
     obtain rfl := h4.none_
     rfl
    | some p3 =>
     obtain ⟨x3, b3⟩ := p3
     obtain ⟨rfl, rfl⟩ := h3.good e3
     simp only
     cases e4 : iR b3 with
     | none =>
      obtain rfl := h4.bad e4
      rfl
     | some p4 =>
      obtain ⟨x4, b4⟩ := p4
      obtain ⟨rfl, rfl⟩ := h4.good e4
      exact ⟨rfl, rfl⟩
theorem zbA {bs : List Nat} (h : Zx bs = none) : Zz bs = none := by unfold Zz zbC; rw [h]
theorem znS {bs t b1 : List Nat} {x : Hv} {st1 st2 : Option (List Nat)} {kn q : Nat} {rs : List Rw} (ht : zcV bs = some (t, b1)) (hh : Z2 t = some x) (h1 : zaQ nR (some b1) (kn : Int) st1) (h2 : zaQ (zal zf1 q) st1 rs st2) (hq : q ≤ kn) :
  (st2 = none → Zz bs = none) ∧ (4 < kn → Zz bs = none) ∧ (∀ b, st2 = some b → q = kn → kn ≤ 4 → Zx bs = if stB ⟨x, none, rs, 0⟩ = true then some (⟨x, none, rs, 0⟩, b) else none) := by
 have h0 : Zx bs = zbR x b1 := by unfold Zx; rw [ht]; simp only; rw [hh]
 cases e1 : nR b1 with
 | none =>
  obtain rfl := h1.bad e1
  obtain rfl := h2.none_
  have hn : Zz bs = none := zbA (by rw [h0]; unfold zbR; rw [e1])
  exact ⟨fun _ => hn, fun _ => hn, fun b hb => by cases hb⟩
 | some p1 =>
  obtain ⟨x1, b2⟩ := p1
  obtain ⟨e, rfl⟩ := h1.good e1
  subst e
  have hr : Zx bs = if (4 : Int) < (kn : Int) then none else match zal zf1 kn b2 with | none => none | some (rs, b3) => if stB ⟨x, none, rs, 0⟩ = true then some (⟨x, none, rs, 0⟩, b3) else none := by
   rw [h0]; unfold zbR; rw [e1]; simp only [Int.toNat_natCast]; rfl
  have h4 : 4 < kn → Zz bs = none := fun h => zbA (by rw [hr, if_pos (by omega)])
  cases e2 : zal zf1 q b2 with
  | none =>
   obtain rfl := h2.bad e2
   have hn : Zz bs = none := zbA (by rw [hr, zeL e2 kn hq]; split <;> rfl)
   exact ⟨fun _ => hn, fun _ => hn, fun b hb => by cases hb⟩
  | some p2 =>
   obtain ⟨rs0, b3⟩ := p2
   obtain ⟨rfl, rfl⟩ := h2.good e2
   refine ⟨fun h => (by cases h), h4, fun b hb hqk h5 => ?_⟩
   injection hb with hb
   subst hb hqk
   rw [hr, if_neg (by omega), e2]
theorem ziJ {bs b : List Nat} {x : Sv} (h : Zx bs = if stB x = true then some (x, b) else none) : (b.length ≠ 0 → Zz bs = none) ∧ (b.length = 0 → Zz bs = if stB x = true then some x else none) := by
 unfold Zz zbC
 rw [h]
 refine ⟨fun h0 => ?_, fun h0 => ?_⟩
 ·split
  ·rename_i x r hx
   split at hx
   ·injection hx with hx; injection hx with _ hx
    subst hx
    rw [if_neg h0]
   ·cases hx
  ·rfl
 ·split
  ·rename_i x r hx
   split at hx
   ·rename_i hb
    injection hx with hx; injection hx with hx1 hx2
    subst hx1 hx2
    rw [if_pos h0, if_pos hb]
   ·cases hx
  ·rename_i hx
   split at hx
   ·cases hx
   ·rename_i hb
    rw [if_neg hb]
theorem zgg (bs : List Nat) (hr : Z2 bs = none) (a : Option Addr) (n c : Nat) (hn : bs.length = n) (hnc : n ≤ c) (w : World) (ha : zaw w a bs) : Calls Tryz.prog 43 #[.slice a n c] w fun e w' => e = .returned (.tuple #[.agg #[.int .i64 0, .slice none 0 0, .int .i64 0, .int .i64 0, .int .i64 0, .int .i64 0, .int .i64 0, .slice none 0 0], .int .i64 60]) ∧ Below w.heap.size w w' := by
 subst hn
 refine (zlV bs a c hnc w ha).mono fun e w' h => ?_
 rw [hr] at h
 exact h
theorem zij (bs : List Nat) (x : Hv) (hr : Z2 bs = some x) (a : Option Addr) (n c : Nat) (hn : bs.length = n) (hnc : n ≤ c) (w : World) (ha : zaw w a bs) : Calls Tryz.prog 43 #[.slice a n c] w fun e w' => ∃ od oa os oc nx t0 t1 t2 t3 fa fs fc R, e = .returned (.tuple #[.agg #[.int .i64 od, .slice oa (List.length os) oc, .int .i64 nx, .int .i64 t0, .int .i64 t1, .int .i64 t2, .int .i64 t3, .slice fa (List.length fs) fc], .int .i64 0]) ∧ Hv.Sm ⟨od, oa, os, oc, nx, t0, t1, t2, t3, fa, fs, fc⟩ x ∧ HvO ⟨od, oa, os, oc, nx, t0, t1, t2, t3, fa, fs, fc⟩ R ∧ nx ≤ 9223372036854775807 ∧ Hp w.heap.size w w' R := by
 subst hn
 refine (zlV bs a c hnc w ha).mono fun e w' h => ?_
 rw [hr] at h
 obtain ⟨y, R, h1, h2, h3, h4⟩ := h
 obtain ⟨od, oa, os, oc, nx, t0, t1, t2, t3, fa, fs, fc⟩ := y
 have hx := (zc6 hr).hi
 have hn : nx = x.nx := h2.nx
 exact ⟨od, oa, os, oc, nx, t0, t1, t2, t3, fa, fs, fc, R, h1, h2, h3, by omega, h4⟩
theorem zlX (bs0 : List Nat) (a0 : Option Addr) (c0 : Nat) (hnc0 : bs0.length ≤ c0) (hbl : bs0.length ≤ 1000000000) (w : World) (ha0 : zaw w a0 bs0) :
  Calls Tryz.prog 44 #[.slice a0 bs0.length c0] w (zfx w (Zz bs0)) := by
 obtain ⟨i0, hi0, hz0, hz1, hz2⟩ := info_parts zjz
 have hp := Hp.start w
 have HA := z0j ha0
 clear ha0
 cases ht : zcV bs0 with
 | none =>
  have HT := z0j ht
  have HE : Hid (Zz bs0 = none) := z0j (zbA (by unfold Zx; rw [ht]))
  have HGN : Hid (Z2 (zbG ⟨#[]⟩) = none) := z0j rfl
  have HGL : Hid ((zbG ⟨#[]⟩).length = 0) := z0j rfl
  clear ht
  go_enter Tryz.func44, Tryz.ntmps44
  go_wp2_with (first | (go_at_call 117; (with_reducible refine (zj6 bs0 _ _ hnc0 hbl _ (HA.out.below hp.below)).mono ?_); rintro e w1 ⟨hq, hb⟩; replace hp := hp.call hb; clear hb; rw [HT.out] at hq; simp only at hq; first | subst hq | (obtain ⟨qe, hqe, rfl⟩ := hq)) | ((refine Zl _ _ _ rfl ?_); refine ZE hp 9 57 5 _ rfl wy Tryz.underlying9 Tryz.underlying57 Tryz.underlying5 _ (za rfl) ?_; clear hp; intro ad cb w1 hcb had hp; have HCB := z0j hcb; have HAD := z0j had; clear hcb had; simp only [zc, zb, z0b, z0a]) | go_skip | ((first | ((refine zg _ rfl ?_); refine lZ hp rfl zcL ?_; clear hp; intro b w1 hp) | ((refine zh _ _ rfl ?_); refine lB hp rfl (za rfl) rfl ?_; clear hp; intro b w1 hp) | ((refine zf _ _ rfl ?_); first | refine lO hp rfl (za rfl) zas zu ?_ | refine lA hp rfl (za rfl) ZS zu ?_) | ((refine zd _ _ _ rfl ?_); (first | refine sO hp rfl (za rfl) zas zu ?_ | refine sA hp rfl (za rfl) (za rfl) ZS zu ?_ | refine sG hp rfl (za rfl) (za rfl) ZS zu ?_); clear hp; intro w1 hp; simp only [spl, z0a, z0b] at hp) | ((refine zi _ _ _ rfl ?_); refine lS hp rfl (by intro w; go_simp; rfl) ?_; clear hp; intro b w1 hp; simp only [z0g, z0h, Nat.reduceAdd] at hp)); simp only [zc, zb, z0b, z0a]))
  have e1 : (qe == 0) = false := by rcases hqe with rfl | rfl <;> rfl
  have e2 : ¬ qe = 0 := by rcases hqe with rfl | rfl <;> decide
  clear hqe
  go_wp2_with (first | ((refine Zl _ _ _ rfl ?_); refine ZE hp 9 57 5 _ rfl wy Tryz.underlying9 Tryz.underlying57 Tryz.underlying5 _ (za rfl) ?_; clear hp; intro ad cb w1 hcb had hp; have HCB := z0j hcb; have HAD := z0j had; clear hcb had; simp only [zc, zb, z0b, z0a]) | (go_at_call 43; (with_reducible refine (zgg _ HGN.out _ _ _ HGL.out HCB.out _ HAD.out).mono ?_); rintro e w1 ⟨rfl, hb⟩; replace hp := hp.call hb; clear hb) | go_skip | ((first | ((refine zg _ rfl ?_); refine lZ hp rfl zcL ?_; clear hp; intro b w1 hp) | ((refine zh _ _ rfl ?_); refine lB hp rfl (za rfl) rfl ?_; clear hp; intro b w1 hp) | ((refine zf _ _ rfl ?_); first | refine lO hp rfl (za rfl) zas zu ?_ | refine lA hp rfl (za rfl) ZS zu ?_) | ((refine zd _ _ _ rfl ?_); (first | refine sO hp rfl (za rfl) zas zu ?_ | refine sA hp rfl (za rfl) (za rfl) ZS zu ?_ | refine sG hp rfl (za rfl) (za rfl) ZS zu ?_); clear hp; intro w1 hp; simp only [spl, z0a, z0b] at hp) | ((refine zi _ _ _ rfl ?_); refine lS hp rfl (by intro w; go_simp; rfl) ?_; clear hp; intro b w1 hp; simp only [z0g, z0h, Nat.reduceAdd] at hp)); simp only [zc, zb, z0b, z0a]))
  refine bodyPost_ret (zl (rs := [.cell 2 50, .tmp 3]) Tryz.results44 (.cell rfl (hp.loadAgg zaR at1 0 _ (by rfl) (by rfl)) (.tmp rfl .nil))) rfl ?_
  rw [HE.out]
  exact ⟨rfl, hp.below⟩
 | some p =>
  obtain ⟨t, b1⟩ := p
  have HT := z0j ht
  obtain ⟨tn, _, ht6, htb, htt, hb1⟩ := zdB ht
  have hby : za4 t := by rw [htt]; exact (HA.out.2.drop 4).take tn
  have HTB : Hid (zbG (strOfNums (nI t)) = t) := z0j (zcJ hby)
  have HSZ : Hid ((strOfNums (nI t)).size = t.length) := z0j (by rw [← ZP, zcJ hby])
  have HGL : Hid ((zbG (strOfNums (nI t))).length = (strOfNums (nI t)).size) := z0j (ZP _)
  have htl : t.length = tn := by rw [htt, List.length_take, List.length_drop]; omega
  cases hh : Z2 t with
  | none =>
   have HGN : Hid (Z2 (zbG (strOfNums (nI t))) = none) := z0j (by rw [HTB.out]; exact hh)
   have HE : Hid (Zz bs0 = none) := z0j (zbA (by unfold Zx; rw [ht]; simp only; rw [hh]))
   clear ht hh htt hb1 hby htl
   go_enter Tryz.func44, Tryz.ntmps44
   go_wp2_with (first | (go_at_call 117; (with_reducible refine (zj6 bs0 _ _ hnc0 hbl _ (HA.out.below hp.below)).mono ?_); rintro e w1 ⟨hq, hb⟩; replace hp := hp.call hb; clear hb; rw [HT.out] at hq; simp only at hq; first | subst hq | (obtain ⟨qe, hqe, rfl⟩ := hq)) | ((refine Zl _ _ _ rfl ?_); refine ZE hp 9 57 5 _ rfl wy Tryz.underlying9 Tryz.underlying57 Tryz.underlying5 _ (za rfl) ?_; clear hp; intro ad cb w1 hcb had hp; have HCB := z0j hcb; have HAD := z0j had; clear hcb had; simp only [zc, zb, z0b, z0a]) | (go_at_call 43; (with_reducible refine (zgg _ HGN.out _ _ _ HGL.out HCB.out _ HAD.out).mono ?_); rintro e w1 ⟨rfl, hb⟩; replace hp := hp.call hb; clear hb) | go_skip | ((first | ((refine zg _ rfl ?_); refine lZ hp rfl zcL ?_; clear hp; intro b w1 hp) | ((refine zh _ _ rfl ?_); refine lB hp rfl (za rfl) rfl ?_; clear hp; intro b w1 hp) | ((refine zf _ _ rfl ?_); first | refine lO hp rfl (za rfl) zas zu ?_ | refine lA hp rfl (za rfl) ZS zu ?_) | ((refine zd _ _ _ rfl ?_); (first | refine sO hp rfl (za rfl) zas zu ?_ | refine sA hp rfl (za rfl) (za rfl) ZS zu ?_ | refine sG hp rfl (za rfl) (za rfl) ZS zu ?_); clear hp; intro w1 hp; simp only [spl, z0a, z0b] at hp) | ((refine zi _ _ _ rfl ?_); refine lS hp rfl (by intro w; go_simp; rfl) ?_; clear hp; intro b w1 hp; simp only [z0g, z0h, Nat.reduceAdd] at hp)); simp only [zc, zb, z0b, z0a]))
   refine bodyPost_ret (zl (rs := [.cell 2 50, .tmp 3]) Tryz.results44 (.cell rfl (hp.loadAgg zaR at1 0 _ (by rfl) (by rfl)) (.tmp rfl .nil))) rfl ?_
   rw [HE.out]
   exact ⟨rfl, hp.below⟩
  | some x =>
   have HGN : Hid (Z2 (zbG (strOfNums (nI t))) = some x) := z0j (by rw [HTB.out]; exact hh)
   have HXR := z0j (zc6 hh)
   have HHH := z0j hh
   obtain ⟨m, hm⟩ : ∃ m, m = t.length + 4 := ⟨_, rfl⟩
   have hb1d : b1 = bs0.drop m := by rw [hb1, List.drop_drop, hm, htl, Nat.add_comm]
   have hb1l : b1.length = bs0.length - m := by rw [hb1d, List.length_drop]
   have hml : m ≤ bs0.length := by omega
   have HM := z0j hm
   obtain ⟨ba, off, rfl, _⟩ := HA.out.1.addr (by rw [ZH byV 1 zbN]; omega)
   have HDR : Hid (zaw w (some ⟨ba, off + m, none⟩) b1) := z0j (by rw [hb1d]; exact HA.out.drop m)
   have HB1L := z0j hb1l
   have e1 : (0 : Int) ≤ (m : Int) := by omega
   have e2 : (m : Int) ≤ (bs0.length : Int) := by omega
   have e3 : (m : Int) ≤ (c0 : Int) := by omega
   have e4 : (bs0.length : Int) ≤ (c0 : Int) := by omega
   clear ht hh htt hb1 hby htl hb1d hb1l hm
   have HNIL : Hid (c0 = m → b1 = []) := z0j (fun h => List.eq_nil_of_length_eq_zero (by have := HB1L.out; omega))
   go_enter Tryz.func44, Tryz.ntmps44
   go_wp2_with (first | (go_at_call 117; (with_reducible refine (zj6 bs0 _ _ hnc0 hbl _ (HA.out.below hp.below)).mono ?_); rintro e w1 ⟨hq, hb⟩; replace hp := hp.call hb; clear hb; rw [HT.out] at hq; simp only at hq; rw [← HM.out] at hq; subst hq) | ((refine Zl _ _ _ rfl ?_); refine ZE hp 9 57 5 _ rfl wy Tryz.underlying9 Tryz.underlying57 Tryz.underlying5 _ (za rfl) ?_; clear hp; intro ad cb w1 hcb had hp; have HCB := z0j hcb; have HAD := z0j had; clear hcb had; simp only [zc, zb, z0b, z0a]) | (go_at_call 43; (with_reducible refine (zij _ _ HGN.out _ _ _ HGL.out HCB.out _ HAD.out).mono ?_); rintro e w1 ⟨od, oa, os, oc, nx, t0, t1, t2, t3, fa, fs, fc, RH, rfl, hsm, hown, hnxb, hpn⟩; replace hp := hp.join hpn; have HSM := z0j hsm; have HOW := z0j hown; have HNX := z0j hnxb; clear hpn hsm hown hnxb; simp only [z0f, z0e, z0i] at hp) | go_skip | ((first | ((refine zg _ rfl ?_); refine lZ hp rfl zcL ?_; clear hp; intro b w1 hp) | ((refine zh _ _ rfl ?_); refine lB hp rfl (za rfl) rfl ?_; clear hp; intro b w1 hp) | ((refine zf _ _ rfl ?_); first | refine lO hp rfl (za rfl) zas zu ?_ | refine lA hp rfl (za rfl) ZS zu ?_) | ((refine zd _ _ _ rfl ?_); (first | refine sO hp rfl (za rfl) zas zu ?_ | refine sA hp rfl (za rfl) (za rfl) ZS zu ?_ | refine sG hp rfl (za rfl) (za rfl) ZS zu ?_); clear hp; intro w1 hp; simp only [spl, z0a, z0b] at hp) | ((refine zi _ _ _ rfl ?_); refine lS hp rfl (by intro w; go_simp; rfl) ?_; clear hp; intro b w1 hp; simp only [z0g, z0h, Nat.reduceAdd] at hp)); simp only [zc, zb, z0b, z0a]))
   all_goals
    obtain ⟨bS, rfl⟩ := hp.id0
    obtain ⟨br, rfl⟩ := hp.id1
    obtain ⟨bH, rfl⟩ := hp.id2
    obtain ⟨b2, rfl⟩ := hp.id3
    have HS0 : ∃ (a : Option Addr) (bs : List Nat) (c : Nat) (bad : Bool), Hid (bs.length ≤ c) ∧ Hid (zaw w a bs) ∧ Hid (NIs (some b1) bs bad) ∧ Hp w.heap.size w w1 (⟨bS, [.int .i64 od, .slice oa os.length oc, .int .i64 nx, .int .i64 t0, .int .i64 t1, .int .i64 t2, .int .i64 t3, .slice fa fs.length fc, .slice none 0 0], 50, 9⟩ :: ⟨br, [.slice a bs.length c, .bool bad], 162, 2⟩ :: ⟨bH, [.int .i64 od, .slice oa os.length oc, .int .i64 nx, .int .i64 t0, .int .i64 t1, .int .i64 t2, .int .i64 t3, .slice fa fs.length fc], 47, 8⟩ :: ⟨b2, [.int .i64 0, .slice none 0 0, .int .i64 0, .int .i64 0, .int .i64 0, .int .i64 0, .int .i64 0, .slice none 0 0, .slice none 0 0], 50, 9⟩ :: RH) :=
     ⟨if c0 = m then some ⟨ba, off, none⟩ else some ⟨ba, off + m, none⟩, b1, c0 - m, false, z0j (by have := HB1L.out; omega), z0j (by
      by_cases hcm : c0 = m
      ·rw [if_pos hcm, HNIL.out hcm]; exact zaw.none_ _ _
      ·rw [if_neg hcm]; exact HDR.out), z0j ⟨rfl, rfl⟩, by rw [HB1L.out]; exact hp⟩
    clear hp HA HDR
    obtain ⟨a, bs, c, bad, HNC, HA, HNI, hp⟩ := HS0
    go_wp2_with (first | (go_at_call 113; have hst : NSt w _ (some b1) _ _ := ⟨a, bs, c, bad, HNC.out, HA.out, HNI.out, zm5 hp⟩; (with_reducible refine (zb4 _ (some b1) hst).mono ?_); clear hst; clear hp HNC HA HNI; rintro e w1 ⟨kn, st1, hkn, rfl, hr1, a, bs, c, bad, hnc, ha, hni, hp⟩; have HR1 := z0j hr1; clear hr1; replace hp := zjx hp; have HNC := z0j hnc; have HA := z0j ha; have HNI := z0j hni; clear hnc ha hni) | go_skip | ((first | ((refine zg _ rfl ?_); refine lZ hp rfl zcL ?_; clear hp; intro b w1 hp) | ((refine zh _ _ rfl ?_); refine lB hp rfl (za rfl) rfl ?_; clear hp; intro b w1 hp) | ((refine zf _ _ rfl ?_); first | refine lO hp rfl (za rfl) zas zu ?_ | refine lA hp rfl (za rfl) ZS zu ?_) | ((refine zd _ _ _ rfl ?_); (first | refine sO hp rfl (za rfl) zas zu ?_ | refine sA hp rfl (za rfl) (za rfl) ZS zu ?_ | refine sG hp rfl (za rfl) (za rfl) ZS zu ?_); clear hp; intro w1 hp; simp only [spl, z0a, z0b] at hp) | ((refine zi _ _ _ rfl ?_); refine lS hp rfl (by intro w; go_simp; rfl) ?_; clear hp; intro b w1 hp; simp only [z0g, z0h, Nat.reduceAdd] at hp)); simp only [zc, zb, z0b, z0a]))
    go_loopg [12] 5 (fun k i wr => ∃ (q : Nat) (rs : List Rw) (stq : Option (List Nat)) (ra : Option Addr) (rc : Nat) (RR : List Blk) (a : Option Addr) (bs : List Nat) (c : Nat) (bad : Bool), k + q = 5 ∧ i = .int .i64 q ∧ q ≤ kn ∧ Hid (rs.length = q) ∧ Hid (zaQ (zal zf1 q) st1 rs stq) ∧ Hid (zJ 120 4 (.slice ra q rc) q (rs.flatMap rwV) RR) ∧ Hid (bs.length ≤ c) ∧ Hid (zaw w a bs) ∧ Hid (NIs stq bs bad) ∧
     Hp w.heap.size w wr (⟨bS, [.int .i64 od, .slice oa os.length oc, .int .i64 nx, .int .i64 t0, .int .i64 t1, .int .i64 t2, .int .i64 t3, .slice fa fs.length fc, .slice ra q rc], 50, 9⟩ :: ⟨br, [.slice a bs.length c, .bool bad], 162, 2⟩ :: ⟨bH, [.int .i64 od, .slice oa os.length oc, .int .i64 nx, .int .i64 t0, .int .i64 t1, .int .i64 t2, .int .i64 t3, .slice fa fs.length fc], 47, 8⟩ :: ⟨b2, [.int .i64 0, .slice none 0 0, .int .i64 0, .int .i64 0, .int .i64 0, .int .i64 0, .int .i64 0, .slice none 0 0, .slice none 0 0], 50, 9⟩ :: (RR ++ RH)))
    case atStart => exact ⟨0, [], st1, none, 0, [], a, bs, c, bad, by omega, rfl, Nat.zero_le _, z0j rfl, z0j (zaQ.zero_ _ _), z0j (zJ.nil _ _), HNC, HA, HNI, hp⟩
    case round =>
     clear hp HNC HA HNI
     obtain ⟨q, rs, stq, ra, rc, RR, a, bs, c, bad, hkq, rfl, hqk, HLQ, HRQ, HRR, HNC, HA, HNI, hp⟩ := hrel
     by_cases hgo : q < kn ∧ q ≤ 4 ∧ bad = false
     ·obtain ⟨g1, g2, rfl⟩ := hgo
      have f1 : decide ((q : Int) < (kn : Int)) = true := by simp; omega
      have f2 : decide ((q : Int) ≤ 4) = true := by simp; omega
      go_wp2_with (first | (go_at_call 113; have hst : NSt w _ stq _ _ := ⟨a, bs, c, _, HNC.out, HA.out, HNI.out, ze2 hp⟩; (with_reducible refine (zb4 _ stq hst).mono ?_); clear hst; clear hp HNC HA HNI; rintro e w1 ⟨xc, stA, _, rfl, hr, a, bs, c, bad, hnc, ha, hni, hp⟩; have HRA := z0j hr; clear hr; replace hp := zc1 hp; have HNC := z0j hnc; have HA := z0j ha; have HNI := z0j hni; clear hnc ha hni) | go_skip | ((first | ((refine zg _ rfl ?_); refine lZ hp rfl zcL ?_; clear hp; intro b w1 hp) | ((refine zh _ _ rfl ?_); refine lB hp rfl (za rfl) rfl ?_; clear hp; intro b w1 hp) | ((refine zf _ _ rfl ?_); first | refine lO hp rfl (za rfl) zas zu ?_ | refine lA hp rfl (za rfl) ZS zu ?_) | ((refine zd _ _ _ rfl ?_); (first | refine sO hp rfl (za rfl) zas zu ?_ | refine sA hp rfl (za rfl) (za rfl) ZS zu ?_ | refine sG hp rfl (za rfl) (za rfl) ZS zu ?_); clear hp; intro w1 hp; simp only [spl, z0a, z0b] at hp) | ((refine zi _ _ _ rfl ?_); refine lS hp rfl (by intro w; go_simp; rfl) ?_; clear hp; intro b w1 hp; simp only [z0g, z0h, Nat.reduceAdd] at hp)); simp only [zc, zb, z0b, z0a]))
      go_wp2_with (first | (go_at_call 113; have hst : NSt w _ stA _ _ := ⟨a, bs, c, bad, HNC.out, HA.out, HNI.out, ze2 hp⟩; (with_reducible refine (zb4 _ stA hst).mono ?_); clear hst; clear hp HNC HA HNI; rintro e w1 ⟨xs, stB_, _, rfl, hr, a, bs, c, bad, hnc, ha, hni, hp⟩; have HRB := z0j hr; clear hr; replace hp := zc1 hp; have HNC := z0j hnc; have HA := z0j ha; have HNI := z0j hni; clear hnc ha hni) | go_skip | ((first | ((refine zg _ rfl ?_); refine lZ hp rfl zcL ?_; clear hp; intro b w1 hp) | ((refine zh _ _ rfl ?_); refine lB hp rfl (za rfl) rfl ?_; clear hp; intro b w1 hp) | ((refine zf _ _ rfl ?_); first | refine lO hp rfl (za rfl) zas zu ?_ | refine lA hp rfl (za rfl) ZS zu ?_) | ((refine zd _ _ _ rfl ?_); (first | refine sO hp rfl (za rfl) zas zu ?_ | refine sA hp rfl (za rfl) (za rfl) ZS zu ?_ | refine sG hp rfl (za rfl) (za rfl) ZS zu ?_); clear hp; intro w1 hp; simp only [spl, z0a, z0b] at hp) | ((refine zi _ _ _ rfl ?_); refine lS hp rfl (by intro w; go_simp; rfl) ?_; clear hp; intro b w1 hp; simp only [z0g, z0h, Nat.reduceAdd] at hp)); simp only [zc, zb, z0b, z0a]))
      go_wp2_with (first | (go_at_call 113; have hst : NSt w _ stB_ _ _ := ⟨a, bs, c, bad, HNC.out, HA.out, HNI.out, ze2 hp⟩; (with_reducible refine (zb4 _ stB_ hst).mono ?_); clear hst; clear hp HNC HA HNI; rintro e w1 ⟨xe, stC, _, rfl, hr, a, bs, c, bad, hnc, ha, hni, hp⟩; have HRC := z0j hr; clear hr; replace hp := zc1 hp; have HNC := z0j hnc; have HA := z0j ha; have HNI := z0j hni; clear hnc ha hni) | go_skip | ((first | ((refine zg _ rfl ?_); refine lZ hp rfl zcL ?_; clear hp; intro b w1 hp) | ((refine zh _ _ rfl ?_); refine lB hp rfl (za rfl) rfl ?_; clear hp; intro b w1 hp) | ((refine zf _ _ rfl ?_); first | refine lO hp rfl (za rfl) zas zu ?_ | refine lA hp rfl (za rfl) ZS zu ?_) | ((refine zd _ _ _ rfl ?_); (first | refine sO hp rfl (za rfl) zas zu ?_ | refine sA hp rfl (za rfl) (za rfl) ZS zu ?_ | refine sG hp rfl (za rfl) (za rfl) ZS zu ?_); clear hp; intro w1 hp; simp only [spl, z0a, z0b] at hp) | ((refine zi _ _ _ rfl ?_); refine lS hp rfl (by intro w; go_simp; rfl) ?_; clear hp; intro b w1 hp; simp only [z0g, z0h, Nat.reduceAdd] at hp)); simp only [zc, zb, z0b, z0a]))
      go_wp2_with (first | (go_at_call 118; have hst : NSt w _ stC _ _ := ⟨a, bs, c, bad, HNC.out, HA.out, HNI.out, ze2 hp⟩; (with_reducible refine (zl5 _ stC hst).mono ?_); clear hst; clear hp HNC HA HNI; rintro e w1 ⟨xv, stE, rfl, hr, a, bs, c, bad, hnc, ha, hni, hp⟩; have HRD := z0j hr; clear hr; replace hp := zc1 hp; have HNC := z0j hnc; have HA := z0j ha; have HNI := z0j hni; clear hnc ha hni) | ((refine Zb _ _ 48 rfl ?_); refine zM (K := [_, _, _, _, _]) (R := RR) (M := RH) hp _ _ _ rfl wy i0 _ 32 Tryz.underlying48 hi0 hz0 hz1 hz2 rfl (by decide) (za rfl) HRR.out 1 1 (za rfl) (by rfl) (by decide) (by rfl) (by unfold maxLen; omega) (by omega) ?_; clear hp; intro v' R' w1 hR' hp; obtain ⟨ra', rc', rfl, _⟩ := hR'.kept; have HRR' := z0j hR'; clear hR'; simp only [z0f, z0e] at hp; simp only [zc, zb, z0b, z0a]) | go_skip | ((first | ((refine zg _ rfl ?_); refine lZ hp rfl zcL ?_; clear hp; intro b w1 hp) | ((refine zh _ _ rfl ?_); refine lB hp rfl (za rfl) rfl ?_; clear hp; intro b w1 hp) | ((refine zf _ _ rfl ?_); first | refine lO hp rfl (za rfl) zas zu ?_ | refine lA hp rfl (za rfl) ZS zu ?_) | ((refine zd _ _ _ rfl ?_); (first | refine sO hp rfl (za rfl) zas zu ?_ | refine sA hp rfl (za rfl) (za rfl) ZS zu ?_ | refine sG hp rfl (za rfl) (za rfl) ZS zu ?_); clear hp; intro w1 hp; simp only [spl, z0a, z0b] at hp) | ((refine zi _ _ _ rfl ?_); refine lS hp rfl (by intro w; go_simp; rfl) ?_; clear hp; intro b w1 hp; simp only [z0g, z0h, Nat.reduceAdd] at hp)); simp only [zc, zb, z0b, z0a]))
      go_roundg (gk - 1)
      case measure => omega
      case rel =>
       replace hp := hp.tail
       exact ⟨q + 1, rs ++ [⟨xc, xs, xe, xv⟩], stE, ra', rc', R', a, bs, c, bad, by omega, by go_num, by omega, z0j (by rw [List.length_append, HLQ.out]; rfl), z0j (HRQ.out.step (zmT HRA.out HRB.out HRC.out HRD.out)), z0j (by have := HRR'.out; rw [List.flatMap_append]; exact this), HNC, HA, HNI, hp⟩
     ·have hN := znS HT.out HHH.out HR1.out HRQ.out hqk
      cases stq with
      | none =>
       obtain rfl : bad = true := HNI.out
       have HE : Hid (Zz bs0 = none) := z0j (hN.1 rfl)
       clear hN
       by_cases k1 : q < kn
       ·have f1 : decide ((q : Int) < (kn : Int)) = true := by simp; omega
        by_cases k2 : q ≤ 4
        ·have f2 : decide ((q : Int) ≤ 4) = true := by simp; omega
         go_wp2_with (first | go_skip | ((first | ((refine zg _ rfl ?_); refine lZ hp rfl zcL ?_; clear hp; intro b w1 hp) | ((refine zh _ _ rfl ?_); refine lB hp rfl (za rfl) rfl ?_; clear hp; intro b w1 hp) | ((refine zf _ _ rfl ?_); first | refine lO hp rfl (za rfl) zas zu ?_ | refine lA hp rfl (za rfl) ZS zu ?_) | ((refine zd _ _ _ rfl ?_); (first | refine sO hp rfl (za rfl) zas zu ?_ | refine sA hp rfl (za rfl) (za rfl) ZS zu ?_ | refine sG hp rfl (za rfl) (za rfl) ZS zu ?_); clear hp; intro w1 hp; simp only [spl, z0a, z0b] at hp) | ((refine zi _ _ _ rfl ?_); refine lS hp rfl (by intro w; go_simp; rfl) ?_; clear hp; intro b w1 hp; simp only [z0g, z0h, Nat.reduceAdd] at hp)); simp only [zc, zb, z0b, z0a]))
         refine bodyPost_ret (zl (rs := [.cell 2 50, .tmp 3]) Tryz.results44 (.cell rfl (hp.loadAgg zaR at3 0 _ (by rfl) (by rfl)) (.tmp rfl .nil))) rfl ?_; rw [HE.out]; exact ⟨rfl, hp.below⟩
        ·have f2 : decide ((q : Int) ≤ 4) = false := by simp; omega
         go_wp2_with (first | go_skip | ((first | ((refine zg _ rfl ?_); refine lZ hp rfl zcL ?_; clear hp; intro b w1 hp) | ((refine zh _ _ rfl ?_); refine lB hp rfl (za rfl) rfl ?_; clear hp; intro b w1 hp) | ((refine zf _ _ rfl ?_); first | refine lO hp rfl (za rfl) zas zu ?_ | refine lA hp rfl (za rfl) ZS zu ?_) | ((refine zd _ _ _ rfl ?_); (first | refine sO hp rfl (za rfl) zas zu ?_ | refine sA hp rfl (za rfl) (za rfl) ZS zu ?_ | refine sG hp rfl (za rfl) (za rfl) ZS zu ?_); clear hp; intro w1 hp; simp only [spl, z0a, z0b] at hp) | ((refine zi _ _ _ rfl ?_); refine lS hp rfl (by intro w; go_simp; rfl) ?_; clear hp; intro b w1 hp; simp only [z0g, z0h, Nat.reduceAdd] at hp)); simp only [zc, zb, z0b, z0a]))
         refine bodyPost_ret (zl (rs := [.cell 2 50, .tmp 3]) Tryz.results44 (.cell rfl (hp.loadAgg zaR at3 0 _ (by rfl) (by rfl)) (.tmp rfl .nil))) rfl ?_; rw [HE.out]; exact ⟨rfl, hp.below⟩
       ·have f1 : decide ((q : Int) < (kn : Int)) = false := by simp; omega
        go_wp2_with (first | go_skip | ((first | ((refine zg _ rfl ?_); refine lZ hp rfl zcL ?_; clear hp; intro b w1 hp) | ((refine zh _ _ rfl ?_); refine lB hp rfl (za rfl) rfl ?_; clear hp; intro b w1 hp) | ((refine zf _ _ rfl ?_); first | refine lO hp rfl (za rfl) zas zu ?_ | refine lA hp rfl (za rfl) ZS zu ?_) | ((refine zd _ _ _ rfl ?_); (first | refine sO hp rfl (za rfl) zas zu ?_ | refine sA hp rfl (za rfl) (za rfl) ZS zu ?_ | refine sG hp rfl (za rfl) (za rfl) ZS zu ?_); clear hp; intro w1 hp; simp only [spl, z0a, z0b] at hp) | ((refine zi _ _ _ rfl ?_); refine lS hp rfl (by intro w; go_simp; rfl) ?_; clear hp; intro b w1 hp; simp only [z0g, z0h, Nat.reduceAdd] at hp)); simp only [zc, zb, z0b, z0a]))
        refine bodyPost_ret (zl (rs := [.cell 2 50, .tmp 3]) Tryz.results44 (.cell rfl (hp.loadAgg zaR at3 0 _ (by rfl) (by rfl)) (.tmp rfl .nil))) rfl ?_; rw [HE.out]; exact ⟨rfl, hp.below⟩
      | some b =>
       obtain ⟨hb1, hb2⟩ := HNI.out
       subst hb1 hb2
       obtain ⟨nb, hnb⟩ : ∃ nb, bs.length = nb := ⟨_, rfl⟩
       rw [hnb] at hp
       by_cases k1 : q < kn
       ·have k2 : ¬ q ≤ 4 := fun h => hgo ⟨k1, h, rfl⟩
        have HE : Hid (Zz bs0 = none) := z0j (hN.2.1 (by omega))
        have f1 : decide ((q : Int) < (kn : Int)) = true := by simp; omega
        have f2 : decide ((q : Int) ≤ 4) = false := by simp; omega
        have f3 : ((kn : Int) == (q : Int)) = false := by simp; omega
        clear hN hnb hgo
        by_cases k3 : 0 < nb
        ·go_wp2_with (first | go_skip | ((first | ((refine zg _ rfl ?_); refine lZ hp rfl zcL ?_; clear hp; intro b w1 hp) | ((refine zh _ _ rfl ?_); refine lB hp rfl (za rfl) rfl ?_; clear hp; intro b w1 hp) | ((refine zf _ _ rfl ?_); first | refine lO hp rfl (za rfl) zas zu ?_ | refine lA hp rfl (za rfl) ZS zu ?_) | ((refine zd _ _ _ rfl ?_); (first | refine sO hp rfl (za rfl) zas zu ?_ | refine sA hp rfl (za rfl) (za rfl) ZS zu ?_ | refine sG hp rfl (za rfl) (za rfl) ZS zu ?_); clear hp; intro w1 hp; simp only [spl, z0a, z0b] at hp) | ((refine zi _ _ _ rfl ?_); refine lS hp rfl (by intro w; go_simp; rfl) ?_; clear hp; intro b w1 hp; simp only [z0g, z0h, Nat.reduceAdd] at hp)); simp only [zc, zb, z0b, z0a]))
         refine bodyPost_ret (zl (rs := [.cell 2 50, .tmp 3]) Tryz.results44 (.cell rfl (hp.loadAgg zaR at3 0 _ (by rfl) (by rfl)) (.tmp rfl .nil))) rfl ?_; rw [HE.out]; exact ⟨rfl, hp.below⟩
        ·have k4 : decide ((0 : Int) < (nb : Int)) = false := by simp; omega
         go_wp2_with (first | go_skip | ((first | ((refine zg _ rfl ?_); refine lZ hp rfl zcL ?_; clear hp; intro b w1 hp) | ((refine zh _ _ rfl ?_); refine lB hp rfl (za rfl) rfl ?_; clear hp; intro b w1 hp) | ((refine zf _ _ rfl ?_); first | refine lO hp rfl (za rfl) zas zu ?_ | refine lA hp rfl (za rfl) ZS zu ?_) | ((refine zd _ _ _ rfl ?_); (first | refine sO hp rfl (za rfl) zas zu ?_ | refine sA hp rfl (za rfl) (za rfl) ZS zu ?_ | refine sG hp rfl (za rfl) (za rfl) ZS zu ?_); clear hp; intro w1 hp; simp only [spl, z0a, z0b] at hp) | ((refine zi _ _ _ rfl ?_); refine lS hp rfl (by intro w; go_simp; rfl) ?_; clear hp; intro b w1 hp; simp only [z0g, z0h, Nat.reduceAdd] at hp)); simp only [zc, zb, z0b, z0a]))
         refine bodyPost_ret (zl (rs := [.cell 2 50, .tmp 3]) Tryz.results44 (.cell rfl (hp.loadAgg zaR at3 0 _ (by rfl) (by rfl)) (.tmp rfl .nil))) rfl ?_; rw [HE.out]; exact ⟨rfl, hp.below⟩
       ·have hl := HLQ.out
        subst hl
        obtain rfl : kn = rs.length := by omega
        have f1 : decide ((rs.length : Int) < (rs.length : Int)) = false := by simp
        have HFIN : Hid ((0 < nb → Zz bs0 = none) ∧ (¬ 0 < nb → (stB ⟨⟨od, oa, os, oc, nx, t0, t1, t2, t3, fa, fs, fc⟩, ra, rs, rc⟩ = true → ∃ y, Zz bs0 = some y ∧ Sv.Sm ⟨⟨od, oa, os, oc, nx, t0, t1, t2, t3, fa, fs, fc⟩, ra, rs, rc⟩ y) ∧ (stB ⟨⟨od, oa, os, oc, nx, t0, t1, t2, t3, fa, fs, fc⟩, ra, rs, rc⟩ = false → Zz bs0 = none))) := z0j (by
         have hsm : Sv.Sm ⟨⟨od, oa, os, oc, nx, t0, t1, t2, t3, fa, fs, fc⟩, ra, rs, rc⟩ ⟨x, none, rs, 0⟩ := ⟨HSM.out, rfl⟩
         by_cases h4 : 4 < rs.length
         ·have hn := hN.2.1 h4
          refine ⟨fun _ => hn, fun _ => ⟨fun h => ?_, fun _ => hn⟩⟩
          have := zca (znR h).rows (by decide)
          simp only at this
          omega
         ·have h0 := ziJ (hN.2.2 bs rfl rfl (by omega))
          refine ⟨fun h => h0.1 (by omega), fun h => ⟨fun hy => ?_, fun hy => ?_⟩⟩
          ·exact ⟨_, by rw [h0.2 (by omega), ← zgL hsm, hy]; rfl, hsm⟩
          ·rw [h0.2 (by omega), ← zgL hsm, hy]; rfl)
        clear hN hnb hgo
        by_cases k3 : 0 < nb
        ·have HE : Hid (Zz bs0 = none) := z0j (HFIN.out.1 k3)
         go_wp2_with (first | go_skip | ((first | ((refine zg _ rfl ?_); refine lZ hp rfl zcL ?_; clear hp; intro b w1 hp) | ((refine zh _ _ rfl ?_); refine lB hp rfl (za rfl) rfl ?_; clear hp; intro b w1 hp) | ((refine zf _ _ rfl ?_); first | refine lO hp rfl (za rfl) zas zu ?_ | refine lA hp rfl (za rfl) ZS zu ?_) | ((refine zd _ _ _ rfl ?_); (first | refine sO hp rfl (za rfl) zas zu ?_ | refine sA hp rfl (za rfl) (za rfl) ZS zu ?_ | refine sG hp rfl (za rfl) (za rfl) ZS zu ?_); clear hp; intro w1 hp; simp only [spl, z0a, z0b] at hp) | ((refine zi _ _ _ rfl ?_); refine lS hp rfl (by intro w; go_simp; rfl) ?_; clear hp; intro b w1 hp; simp only [z0g, z0h, Nat.reduceAdd] at hp)); simp only [zc, zb, z0b, z0a]))
         refine bodyPost_ret (zl (rs := [.cell 2 50, .tmp 3]) Tryz.results44 (.cell rfl (hp.loadAgg zaR at3 0 _ (by rfl) (by rfl)) (.tmp rfl .nil))) rfl ?_; rw [HE.out]; exact ⟨rfl, hp.below⟩
        ·have k4 : decide ((0 : Int) < (nb : Int)) = false := by simp; omega
         have HSS : Hid (Sv.Small ⟨⟨od, oa, os, oc, nx, t0, t1, t2, t3, fa, fs, fc⟩, ra, rs, rc⟩) := z0j ⟨HXR.out.small.sm HSM.out.symm, by simp only; omega⟩
         have HIS : Hid (zaG (RR ++ RH) fun w => Sv.Is w ⟨⟨od, oa, os, oc, nx, t0, t1, t2, t3, fa, fs, fc⟩, ra, rs, rc⟩) := z0j ((HRR.out.keptS.and HOW.out.kept).mono (fun _ h => h) (fun w ⟨h1, h2⟩ => ⟨h2, h1⟩))
         obtain ⟨b, hb⟩ : ∃ b, stB ⟨⟨od, oa, os, oc, nx, t0, t1, t2, t3, fa, fs, fc⟩, ra, rs, rc⟩ = b := ⟨_, rfl⟩
         have HB := z0j hb
         clear hb
         cases b with
         | false =>
          have HE := z0j ((HFIN.out.2 k3).2 HB.out)
          go_wp2_with (first | (go_at_call 36; (with_reducible refine (zhX od oa os oc nx t0 t1 t2 t3 fa fs fc ra rs rc _ HB.out HSS.out HNX.out _ (HIS.out.at hp (fun p hm => by simp only [List.mem_append, List.mem_cons] at hm ⊢; rcases hm with hm | hm <;> simp [hm]))).mono ?_); rintro e w1 ⟨rfl, hb⟩; replace hp := hp.call hb; clear hb) | go_skip | ((first | ((refine zg _ rfl ?_); refine lZ hp rfl zcL ?_; clear hp; intro b w1 hp) | ((refine zh _ _ rfl ?_); refine lB hp rfl (za rfl) rfl ?_; clear hp; intro b w1 hp) | ((refine zf _ _ rfl ?_); first | refine lO hp rfl (za rfl) zas zu ?_ | refine lA hp rfl (za rfl) ZS zu ?_) | ((refine zd _ _ _ rfl ?_); (first | refine sO hp rfl (za rfl) zas zu ?_ | refine sA hp rfl (za rfl) (za rfl) ZS zu ?_ | refine sG hp rfl (za rfl) (za rfl) ZS zu ?_); clear hp; intro w1 hp; simp only [spl, z0a, z0b] at hp) | ((refine zi _ _ _ rfl ?_); refine lS hp rfl (by intro w; go_simp; rfl) ?_; clear hp; intro b w1 hp; simp only [z0g, z0h, Nat.reduceAdd] at hp)); simp only [zc, zb, z0b, z0a]))
          refine bodyPost_ret (zl (rs := [.cell 2 50, .tmp 3]) Tryz.results44 (.cell rfl (hp.loadAgg zaR at3 0 _ (by rfl) (by rfl)) (.tmp rfl .nil))) rfl ?_; rw [HE.out]; exact ⟨rfl, hp.below⟩
         | true =>
          have HE := z0j ((HFIN.out.2 k3).1 HB.out)
          go_wp2_with (first | (go_at_call 36; (with_reducible refine (zhX od oa os oc nx t0 t1 t2 t3 fa fs fc ra rs rc _ HB.out HSS.out HNX.out _ (HIS.out.at hp (fun p hm => by simp only [List.mem_append, List.mem_cons] at hm ⊢; rcases hm with hm | hm <;> simp [hm]))).mono ?_); rintro e w1 ⟨rfl, hb⟩; replace hp := hp.call hb; clear hb) | go_skip | ((first | ((refine zg _ rfl ?_); refine lZ hp rfl zcL ?_; clear hp; intro b w1 hp) | ((refine zh _ _ rfl ?_); refine lB hp rfl (za rfl) rfl ?_; clear hp; intro b w1 hp) | ((refine zf _ _ rfl ?_); first | refine lO hp rfl (za rfl) zas zu ?_ | refine lA hp rfl (za rfl) ZS zu ?_) | ((refine zd _ _ _ rfl ?_); (first | refine sO hp rfl (za rfl) zas zu ?_ | refine sA hp rfl (za rfl) (za rfl) ZS zu ?_ | refine sG hp rfl (za rfl) (za rfl) ZS zu ?_); clear hp; intro w1 hp; simp only [spl, z0a, z0b] at hp) | ((refine zi _ _ _ rfl ?_); refine lS hp rfl (by intro w; go_simp; rfl) ?_; clear hp; intro b w1 hp; simp only [z0g, z0h, Nat.reduceAdd] at hp)); simp only [zc, zb, z0b, z0a]))
          refine bodyPost_ret (zl (rs := [.cell 2 50, .tmp 3]) Tryz.results44 (.cell rfl (hp.loadAgg zaR at3 0 _ (by rfl) (by rfl)) (.tmp rfl .nil))) rfl ?_
          obtain ⟨y, hy, hsm⟩ := HE.out
          rw [hy]
          exact ⟨⟨⟨od, oa, os, oc, nx, t0, t1, t2, t3, fa, fs, fc⟩, ra, rs, rc⟩, RR ++ RH, rfl, hsm, ⟨RR, RH, rfl, HRR.out, HOW.out⟩, hp.kp⟩
end Go.Proofs.YtaafajaadfgaoaaGreat
