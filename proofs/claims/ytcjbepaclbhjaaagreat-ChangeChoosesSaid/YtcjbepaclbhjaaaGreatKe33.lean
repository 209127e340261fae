/- Parts of the proof. -/
import Derived.Test.YtcjbepaclbhjaaaGreatKe1
import Derived.Test.YtcjbepaclbhjaaaGreatKe31
import Derived.Test.YtcjbepaclbhjaaaGreatKe32
open List renaming set_cons_zero → zSet, set_cons_succ → sSet
/- The walk of the document's GetState. -/
set_option linter.unusedSimpArgs false
set_option linter.unusedVariables false
namespace Go.Proofs.YtcjbepaclbhjaaaGreat
open Go.RowKit
theorem rrel_of {st st1 st2 st3 st4 : Option (List Nat)} {c s e v : Int} (h1 : NRel nR st c st1) (h2 : NRel nR st1 s st2) (h3 : NRel nR st2 e st3) (h4 : NRel iR st3 v st4) : NRel rowR st ⟨c, s, e, v⟩ st4 := by
  cases st with
  | none =>
    obtain rfl := h1.none_
    obtain rfl := h2.none_
    obtain rfl := h3.none_
    obtain rfl := h4.none_
    rfl
  | some b =>
    unfold NRel
    rw [show (some b).bind rowR = rowR b from rfl]
    unfold rowR
    cases e1 : nR b with
    | none =>
      obtain rfl := h1.bad e1
      obtain rfl := h2.none_
      obtain rfl := h3.none_
      obtain rfl := h4.none_
      rfl
    | some p1 =>
      obtain ⟨x1, b1⟩ := p1
      obtain ⟨rfl, rfl⟩ := h1.good e1
      simp only
      cases e2 : nR b1 with
      | none =>
        obtain rfl := h2.bad e2
        obtain rfl := h3.none_
        obtain rfl := h4.none_
        rfl
      | some p2 =>
        obtain ⟨x2, b2⟩ := p2
        obtain ⟨rfl, rfl⟩ := h2.good e2
        simp only
        cases e3 : nR b2 with
        | none =>
          obtain rfl := h3.bad e3
          obtain rfl := h4.none_
          rfl
        | some p3 =>
          obtain ⟨x3, b3⟩ := p3
          obtain ⟨rfl, rfl⟩ := h3.good e3
          simp only
          cases e4 : iR b3 with
          | none =>
            obtain rfl := h4.bad e4
            rfl
          | some p4 =>
            obtain ⟨x4, b4⟩ := p4
            obtain ⟨rfl, rfl⟩ := h4.good e4
            exact ⟨rfl, rfl⟩
theorem stateR_none {bs : List Nat} (h : stateR0 bs = none) : stateR bs = none := by unfold stateR wholeR; rw [h]
theorem stateN {bs t b1 : List Nat} {x : Hv} {st1 st2 : Option (List Nat)} {kn q : Nat} {rs : List Rw} (ht : textR bs = some (t, b1)) (hh : heapR t = some x) (h1 : NRel nR (some b1) (kn : Int) st1) (h2 : NRel (repR rowR q) st1 rs st2) (hq : q ≤ kn) :
    (st2 = none → stateR bs = none) ∧ (4 < kn → stateR bs = none) ∧ (∀ b, st2 = some b → q = kn → kn ≤ 4 → stateR0 bs = if stB ⟨x, none, rs, 0⟩ = true then some (⟨x, none, rs, 0⟩, b) else none) := by
  have h0 : stateR0 bs = stateR1 x b1 := by unfold stateR0; rw [ht]; simp only; rw [hh]
  cases e1 : nR b1 with
  | none =>
    obtain rfl := h1.bad e1
    obtain rfl := h2.none_
    have hn : stateR bs = none := stateR_none (by rw [h0]; unfold stateR1; rw [e1])
    exact ⟨fun _ => hn, fun _ => hn, fun b hb => by cases hb⟩
  | some p1 =>
    obtain ⟨x1, b2⟩ := p1
    obtain ⟨e, rfl⟩ := h1.good e1
    subst e
    have hr : stateR0 bs = if (4 : Int) < (kn : Int) then none else match repR rowR kn b2 with | none => none | some (rs, b3) => if stB ⟨x, none, rs, 0⟩ = true then some (⟨x, none, rs, 0⟩, b3) else none := by
      rw [h0]; unfold stateR1; rw [e1]; simp only [Int.toNat_natCast]; rfl
    have h4 : 4 < kn → stateR bs = none := fun h => stateR_none (by rw [hr, if_pos (by omega)])
    cases e2 : repR rowR q b2 with
    | none =>
      obtain rfl := h2.bad e2
      have hn : stateR bs = none := stateR_none (by rw [hr, repR_mono e2 kn hq]; split <;> rfl)
      exact ⟨fun _ => hn, fun _ => hn, fun b hb => by cases hb⟩
    | some p2 =>
      obtain ⟨rs0, b3⟩ := p2
      obtain ⟨rfl, rfl⟩ := h2.good e2
      refine ⟨fun h => (by cases h), h4, fun b hb hqk h5 => ?_⟩
      injection hb with hb
      subst hb hqk
      rw [hr, if_neg (by omega), e2]
theorem stateN_end {bs b : List Nat} {x : Sv} (h : stateR0 bs = if stB x = true then some (x, b) else none) : (b.length ≠ 0 → stateR bs = none) ∧ (b.length = 0 → stateR bs = if stB x = true then some x else none) := by
  unfold stateR wholeR
  rw [h]
  refine ⟨fun h0 => ?_, fun h0 => ?_⟩
  · split
    · rename_i x r hx
      split at hx
      · injection hx with hx; injection hx with _ hx
        subst hx
        rw [if_neg h0]
      · cases hx
    · rfl
  · split
    · rename_i x r hx
      split at hx
      · rename_i hb
        injection hx with hx; injection hx with hx1 hx2
        subst hx1 hx2
        rw [if_pos h0, if_pos hb]
      · cases hx
    · rename_i hx
      split at hx
      · cases hx
      · rename_i hb
        rw [if_neg hb]
theorem geth06_no (bs : List Nat) (hr : heapR bs = none) (a : Option Addr) (n c : Nat) (hn : bs.length = n) (hnc : n ≤ c) (w : World) (ha : RdAt w a bs) : Calls Tryz.prog 92 #[.slice a n c] w fun e w' => e = .returned (.tuple #[.agg #[.int .i64 0, .slice none 0 0, .int .i64 0, .int .i64 0, .int .i64 0, .int .i64 0, .int .i64 0, .slice none 0 0], .int .i64 60]) ∧ Below w.heap.size w w' := by
  subst hn
  refine (geth92 bs a c hnc w ha).mono fun e w' h => ?_
  rw [hr] at h
  exact h
theorem geth06_yes (bs : List Nat) (x : Hv) (hr : heapR bs = some x) (a : Option Addr) (n c : Nat) (hn : bs.length = n) (hnc : n ≤ c) (w : World) (ha : RdAt w a bs) : Calls Tryz.prog 92 #[.slice a n c] w fun e w' => ∃ od oa os oc nx t0 t1 t2 t3 fa fs fc R, e = .returned (.tuple #[.agg #[.int .i64 od, .slice oa (List.length os) oc, .int .i64 nx, .int .i64 t0, .int .i64 t1, .int .i64 t2, .int .i64 t3, .slice fa (List.length fs) fc], .int .i64 0]) ∧ Hv.Sm ⟨od, oa, os, oc, nx, t0, t1, t2, t3, fa, fs, fc⟩ x ∧ HvO ⟨od, oa, os, oc, nx, t0, t1, t2, t3, fa, fs, fc⟩ R ∧ nx ≤ 9223372036854775807 ∧ Hp w.heap.size w w' R := by
  subst hn
  refine (geth92 bs a c hnc w ha).mono fun e w' h => ?_
  rw [hr] at h
  obtain ⟨y, R, h1, h2, h3, h4⟩ := h
  obtain ⟨od, oa, os, oc, nx, t0, t1, t2, t3, fa, fs, fc⟩ := y
  have hx := (heapR_right hr).hi
  have hn : nx = x.nx := h2.nx
  exact ⟨od, oa, os, oc, nx, t0, t1, t2, t3, fa, fs, fc, R, h1, h2, h3, by omega, h4⟩
set_option maxRecDepth 100000 in
set_option maxHeartbeats 16000000 in
theorem gets63 (bs0 : List Nat) (a0 : Option Addr) (c0 : Nat) (hnc0 : bs0.length ≤ c0) (hbl : bs0.length ≤ 1000000000) (w : World) (ha0 : RdAt w a0 bs0) :
    Calls Tryz.prog 63 #[.slice a0 bs0.length c0] w (GetPostS w (stateR bs0)) := by
  obtain ⟨i0, hi0, hz0, hz1, hz2⟩ := info_parts info121
  have hp := Hp.start w
  have HA := Lib.hid ha0
  clear ha0
  cases ht : textR bs0 with
  | none =>
    have HT := Lib.hid ht
    have HE : RowKit.Hid (stateR bs0 = none) := Lib.hid (stateR_none (by unfold stateR0; rw [ht]))
    have HGN : RowKit.Hid (heapR (strB ⟨#[]⟩) = none) := Lib.hid rfl
    have HGL : RowKit.Hid ((strB ⟨#[]⟩).length = 0) := Lib.hid rfl
    clear ht
    go_enter Tryz.func63, Tryz.ntmps63
    go_wp2_with (first | (go_at_call 91; (with_reducible refine (rdt91 bs0 _ _ hnc0 hbl _ (HA.out.below hp.below)).mono ?_); rintro e w1 ⟨hq, hb⟩; replace hp := hp.call hb; clear hb; rw [HT.out] at hq; simp only at hq; first | subst hq | (obtain ⟨qe, hqe, rfl⟩ := hq)) | ((with_reducible refine pre_convert _ _ _ rfl ?_); refine wpList_convB hp 9 89 5 _ rfl wy Tryz.underlying9 Tryz.underlying89 Tryz.underlying5 _ (sTm rfl) ?_; clear hp; intro ad cb w1 hcb had hp; have HCB := Lib.hid hcb; have HAD := Lib.hid had; clear hcb had; simp only [put_some, put_none, sSet, zSet]) | go_skip | (first | (refine hA0 ?_; clear hp; intro b w1 hp) | refine hL2 ?_ | (refine hS1 ?_; clear hp; intro w1 hp)))
    have e1 : (qe == 0) = false := by rcases hqe with rfl | rfl <;> rfl
    have e2 : ¬ qe = 0 := by rcases hqe with rfl | rfl <;> decide
    clear hqe
    go_wp2_with (first | ((with_reducible refine pre_convert _ _ _ rfl ?_); refine wpList_convB hp 9 89 5 _ rfl wy Tryz.underlying9 Tryz.underlying89 Tryz.underlying5 _ (sTm rfl) ?_; clear hp; intro ad cb w1 hcb had hp; have HCB := Lib.hid hcb; have HAD := Lib.hid had; clear hcb had; simp only [put_some, put_none, sSet, zSet]) | (go_at_call 92; (with_reducible refine (geth06_no _ HGN.out _ _ _ HGL.out HCB.out _ HAD.out).mono ?_); rintro e w1 ⟨rfl, hb⟩; replace hp := hp.call hb; clear hb) | go_skip | (first | (refine hA0 ?_; clear hp; intro b w1 hp) | refine hL2 ?_ | (refine hS1 ?_; clear hp; intro w1 hp)))
    refine bodyPost_ret (results_many (rs := [.cell 2 86, .tmp 3]) Tryz.results63 (.cell rfl (hp.loadAgg agg86 at1 0 _ (by rfl) (by rfl)) (.tmp rfl .nil))) rfl ?_
    rw [HE.out]
    exact ⟨rfl, hp.below⟩
  | some p =>
    obtain ⟨t, b1⟩ := p
    have HT := Lib.hid ht
    obtain ⟨tn, _, ht6, htb, htt, hb1⟩ := text_some ht
    have hby : Bytes t := by rw [htt]; exact (HA.out.2.drop 4).take tn
    have HTB : RowKit.Hid (strB (strOfNums (nI t)) = t) := Lib.hid (strB_of hby)
    have HSZ : RowKit.Hid ((strOfNums (nI t)).size = t.length) := Lib.hid (by rw [← strB_len, strB_of hby])
    have HGL : RowKit.Hid ((strB (strOfNums (nI t))).length = (strOfNums (nI t)).size) := Lib.hid (strB_len _)
    have htl : t.length = tn := by rw [htt, List.length_take, List.length_drop]; omega
    cases hh : heapR t with
    | none =>
      have HGN : RowKit.Hid (heapR (strB (strOfNums (nI t))) = none) := Lib.hid (by rw [HTB.out]; exact hh)
      have HE : RowKit.Hid (stateR bs0 = none) := Lib.hid (stateR_none (by unfold stateR0; rw [ht]; simp only; rw [hh]))
      clear ht hh htt hb1 hby htl
      go_enter Tryz.func63, Tryz.ntmps63
      go_wp2_with (first | (go_at_call 91; (with_reducible refine (rdt91 bs0 _ _ hnc0 hbl _ (HA.out.below hp.below)).mono ?_); rintro e w1 ⟨hq, hb⟩; replace hp := hp.call hb; clear hb; rw [HT.out] at hq; simp only at hq; first | subst hq | (obtain ⟨qe, hqe, rfl⟩ := hq)) | ((with_reducible refine pre_convert _ _ _ rfl ?_); refine wpList_convB hp 9 89 5 _ rfl wy Tryz.underlying9 Tryz.underlying89 Tryz.underlying5 _ (sTm rfl) ?_; clear hp; intro ad cb w1 hcb had hp; have HCB := Lib.hid hcb; have HAD := Lib.hid had; clear hcb had; simp only [put_some, put_none, sSet, zSet]) | (go_at_call 92; (with_reducible refine (geth06_no _ HGN.out _ _ _ HGL.out HCB.out _ HAD.out).mono ?_); rintro e w1 ⟨rfl, hb⟩; replace hp := hp.call hb; clear hb) | go_skip | (first | (refine hA0 ?_; clear hp; intro b w1 hp) | refine hL2 ?_ | (refine hS1 ?_; clear hp; intro w1 hp)))
      refine bodyPost_ret (results_many (rs := [.cell 2 86, .tmp 3]) Tryz.results63 (.cell rfl (hp.loadAgg agg86 at1 0 _ (by rfl) (by rfl)) (.tmp rfl .nil))) rfl ?_
      rw [HE.out]
      exact ⟨rfl, hp.below⟩
    | some x =>
      have HGN : RowKit.Hid (heapR (strB (strOfNums (nI t))) = some x) := Lib.hid (by rw [HTB.out]; exact hh)
      have HXR := Lib.hid (heapR_right hh)
      have HHH := Lib.hid hh
      obtain ⟨m, hm⟩ : ∃ m, m = t.length + 4 := ⟨_, rfl⟩
      have hb1d : b1 = bs0.drop m := by rw [hb1, List.drop_drop, hm, htl, Nat.add_comm]
      have hb1l : b1.length = bs0.length - m := by rw [hb1d, List.length_drop]
      have hml : m ≤ bs0.length := by omega
      have HM := Lib.hid hm
      obtain ⟨ba, off, rfl, _⟩ := HA.out.1.addr (by rw [flat_len byV 1 byV_len]; omega)
      have HDR : RowKit.Hid (RdAt w (some ⟨ba, off + m, none⟩) b1) := Lib.hid (by rw [hb1d]; exact HA.out.drop m)
      have HB1L := Lib.hid hb1l
      have e1 : (0 : Int) ≤ (m : Int) := by omega
      have e2 : (m : Int) ≤ (bs0.length : Int) := by omega
      have e3 : (m : Int) ≤ (c0 : Int) := by omega
      have e4 : (bs0.length : Int) ≤ (c0 : Int) := by omega
      clear ht hh htt hb1 hby htl hb1d hb1l hm
      have HNIL : RowKit.Hid (c0 = m → b1 = []) := Lib.hid (fun h => List.eq_nil_of_length_eq_zero (by have := HB1L.out; omega))
      go_enter Tryz.func63, Tryz.ntmps63
      go_wp2_with (first | (go_at_call 91; (with_reducible refine (rdt91 bs0 _ _ hnc0 hbl _ (HA.out.below hp.below)).mono ?_); rintro e w1 ⟨hq, hb⟩; replace hp := hp.call hb; clear hb; rw [HT.out] at hq; simp only at hq; rw [← HM.out] at hq; subst hq) | ((with_reducible refine pre_convert _ _ _ rfl ?_); refine wpList_convB hp 9 89 5 _ rfl wy Tryz.underlying9 Tryz.underlying89 Tryz.underlying5 _ (sTm rfl) ?_; clear hp; intro ad cb w1 hcb had hp; have HCB := Lib.hid hcb; have HAD := Lib.hid had; clear hcb had; simp only [put_some, put_none, sSet, zSet]) | (go_at_call 92; (with_reducible refine (geth06_yes _ _ HGN.out _ _ _ HGL.out HCB.out _ HAD.out).mono ?_); rintro e w1 ⟨od, oa, os, oc, nx, t0, t1, t2, t3, fa, fs, fc, RH, rfl, hsm, hown, hnxb, hpn⟩; replace hp := hp.join hpn; have HSM := Lib.hid hsm; have HOW := Lib.hid hown; have HNX := Lib.hid hnxb; clear hpn hsm hown hnxb; simp only [List.cons_append, List.nil_append, List.append_assoc] at hp) | go_skip | (first | (refine hA0 ?_; clear hp; intro b w1 hp) | refine hL2 ?_ | (refine hS1 ?_; clear hp; intro w1 hp)))
      all_goals
        obtain ⟨bS, rfl⟩ := hp.id0
        obtain ⟨br, rfl⟩ := hp.id1
        obtain ⟨bH, rfl⟩ := hp.id2
        obtain ⟨b2, rfl⟩ := hp.id3
        have HS0 : ∃ (a : Option Addr) (bs : List Nat) (c : Nat) (bad : Bool), RowKit.Hid (bs.length ≤ c) ∧ RowKit.Hid (RdAt w a bs) ∧ RowKit.Hid (NIs (some b1) bs bad) ∧ Hp w.heap.size w w1 (⟨bS, [.int .i64 od, .slice oa os.length oc, .int .i64 nx, .int .i64 t0, .int .i64 t1, .int .i64 t2, .int .i64 t3, .slice fa fs.length fc, .slice none 0 0], 86, 9⟩ :: ⟨br, [.slice a bs.length c, .bool bad], 130, 2⟩ :: ⟨bH, [.int .i64 od, .slice oa os.length oc, .int .i64 nx, .int .i64 t0, .int .i64 t1, .int .i64 t2, .int .i64 t3, .slice fa fs.length fc], 83, 8⟩ :: ⟨b2, [.int .i64 0, .slice none 0 0, .int .i64 0, .int .i64 0, .int .i64 0, .int .i64 0, .int .i64 0, .slice none 0 0, .slice none 0 0], 86, 9⟩ :: RH) :=
          ⟨if c0 = m then some ⟨ba, off, none⟩ else some ⟨ba, off + m, none⟩, b1, c0 - m, false, Lib.hid (by have := HB1L.out; omega), Lib.hid (by
            by_cases hcm : c0 = m
            · rw [if_pos hcm, HNIL.out hcm]; exact RdAt.none_ _ _
            · rw [if_neg hcm]; exact HDR.out), Lib.hid ⟨rfl, rfl⟩, by rw [HB1L.out]; exact hp⟩
        clear hp HA HDR
        obtain ⟨a, bs, c, bad, HNC, HA, HNI, hp⟩ := HS0
        go_wp2_with (first | (go_at_call 93; have hst : NSt w _ (some b1) _ _ := ⟨a, bs, c, bad, HNC.out, HA.out, HNI.out, h_in hp⟩; (with_reducible refine (num93 _ (some b1) hst).mono ?_); clear hst; clear hp HNC HA HNI; rintro e w1 ⟨kn, st1, hkn, rfl, hr1, a, bs, c, bad, hnc, ha, hni, hp⟩; have HR1 := Lib.hid hr1; clear hr1; replace hp := h_out hp; have HNC := Lib.hid hnc; have HA := Lib.hid ha; have HNI := Lib.hid hni; clear hnc ha hni) | go_skip | (first | (refine hA0 ?_; clear hp; intro b w1 hp) | refine hL2 ?_ | (refine hS1 ?_; clear hp; intro w1 hp)))
        go_loopg [12] 5 (fun k i wr => ∃ (q : Nat) (rs : List Rw) (stq : Option (List Nat)) (ra : Option Addr) (rc : Nat) (RR : List Blk) (a : Option Addr) (bs : List Nat) (c : Nat) (bad : Bool), k + q = 5 ∧ i = .int .i64 q ∧ q ≤ kn ∧ RowKit.Hid (rs.length = q) ∧ RowKit.Hid (NRel (repR rowR q) st1 rs stq) ∧ RowKit.Hid (OwnRow 121 4 (.slice ra q rc) q (rs.flatMap rwV) RR) ∧ RowKit.Hid (bs.length ≤ c) ∧ RowKit.Hid (RdAt w a bs) ∧ RowKit.Hid (NIs stq bs bad) ∧
          Hp w.heap.size w wr (⟨bS, [.int .i64 od, .slice oa os.length oc, .int .i64 nx, .int .i64 t0, .int .i64 t1, .int .i64 t2, .int .i64 t3, .slice fa fs.length fc, .slice ra q rc], 86, 9⟩ :: ⟨br, [.slice a bs.length c, .bool bad], 130, 2⟩ :: ⟨bH, [.int .i64 od, .slice oa os.length oc, .int .i64 nx, .int .i64 t0, .int .i64 t1, .int .i64 t2, .int .i64 t3, .slice fa fs.length fc], 83, 8⟩ :: ⟨b2, [.int .i64 0, .slice none 0 0, .int .i64 0, .int .i64 0, .int .i64 0, .int .i64 0, .int .i64 0, .slice none 0 0, .slice none 0 0], 86, 9⟩ :: (RR ++ RH)))
        case atStart => exact ⟨0, [], st1, none, 0, [], a, bs, c, bad, by omega, rfl, Nat.zero_le _, Lib.hid rfl, Lib.hid (NRel.zero_ _ _), Lib.hid (OwnRow.nil _ _), HNC, HA, HNI, hp⟩
        case round =>
          clear hp HNC HA HNI
          obtain ⟨q, rs, stq, ra, rc, RR, a, bs, c, bad, hkq, rfl, hqk, HLQ, HRQ, HRR, HNC, HA, HNI, hp⟩ := hrel
          by_cases hgo : q < kn ∧ q ≤ 4 ∧ bad = false
          · obtain ⟨g1, g2, rfl⟩ := hgo
            have f1 : decide ((q : Int) < (kn : Int)) = true := by simp; omega
            have f2 : decide ((q : Int) ≤ 4) = true := by simp; omega
            go_wp2_with (first | (go_at_call 93; have hst : NSt w _ stq _ _ := ⟨a, bs, c, _, HNC.out, HA.out, HNI.out, rd_in hp⟩; (with_reducible refine (num93 _ stq hst).mono ?_); clear hst; clear hp HNC HA HNI; rintro e w1 ⟨xc, stA, _, rfl, hr, a, bs, c, bad, hnc, ha, hni, hp⟩; have HRA := Lib.hid hr; clear hr; replace hp := rd_out hp; have HNC := Lib.hid hnc; have HA := Lib.hid ha; have HNI := Lib.hid hni; clear hnc ha hni) | go_skip | (first | (refine hA0 ?_; clear hp; intro b w1 hp) | refine hL2 ?_ | (refine hS1 ?_; clear hp; intro w1 hp)))
            go_wp2_with (first | (go_at_call 93; have hst : NSt w _ stA _ _ := ⟨a, bs, c, bad, HNC.out, HA.out, HNI.out, rd_in hp⟩; (with_reducible refine (num93 _ stA hst).mono ?_); clear hst; clear hp HNC HA HNI; rintro e w1 ⟨xs, stB_, _, rfl, hr, a, bs, c, bad, hnc, ha, hni, hp⟩; have HRB := Lib.hid hr; clear hr; replace hp := rd_out hp; have HNC := Lib.hid hnc; have HA := Lib.hid ha; have HNI := Lib.hid hni; clear hnc ha hni) | go_skip | (first | (refine hA0 ?_; clear hp; intro b w1 hp) | refine hL2 ?_ | (refine hS1 ?_; clear hp; intro w1 hp)))
            go_wp2_with (first | (go_at_call 93; have hst : NSt w _ stB_ _ _ := ⟨a, bs, c, bad, HNC.out, HA.out, HNI.out, rd_in hp⟩; (with_reducible refine (num93 _ stB_ hst).mono ?_); clear hst; clear hp HNC HA HNI; rintro e w1 ⟨xe, stC, _, rfl, hr, a, bs, c, bad, hnc, ha, hni, hp⟩; have HRC := Lib.hid hr; clear hr; replace hp := rd_out hp; have HNC := Lib.hid hnc; have HA := Lib.hid ha; have HNI := Lib.hid hni; clear hnc ha hni) | go_skip | (first | (refine hA0 ?_; clear hp; intro b w1 hp) | refine hL2 ?_ | (refine hS1 ?_; clear hp; intro w1 hp)))
            go_wp2_with (first | (go_at_call 94; have hst : NSt w _ stC _ _ := ⟨a, bs, c, bad, HNC.out, HA.out, HNI.out, rd_in hp⟩; (with_reducible refine (int94 _ stC hst).mono ?_); clear hst; clear hp HNC HA HNI; rintro e w1 ⟨xv, stE, rfl, hr, a, bs, c, bad, hnc, ha, hni, hp⟩; have HRD := Lib.hid hr; clear hr; replace hp := rd_out hp; have HNC := Lib.hid hnc; have HA := Lib.hid ha; have HNI := Lib.hid hni; clear hnc ha hni) | ((with_reducible refine pre_append _ _ 84 rfl ?_); refine wpList_appendGrow (K := [_, _, _, _, _]) (R := RR) (M := RH) hp _ _ _ rfl wy i0 _ 32 Tryz.underlying84 hi0 hz0 hz1 hz2 rfl (by decide) (sTm rfl) HRR.out 1 1 (sTm rfl) (by rfl) (by decide) (by rfl) (by unfold maxLen; omega) (by omega) ?_; clear hp; intro v' R' w1 hR' hp; obtain ⟨ra', rc', rfl, _⟩ := hR'.kept; have HRR' := Lib.hid hR'; clear hR'; simp only [List.cons_append, List.nil_append] at hp; simp only [put_some, put_none, sSet, zSet]) | go_skip | (first | (refine hA0 ?_; clear hp; intro b w1 hp) | refine hL2 ?_ | (refine hS1 ?_; clear hp; intro w1 hp)))
            go_roundg (gk - 1)
            case measure => omega
            case rel =>
              replace hp := hp.tail
              exact ⟨q + 1, rs ++ [⟨xc, xs, xe, xv⟩], stE, ra', rc', R', a, bs, c, bad, by omega, by go_num, by omega, Lib.hid (by rw [List.length_append, HLQ.out]; rfl), Lib.hid (HRQ.out.step (rrel_of HRA.out HRB.out HRC.out HRD.out)), Lib.hid (by have := HRR'.out; rw [List.flatMap_append]; exact this), HNC, HA, HNI, hp⟩
          · have hN := stateN HT.out HHH.out HR1.out HRQ.out hqk
            cases stq with
            | none =>
              obtain rfl : bad = true := HNI.out
              have HE : RowKit.Hid (stateR bs0 = none) := Lib.hid (hN.1 rfl)
              clear hN
              by_cases k1 : q < kn
              · have f1 : decide ((q : Int) < (kn : Int)) = true := by simp; omega
                by_cases k2 : q ≤ 4
                · have f2 : decide ((q : Int) ≤ 4) = true := by simp; omega
                  go_wp2_with (first | go_skip | (first | (refine hA0 ?_; clear hp; intro b w1 hp) | refine hL2 ?_ | (refine hS1 ?_; clear hp; intro w1 hp)))
                  refine bodyPost_ret (results_many (rs := [.cell 2 86, .tmp 3]) Tryz.results63 (.cell rfl (hp.loadAgg agg86 at3 0 _ (by rfl) (by rfl)) (.tmp rfl .nil))) rfl ?_; rw [HE.out]; exact ⟨rfl, hp.below⟩
                · have f2 : decide ((q : Int) ≤ 4) = false := by simp; omega
                  go_wp2_with (first | go_skip | (first | (refine hA0 ?_; clear hp; intro b w1 hp) | refine hL2 ?_ | (refine hS1 ?_; clear hp; intro w1 hp)))
                  refine bodyPost_ret (results_many (rs := [.cell 2 86, .tmp 3]) Tryz.results63 (.cell rfl (hp.loadAgg agg86 at3 0 _ (by rfl) (by rfl)) (.tmp rfl .nil))) rfl ?_; rw [HE.out]; exact ⟨rfl, hp.below⟩
              · have f1 : decide ((q : Int) < (kn : Int)) = false := by simp; omega
                go_wp2_with (first | go_skip | (first | (refine hA0 ?_; clear hp; intro b w1 hp) | refine hL2 ?_ | (refine hS1 ?_; clear hp; intro w1 hp)))
                refine bodyPost_ret (results_many (rs := [.cell 2 86, .tmp 3]) Tryz.results63 (.cell rfl (hp.loadAgg agg86 at3 0 _ (by rfl) (by rfl)) (.tmp rfl .nil))) rfl ?_; rw [HE.out]; exact ⟨rfl, hp.below⟩
            | some b =>
              obtain ⟨hb1, hb2⟩ := HNI.out
              subst hb1 hb2
              obtain ⟨nb, hnb⟩ : ∃ nb, bs.length = nb := ⟨_, rfl⟩
              rw [hnb] at hp
              by_cases k1 : q < kn
              · have k2 : ¬ q ≤ 4 := fun h => hgo ⟨k1, h, rfl⟩
                have HE : RowKit.Hid (stateR bs0 = none) := Lib.hid (hN.2.1 (by omega))
                have f1 : decide ((q : Int) < (kn : Int)) = true := by simp; omega
                have f2 : decide ((q : Int) ≤ 4) = false := by simp; omega
                have f3 : ((kn : Int) == (q : Int)) = false := by simp; omega
                clear hN hnb hgo
                by_cases k3 : 0 < nb
                · go_wp2_with (first | go_skip | (first | (refine hA0 ?_; clear hp; intro b w1 hp) | refine hL2 ?_ | (refine hS1 ?_; clear hp; intro w1 hp)))
                  refine bodyPost_ret (results_many (rs := [.cell 2 86, .tmp 3]) Tryz.results63 (.cell rfl (hp.loadAgg agg86 at3 0 _ (by rfl) (by rfl)) (.tmp rfl .nil))) rfl ?_; rw [HE.out]; exact ⟨rfl, hp.below⟩
                · have k4 : decide ((0 : Int) < (nb : Int)) = false := by simp; omega
                  go_wp2_with (first | go_skip | (first | (refine hA0 ?_; clear hp; intro b w1 hp) | refine hL2 ?_ | (refine hS1 ?_; clear hp; intro w1 hp)))
                  refine bodyPost_ret (results_many (rs := [.cell 2 86, .tmp 3]) Tryz.results63 (.cell rfl (hp.loadAgg agg86 at3 0 _ (by rfl) (by rfl)) (.tmp rfl .nil))) rfl ?_; rw [HE.out]; exact ⟨rfl, hp.below⟩
              · have hl := HLQ.out
                subst hl
                obtain rfl : kn = rs.length := by omega
                have f1 : decide ((rs.length : Int) < (rs.length : Int)) = false := by simp
                have HFIN : RowKit.Hid ((0 < nb → stateR bs0 = none) ∧ (¬ 0 < nb → (stB ⟨⟨od, oa, os, oc, nx, t0, t1, t2, t3, fa, fs, fc⟩, ra, rs, rc⟩ = true → ∃ y, stateR bs0 = some y ∧ Sv.Sm ⟨⟨od, oa, os, oc, nx, t0, t1, t2, t3, fa, fs, fc⟩, ra, rs, rc⟩ y) ∧ (stB ⟨⟨od, oa, os, oc, nx, t0, t1, t2, t3, fa, fs, fc⟩, ra, rs, rc⟩ = false → stateR bs0 = none))) := Lib.hid (by
                  have hsm : Sv.Sm ⟨⟨od, oa, os, oc, nx, t0, t1, t2, t3, fa, fs, fc⟩, ra, rs, rc⟩ ⟨x, none, rs, 0⟩ := ⟨HSM.out, rfl⟩
                  by_cases h4 : 4 < rs.length
                  · have hn := hN.2.1 h4
                    refine ⟨fun _ => hn, fun _ => ⟨fun h => ?_, fun _ => hn⟩⟩
                    have := rowsOk_len (st_of h).rows (by decide)
                    simp only at this
                    omega
                  · have h0 := stateN_end (hN.2.2 bs rfl rfl (by omega))
                    refine ⟨fun h => h0.1 (by omega), fun h => ⟨fun hy => ?_, fun hy => ?_⟩⟩
                    · exact ⟨_, by rw [h0.2 (by omega), ← stB_sm hsm, hy]; rfl, hsm⟩
                    · rw [h0.2 (by omega), ← stB_sm hsm, hy]; rfl)
                clear hN hnb hgo
                by_cases k3 : 0 < nb
                · have HE : RowKit.Hid (stateR bs0 = none) := Lib.hid (HFIN.out.1 k3)
                  go_wp2_with (first | go_skip | (first | (refine hA0 ?_; clear hp; intro b w1 hp) | refine hL2 ?_ | (refine hS1 ?_; clear hp; intro w1 hp)))
                  refine bodyPost_ret (results_many (rs := [.cell 2 86, .tmp 3]) Tryz.results63 (.cell rfl (hp.loadAgg agg86 at3 0 _ (by rfl) (by rfl)) (.tmp rfl .nil))) rfl ?_; rw [HE.out]; exact ⟨rfl, hp.below⟩
                · have k4 : decide ((0 : Int) < (nb : Int)) = false := by simp; omega
                  have HSS : RowKit.Hid (Sv.Small ⟨⟨od, oa, os, oc, nx, t0, t1, t2, t3, fa, fs, fc⟩, ra, rs, rc⟩) := Lib.hid ⟨HXR.out.small.sm HSM.out.symm, by simp only; omega⟩
                  have HIS : RowKit.Hid (Kept (RR ++ RH) fun w => Sv.Is w ⟨⟨od, oa, os, oc, nx, t0, t1, t2, t3, fa, fs, fc⟩, ra, rs, rc⟩) := Lib.hid ((HRR.out.keptS.and HOW.out.kept).mono (fun _ h => h) (fun w ⟨h1, h2⟩ => ⟨h2, h1⟩))
                  obtain ⟨b, hb⟩ : ∃ b, stB ⟨⟨od, oa, os, oc, nx, t0, t1, t2, t3, fa, fs, fc⟩, ra, rs, rc⟩ = b := ⟨_, rfl⟩
                  have HB := Lib.hid hb
                  clear hb
                  cases b with
                  | false =>
                    have HE := Lib.hid ((HFIN.out.2 k3).2 HB.out)
                    go_wp2_with (first | (go_at_call 95; (with_reducible refine (right95L od oa os oc nx t0 t1 t2 t3 fa fs fc ra rs rc _ HB.out HSS.out HNX.out _ (HIS.out.at hp (fun p hm => by simp only [List.mem_append, List.mem_cons] at hm ⊢; rcases hm with hm | hm <;> simp [hm]))).mono ?_); rintro e w1 ⟨rfl, hb⟩; replace hp := hp.call hb; clear hb) | go_skip | (first | (refine hA0 ?_; clear hp; intro b w1 hp) | refine hL2 ?_ | (refine hS1 ?_; clear hp; intro w1 hp)))
                    refine bodyPost_ret (results_many (rs := [.cell 2 86, .tmp 3]) Tryz.results63 (.cell rfl (hp.loadAgg agg86 at3 0 _ (by rfl) (by rfl)) (.tmp rfl .nil))) rfl ?_; rw [HE.out]; exact ⟨rfl, hp.below⟩
                  | true =>
                    have HE := Lib.hid ((HFIN.out.2 k3).1 HB.out)
                    go_wp2_with (first | (go_at_call 95; (with_reducible refine (right95L od oa os oc nx t0 t1 t2 t3 fa fs fc ra rs rc _ HB.out HSS.out HNX.out _ (HIS.out.at hp (fun p hm => by simp only [List.mem_append, List.mem_cons] at hm ⊢; rcases hm with hm | hm <;> simp [hm]))).mono ?_); rintro e w1 ⟨rfl, hb⟩; replace hp := hp.call hb; clear hb) | go_skip | (first | (refine hA0 ?_; clear hp; intro b w1 hp) | refine hL2 ?_ | (refine hS1 ?_; clear hp; intro w1 hp)))
                    refine bodyPost_ret (results_many (rs := [.cell 2 86, .tmp 3]) Tryz.results63 (.cell rfl (hp.loadAgg agg86 at3 0 _ (by rfl) (by rfl)) (.tmp rfl .nil))) rfl ?_
                    obtain ⟨y, hy, hsm⟩ := HE.out
                    rw [hy]
                    exact ⟨⟨⟨od, oa, os, oc, nx, t0, t1, t2, t3, fa, fs, fc⟩, ra, rs, rc⟩, RR ++ RH, rfl, hsm, ⟨RR, RH, rfl, HRR.out, HOW.out⟩, hp.kp⟩
end Go.Proofs.YtcjbepaclbhjaaaGreat
