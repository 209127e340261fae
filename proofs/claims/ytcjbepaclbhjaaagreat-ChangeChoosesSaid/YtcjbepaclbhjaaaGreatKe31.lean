/- Parts of the proof. -/
import Derived.Test.YtcjbepaclbhjaaaGreatKe1
import Derived.Test.YtcjbepaclbhjaaaGreatKe27
import Derived.Test.YtcjbepaclbhjaaaGreatKe28
import Derived.Test.YtcjbepaclbhjaaaGreatKe22
import Derived.Test.YtcjbepaclbhjaaaGreatKe30
open List renaming set_cons_zero → zSet, set_cons_succ → sSet
/- The walk of the document's GetHeap. -/
set_option linter.unusedSimpArgs false
set_option linter.unusedVariables false
namespace Go.Proofs.YtcjbepaclbhjaaaGreat
open Go.RowKit
theorem obsSm_snoc {l k : List Ob} {x y : Ob} (h : ObsSm l k) (hx : x.Sm y) : ObsSm (l ++ [x]) (k ++ [y]) := obs_snoc2 h hx
def OsRel (q : Nat) (st : Option (List Nat)) (l : List Ob) (st' : Option (List Nat)) : Prop := match st.bind (repR objR q) with
  | some (l0, b1) => ObsSm l l0 ∧ st' = some b1
  | none => st' = none
theorem OsRel.zero_ (st : Option (List Nat)) : OsRel 0 st [] st := by
  cases st with
  | none => rfl
  | some b => exact ⟨ObsSm.refl _, rfl⟩
theorem OsRel.step {q : Nat} {st st1 st2 : Option (List Nat)} {l : List Ob} {x : Ob} (h1 : OsRel q st l st1) (h2 : ORel st1 x st2) : OsRel (q + 1) st (l ++ [x]) st2 := by
  have hn : ∀ {s : Option (List Nat)}, ORel none x s → s = none := fun h => h
  cases st with
  | none =>
    obtain rfl : st1 = none := h1
    obtain rfl := hn h2
    rfl
  | some b =>
    unfold OsRel at h1 ⊢
    replace h1 : (match repR objR q b with | some (l0, b1) => ObsSm l l0 ∧ st1 = some b1 | none => st1 = none) := h1
    show (match repR objR (q + 1) b with | some (l0, b1) => ObsSm (l ++ [x]) l0 ∧ st2 = some b1 | none => st2 = none)
    cases e1 : repR objR q b with
    | none =>
      rw [e1] at h1
      obtain rfl : st1 = none := h1
      obtain rfl := hn h2
      have e2 : repR objR (q + 1) b = none := by unfold repR; rw [e1]
      rw [e2]
    | some p =>
      obtain ⟨l0, b1⟩ := p
      rw [e1] at h1
      obtain ⟨hl, rfl⟩ := h1
      unfold ORel at h2
      replace h2 : (match objR b1 with | some (o, b1) => x.Sm o ∧ st2 = some b1 | none => st2 = none) := h2
      cases e2 : objR b1 with
      | none =>
        rw [e2] at h2
        rw [repR_fail e1 e2 (q + 1) (Nat.lt_succ_self q)]
        exact h2
      | some p2 =>
        obtain ⟨x0, b2⟩ := p2
        rw [e2] at h2
        obtain ⟨hx, rfl⟩ := h2
        rw [repR_step e1 e2]
        exact ⟨obsSm_snoc hl hx, rfl⟩
theorem repR_mono {α : Type} {one : List Nat → Option (α × List Nat)} {q : Nat} {b : List Nat} (h : repR one q b = none) : ∀ n, q ≤ n → repR one n b = none
  | 0, hn => by rw [show q = 0 by omega] at h; exact h
  | n + 1, hn => by
    by_cases hq : q = n + 1
    · rw [← hq]; exact h
    · unfold repR
      rw [repR_mono h n (by omega)]
theorem heapR_none {bs : List Nat} (h : heapR0 bs = none) : heapR bs = none := by unfold heapR wholeR; rw [h]
theorem heapN {bs : List Nat} {st1 st2 st3 st4 st5 : Option (List Nat)} {od nx : Int} {ts : List Int} {kn q : Nat} {os : List Ob} (h1 : NRel nR (some bs) od st1) (h2 : NRel nR st1 nx st2) (h3 : NRel (repR nR 4) st2 ts st3) (h4 : NRel nR st3 (kn : Int) st4) (h5 : OsRel q st4 os st5) (hq : q ≤ kn) :
    (st5 = none → heapR bs = none) ∧ (256 < kn → heapR bs = none) ∧ (∀ b, st5 = some b → q = kn → kn ≤ 256 → ∃ os0, ObsSm os os0 ∧ heapR0 bs = heapR3 od nx ts os0 b) := by
  have hO : ∀ {s : Option (List Nat)}, OsRel q none os s → s = none := fun h => h
  cases e1 : nR bs with
  | none =>
    obtain rfl := h1.bad e1
    obtain rfl := h2.none_
    obtain rfl := h3.none_
    obtain rfl := h4.none_
    obtain rfl := hO h5
    have h0 : heapR bs = none := heapR_none (by unfold heapR0; rw [e1])
    exact ⟨fun _ => h0, fun _ => h0, fun b hb => by cases hb⟩
  | some p1 =>
    obtain ⟨x1, b1⟩ := p1
    obtain ⟨rfl, rfl⟩ := h1.good e1
    cases e2 : nR b1 with
    | none =>
      obtain rfl := h2.bad e2
      obtain rfl := h3.none_
      obtain rfl := h4.none_
      obtain rfl := hO h5
      have h0 : heapR bs = none := heapR_none (by unfold heapR0; rw [e1]; simp only; rw [e2])
      exact ⟨fun _ => h0, fun _ => h0, fun b hb => by cases hb⟩
    | some p2 =>
      obtain ⟨x2, b2⟩ := p2
      obtain ⟨rfl, rfl⟩ := h2.good e2
      cases e3 : repR nR 4 b2 with
      | none =>
        obtain rfl := h3.bad e3
        obtain rfl := h4.none_
        obtain rfl := hO h5
        have h0 : heapR bs = none := heapR_none (by unfold heapR0 heapR1; rw [e1]; simp only; rw [e2]; simp only; rw [e3])
        exact ⟨fun _ => h0, fun _ => h0, fun b hb => by cases hb⟩
      | some p3 =>
        obtain ⟨x3, b3⟩ := p3
        obtain ⟨rfl, rfl⟩ := h3.good e3
        cases e4 : nR b3 with
        | none =>
          obtain rfl := h4.bad e4
          obtain rfl := hO h5
          have h0 : heapR bs = none := heapR_none (by unfold heapR0 heapR1 heapR2; rw [e1]; simp only; rw [e2]; simp only; rw [e3]; simp only; rw [e4])
          exact ⟨fun _ => h0, fun _ => h0, fun b hb => by cases hb⟩
        | some p4 =>
          obtain ⟨x4, b4⟩ := p4
          obtain ⟨e, rfl⟩ := h4.good e4
          subst e
          have hr : heapR0 bs = if (256 : Int) < (kn : Int) then none else match repR objR kn b4 with | none => none | some (os, b5) => heapR3 od nx ts os b5 := by
            unfold heapR0 heapR1 heapR2; rw [e1]; simp only; rw [e2]; simp only; rw [e3]; simp only; rw [e4]; simp only [Int.toNat_natCast]; rfl
          unfold OsRel at h5
          replace h5 : (match repR objR q b4 with | some (l0, b1) => ObsSm os l0 ∧ st5 = some b1 | none => st5 = none) := h5
          have h256 : 256 < kn → heapR bs = none := fun h => heapR_none (by rw [hr, if_pos (by omega)])
          cases e5 : repR objR q b4 with
          | none =>
            rw [e5] at h5
            have h0 : heapR bs = none := heapR_none (by rw [hr, repR_mono e5 kn hq]; split <;> rfl)
            exact ⟨fun _ => h0, fun _ => h0, fun b hb => by rw [h5] at hb; cases hb⟩
          | some p5 =>
            obtain ⟨os0, b5⟩ := p5
            rw [e5] at h5
            obtain ⟨hs, rfl⟩ := h5
            refine ⟨fun h => (by cases h), h256, fun b hb hqk h2 => ⟨os0, hs, ?_⟩⟩
            injection hb with hb
            subst hb hqk
            show heapR0 bs = _
            rw [hr, if_neg (by omega), e5]
theorem heapN_end {bs b : List Nat} {od nx : Int} {ts : List Int} {os0 : List Ob} (h : heapR0 bs = heapR3 od nx ts os0 b) : (b.length ≠ 0 → heapR bs = none) ∧ (regionB od = false → heapR bs = none) ∧
    (b.length = 0 → regionB od = true → heapR bs = if hrightB (mkHv od os0 nx ts (lfN (pw od) os0 od.toNat 0)) = true then some (mkHv od os0 nx ts (lfN (pw od) os0 od.toNat 0)) else none) := by
  unfold heapR wholeR
  rw [h]
  unfold heapR3
  refine ⟨fun h0 => ?_, fun h0 => ?_, fun h0 h1 => ?_⟩
  · split
    · rename_i x r hx
      split at hx
      · split at hx
        · injection hx with hx; injection hx with _ hx
          subst hx
          rw [if_neg h0]
        · cases hx
      · cases hx
    · rfl
  · rw [h0]; rfl
  · rw [if_pos h1]
    split
    · rename_i x r hx
      split at hx
      · rename_i hb
        injection hx with hx; injection hx with hx1 hx2
        subst hx1 hx2
        rw [if_pos h0]
        rw [if_pos hb]
      · cases hx
    · rename_i hx
      split at hx
      · cases hx
      · rename_i hb
        rw [if_neg hb]
theorem right05_L (od : Int) (oa : Option Addr) (os : List Ob) (oc : Nat) (nx t0 t1 t2 t3 : Int) (fa : Option Addr) (fs : List Bl) (fc : Nat) (b : Bool) (hb : hrightB ⟨od, oa, os, oc, nx, t0, t1, t2, t3, fa, fs, fc⟩ = b) (hs : Hv.Small ⟨od, oa, os, oc, nx, t0, t1, t2, t3, fa, fs, fc⟩) (hnx : nx ≤ 9223372036854775807) (w : World) (h : Hv.Is w ⟨od, oa, os, oc, nx, t0, t1, t2, t3, fa, fs, fc⟩) :
    Calls Tryz.prog 115 #[.agg #[.int .i64 od, .slice oa os.length oc, .int .i64 nx, .int .i64 t0, .int .i64 t1, .int .i64 t2, .int .i64 t3, .slice fa fs.length fc]] w fun e w' => e = .returned (.bool b) ∧ Below w.heap.size w w' := hb ▸ right115 ⟨od, oa, os, oc, nx, t0, t1, t2, t3, fa, fs, fc⟩ hs hnx w h
theorem h_in {B : Nat} {w0 w : World} {x y r : Blk} {L : List Blk} (hp : Hp B w0 w (x :: r :: y :: L)) : Hp B w0 w (r :: x :: y :: L) := hp.kp
theorem h_out {B : Nat} {w0 w : World} {x y r : Blk} {L : List Blk} (hp : Hp B w0 w (r :: x :: y :: L)) : Hp B w0 w (x :: r :: y :: L) := hp.kp
theorem o_out {B : Nat} {w0 w : World} {x y r : Blk} {Ry Ro Mo : List Blk} (hp : Hp B w0 w (r :: (Ry ++ (x :: y :: (Ro ++ Mo))))) : Hp B w0 w (x :: r :: y :: (Ro ++ (Mo ++ Ry))) := hp.kp
theorem osrel_fit {q : Nat} {st : Option (List Nat)} {os : List Ob} {b : List Nat} (h : OsRel q st os (some b)) : ∀ x ∈ os, ObFit x := by
  unfold OsRel at h
  split at h
  · rename_i l0 b1 hx
    cases st with
    | none => cases hx
    | some b0 => exact fun x hm => (sm_fit h.1 (rep_all (fun bs x r h => obj_fit h) (show repR objR q b0 = some (l0, b1) from hx)) x hm).1
  · cases h
theorem region_b (o : Int) (b : Bool) (hb : regionB o = b) (w : World) : Calls Tryz.prog 113 #[.int .i64 o] w fun e w' => e = .returned (.bool b) ∧ w = w' := hb ▸ region113 o w
set_option maxRecDepth 100000 in
set_option maxHeartbeats 16000000 in
theorem geth92 (bs0 : List Nat) (a0 : Option Addr) (c0 : Nat) (hnc0 : bs0.length ≤ c0) (w : World) (ha0 : RdAt w a0 bs0) :
    Calls Tryz.prog 92 #[.slice a0 bs0.length c0] w (GetPost w (heapR bs0)) := by
  obtain ⟨i0, hi0, hz0, hz1, hz2⟩ := info_parts info152
  have hp := Hp.start w
  obtain ⟨a, ha_⟩ : ∃ a, a = a0 := ⟨_, rfl⟩
  obtain ⟨bs, hbs_⟩ : ∃ bs, bs = bs0 := ⟨_, rfl⟩
  obtain ⟨c, hc_⟩ : ∃ c, c = c0 := ⟨_, rfl⟩
  obtain ⟨bad, hbad⟩ : ∃ bad, bad = false := ⟨_, rfl⟩
  have HNC : RowKit.Hid (bs.length ≤ c) := Lib.hid (by rw [hbs_, hc_]; exact hnc0)
  have HA : RowKit.Hid (RdAt w a bs) := Lib.hid (by rw [ha_, hbs_]; exact ha0)
  have HNI : RowKit.Hid (NIs (some bs0) bs false) := Lib.hid ⟨rfl, hbs_⟩
  rw [← ha_, ← hc_]
  rw [show bs0.length = bs.length by rw [hbs_]]
  clear hnc0 ha0 ha_ hc_ hbs_ hbad
  go_enter Tryz.func92, Tryz.ntmps92
  go_wp2_with (first | (go_at_call 93; have hst : NSt w _ (some bs0) _ _ := ⟨a, bs, c, false, HNC.out, HA.out, HNI.out, h_in hp⟩; (with_reducible refine (num93 _ (some bs0) hst).mono ?_); clear hst; clear hp HNC HA HNI; rintro e w1 ⟨od, st1, hx1, rfl, hr1, a, bs, c, bad, hnc, ha, hni, hp⟩; have HR1 := Lib.hid hr1; clear hr1; replace hp := h_out hp; have HNC := Lib.hid hnc; have HA := Lib.hid ha; have HNI := Lib.hid hni; clear hnc ha hni) | go_skip | (first | (refine hA0 ?_; clear hp; intro b w1 hp) | refine hL0 ?_ | (refine hS0 ?_; clear hp; intro w1 hp)))
  go_wp2_with (first | (go_at_call 93; have hst : NSt w _ st1 _ _ := ⟨a, bs, c, bad, HNC.out, HA.out, HNI.out, h_in hp⟩; (with_reducible refine (num93 _ st1 hst).mono ?_); clear hst; clear hp HNC HA HNI; rintro e w1 ⟨nx, st2, hx2, rfl, hr2, a, bs, c, bad, hnc, ha, hni, hp⟩; have HR2 := Lib.hid hr2; clear hr2; replace hp := h_out hp; have HNC := Lib.hid hnc; have HA := Lib.hid ha; have HNI := Lib.hid hni; clear hnc ha hni) | go_skip | (first | (refine hA0 ?_; clear hp; intro b w1 hp) | refine hL0 ?_ | (refine hS0 ?_; clear hp; intro w1 hp)))
  obtain ⟨bh, rfl⟩ := hp.id0
  obtain ⟨br, rfl⟩ := hp.id1
  obtain ⟨b2, rfl⟩ := hp.id2
  go_loopg [6] 4 (fun k i wr => ∃ (j : Nat) (l : List Int) (stq : Option (List Nat)) (t0 t1 t2 t3 : Int) (a : Option Addr) (bs : List Nat) (c : Nat) (bad : Bool), k + j = 4 ∧ i = .int .i64 j ∧ RowKit.Hid (l.length = j) ∧ RowKit.Hid (NRel (repR nR j) st2 l stq) ∧ RowKit.Hid ([t0, t1, t2, t3] = (l ++ [0, 0, 0, 0]).take 4) ∧ RowKit.Hid (bs.length ≤ c) ∧ RowKit.Hid (RdAt w a bs) ∧ RowKit.Hid (NIs stq bs bad) ∧
    Hp w.heap.size w wr [⟨bh, [.int .i64 od, .slice none 0 0, .int .i64 nx, .int .i64 t0, .int .i64 t1, .int .i64 t2, .int .i64 t3, .slice none 0 0], 83, 8⟩, ⟨br, [.slice a bs.length c, .bool bad], 130, 2⟩, ⟨b2, [.int .i64 0, .slice none 0 0, .int .i64 0, .int .i64 0, .int .i64 0, .int .i64 0, .int .i64 0, .slice none 0 0], 83, 8⟩])
  case atStart => exact ⟨0, [], st2, 0, 0, 0, 0, a, bs, c, bad, by omega, rfl, Lib.hid rfl, Lib.hid (NRel.zero_ _ _), Lib.hid rfl, HNC, HA, HNI, hp⟩
  case round =>
    clear hp HNC HA HNI
    obtain ⟨j, l, stq, t0, t1, t2, t3, a, bs, c, bad, hkj, rfl, HLJ, HRQ, HT, HNC, HA, HNI, hp⟩ := hrel
    by_cases hlt : j < 4
    · have hll := HLJ.out
      rcases l with _ | ⟨a0, _ | ⟨a1, _ | ⟨a2, _ | ⟨a3, l⟩⟩⟩⟩
      all_goals simp only [List.length_cons, List.length_nil] at hll
      case cons.cons.cons.cons => omega
      all_goals
        clear HLJ
        subst hll
        have ht := HT.out
        simp at ht
        obtain ⟨rfl, rfl, rfl, rfl⟩ := ht
        go_wp2_with (first | (go_at_call 93; have hst : NSt w _ stq _ _ := ⟨a, bs, c, bad, HNC.out, HA.out, HNI.out, h_in hp⟩; (with_reducible refine (num93 _ stq hst).mono ?_); clear hst; clear hp HNC HA HNI; rintro e w1 ⟨v, sts, _, rfl, hr, a, bs, c, bad, hnc, ha, hni, hp⟩; have HRS := Lib.hid hr; clear hr; replace hp := h_out hp; have HNC := Lib.hid hnc; have HA := Lib.hid ha; have HNI := Lib.hid hni; clear hnc ha hni) | go_skip | (first | (refine hA0 ?_; clear hp; intro b w1 hp) | refine hL0 ?_ | (refine hS0 ?_; clear hp; intro w1 hp)))
        go_roundg (gk - 1)
        case measure => omega
        case rel => exact ⟨_, _, sts, _, _, _, _, a, bs, c, bad, by omega, by go_num, Lib.hid (by rw [List.length_append]; rfl), Lib.hid (HRQ.out.step HRS.out), Lib.hid rfl, HNC, HA, HNI, hp⟩
    · obtain rfl : j = 4 := by omega
      obtain ⟨g0, g1, g2, g3⟩ := tops4 HLJ.out HT.out
      have HTS := Lib.hid (show t0 = l.getD 0 0 ∧ t1 = l.getD 1 0 ∧ t2 = l.getD 2 0 ∧ t3 = l.getD 3 0 from ⟨g0, g1, g2, g3⟩)
      obtain ⟨st3, hst3⟩ : ∃ st3, st3 = stq := ⟨_, rfl⟩
      rw [← hst3] at HRQ HNI
      have HR3 := HRQ
      have f2 : decide (((4 : Nat) : Int) < 4) = false := by decide
      clear hkj hlt g0 g1 g2 g3 HT HRQ hst3 HLJ
      go_wp2_with (first | (go_at_call 93; have hst : NSt w _ st3 _ _ := ⟨a, bs, c, bad, HNC.out, HA.out, HNI.out, h_in hp⟩; (with_reducible refine (num93 _ st3 hst).mono ?_); clear hst; clear hp HNC HA HNI; rintro e w1 ⟨kn, st4, hx4, rfl, hr4, a, bs, c, bad, hnc, ha, hni, hp⟩; have HR4 := Lib.hid hr4; clear hr4; replace hp := h_out hp; have HNC := Lib.hid hnc; have HA := Lib.hid ha; have HNI := Lib.hid hni; clear hnc ha hni) | go_skip | (first | (refine hA0 ?_; clear hp; intro b w1 hp) | refine hL0 ?_ | (refine hS0 ?_; clear hp; intro w1 hp)))
      go_loopg [8] 257 (fun k i wr => ∃ (q : Nat) (os : List Ob) (stq : Option (List Nat)) (oa : Option Addr) (oc : Nat) (Ro Mo : List Blk) (a : Option Addr) (bs : List Nat) (c : Nat) (bad : Bool), k + q = 257 ∧ i = .int .i64 q ∧ q ≤ kn ∧ RowKit.Hid (os.length = q) ∧ RowKit.Hid (OsRel q st4 os stq) ∧ RowKit.Hid (OwnRow 152 5 (.slice oa q oc) q (os.flatMap obV) Ro) ∧ RowKit.Hid (ObsR os Mo) ∧ RowKit.Hid (∀ o ∈ os, o.ws.length ≤ 32 ∧ o.ls.length ≤ 16) ∧ RowKit.Hid (bs.length ≤ c) ∧ RowKit.Hid (RdAt w a bs) ∧ RowKit.Hid (NIs stq bs bad) ∧
        Hp w.heap.size w wr (⟨bh, [.int .i64 od, .slice oa q oc, .int .i64 nx, .int .i64 t0, .int .i64 t1, .int .i64 t2, .int .i64 t3, .slice none 0 0], 83, 8⟩ :: ⟨br, [.slice a bs.length c, .bool bad], 130, 2⟩ :: ⟨b2, [.int .i64 0, .slice none 0 0, .int .i64 0, .int .i64 0, .int .i64 0, .int .i64 0, .int .i64 0, .slice none 0 0], 83, 8⟩ :: (Ro ++ Mo)))
      case atStart => exact ⟨0, [], st4, none, 0, [], [], a, bs, c, bad, by omega, rfl, Nat.zero_le _, Lib.hid rfl, Lib.hid (OsRel.zero_ _), Lib.hid (OwnRow.nil _ _), Lib.hid .nil, Lib.hid (fun o ho => by cases ho), HNC, HA, HNI, hp⟩
      case round =>
        clear hp HNC HA HNI
        obtain ⟨q, os, stq, oa, oc, Ro, Mo, a, bs, c, bad, hkq, rfl, hqk, HLQ, HOS, HRO, HMO, HSZ, HNC, HA, HNI, hp⟩ := hrel
        by_cases hgo : q < kn ∧ q ≤ 256 ∧ bad = false
        · obtain ⟨g1, g2, rfl⟩ := hgo
          have f1 : decide ((q : Int) < (kn : Int)) = true := by simp; omega
          have f2 : decide ((q : Int) ≤ 256) = true := by simp; omega
          go_wp2_with (first | (go_at_call 112; have hst : NSt w _ stq _ _ := ⟨a, bs, c, _, HNC.out, HA.out, HNI.out, h_in hp⟩; (with_reducible refine (obj112 _ stq hst).mono ?_); clear hst; clear hp HNC HA HNI; rintro e w1 ⟨⟨xh, xp, xo, wa, ws, wc, la, ls, lc⟩, Ry, sts, rfl, hor, hob, hws, hls, a, bs, c, bad, hnc, ha, hni, hp⟩; have HOR := Lib.hid hor; have HOB := Lib.hid hob; have HWS := Lib.hid hws; have HLS := Lib.hid hls; have HNC := Lib.hid hnc; have HA := Lib.hid ha; have HNI := Lib.hid hni; clear hnc ha hni hor hob hws hls; simp only [obV]; replace hp := o_out hp) | ((with_reducible refine pre_append _ _ 79 rfl ?_); refine wpList_appendGrow (K := [_, _, _, _]) (R := Ro) (M := Mo ++ Ry) hp _ _ _ rfl wy i0 _ 72 Tryz.underlying79 hi0 hz0 hz1 hz2 rfl (by decide) (sTm rfl) HRO.out 1 1 (sTm rfl) (by rfl) (by decide) (by rfl) (by unfold maxLen; omega) (by omega) ?_; clear hp; intro v' R' w1 hR' hp; obtain ⟨oa', oc', rfl, _⟩ := hR'.kept; have HRO' := Lib.hid hR'; clear hR'; simp only [List.cons_append, List.nil_append] at hp; simp only [put_some, put_none, sSet, zSet]) | go_skip | (first | (refine hA0 ?_; clear hp; intro b w1 hp) | refine hL0 ?_ | (refine hS0 ?_; clear hp; intro w1 hp)))
          go_roundg (gk - 1)
          case measure => omega
          case rel =>
            replace hp := hp.tail
            exact ⟨q + 1, os ++ [⟨xh, xp, xo, wa, ws, wc, la, ls, lc⟩], sts, oa', oc', R', Mo ++ Ry, a, bs, c, bad, by omega, by go_num, by omega, Lib.hid (by rw [List.length_append, HLQ.out]; rfl), Lib.hid (HOS.out.step HOR.out), Lib.hid (by have := HRO'.out; rw [List.flatMap_append]; exact this), Lib.hid (HMO.out.snoc HOB.out), Lib.hid (fun o ho => by
              rcases List.mem_append.1 ho with ho | ho
              · exact HSZ.out o ho
              · rw [List.mem_singleton.1 ho]; exact ⟨HWS.out, HLS.out⟩), HNC, HA, HNI, hp⟩
        · have hN := heapN HR1.out HR2.out HR3.out HR4.out HOS.out hqk
          cases stq with
          | none =>
            obtain rfl : bad = true := HNI.out
            have HE : RowKit.Hid (heapR bs0 = none) := Lib.hid (hN.1 rfl)
            clear hN
            by_cases k1 : q < kn
            · have f1 : decide ((q : Int) < (kn : Int)) = true := by simp; omega
              by_cases k2 : q ≤ 256
              · have f2 : decide ((q : Int) ≤ 256) = true := by simp; omega
                go_wp2_with (first | go_skip | (first | (refine hA0 ?_; clear hp; intro b w1 hp) | refine hL0 ?_ | (refine hS0 ?_; clear hp; intro w1 hp)))
                refine bodyPost_ret (results_many (rs := [.cell 2 83, .tmp 3]) Tryz.results92 (.cell rfl (hp.loadAgg agg83 at2 0 _ (by rfl) (by rfl)) (.tmp rfl .nil))) rfl ?_; rw [HE.out]; exact ⟨rfl, hp.below⟩
              · have f2 : decide ((q : Int) ≤ 256) = false := by simp; omega
                go_wp2_with (first | go_skip | (first | (refine hA0 ?_; clear hp; intro b w1 hp) | refine hL0 ?_ | (refine hS0 ?_; clear hp; intro w1 hp)))
                refine bodyPost_ret (results_many (rs := [.cell 2 83, .tmp 3]) Tryz.results92 (.cell rfl (hp.loadAgg agg83 at2 0 _ (by rfl) (by rfl)) (.tmp rfl .nil))) rfl ?_; rw [HE.out]; exact ⟨rfl, hp.below⟩
            · have f1 : decide ((q : Int) < (kn : Int)) = false := by simp; omega
              go_wp2_with (first | go_skip | (first | (refine hA0 ?_; clear hp; intro b w1 hp) | refine hL0 ?_ | (refine hS0 ?_; clear hp; intro w1 hp)))
              refine bodyPost_ret (results_many (rs := [.cell 2 83, .tmp 3]) Tryz.results92 (.cell rfl (hp.loadAgg agg83 at2 0 _ (by rfl) (by rfl)) (.tmp rfl .nil))) rfl ?_; rw [HE.out]; exact ⟨rfl, hp.below⟩
          | some b =>
            obtain ⟨hb1, hb2⟩ := HNI.out
            subst hb1 hb2
            obtain ⟨rb, hrb⟩ : ∃ rb, regionB (od : Int) = rb := ⟨_, rfl⟩
            have HRB := Lib.hid hrb
            obtain ⟨nb, hnb⟩ : ∃ nb, bs.length = nb := ⟨_, rfl⟩
            rw [hnb] at hp
            by_cases k1 : q < kn
            · have k2 : ¬ q ≤ 256 := fun h => hgo ⟨k1, h, rfl⟩
              have HE : RowKit.Hid (heapR bs0 = none) := Lib.hid (hN.2.1 (by omega))
              have f1 : decide ((q : Int) < (kn : Int)) = true := by simp; omega
              have f2 : decide ((q : Int) ≤ 256) = false := by simp; omega
              have f3 : ((kn : Int) == (q : Int)) = false := by simp; omega
              clear hN hrb hnb hgo
              by_cases k3 : 0 < nb
              · go_wp2_with (first | go_skip | (first | (refine hA0 ?_; clear hp; intro b w1 hp) | refine hL0 ?_ | (refine hS0 ?_; clear hp; intro w1 hp)))
                refine bodyPost_ret (results_many (rs := [.cell 2 83, .tmp 3]) Tryz.results92 (.cell rfl (hp.loadAgg agg83 at2 0 _ (by rfl) (by rfl)) (.tmp rfl .nil))) rfl ?_; rw [HE.out]; exact ⟨rfl, hp.below⟩
              · have k4 : decide ((0 : Int) < (nb : Int)) = false := by simp; omega
                cases rb
                · go_wp2_with (first | (go_at_call 113; (with_reducible refine (region_b od _ HRB.out _).mono ?_); rintro e w' ⟨rfl, rfl⟩) | go_skip | (first | (refine hA0 ?_; clear hp; intro b w1 hp) | refine hL0 ?_ | (refine hS0 ?_; clear hp; intro w1 hp)))
                  refine bodyPost_ret (results_many (rs := [.cell 2 83, .tmp 3]) Tryz.results92 (.cell rfl (hp.loadAgg agg83 at2 0 _ (by rfl) (by rfl)) (.tmp rfl .nil))) rfl ?_; rw [HE.out]; exact ⟨rfl, hp.below⟩
                · go_wp2_with (first | (go_at_call 113; (with_reducible refine (region_b od _ HRB.out _).mono ?_); rintro e w' ⟨rfl, rfl⟩) | go_skip | (first | (refine hA0 ?_; clear hp; intro b w1 hp) | refine hL0 ?_ | (refine hS0 ?_; clear hp; intro w1 hp)))
                  refine bodyPost_ret (results_many (rs := [.cell 2 83, .tmp 3]) Tryz.results92 (.cell rfl (hp.loadAgg agg83 at2 0 _ (by rfl) (by rfl)) (.tmp rfl .nil))) rfl ?_; rw [HE.out]; exact ⟨rfl, hp.below⟩
            · have hl := HLQ.out
              subst hl
              obtain rfl : kn = os.length := by omega
              have f1 : decide ((os.length : Int) < (os.length : Int)) = false := by simp
              by_cases k3 : 0 < nb
              · have HE : RowKit.Hid (heapR bs0 = none) := Lib.hid (by
                  by_cases h2 : 256 < os.length
                  · exact hN.2.1 h2
                  · obtain ⟨os0, hs, h0⟩ := hN.2.2 bs rfl rfl (by omega)
                    exact (heapN_end h0).1 (by omega))
                clear hN hrb hnb hgo
                go_wp2_with (first | go_skip | (first | (refine hA0 ?_; clear hp; intro b w1 hp) | refine hL0 ?_ | (refine hS0 ?_; clear hp; intro w1 hp)))
                refine bodyPost_ret (results_many (rs := [.cell 2 83, .tmp 3]) Tryz.results92 (.cell rfl (hp.loadAgg agg83 at2 0 _ (by rfl) (by rfl)) (.tmp rfl .nil))) rfl ?_; rw [HE.out]; exact ⟨rfl, hp.below⟩
              · have k4 : decide ((0 : Int) < (nb : Int)) = false := by simp; omega
                cases rb
                · have HE : RowKit.Hid (heapR bs0 = none) := Lib.hid (by
                    by_cases h2 : 256 < os.length
                    · exact hN.2.1 h2
                    · obtain ⟨os0, hs, h0⟩ := hN.2.2 bs rfl rfl (by omega)
                      exact (heapN_end h0).2.1 hrb)
                  clear hN hrb hnb hgo
                  go_wp2_with (first | (go_at_call 113; (with_reducible refine (region_b od _ HRB.out _).mono ?_); rintro e w' ⟨rfl, rfl⟩) | go_skip | (first | (refine hA0 ?_; clear hp; intro b w1 hp) | refine hL0 ?_ | (refine hS0 ?_; clear hp; intro w1 hp)))
                  refine bodyPost_ret (results_many (rs := [.cell 2 83, .tmp 3]) Tryz.results92 (.cell rfl (hp.loadAgg agg83 at2 0 _ (by rfl) (by rfl)) (.tmp rfl .nil))) rfl ?_; rw [HE.out]; exact ⟨rfl, hp.below⟩
                · have h38 : 3 ≤ (od : Int) ∧ (od : Int) ≤ 8 := by unfold regionB at hrb; simpa using hrb
                  have H3 := Lib.hid h38.1
                  have H8 := Lib.hid h38.2
                  have HOL : RowKit.Hid (os.length ≤ 1000) := Lib.hid (by omega)
                  have HFIT := Lib.hid (osrel_fit HOS.out)
                  have HNX : RowKit.Hid ((nx : Int) ≤ 9223372036854775807) := Lib.hid (by omega)
                  have HFIN : RowKit.Hid (∀ (fa : Option Addr) (fs : List Bl) (fc : Nat), fs = lfN (pw od) os (od : Int).toNat 0 → (hrightB ⟨od, oa, os, oc, nx, t0, t1, t2, t3, fa, fs, fc⟩ = true → ∃ x, heapR bs0 = some x ∧ Hv.Sm ⟨od, oa, os, oc, nx, t0, t1, t2, t3, fa, fs, fc⟩ x) ∧ (hrightB ⟨od, oa, os, oc, nx, t0, t1, t2, t3, fa, fs, fc⟩ = false → heapR bs0 = none)) := Lib.hid (fun fa fs fc hfs => by
                    obtain ⟨g0, g1, g2, g3⟩ := HTS.out
                    have hkey : os.length ≤ 256 → ∃ x : Hv, Hv.Sm ⟨od, oa, os, oc, nx, t0, t1, t2, t3, fa, fs, fc⟩ x ∧ heapR bs0 = if hrightB x = true then some x else none := fun h2 => by
                      obtain ⟨os0, hs, h0⟩ := hN.2.2 bs rfl rfl h2
                      refine ⟨_, ?_, (heapN_end h0).2.2 (by omega) hrb⟩
                      exact ⟨rfl, rfl, g0, g1, g2, g3, hs, by rw [hfs]; exact lf_sm hs _ _⟩
                    refine ⟨fun h => ?_, fun h => ?_⟩
                    · have hr := hright_of h
                      have hln := hr.len
                      simp only at hln
                      obtain ⟨x, hx, hx2⟩ := hkey (by omega)
                      exact ⟨x, by rw [hx2, ← hright_sm hx, h]; rfl, hx⟩
                    · by_cases h2 : 256 < os.length
                      · exact hN.2.1 h2
                      · obtain ⟨x, hx, hx2⟩ := hkey (by omega)
                        rw [hx2, ← hright_sm hx, h]; rfl)
                  clear hN hrb hnb hgo h38
                  go_wp2_with (first | (go_at_call 113; (with_reducible refine (region_b od _ HRB.out _).mono ?_); rintro e w' ⟨rfl, rfl⟩) | (go_at_call 114; (with_reducible refine (free114 od H3.out H8.out os oa oc HOL.out HFIT.out _ (HRO.out.keptS.at hp (fun p hm => by simp [hm]))).mono ?_); rintro e w1 ⟨fa, fc, fs, Rf, rfl, hfs, hrf, hpf⟩; replace hp := hp.join hpf; have HFS := Lib.hid hfs; have HRF := Lib.hid hrf; clear hfs hrf hpf; simp only [List.cons_append, List.nil_append, List.append_assoc] at hp) | go_skip | (first | (refine hA0 ?_; clear hp; intro b w1 hp) | refine hL0 ?_ | (refine hS0 ?_; clear hp; intro w1 hp)))
                  have HSS : RowKit.Hid (Hv.Small ⟨od, oa, os, oc, nx, t0, t1, t2, t3, fa, fs, fc⟩) := Lib.hid ⟨⟨by simp only; omega, fun o ho => by have := HSZ.out o ho; omega⟩, by simp only; rw [HFS.out]; have := lf_len (os := os) H3.out H8.out; omega⟩
                  have HIS : RowKit.Hid (Kept (Ro ++ (Rf ++ Mo)) fun w => Hv.Is w ⟨od, oa, os, oc, nx, t0, t1, t2, t3, fa, fs, fc⟩) := Lib.hid (HvR.kept ⟨HRO.out, HRF.out, HMO.out⟩)
                  obtain ⟨b, hb⟩ : ∃ b, hrightB ⟨od, oa, os, oc, nx, t0, t1, t2, t3, fa, fs, fc⟩ = b := ⟨_, rfl⟩
                  have HB := Lib.hid hb
                  clear hb
                  cases b with
                  | false =>
                    have HE := Lib.hid ((HFIN.out fa fs fc HFS.out).2 HB.out)
                    go_wp2_with (first | (go_at_call 115; (with_reducible refine (right05_L od oa os oc nx t0 t1 t2 t3 fa fs fc _ HB.out HSS.out HNX.out _ (HIS.out.at hp (fun p hm => by simp only [List.mem_append, List.mem_cons] at hm ⊢; rcases hm with hm | hm | hm <;> simp [hm]))).mono ?_); rintro e w1 ⟨rfl, hb⟩; replace hp := hp.call hb; clear hb) | go_skip | (first | (refine hA0 ?_; clear hp; intro b w1 hp) | refine hL0 ?_ | (refine hS0 ?_; clear hp; intro w1 hp)))
                    refine bodyPost_ret (results_many (rs := [.cell 2 83, .tmp 3]) Tryz.results92 (.cell rfl (hp.loadAgg agg83 at2 0 _ (by rfl) (by rfl)) (.tmp rfl .nil))) rfl ?_; rw [HE.out]; exact ⟨rfl, hp.below⟩
                  | true =>
                    have HE := Lib.hid ((HFIN.out fa fs fc HFS.out).1 HB.out)
                    go_wp2_with (first | (go_at_call 115; (with_reducible refine (right05_L od oa os oc nx t0 t1 t2 t3 fa fs fc _ HB.out HSS.out HNX.out _ (HIS.out.at hp (fun p hm => by simp only [List.mem_append, List.mem_cons] at hm ⊢; rcases hm with hm | hm | hm <;> simp [hm]))).mono ?_); rintro e w1 ⟨rfl, hb⟩; replace hp := hp.call hb; clear hb) | go_skip | (first | (refine hA0 ?_; clear hp; intro b w1 hp) | refine hL0 ?_ | (refine hS0 ?_; clear hp; intro w1 hp)))
                    refine bodyPost_ret (results_many (rs := [.cell 2 83, .tmp 3]) Tryz.results92 (.cell rfl (hp.loadAgg agg83 at2 0 _ (by rfl) (by rfl)) (.tmp rfl .nil))) rfl ?_
                    obtain ⟨x, hx, hsm⟩ := HE.out
                    rw [hx]
                    exact ⟨⟨od, oa, os, oc, nx, t0, t1, t2, t3, fa, fs, fc⟩, Ro ++ (Rf ++ Mo), rfl, hsm, ⟨Ro, Rf, Mo, rfl, ⟨HRO.out, HRF.out, HMO.out⟩⟩, hp.kp⟩
end Go.Proofs.YtcjbepaclbhjaaaGreat
