/- Parts of the proof. -/
import Derived.Test.YtcjbepaclbhjaaaGreatKe1
import Derived.Test.YtcjbepaclbhjaaaGreatKe26
import Derived.Test.YtcjbepaclbhjaaaGreatKe19
import Derived.Test.YtcjbepaclbhjaaaGreatKe17
open List renaming set_cons_zero → zSet, set_cons_succ → sSet
/- The walks of the document that read an object. -/
set_option linter.unusedSimpArgs false
set_option linter.unusedVariables false
namespace Go.Proofs.YtcjbepaclbhjaaaGreat
open Go.RowKit
theorem NRel.zero_ {α : Type} (one : List Nat → Option (α × List Nat)) (st : Option (List Nat)) : NRel (repR one 0) st [] st := by
  cases st with
  | none => rfl
  | some b => exact ⟨rfl, rfl⟩
theorem NRel.step {α : Type} {one : List Nat → Option (α × List Nat)} {q : Nat} {st st1 st2 : Option (List Nat)} {l : List α} {x : α} (h1 : NRel (repR one q) st l st1) (h2 : NRel one st1 x st2) : NRel (repR one (q + 1)) st (l ++ [x]) st2 := by
  cases st with
  | none =>
    obtain rfl := h1.none_
    obtain rfl := h2.none_
    rfl
  | some b =>
    cases e1 : repR one q b with
    | none =>
      obtain rfl := h1.bad e1
      obtain rfl := h2.none_
      have e2 : repR one (q + 1) b = none := by unfold repR; rw [e1]
      unfold NRel
      rw [show (some b).bind (repR one (q + 1)) = none from e2]
    | some p =>
      obtain ⟨l0, b1⟩ := p
      obtain ⟨rfl, rfl⟩ := h1.good e1
      cases e2 : one b1 with
      | none =>
        obtain rfl := h2.bad e2
        unfold NRel
        rw [show (some b).bind (repR one (q + 1)) = none from repR_fail e1 e2 (q + 1) (Nat.lt_succ_self q)]
      | some p2 =>
        obtain ⟨x0, b2⟩ := p2
        obtain ⟨rfl, rfl⟩ := h2.good e2
        unfold NRel
        rw [show (some b).bind (repR one (q + 1)) = some (l ++ [x], b2) from repR_step e1 e2]
        exact ⟨rfl, rfl⟩
def ORel (st : Option (List Nat)) (y : Ob) (st' : Option (List Nat)) : Prop := match st.bind objR with
  | some (o, b1) => y.Sm o ∧ st' = some b1
  | none => st' = none
theorem orel_neg {st0 st1 st2 st3 st4 : Option (List Nat)} {h p nw nl : Int} (h1 : NRel nR st0 h st1) (h2 : NRel nR st1 p st2) (h3 : NRel nR st2 nw st3) (h4 : NRel nR st3 nl st4) (hn : needI nw nl < 0) (y : Ob) : ORel st0 y none := by
  cases st0 with
  | none => rfl
  | some b0 =>
    unfold ORel
    show match objR b0 with | some (o, b1) => y.Sm o ∧ none = some b1 | none => none = none
    unfold objR
    cases e1 : nR b0 with
    | none => first | rfl | trivial
    | some p1 =>
      obtain ⟨x1, b1⟩ := p1
      obtain ⟨rfl, rfl⟩ := h1.good e1
      simp only
      cases e2 : nR b1 with
      | none => first | rfl | trivial
      | some p2 =>
        obtain ⟨x2, b2⟩ := p2
        obtain ⟨rfl, rfl⟩ := h2.good e2
        simp only
        cases e3 : nR b2 with
        | none => first | rfl | trivial
        | some p3 =>
          obtain ⟨x3, b3⟩ := p3
          obtain ⟨rfl, rfl⟩ := h3.good e3
          simp only
          cases e4 : nR b3 with
          | none => first | rfl | trivial
          | some p4 =>
            obtain ⟨x4, b4⟩ := p4
            obtain ⟨rfl, rfl⟩ := h4.good e4
            simp only
            rw [if_pos hn]
            trivial
theorem orel_of {st0 st1 st2 st3 st4 st5 st6 : Option (List Nat)} {h p : Int} {nw nl : Nat} {ws ls : List Int} (h1 : NRel nR st0 h st1) (h2 : NRel nR st1 p st2) (h3 : NRel nR st2 (nw : Int) st3) (h4 : NRel nR st3 (nl : Int) st4)
    (hn : ¬ needI nw nl < 0) (h5 : NRel (repR iR nw) st4 ws st5) (h6 : NRel (repR nR nl) st5 ls st6) {y : Ob} (hy : y.Sm (mkOb h p (needI nw nl) ws ls)) : ORel st0 y st6 := by
  cases st0 with
  | none =>
    obtain rfl := h1.none_
    obtain rfl := h2.none_
    obtain rfl := h3.none_
    obtain rfl := h4.none_
    obtain rfl := h5.none_
    obtain rfl := h6.none_
    rfl
  | some b0 =>
    unfold ORel
    show match objR b0 with | some (o, b1) => y.Sm o ∧ st6 = some b1 | none => st6 = none
    unfold objR
    cases e1 : nR b0 with
    | none =>
      obtain rfl := h1.bad e1
      obtain rfl := h2.none_
      obtain rfl := h3.none_
      obtain rfl := h4.none_
      obtain rfl := h5.none_
      obtain rfl := h6.none_
      rfl
    | some p1 =>
      obtain ⟨x1, b1⟩ := p1
      obtain ⟨rfl, rfl⟩ := h1.good e1
      simp only
      cases e2 : nR b1 with
      | none =>
        obtain rfl := h2.bad e2
        obtain rfl := h3.none_
        obtain rfl := h4.none_
        obtain rfl := h5.none_
        obtain rfl := h6.none_
        rfl
      | some p2 =>
        obtain ⟨x2, b2⟩ := p2
        obtain ⟨rfl, rfl⟩ := h2.good e2
        simp only
        cases e3 : nR b2 with
        | none =>
          obtain rfl := h3.bad e3
          obtain rfl := h4.none_
          obtain rfl := h5.none_
          obtain rfl := h6.none_
          rfl
        | some p3 =>
          obtain ⟨x3, b3⟩ := p3
          obtain ⟨e, rfl⟩ := h3.good e3
          subst e
          simp only
          cases e4 : nR b3 with
          | none =>
            obtain rfl := h4.bad e4
            obtain rfl := h5.none_
            obtain rfl := h6.none_
            rfl
          | some p4 =>
            obtain ⟨x4, b4⟩ := p4
            obtain ⟨e, rfl⟩ := h4.good e4
            subst e
            simp only
            rw [if_neg hn, Int.toNat_natCast, Int.toNat_natCast]
            cases e5 : repR iR nw b4 with
            | none =>
              obtain rfl := h5.bad e5
              obtain rfl := h6.none_
              rfl
            | some p5 =>
              obtain ⟨x5, b5⟩ := p5
              obtain ⟨rfl, rfl⟩ := h5.good e5
              simp only
              cases e6 : repR nR nl b5 with
              | none =>
                obtain rfl := h6.bad e6
                rfl
              | some p6 =>
                obtain ⟨x6, b6⟩ := p6
                obtain ⟨rfl, rfl⟩ := h6.good e6
                exact ⟨hy, rfl⟩
def ObPostN (w0 : World) (br : Nat) (st : Option (List Nat)) (L : List Blk) (e : Ending) (w' : World) : Prop := ∃ y R st', e = .returned (.agg (obV y).toArray) ∧ ORel st y st' ∧ ObR y R ∧ y.ws.length ≤ 32 ∧ y.ls.length ≤ 16 ∧ NSt w0 br st' (R ++ L) w'
theorem rd_in {B : Nat} {w0 w : World} {x y r : Blk} {L : List Blk} (hp : Hp B w0 w (x :: y :: r :: L)) : Hp B w0 w (r :: x :: y :: L) := hp.kp
theorem rd_out {B : Nat} {w0 w : World} {x y r : Blk} {L : List Blk} (hp : Hp B w0 w (r :: x :: y :: L)) : Hp B w0 w (x :: y :: r :: L) := hp.kp
set_option maxRecDepth 100000 in
set_option maxHeartbeats 8000000 in
theorem obj112 (br : Nat) (st : Option (List Nat)) {w0 w : World} {L : List Blk} (hs : NSt w0 br st L w) :
    Calls Tryz.prog 112 #[.pointer (some ⟨br, 0, none⟩)] w (ObPostN w0 br st L) := by
  obtain ⟨i0, hi0, hz0, hz1, hz2⟩ := info_parts info3
  obtain ⟨a, bs, c, bad, hnc, ha, hni, hp⟩ := hs
  have HNC := Lib.hid hnc
  have HA := Lib.hid ha
  have HNI := Lib.hid hni
  clear hnc ha hni
  go_enter Tryz.func112, Tryz.ntmps112
  go_wp2_with (first | (go_at_call 93; have hst : NSt w0 br st _ _ := ⟨a, bs, c, bad, HNC.out, HA.out, HNI.out, rd_in hp⟩; (with_reducible refine (num93 br st hst).mono ?_); clear hst; clear hp HNC HA HNI; rintro e w1 ⟨xh, st1, hx1, rfl, hr1, a, bs, c, bad, hnc, ha, hni, hp⟩; have HR1 := Lib.hid hr1; clear hr1; replace hp := rd_out hp; have HNC := Lib.hid hnc; have HA := Lib.hid ha; have HNI := Lib.hid hni; clear hnc ha hni) | go_skip | (first | (refine hA0 ?_; clear hp; intro b w1 hp) | refine hL0 ?_ | (refine hS0 ?_; clear hp; intro w1 hp)))
  go_wp2_with (first | (go_at_call 93; have hst : NSt w0 br st1 _ _ := ⟨a, bs, c, bad, HNC.out, HA.out, HNI.out, rd_in hp⟩; (with_reducible refine (num93 br st1 hst).mono ?_); clear hst; clear hp HNC HA HNI; rintro e w1 ⟨xp, st2, hx2, rfl, hr2, a, bs, c, bad, hnc, ha, hni, hp⟩; have HR2 := Lib.hid hr2; clear hr2; replace hp := rd_out hp; have HNC := Lib.hid hnc; have HA := Lib.hid ha; have HNI := Lib.hid hni; clear hnc ha hni) | go_skip | (first | (refine hA0 ?_; clear hp; intro b w1 hp) | refine hL0 ?_ | (refine hS0 ?_; clear hp; intro w1 hp)))
  go_wp2_with (first | (go_at_call 93; have hst : NSt w0 br st2 _ _ := ⟨a, bs, c, bad, HNC.out, HA.out, HNI.out, rd_in hp⟩; (with_reducible refine (num93 br st2 hst).mono ?_); clear hst; clear hp HNC HA HNI; rintro e w1 ⟨nw, st3, hx3, rfl, hr3, a, bs, c, bad, hnc, ha, hni, hp⟩; have HR3 := Lib.hid hr3; clear hr3; replace hp := rd_out hp; have HNC := Lib.hid hnc; have HA := Lib.hid ha; have HNI := Lib.hid hni; clear hnc ha hni) | go_skip | (first | (refine hA0 ?_; clear hp; intro b w1 hp) | refine hL0 ?_ | (refine hS0 ?_; clear hp; intro w1 hp)))
  go_wp2_with (first | (go_at_call 93; have hst : NSt w0 br st3 _ _ := ⟨a, bs, c, bad, HNC.out, HA.out, HNI.out, rd_in hp⟩; (with_reducible refine (num93 br st3 hst).mono ?_); clear hst; clear hp HNC HA HNI; rintro e w1 ⟨nl, st4, hx4, rfl, hr4, a, bs, c, bad, hnc, ha, hni, hp⟩; have HR4 := Lib.hid hr4; clear hr4; replace hp := rd_out hp; have HNC := Lib.hid hnc; have HA := Lib.hid ha; have HNI := Lib.hid hni; clear hnc ha hni) | go_skip | (first | (refine hA0 ?_; clear hp; intro b w1 hp) | refine hL0 ?_ | (refine hS0 ?_; clear hp; intro w1 hp)))
  obtain ⟨nd, hnd⟩ : ∃ nd, needI nw nl = nd := ⟨_, rfl⟩
  have HND := Lib.hid hnd
  by_cases hneg : nd < 0
  · have e1 : decide (nd < 0) = true := decide_eq_true hneg
    have HNG : RowKit.Hid (needI nw nl < 0) := Lib.hid (by rw [hnd]; exact hneg)
    clear hneg hnd
    go_wp2_with (first | (go_at_call 141; (with_reducible refine (need141 _ _ _).mono ?_); rintro e w' ⟨rfl, rfl⟩; rw [HND.out]) | go_skip | (first | (refine hA0 ?_; clear hp; intro b w1 hp) | refine hL0 ?_ | (refine hS0 ?_; clear hp; intro w1 hp)))
    refine bodyPost_ret (results_one (rs := [.cell 2 152]) Tryz.results112 (.cell rfl (hp.loadAgg agg152 at1 0 _ (by rfl) (by rfl)) .nil)) rfl ?_
    exact ⟨⟨xh, xp, nd, none, [], 0, none, [], 0⟩, [], none, rfl, orel_neg HR1.out HR2.out HR3.out HR4.out HNG.out _, ⟨[], [], rfl, OwnRow.nil _ _, OwnRow.nil _ _⟩, by simp, by simp, a, bs, c, true, HNC.out, HA.out, rfl, hp.kp⟩
  · have e1 : decide (nd < 0) = false := decide_eq_false hneg
    have HNG : RowKit.Hid (¬ needI nw nl < 0) := Lib.hid (by rw [hnd]; exact hneg)
    obtain ⟨n1, n2, n3, n4⟩ := needI_ok (a := nw) (b := nl) (by omega)
    have hw32 : nw ≤ 32 := by omega
    have hl16 : nl ≤ 16 := by omega
    clear hneg hnd n1 n2 n3 n4
    go_wp2_with (first | (go_at_call 141; (with_reducible refine (need141 _ _ _).mono ?_); rintro e w' ⟨rfl, rfl⟩; rw [HND.out]) | go_skip | (first | (refine hA0 ?_; clear hp; intro b w1 hp) | refine hL0 ?_ | (refine hS0 ?_; clear hp; intro w1 hp)))
    obtain ⟨bx, rfl⟩ := hp.id0
    obtain ⟨b2, rfl⟩ := hp.id1
    obtain ⟨M0, hM0⟩ : ∃ M0, M0 = L := ⟨_, rfl⟩
    go_loopg [6] nw (fun k i wr => ∃ (q : Nat) (l : List Int) (stq : Option (List Nat)) (wa : Option Addr) (wc : Nat) (R : List Blk) (a : Option Addr) (bs : List Nat) (c : Nat) (bad : Bool), k + q = nw ∧ i = .int .i64 q ∧ RowKit.Hid (l.length = q) ∧ RowKit.Hid (NRel (repR iR q) st4 l stq) ∧ RowKit.Hid (OwnRow 3 1 (.slice wa q wc) q (l.flatMap iV) R) ∧ RowKit.Hid (bs.length ≤ c) ∧ RowKit.Hid (RdAt w0 a bs) ∧ RowKit.Hid (NIs stq bs bad) ∧
      Hp w0.heap.size w0 wr (⟨bx, [.int .i64 xh, .int .i64 xp, .int .i64 nd, .slice wa q wc, .slice none 0 0], 152, 5⟩ :: ⟨b2, [.int .i64 0, .int .i64 0, .int .i64 0, .slice none 0 0, .slice none 0 0], 152, 5⟩ :: ⟨br, [.slice a bs.length c, .bool bad], 130, 2⟩ :: (R ++ M0)))
    case atStart => exact ⟨0, [], st4, none, 0, [], a, bs, c, bad, by omega, rfl, Lib.hid rfl, Lib.hid (NRel.zero_ _ _), Lib.hid (OwnRow.nil _ _), HNC, HA, HNI, by rw [hM0]; exact hp⟩
    case round =>
      clear hp HNC HA HNI
      obtain ⟨q, l, stq, wa, wc, R, a, bs, c, bad, hkq, rfl, HLQ, HRQ, HRW, HNC, HA, HNI, hp⟩ := hrel
      by_cases hlt : q < nw
      · have f1 : (0 : Int) ≤ (q : Int) := by omega
        have f2 : (q : Int) < (nw : Int) := by omega
        go_wp2_with (first | (go_at_call 94; have hst : NSt w0 br stq _ _ := ⟨a, bs, c, bad, HNC.out, HA.out, HNI.out, rd_in hp⟩; (with_reducible refine (int94 br stq hst).mono ?_); clear hst; clear hp HNC HA HNI; rintro e w1 ⟨v, sts, rfl, hr, a, bs, c, bad, hnc, ha, hni, hp⟩; have HRS := Lib.hid hr; clear hr; replace hp := rd_out hp; have HNC := Lib.hid hnc; have HA := Lib.hid ha; have HNI := Lib.hid hni; clear hnc ha hni) | ((with_reducible refine pre_append _ _ 72 rfl ?_); refine wpList_appendGrow (K := [_, _, _]) (R := R) (M := M0) hp _ _ _ rfl wy i0 _ 8 Tryz.underlying72 hi0 hz0 hz1 hz2 rfl (by decide) (sTm rfl) HRW.out 1 1 (sTm rfl) (by rfl) (by decide) (by rfl) (by unfold maxLen; omega) (by omega) ?_; clear hp; intro v' R' w1 hR' hp; obtain ⟨wa', wc', rfl, _⟩ := hR'.kept; have HRW' := Lib.hid hR'; clear hR'; simp only [List.cons_append, List.nil_append] at hp; simp only [put_some, put_none, sSet, zSet]) | go_skip | (first | (refine hA0 ?_; clear hp; intro b w1 hp) | refine hL0 ?_ | (refine hS0 ?_; clear hp; intro w1 hp)))
        go_roundg (gk - 1)
        case measure => omega
        case rel => exact ⟨q + 1, l ++ [v], sts, wa', wc', R', a, bs, c, bad, by omega, by go_num, Lib.hid (by rw [List.length_append, HLQ.out]; rfl), Lib.hid (HRQ.out.step HRS.out), Lib.hid (by have := HRW'.out; rw [List.flatMap_append]; exact this), HNC, HA, HNI, hp⟩
      · obtain rfl : q = nw := by omega
        have f2 : decide ((q : Int) < (q : Int)) = false := by simp
        obtain ⟨ws, hws⟩ : ∃ ws, ws = l := ⟨_, rfl⟩
        obtain ⟨st5, hst5⟩ : ∃ st5, st5 = stq := ⟨_, rfl⟩
        rw [← hst5] at HRQ HNI
        obtain ⟨Rw, hRw⟩ : ∃ Rw, Rw = R := ⟨_, rfl⟩
        have HLW := HLQ
        have HR5 := HRQ
        have HRW1 := HRW
        rw [← hws] at HLW HR5 HRW1
        rw [← hRw] at HRW1 hp
        clear HLQ HRQ HRW hkq hlt hws hRw hst5
        go_wp2_with (first | go_skip | (first | (refine hA0 ?_; clear hp; intro b w1 hp) | refine hL0 ?_ | (refine hS0 ?_; clear hp; intro w1 hp)))
        clear f2
        obtain ⟨M1, hM1⟩ : ∃ M1, M1 = Rw ++ M0 := ⟨_, rfl⟩
        rw [← hM1] at hp
        go_loopg [8] nl (fun k i wr => ∃ (q2 : Nat) (l : List Int) (stq : Option (List Nat)) (la : Option Addr) (lc : Nat) (R : List Blk) (a : Option Addr) (bs : List Nat) (c : Nat) (bad : Bool), k + q2 = nl ∧ i = .int .i64 q2 ∧ RowKit.Hid (l.length = q2) ∧ RowKit.Hid (NRel (repR nR q2) st5 l stq) ∧ RowKit.Hid (OwnRow 3 1 (.slice la q2 lc) q2 (l.flatMap iV) R) ∧ RowKit.Hid (bs.length ≤ c) ∧ RowKit.Hid (RdAt w0 a bs) ∧ RowKit.Hid (NIs stq bs bad) ∧
          Hp w0.heap.size w0 wr (⟨bx, [.int .i64 xh, .int .i64 xp, .int .i64 nd, .slice wa q wc, .slice la q2 lc], 152, 5⟩ :: ⟨b2, [.int .i64 0, .int .i64 0, .int .i64 0, .slice none 0 0, .slice none 0 0], 152, 5⟩ :: ⟨br, [.slice a bs.length c, .bool bad], 130, 2⟩ :: (R ++ M1)))
        case atStart => exact ⟨0, [], st5, none, 0, [], a, bs, c, bad, by omega, rfl, Lib.hid rfl, Lib.hid (NRel.zero_ _ _), Lib.hid (OwnRow.nil _ _), HNC, HA, HNI, hp⟩
        case round =>
          clear hp HNC HA HNI
          obtain ⟨q2, l, stq, la, lc, R, a, bs, c, bad, hkq, rfl, HLQ, HRQ, HRW, HNC, HA, HNI, hp⟩ := hrel
          by_cases hlt : q2 < nl
          · have f1 : (0 : Int) ≤ (q2 : Int) := by omega
            have f2 : (q2 : Int) < (nl : Int) := by omega
            go_wp2_with (first | (go_at_call 93; have hst : NSt w0 br stq _ _ := ⟨a, bs, c, bad, HNC.out, HA.out, HNI.out, rd_in hp⟩; (with_reducible refine (num93 br stq hst).mono ?_); clear hst; clear hp HNC HA HNI; rintro e w1 ⟨v, sts, _, rfl, hr, a, bs, c, bad, hnc, ha, hni, hp⟩; have HRS := Lib.hid hr; clear hr; replace hp := rd_out hp; have HNC := Lib.hid hnc; have HA := Lib.hid ha; have HNI := Lib.hid hni; clear hnc ha hni) | ((with_reducible refine pre_append _ _ 72 rfl ?_); refine wpList_appendGrow (K := [_, _, _]) (R := R) (M := M1) hp _ _ _ rfl wy i0 _ 8 Tryz.underlying72 hi0 hz0 hz1 hz2 rfl (by decide) (sTm rfl) HRW.out 1 1 (sTm rfl) (by rfl) (by decide) (by rfl) (by unfold maxLen; omega) (by omega) ?_; clear hp; intro v' R' w1 hR' hp; obtain ⟨wa', wc', rfl, _⟩ := hR'.kept; have HRW' := Lib.hid hR'; clear hR'; simp only [List.cons_append, List.nil_append] at hp; simp only [put_some, put_none, sSet, zSet]) | go_skip | (first | (refine hA0 ?_; clear hp; intro b w1 hp) | refine hL0 ?_ | (refine hS0 ?_; clear hp; intro w1 hp)))
            go_roundg (gk - 1)
            case measure => omega
            case rel => exact ⟨q2 + 1, l ++ [(v : Int)], sts, wa', wc', R', a, bs, c, bad, by omega, by go_num, Lib.hid (by rw [List.length_append, HLQ.out]; rfl), Lib.hid (HRQ.out.step HRS.out), Lib.hid (by have := HRW'.out; rw [List.flatMap_append]; exact this), HNC, HA, HNI, hp⟩
          · obtain rfl : q2 = nl := by omega
            have f2 : decide ((q2 : Int) < (q2 : Int)) = false := by simp
            clear hkq hlt
            go_wp2_with (first | go_skip | (first | (refine hA0 ?_; clear hp; intro b w1 hp) | refine hL0 ?_ | (refine hS0 ?_; clear hp; intro w1 hp)))
            have HOR : RowKit.Hid (ORel st ⟨xh, xp, nd, wa, ws, wc, la, l, lc⟩ stq) := Lib.hid (orel_of HR1.out HR2.out HR3.out HR4.out (by have := HNG.out; omega) HR5.out HRQ.out ⟨rfl, rfl, HND.out.symm, rfl, rfl⟩)
            have h1 := HLW.out
            have h2 := HLQ.out
            subst h1 h2
            refine bodyPost_ret (results_one (rs := [.cell 2 152]) Tryz.results112 (.cell rfl (hp.loadAgg agg152 at1 0 _ (by rfl) (by rfl)) .nil)) rfl ?_
            exact ⟨⟨xh, xp, nd, wa, ws, wc, la, l, lc⟩, Rw ++ R, stq, rfl, HOR.out, ⟨Rw, R, rfl, HRW1.out, HRW.out⟩, hw32, hl16, a, bs, c, bad, HNC.out, HA.out, HNI.out, by rw [hM1, hM0] at hp; exact hp.kp⟩
end Go.Proofs.YtcjbepaclbhjaaaGreat
/- What the document leaves of a region is what the program leaves: the plain law. No program in sight. -/
namespace Go.Proofs.YtcjbepaclbhjaaaGreat
def meetsO (os : List Ob) (b : Bl) : Bool := os.any fun x => meetB b.p b.o x.p x.o
def clearB (od : Int) (os : List Ob) (b : Bl) : Bool := !meetsO os b && mayB od b.p b.o
def pickO (od : Int) (os : List Ob) (p : Int) : Nat → Nat
  | 0 => 0
  | k + 1 => if clearB od os ⟨p, ((k + 1 : Nat) : Int)⟩ = true then k + 1 else pickO od os p k
def frL (od : Int) (os : List Ob) : Nat → Int → List Bl
  | 0, _ => []
  | n + 1, p => if p < pw od then (if clearB od os ⟨p, (pickO od os p od.toNat : Nat)⟩ = true then [⟨p, (pickO od os p od.toNat : Nat)⟩] else []) ++ frL od os n (p + pw (pickO od os p od.toNat : Nat)) else []
theorem pick_facts (od : Int) (os : List Ob) (p : Int) : ∀ K : Nat, pickO od os p K ≤ K ∧ (∀ j : Nat, pickO od os p K < j → j ≤ K → clearB od os ⟨p, (j : Int)⟩ = false) ∧ (0 < pickO od os p K → clearB od os ⟨p, (pickO od os p K : Nat)⟩ = true)
  | 0 => ⟨Nat.le_refl _, fun j h1 h2 => by unfold pickO at h1; omega, fun h => by unfold pickO at h; omega⟩
  | K + 1 => by
    obtain ⟨h1, h2, h3⟩ := pick_facts od os p K
    unfold pickO
    split
    · rename_i hc
      exact ⟨Nat.le_refl _, fun j g1 g2 => by omega, fun _ => hc⟩
    · rename_i hc
      refine ⟨by omega, fun j g1 g2 => ?_, h3⟩
      by_cases hj : j = K + 1
      · subst hj; simpa using hc
      · exact h2 j g1 (by omega)
theorem meetsO_iff {os : List Ob} {b : Bl} : meetsO os b = true ↔ ∃ w, InW b w ∧ hasW os w := by
  unfold meetsO
  rw [List.any_eq_true]
  constructor
  · rintro ⟨x, hx, hm⟩
    unfold meetB at hm
    simp only [Bool.and_eq_true, decide_eq_true_eq] at hm
    obtain ⟨h1, h2⟩ := hm
    have p1 := pw_pos x.o
    have p2 := pw_pos b.o
    by_cases h : x.p ≤ b.p
    · exact ⟨b.p, ⟨Int.le_refl _, by omega⟩, x, hx, by simp only [obBl]; exact h, by simp only [obBl]; omega⟩
    · exact ⟨x.p, ⟨by omega, by omega⟩, x, hx, by simp only [obBl]; omega, by simp only [obBl]; omega⟩
  · rintro ⟨w, ⟨h1, h2⟩, x, hx, h3, h4⟩
    simp only [obBl] at h3 h4
    refine ⟨x, hx, ?_⟩
    unfold meetB
    simp only [Bool.and_eq_true, decide_eq_true_eq]
    omega
theorem clearB_iff {od : Int} {os : List Ob} {b : Bl} : clearB od os b = true ↔ MayP od b ∧ ∀ w, InW b w → ¬ hasW os w := by
  unfold clearB
  rw [Bool.and_eq_true, Bool.not_eq_true', ← Bool.not_eq_true, meetsO_iff]
  constructor
  · rintro ⟨h1, h2⟩
    exact ⟨mayB_may h2, fun w hw hh => h1 ⟨w, hw, hh⟩⟩
  · rintro ⟨h1, h2⟩
    exact ⟨fun ⟨w, hw, hh⟩ => h2 w hw hh, by unfold mayB; exact decide_eq_true h1⟩
theorem fr_facts {od : Int} {os : List Ob} (h3 : 0 ≤ od) : ∀ (n : Nat) (p : Int), 0 ≤ p → pw od ≤ p + n →
    (∀ b ∈ frL od os n p, MayP od b ∧ p ≤ b.p ∧ ∀ k : Nat, b.o < k → (k : Int) ≤ od → clearB od os ⟨b.p, (k : Int)⟩ = false) ∧ Disj (frL od os n p) ∧ (∀ w, cov (frL od os n p) w ↔ p ≤ w ∧ w < pw od ∧ ¬ hasW os w)
  | 0, p, h0, hn => by
    refine ⟨fun b hb => (by cases hb), List.Pairwise.nil, fun w => ⟨fun ⟨x, hx, _⟩ => (by cases hx), fun ⟨h1, h2, _⟩ => ?_⟩⟩
    omega
  | n + 1, p, h0, hn => by
    by_cases hp : ¬ p < pw od
    · unfold frL
      rw [if_neg hp]
      refine ⟨fun b hb => (by cases hb), List.Pairwise.nil, fun w => ⟨fun ⟨x, hx, _⟩ => (by cases hx), fun ⟨h1, h2, _⟩ => ?_⟩⟩
      omega
    replace hp := Decidable.not_not.1 hp
    obtain ⟨k1, k2, k3⟩ := pick_facts od os p od.toNat
    unfold frL
    rw [if_pos hp]
    generalize pickO od os p od.toNat = k at k1 k2 k3 ⊢
    have hpk := pw_pos (k : Int)
    obtain ⟨r1, r2, r3⟩ := fr_facts h3 n (p + pw (k : Int)) (by omega) (by omega)
    by_cases hc : clearB od os ⟨p, (k : Int)⟩ = true
    · rw [if_pos hc]
      obtain ⟨c1, c2⟩ := clearB_iff.1 hc
      refine ⟨fun b hb => ?_, ?_, fun w => ?_⟩
      · rcases List.mem_append.1 hb with hb | hb
        · obtain rfl := List.mem_singleton.1 hb
          exact ⟨c1, Int.le_refl _, fun j g1 g2 => k2 j (by simp only at g1; omega) (by omega)⟩
        · obtain ⟨a1, a2, a3⟩ := r1 b hb
          exact ⟨a1, by omega, a3⟩
      · refine List.pairwise_append.2 ⟨List.pairwise_singleton _ _, r2, fun a ha b hb => ?_⟩
        obtain rfl := List.mem_singleton.1 ha
        exact (r1 b hb).2.1
      · have hend : p + pw (k : Int) ≤ pw od := by have := c1.2.2.2.1; simp only at this; omega
        have hsplit : cov ([⟨p, (k : Int)⟩] ++ frL od os n (p + pw (k : Int))) w ↔ InW ⟨p, (k : Int)⟩ w ∨ cov (frL od os n (p + pw (k : Int))) w := by
          constructor
          · rintro ⟨x, hx, hw⟩
            rcases List.mem_append.1 hx with hx | hx
            · obtain rfl := List.mem_singleton.1 hx; exact .inl hw
            · exact .inr ⟨x, hx, hw⟩
          · rintro (hw | ⟨x, hx, hw⟩)
            · exact ⟨_, List.mem_append_left _ (List.mem_singleton.2 rfl), hw⟩
            · exact ⟨x, List.mem_append_right _ hx, hw⟩
        rw [hsplit, r3]
        constructor
        · rintro (hw | ⟨g1, g2, g3⟩)
          · have := c2 w hw
            unfold InW at hw
            simp only at hw
            exact ⟨hw.1, by omega, this⟩
          · exact ⟨by omega, g2, g3⟩
        · rintro ⟨g1, g2, g3⟩
          by_cases g : w < p + pw (k : Int)
          · exact .inl ⟨g1, g⟩
          · exact .inr ⟨by omega, g2, g3⟩
    · rw [if_neg hc, List.nil_append]
      have hk0 : k = 0 := by
        rcases Nat.eq_zero_or_pos k with h | h
        · exact h
        · exact absurd (k3 h) hc
      subst hk0
      have p0 : pw ((0 : Nat) : Int) = 1 := by decide
      rw [p0] at r1 r2 r3 ⊢
      have hmay : MayP od ⟨p, ((0 : Nat) : Int)⟩ := ⟨by simp, by simpa using h3, h0, by simp only [p0]; omega, by simp only [p0]; omega⟩
      have hasp : hasW os p := Classical.byContradiction fun hno => hc (clearB_iff.2 ⟨hmay, fun w hw => by
        unfold InW at hw
        simp only [p0] at hw
        rw [show w = p by omega]; exact hno⟩)
      refine ⟨fun b hb => ?_, r2, fun w => ?_⟩
      · obtain ⟨a1, a2, a3⟩ := r1 b hb
        exact ⟨a1, by omega, a3⟩
      · rw [r3]
        constructor
        · rintro ⟨g1, g2, g3⟩; exact ⟨by omega, g2, g3⟩
        · rintro ⟨g1, g2, g3⟩
          refine ⟨?_, g2, g3⟩
          by_cases hw : w = p
          · subst hw; exact absurd hasp g3
          · omega
theorem fr_can {od : Int} {os : List Ob} (h3 : 0 ≤ od) (h8 : od ≤ 8) (n : Nat) (hn : pw od ≤ n) : Can od (frL od os n 0) := by
  obtain ⟨f1, f2, f3⟩ := fr_facts (os := os) h3 n 0 (Int.le_refl _) (by omega)
  refine ⟨f2, fun x hx => (f1 x hx).1, fun x hx y hy ho ht => ?_⟩
  have hmy := (f1 y hy).1
  have hmx := (f1 x hx).1
  have hmm := merge_may hmy h8 ho
  have hpy := pw_pos y.o
  have hs := pw_succ (o := y.o) hmy.1
  have hc := twin_cases hmy h8 ho
  rw [ht] at hc
  have hxo : x.o = y.o := by rw [← ht, twin_o]
  have hpar : (mergeB y).p = min y.p x.p := by unfold mergeB; rw [ht]
  have hpo : (mergeB y).o = y.o + 1 := rfl
  have hfree : ∀ w, InW (mergeB y) w → ¬ hasW os w := fun w hw => by
    unfold InW at hw
    rw [hpar, hpo, hs] at hw
    have hcw : cov (frL od os n 0) w := by
      rcases hc with ⟨e, _, _⟩ | ⟨e, _, _⟩
      · have e' : x.p = y.p + pw y.o := by rw [e]
        by_cases g : w < y.p + pw y.o
        · exact ⟨y, hy, by unfold InW; omega⟩
        · exact ⟨x, hx, by unfold InW; rw [hxo]; omega⟩
      · have e' : x.p = y.p - pw y.o := by rw [e]
        by_cases g : w < y.p
        · exact ⟨x, hx, by unfold InW; rw [hxo]; omega⟩
        · exact ⟨y, hy, by unfold InW; omega⟩
    exact ((f3 w).1 hcw).2.2
  have hcl := clearB_iff.2 ⟨hmm, hfree⟩
  obtain ⟨m, hm⟩ : ∃ m : Nat, y.o + 1 = (m : Int) := ⟨(y.o + 1).toNat, by have := hmy.1; omega⟩
  have hmb : mergeB y = ⟨min y.p x.p, (m : Int)⟩ := by
    rw [← hm, ← hpar, ← hpo]
  rw [hmb] at hcl
  rcases hc with ⟨e, _, _⟩ | ⟨e, _, _⟩
  · have e' : x.p = y.p + pw y.o := by rw [e]
    have := (f1 y hy).2.2 m (by omega) (by omega)
    rw [show min y.p x.p = y.p by omega] at hcl
    rw [hcl] at this; cases this
  · have e' : x.p = y.p - pw y.o := by rw [e]
    have := (f1 x hx).2.2 m (by omega) (by omega)
    rw [show min y.p x.p = x.p by omega] at hcl
    rw [hcl] at this; cases this
theorem fr_left {od : Int} {os : List Ob} (h3 : 0 ≤ od) (h8 : od ≤ 8) (n : Nat) (hn : pw od ≤ n) : frL od os n 0 = lfN (pw od) os od.toNat 0 := by
  have hnn : ((od.toNat : Nat) : Int) = od := by omega
  have h0 : AtK od od.toNat 0 := ⟨by omega, Int.le_refl _, by rw [hnn]; omega, by simp⟩
  refine Can.uniq h8 (fr_can h3 h8 n hn) (lf_can h3 h8) (fun w => ?_)
  rw [(lf_facts (os := os) od.toNat 0 h0).2.2 w, (fr_facts (os := os) h3 n 0 (Int.le_refl _) (by omega)).2.2 w]
  unfold InW
  simp only [hnn]
  constructor
  · rintro ⟨a, b, c⟩; exact ⟨⟨a, by omega⟩, c⟩
  · rintro ⟨⟨a, b⟩, c⟩; exact ⟨a, by omega, c⟩
theorem fr_step {od : Int} {os : List Ob} {n : Nat} {p : Int} {res ou : List Bl} (hp : p < pw od) (h : ou ++ frL od os (n + 1) p = res) :
    ou ++ (if clearB od os ⟨p, (pickO od os p od.toNat : Nat)⟩ = true then [⟨p, (pickO od os p od.toNat : Nat)⟩] else []) ++ frL od os n (p + pw (pickO od os p od.toNat : Nat)) = res := by
  unfold frL at h
  rw [if_pos hp] at h
  rw [List.append_assoc]; exact h
theorem fr_end {od : Int} {os : List Ob} {n : Nat} {p : Int} {res ou : List Bl} (hp : ¬ p < pw od) (h : ou ++ frL od os n p = res) : ou = res := by
  cases n with
  | zero => simpa [frL] using h
  | succ n => unfold frL at h; rw [if_neg hp, List.append_nil] at h; exact h
end Go.Proofs.YtcjbepaclbhjaaaGreat
