/- The walk of buddy.Take. -/
import Derived.Test.YtbflmnoaiklnbaaTJ
set_option linter.unusedSimpArgs false
set_option linter.unusedVariables false
namespace Go.Proofs.Ytbflmnoaiklnbaa
open Go.RowKit
def TakeNo (w : World) (c : Int) (e : Ending) (w' : World) : Prop := e = .returned (.tuple #[.agg #[.int .i64 0, .int .i64 0], .slice none 0 0, .int .i64 c]) ∧ Below w.heap.size w w'
def TakeOk (w : World) (want : Int) (fs : List Bl) (e : Ending) (w' : World) : Prop := ∃ (b : Bl) (a : Option Addr) (k : Nat) (R : List Blk) (s : List Bl), e = .returned (.tuple #[.agg #[.int .i64 b.p, .int .i64 want], .slice a s.length k, .int .i64 0]) ∧ LeastT want fs b ∧ TakenP want fs b s ∧
  OwnRow 44 2 (.slice a s.length k) s.length (s.flatMap blV) R ∧ Hp w.heap.size w w' R
theorem errI_t : errI true = 0 := rfl
theorem errI_f : errI false = 1 := rfl
set_option maxRecDepth 100000 in
set_option maxHeartbeats 4000000 in
theorem take24_arg (order want : Int) (fs : List Bl) (a : Option Addr) (c : Nat) (hl : fs.length ≤ 600) (w : World) (ha : RowIs w a (fs.flatMap blV)) (h : rightB order fs = false ∨ want < 0 ∨ order < want) : Calls Try.prog 24 #[.int .i64 order, .slice a fs.length c, .int .i64 want] w (TakeNo w 1) := by
  have hp := Hp.start w
  have HA := Lib.hid ha
  clear ha
  have hw : (errI (rightB order fs) = 1 ∧ True) ∨ (errI (rightB order fs) = 0 ∧ decide (want < 0) = true) ∨ (errI (rightB order fs) = 0 ∧ decide (want < 0) = false ∧ decide (order < want) = true) := by
    cases hr : rightB order fs with
    | false => exact .inl ⟨rfl, trivial⟩
    | true =>
      right
      by_cases h1 : want < 0
      · exact .inl ⟨rfl, decide_eq_true h1⟩
      · right
        rcases h with h | h | h
        · rw [hr] at h; cases h
        · exact absurd h h1
        · exact ⟨rfl, decide_eq_false h1, decide_eq_true h⟩
  clear h
  rcases hw with ⟨hr, h1⟩ | ⟨hr, h1⟩ | ⟨hr, h1, h2⟩
  all_goals
    have HE := Lib.hid hr
    clear hr
    go_enter Try.func24, Try.ntmps24
    go_wp2_with (first | (go_at_call 19; (with_reducible refine (check19 order fs a c hl _ (HA.out.below hp.below)).mono ?_); rintro e w1 ⟨rfl, hb⟩; rw [HE.out]; replace hp := hp.call hb; clear hb) | go_skip | ((first | ((with_reducible refine pre_alloc _ rfl ?_); refine lZ hp rfl (by with_reducible first | exact zero44 | exact zero103) ?_; clear hp; intro b w1 hp) | ((with_reducible refine pre_box _ _ rfl ?_); refine lB hp rfl (slot_tmp rfl) rfl ?_; clear hp; intro b w1 hp) | ((with_reducible refine pre_load _ _ rfl ?_); first | refine lO hp rfl (slot_tmp rfl) (by with_reducible first | exact cell3 | exact cell4 | exact cell24 | exact cell101 | exact cell30) aa14 ?_ | refine lA hp rfl (slot_tmp rfl) (by with_reducible first | exact agg44 | exact agg103 | exact agg109) aa14 ?_) | ((with_reducible refine pre_store _ _ _ rfl ?_); (first | refine sO hp rfl (slot_tmp rfl) (by with_reducible first | exact cell3 | exact cell4 | exact cell24 | exact cell101 | exact cell30) aa14 ?_ | refine sA hp rfl (slot_tmp rfl) (slot_tmp rfl) (by with_reducible first | exact agg44 | exact agg103 | exact agg109) aa14 ?_ | refine sG hp rfl (slot_tmp rfl) (slot_tmp rfl) (by with_reducible first | exact agg44 | exact agg103 | exact agg109) aa14 ?_); clear hp; intro w1 hp; simp only [spl, List.set_cons_zero, List.set_cons_succ] at hp) | ((with_reducible refine pre_build _ _ _ rfl ?_); refine lS hp rfl (by intro w; go_simp; rfl) ?_; clear hp; intro b w1 hp; simp only [List.length_cons, List.length_nil, Nat.reduceAdd] at hp)); simp only [put_some, put_none, List.set_cons_succ, List.set_cons_zero]))
    exact bodyPost_ret (results_many (rs := [.cell 6 44, .tmp 7, .tmp 8]) Try.results24 (.cell rfl (hp.loadAgg agg44 at0 0 _ (by rfl) (by rfl)) (.tmp rfl (.tmp rfl .nil)))) rfl ⟨rfl, hp.below⟩
set_option maxRecDepth 100000 in
set_option maxHeartbeats 4000000 in
theorem take24_full (order want : Int) (fs : List Bl) (a : Option Addr) (c : Nat) (hl : fs.length ≤ 600) (w : World) (ha : RowIs w a (fs.flatMap blV)) (hr : rightB order fs = true) (h0 : 0 ≤ want) (h1 : want ≤ order) (hg : greatB fs want = false) : Calls Try.prog 24 #[.int .i64 order, .slice a fs.length c, .int .i64 want] w (TakeNo w 40) := by
  have hp := Hp.start w
  have HA := Lib.hid ha
  have HE : RowKit.Hid (errI (rightB order fs) = 0) := Lib.hid (by rw [hr]; rfl)
  have HM : RowKit.Hid (roomB order fs want = false) := Lib.hid (by simp [roomB, hg])
  have e1 : decide (want < 0) = false := by simp; omega
  have e2 : decide (order < want) = false := by simp; omega
  clear ha hr h0 h1 hg
  go_enter Try.func24, Try.ntmps24
  go_wp2_with (first | (go_at_call 19; (with_reducible refine (check19 order fs a c hl _ (HA.out.below hp.below)).mono ?_); rintro e w1 ⟨rfl, hb⟩; rw [HE.out]; replace hp := hp.call hb; clear hb) | (go_at_call 39; (with_reducible refine (room39 order fs a c hl want _ (HA.out.below hp.below)).mono ?_); rintro e w1 ⟨rfl, hb⟩; rw [HM.out]; replace hp := hp.call hb; clear hb) | go_skip | ((first | ((with_reducible refine pre_alloc _ rfl ?_); refine lZ hp rfl (by with_reducible first | exact zero44 | exact zero103) ?_; clear hp; intro b w1 hp) | ((with_reducible refine pre_box _ _ rfl ?_); refine lB hp rfl (slot_tmp rfl) rfl ?_; clear hp; intro b w1 hp) | ((with_reducible refine pre_load _ _ rfl ?_); first | refine lO hp rfl (slot_tmp rfl) (by with_reducible first | exact cell3 | exact cell4 | exact cell24 | exact cell101 | exact cell30) aa14 ?_ | refine lA hp rfl (slot_tmp rfl) (by with_reducible first | exact agg44 | exact agg103 | exact agg109) aa14 ?_) | ((with_reducible refine pre_store _ _ _ rfl ?_); (first | refine sO hp rfl (slot_tmp rfl) (by with_reducible first | exact cell3 | exact cell4 | exact cell24 | exact cell101 | exact cell30) aa14 ?_ | refine sA hp rfl (slot_tmp rfl) (slot_tmp rfl) (by with_reducible first | exact agg44 | exact agg103 | exact agg109) aa14 ?_ | refine sG hp rfl (slot_tmp rfl) (slot_tmp rfl) (by with_reducible first | exact agg44 | exact agg103 | exact agg109) aa14 ?_); clear hp; intro w1 hp; simp only [spl, List.set_cons_zero, List.set_cons_succ] at hp) | ((with_reducible refine pre_build _ _ _ rfl ?_); refine lS hp rfl (by intro w; go_simp; rfl) ?_; clear hp; intro b w1 hp; simp only [List.length_cons, List.length_nil, Nat.reduceAdd] at hp)); simp only [put_some, put_none, List.set_cons_succ, List.set_cons_zero]))
  exact bodyPost_ret (results_many (rs := [.cell 6 44, .tmp 7, .tmp 8]) Try.results24 (.cell rfl (hp.loadAgg agg44 at0 0 _ (by rfl) (by rfl)) (.tmp rfl (.tmp rfl .nil)))) rfl ⟨rfl, hp.below⟩
theorem q_hp {B : Nat} {w0 w : World} {bb g cap : Nat} {l : List Bl} {M : List Blk} (h : QHp B w0 w bb g cap l M) : Hp B w0 w (⟨bb, [.slice (some ⟨g, 0, none⟩) l.length cap], 109, 1⟩ :: ⟨g, l.flatMap blV, 44, cap * 2⟩ :: M) := h
theorem q_in2 {B : Nat} {w0 w : World} {x y : Blk} {bb g cap n : Nat} {l : List Bl} {M : List Blk} (hn : n = l.length) (h : Hp B w0 w (x :: y :: ⟨bb, [.slice (some ⟨g, 0, none⟩) n cap], 109, 1⟩ :: ⟨g, l.flatMap blV, 44, cap * 2⟩ :: M)) : QHp B w0 w bb g cap l (x :: y :: M) := by
  subst hn
  unfold QHp
  refine h.reorder ?_
  refine (List.Perm.cons _ ((List.Perm.swap _ _ _).trans (List.Perm.cons _ (List.Perm.swap _ _ _)))).trans ?_
  refine (List.Perm.swap _ _ _).trans (List.Perm.cons _ ?_)
  exact List.Perm.swap _ _ _
theorem q_out2 {B : Nat} {w0 w : World} {x y : Blk} {bb g cap : Nat} {l : List Bl} {M : List Blk} (h : QHp B w0 w bb g cap l (x :: y :: M)) : Hp B w0 w (x :: y :: ⟨bb, [.slice (some ⟨g, 0, none⟩) l.length cap], 109, 1⟩ :: ⟨g, l.flatMap blV, 44, cap * 2⟩ :: M) := by
  unfold QHp at h
  refine h.reorder (List.Perm.symm ?_)
  refine (List.Perm.cons _ ((List.Perm.swap _ _ _).trans (List.Perm.cons _ (List.Perm.swap _ _ _)))).trans ?_
  refine (List.Perm.swap _ _ _).trans (List.Perm.cons _ ?_)
  exact List.Perm.swap _ _ _
theorem Hp.sub {B : Nat} {w0 w : World} {L L' : List Blk} (hp : Hp B w0 w L) (h : L'.Sublist L) : Hp B w0 w L' :=
  ⟨hp.below, hp.size, (h.map _).nodup hp.nodup, fun p hpL => hp.own p (h.subset hpL)⟩
theorem rightB_good2 {od : Int} {fs : List Bl} (h : rightB od fs = true) : 3 ≤ od ∧ od ≤ 8 ∧ Good od fs := by
  unfold rightB regionB at h
  simp only [Bool.and_eq_true, decide_eq_true_eq] at h
  exact ⟨h.1.1, h.1.2, h.2⟩
theorem perm3 {x y z b r : Blk} {M : List Blk} : (x :: y :: z :: b :: r :: M).Perm (b :: r :: x :: y :: z :: M) := by
  have h1 : (x :: y :: z :: b :: r :: M) = [x, y, z] ++ ([b, r] ++ M) := rfl
  have h2 : (b :: r :: x :: y :: z :: M) = [b, r] ++ ([x, y, z] ++ M) := rfl
  rw [h1, h2, ← List.append_assoc, ← List.append_assoc]
  exact List.perm_append_comm.append_right _
theorem q_in3 {B : Nat} {w0 w : World} {x y z : Blk} {bb g cap : Nat} {l : List Bl} {M : List Blk} (h : Hp B w0 w (x :: y :: z :: ⟨bb, [.slice (some ⟨g, 0, none⟩) l.length cap], 109, 1⟩ :: ⟨g, l.flatMap blV, 44, cap * 2⟩ :: M)) : QHp B w0 w bb g cap l (x :: y :: z :: M) := h.reorder perm3
theorem q_out3 {B : Nat} {w0 w : World} {x y z : Blk} {bb g cap : Nat} {l : List Bl} {M : List Blk} (h : QHp B w0 w bb g cap l (x :: y :: z :: M)) : Hp B w0 w (x :: y :: z :: ⟨bb, [.slice (some ⟨g, 0, none⟩) l.length cap], 109, 1⟩ :: ⟨g, l.flatMap blV, 44, cap * 2⟩ :: M) := Hp.reorder h perm3.symm
theorem hpushL58 {B : Nat} {w0 w : World} {x y z : Blk} {bb g cap : Nat} {l : List Bl} {M : List Blk} (hp : Hp B w0 w (x :: y :: z :: ⟨bb, [.slice (some ⟨g, 0, none⟩) l.length cap], 109, 1⟩ :: ⟨g, l.flatMap blV, 44, cap * 2⟩ :: M)) (hl : l.length ≤ 1900) (hcap : l.length ≤ cap ∧ cap ≤ maxLen) (p o : Int) :
    Calls Try.prog 58 #[.iface 103 (.agg #[.pointer (some ⟨bb, 0, none⟩)]), .iface 44 (.agg #[.int .i64 p, .int .i64 o])] w (HPushed B w0 bb (l ++ [⟨p, o⟩]) (x :: y :: z :: M)) := hpush58 (q_in3 hp) hl hcap.1 hcap.2 ⟨p, o⟩
theorem app_bl (want : Int) (l : List Bl) (k : List Bl) : l.flatMap blV ++ k.flatMap blV = (l ++ k).flatMap blV := List.flatMap_append.symm
theorem perm4 {x y z b : Blk} {R M : List Blk} : (x :: y :: z :: b :: (R ++ M)).Perm (b :: (R ++ (x :: y :: z :: M))) := by
  have h1 : (x :: y :: z :: b :: (R ++ M)) = [x, y, z] ++ ([b] ++ (R ++ M)) := rfl
  have h2 : (b :: (R ++ (x :: y :: z :: M))) = [b] ++ (R ++ ([x, y, z] ++ M)) := rfl
  rw [h1, h2, ← List.append_assoc, ← List.append_assoc, ← List.append_assoc, ← List.append_assoc]
  exact ((List.perm_append_comm (l₁ := [x, y, z]) (l₂ := [b])).append_right R |>.trans (by rw [List.append_assoc, List.append_assoc]; exact List.perm_append_comm.append_left _)).append_right M
theorem re_in {B : Nat} {w0 w : World} {x y z : Blk} {bb : Nat} {v : Value} {R M : List Blk} (h : Hp B w0 w (x :: y :: z :: ⟨bb, [v], 109, 1⟩ :: (R ++ M))) : Hp B w0 w (⟨bb, [v], 109, 1⟩ :: (R ++ (x :: y :: z :: M))) := h.reorder perm4
theorem re_out {B : Nat} {w0 w : World} {x y z : Blk} {bb : Nat} {v : Value} {R M : List Blk} (h : Hp B w0 w (⟨bb, [v], 109, 1⟩ :: (R ++ (x :: y :: z :: M)))) : Hp B w0 w (x :: y :: z :: ⟨bb, [v], 109, 1⟩ :: (R ++ M)) := h.reorder perm4.symm
set_option maxRecDepth 100000 in
set_option maxHeartbeats 8000000 in
theorem take24_ok (order want : Int) (fs : List Bl) (a : Option Addr) (c : Nat) (hl : fs.length ≤ 600) (w : World) (ha : RowIs w a (fs.flatMap blV)) (hr : rightB order fs = true) (h0 : 0 ≤ want) (h1 : want ≤ order) (hg : greatB fs want = true) : Calls Try.prog 24 #[.int .i64 order, .slice a fs.length c, .int .i64 want] w (TakeOk w want fs) := by
  obtain ⟨i0, hi0, hz0, hz1, hz2⟩ := info_parts info44
  have hp := Hp.start w
  have HA := Lib.hid ha
  have HE : RowKit.Hid (errI (rightB order fs) = 0) := Lib.hid (by rw [hr]; rfl)
  have HM : RowKit.Hid (roomB order fs want = true) := Lib.hid (by simp [roomB, hg, hr, h0, h1])
  have HGP := Lib.hid (great_pos hg)
  have HRB := Lib.hid hr
  have e1 : decide (want < 0) = false := by simp; omega
  have e2 : decide (order < want) = false := by simp; omega
  have mkq := mkI103
  have mkb := mkI44
  have asb := asB44
  clear ha hr hg
  go_enter Try.func24, Try.ntmps24
  go_wp2_with (first | (go_at_call 19; (with_reducible refine (check19 order fs a c hl _ (HA.out.below hp.below)).mono ?_); rintro e w1 ⟨rfl, hb⟩; rw [HE.out]; replace hp := hp.call hb; clear hb) | (go_at_call 39; (with_reducible refine (room39 order fs a c hl want _ (HA.out.below hp.below)).mono ?_); rintro e w1 ⟨rfl, hb⟩; rw [HM.out]; replace hp := hp.call hb; clear hb) | (go_at_call 56; (with_reducible refine (queued56 fs a c (by omega) want HGP.out _ (HA.out.below hp.below)).mono ?_); rintro e w1 ⟨bb, g, cap, l1, vs, RS, rfl, hos, hq, hperm, hheap, hc1, hc2⟩; replace hp := hp.join (q_hp hq); have HQ := Lib.hid (And.intro hos (And.intro hperm (And.intro hheap (And.intro hc1 hc2)))); have HLQ : RowKit.Hid (l1.length ≤ 2000) := Lib.hid (by rw [hperm.length_eq]; have := greats_le want fs; omega); have HPQ : RowKit.Hid (0 < l1.length) := Lib.hid (by rw [hperm.length_eq]; exact HGP.out); have HCQ := Lib.hid hc1; have HLT := Lib.hid (least_of hperm hheap HPQ.out); clear hos hq hperm hheap hc1 hc2; simp only [List.cons_append, List.nil_append] at hp) | (go_at_call 57; (with_reducible refine (hpop57 (q_in2 rfl hp) HLQ.out HPQ.out HCQ.out).mono ?_); clear hp; rintro e w1 ⟨l2, rfl, hq, hperm⟩; have hp := q_out2 hq; have HPP := Lib.hid hperm; clear hq hperm) | go_skip | ((first | ((with_reducible refine pre_alloc _ rfl ?_); refine lZ hp rfl (by with_reducible first | exact zero44 | exact zero103) ?_; clear hp; intro b w1 hp) | ((with_reducible refine pre_box _ _ rfl ?_); refine lB hp rfl (slot_tmp rfl) rfl ?_; clear hp; intro b w1 hp) | ((with_reducible refine pre_load _ _ rfl ?_); first | refine lO hp rfl (slot_tmp rfl) (by with_reducible first | exact cell3 | exact cell4 | exact cell24 | exact cell101 | exact cell30) aa14 ?_ | refine lA hp rfl (slot_tmp rfl) (by with_reducible first | exact agg44 | exact agg103 | exact agg109) aa14 ?_) | ((with_reducible refine pre_store _ _ _ rfl ?_); (first | refine sO hp rfl (slot_tmp rfl) (by with_reducible first | exact cell3 | exact cell4 | exact cell24 | exact cell101 | exact cell30) aa14 ?_ | refine sA hp rfl (slot_tmp rfl) (slot_tmp rfl) (by with_reducible first | exact agg44 | exact agg103 | exact agg109) aa14 ?_ | refine sG hp rfl (slot_tmp rfl) (slot_tmp rfl) (by with_reducible first | exact agg44 | exact agg103 | exact agg109) aa14 ?_); clear hp; intro w1 hp; simp only [spl, List.set_cons_zero, List.set_cons_succ] at hp) | ((with_reducible refine pre_build _ _ _ rfl ?_); refine lS hp rfl (by intro w; go_simp; rfl) ?_; clear hp; intro b w1 hp; simp only [List.length_cons, List.length_nil, Nat.reduceAdd] at hp)); simp only [put_some, put_none, List.set_cons_succ, List.set_cons_zero]))
  obtain ⟨b11, rfl⟩ := hp.id0
  obtain ⟨b9, rfl⟩ := hp.id1
  obtain ⟨b6, rfl⟩ := hp.id2
  obtain ⟨hos, hperm, hheap, hc1, hc2⟩ := HQ.out
  have hsp := Splits.start hperm HPP.out
  have hcl : l2.length ≤ cap := by have := HPP.out.length_eq; simp at this; omega
  have hlt := HLT.out
  generalize gB l1 0 = bt at hp hsp hlt ⊢
  have HSP := Lib.hid hsp
  have HLE := Lib.hid hlt
  have HCC := Lib.hid (And.intro hcl hc2)
  have HOS := Lib.hid hos
  obtain ⟨g3, g8, hgood⟩ := rightB_good2 HRB.out
  obtain ⟨ii, hii, hbe⟩ := List.getElem_of_mem hlt.mem
  have hmay := (hgood ii _ (List.getElem?_eq_getElem hii)).1
  rw [hbe] at hmay
  have hwo := hlt.great
  obtain ⟨tp, to⟩ := bt
  obtain ⟨m1, m2, m3, m4, m5, m6⟩ := may_facts g8 hmay
  simp only at hwo
  obtain ⟨N, hN⟩ : ∃ N : Nat, N = (to - want).toNat := ⟨_, rfl⟩
  have HN := Lib.hid hN
  have HNI : RowKit.Hid ((N : Int) = to - want) := Lib.hid (by omega)
  have HMM := Lib.hid (And.intro m1 (And.intro m3 (And.intro m4 m6)))
  clear hos hperm hheap hc1 hc2 hsp hcl hlt HLT HPP HQ HLQ HPQ HCQ hgood hii hbe hmay hwo m1 m2 m3 m4 m5 m6 hN g3 g8
  go_loopg [] N (fun k wr => ∃ (i : Nat) (co : Int) (g cap : Nat) (l2 : List Bl), k + i = N ∧ RowKit.Hid (co = to - i) ∧ RowKit.Hid (Splits want fs ⟨tp, to⟩ i l2) ∧ RowKit.Hid (l2.length ≤ cap ∧ cap ≤ maxLen) ∧
    Hp w.heap.size w wr (⟨b11, [.int .i64 tp, .int .i64 co], 44, 2⟩ :: ⟨b9, [.pointer (some ⟨bb, 0, none⟩)], 103, 1⟩ :: ⟨b6, [.int .i64 0, .int .i64 0], 44, 2⟩ :: ⟨bb, [.slice (some ⟨g, 0, none⟩) l2.length cap], 109, 1⟩ :: ⟨g, l2.flatMap blV, 44, cap * 2⟩ :: RS))
  case atStart => exact ⟨0, to, g, cap, l2, by omega, Lib.hid (by simp), HSP, HCC, hp⟩
  case round =>
    clear hp HSP HCC
    obtain ⟨i, co, g, cap, l2, hki, HCO, HSP, HCC, hp⟩ := hrel
    by_cases hlt : want < co
    · obtain ⟨nco, hnco⟩ : ∃ n : Int, n = co - 1 := ⟨_, rfl⟩
      have hco := HCO.out
      obtain ⟨m1, m3, m4, m6⟩ := HMM.out
      have h0n : 0 ≤ nco := by omega
      have h8n : nco ≤ 8 := by omega
      have hpw := pw_le h8n
      have hpp := pw_pos nco
      obtain ⟨q, hq⟩ : ∃ q : Int, q = tp + pw nco := ⟨_, rfl⟩
      have ew1 : wrap64 (co - 1) = nco := by rw [IntWalk.wrap64_in _ ⟨by omega, by omega⟩]; omega
      have ew2 : wrap64 (tp + pw nco) = q := by rw [IntWalk.wrap64_in _ ⟨by omega, by have := pw_pos to; omega⟩]; omega
      have e3 : decide (want < co) = true := decide_eq_true hlt
      have HST : RowKit.Hid (q = tp + pw (to - i - 1) ∧ nco = to - i - 1) := Lib.hid (by rw [hq, hnco, hco]; exact ⟨rfl, rfl⟩)
      have HL2 : RowKit.Hid (l2.length ≤ 1900) := Lib.hid (by have h1 := HSP.out.len; have h2 := greats_le want fs; have := HNI.out; omega)
      have HCN : RowKit.Hid (nco = to - ((i + 1 : Nat) : Int)) := Lib.hid (by omega)
      have HKI := Lib.hid hki
      have EW1 := Lib.hid ew1
      have HGK : RowKit.Hid (0 < gk) := Lib.hid (by have := HNI.out; omega)
      clear hnco hq hpw hpp hlt hco m1 m3 m4 m6 hki
      go_wp2_with (first | go_skip | ((first | ((with_reducible refine pre_alloc _ rfl ?_); refine lZ hp rfl (by with_reducible first | exact zero44 | exact zero103) ?_; clear hp; intro b w1 hp) | ((with_reducible refine pre_box _ _ rfl ?_); refine lB hp rfl (slot_tmp rfl) rfl ?_; clear hp; intro b w1 hp) | ((with_reducible refine pre_load _ _ rfl ?_); first | refine lO hp rfl (slot_tmp rfl) (by with_reducible first | exact cell3 | exact cell4 | exact cell24 | exact cell101 | exact cell30) aa14 ?_ | refine lA hp rfl (slot_tmp rfl) (by with_reducible first | exact agg44 | exact agg103 | exact agg109) aa14 ?_) | ((with_reducible refine pre_store _ _ _ rfl ?_); (first | refine sO hp rfl (slot_tmp rfl) (by with_reducible first | exact cell3 | exact cell4 | exact cell24 | exact cell101 | exact cell30) aa14 ?_ | refine sA hp rfl (slot_tmp rfl) (slot_tmp rfl) (by with_reducible first | exact agg44 | exact agg103 | exact agg109) aa14 ?_ | refine sG hp rfl (slot_tmp rfl) (slot_tmp rfl) (by with_reducible first | exact agg44 | exact agg103 | exact agg109) aa14 ?_); clear hp; intro w1 hp; simp only [spl, List.set_cons_zero, List.set_cons_succ] at hp) | ((with_reducible refine pre_build _ _ _ rfl ?_); refine lS hp rfl (by intro w; go_simp; rfl) ?_; clear hp; intro b w1 hp; simp only [List.length_cons, List.length_nil, Nat.reduceAdd] at hp)); simp only [put_some, put_none, List.set_cons_succ, List.set_cons_zero]))
      refine wp_region_keeps [_, _] (Keeps.two hp.drew at0 at1) [] [(0, true), (1, true), (2, true), (3, true), (4, true), (5, true), (8, true), (9, true), (6, false), (7, true), (10, true), (11, true), (12, false)] (by kernel_rfl) (by kernel_rfl) rfl (by kernel_rfl) (fun _ _ d _ _ h => by cases d <;> exact h) ?_
      replace hp := hp.drew
      (first | (refine pA rfl rfl (slot_tmp rfl) agg103 aa5 ?_))
      try simp only [put_some, put_none, eval_tmp, eval_const, List.set_cons_succ, List.set_cons_zero, List.getD_cons_succ, List.getD_cons_zero, wrap_eq]
      (refine plan_take rfl wy (fun w _ => (by go_simp; try rfl)) ?_)
      try simp only [put_some, put_none, eval_tmp, eval_const, List.set_cons_succ, List.set_cons_zero, List.getD_cons_succ, List.getD_cons_zero, wrap_eq]
      (refine plan_take rfl wy (fun w _ => (by go_simp; try rfl)) ?_)
      try simp only [put_some, put_none, eval_tmp, eval_const, List.set_cons_succ, List.set_cons_zero, List.getD_cons_succ, List.getD_cons_zero, wrap_eq]
      (first | (refine pO rfl rfl (slot_tmp rfl) cell3 aa5 ?_))
      try simp only [put_some, put_none, eval_tmp, eval_const, List.set_cons_succ, List.set_cons_zero, List.getD_cons_succ, List.getD_cons_zero, wrap_eq]
      (refine plan_take rfl wy (fun w _ => (by go_simp; try rfl)) ?_)
      try simp only [put_some, put_none, eval_tmp, eval_const, List.set_cons_succ, List.set_cons_zero, List.getD_cons_succ, List.getD_cons_zero, wrap_eq]
      (first | (refine pO rfl rfl (slot_tmp rfl) cell3 aa5 ?_))
      try simp only [put_some, put_none, eval_tmp, eval_const, List.set_cons_succ, List.set_cons_zero, List.getD_cons_succ, List.getD_cons_zero, wrap_eq]
      (refine plan_take rfl wy (fun w _ => (by go_simp; try rfl)) ?_)
      try simp only [put_some, put_none, eval_tmp, eval_const, List.set_cons_succ, List.set_cons_zero, List.getD_cons_succ, List.getD_cons_zero, wrap_eq]
      (first | (refine pO rfl rfl (slot_tmp rfl) cell3 aa5 ?_))
      try simp only [put_some, put_none, eval_tmp, eval_const, List.set_cons_succ, List.set_cons_zero, List.getD_cons_succ, List.getD_cons_zero, wrap_eq]
      refine plan_do rfl (fun K hK => ?_)
      go_wp2_with (first | go_skip | (go_at_call 22; (with_reducible refine (words22 _ h0n h8n _).mono ?_); rintro e w' ⟨rfl, rfl⟩) | (go_at_call 58; (with_reducible refine (hpushL58 hp HL2.out HCC.out _ _).mono ?_); clear hp; rintro e w1 ⟨rfl, g', cap', l3, hq, hperm, hc1, hc2⟩; have hp := q_out3 hq; have HPM := Lib.hid hperm; have HCC' := Lib.hid (And.intro hc1 hc2); clear hq hperm hc1 hc2))
      refine hK.out _ _ (.inr (Keeps.two hp aa5 aa5)) ?_
      clear hK K
      try simp only [put_some, put_none, eval_tmp, eval_const, List.set_cons_succ, List.set_cons_zero, List.getD_cons_succ, List.getD_cons_zero, wrap_eq]
      (refine plan_take rfl wy (fun w _ => (by go_simp; try rfl)) ?_)
      try simp only [put_some, put_none, eval_tmp, eval_const, List.set_cons_succ, List.set_cons_zero, List.getD_cons_succ, List.getD_cons_zero, wrap_eq]
      (refine plan_take rfl wy (fun w _ => (by go_simp; try rfl)) ?_)
      try simp only [put_some, put_none, eval_tmp, eval_const, List.set_cons_succ, List.set_cons_zero, List.getD_cons_succ, List.getD_cons_zero, wrap_eq]
      (refine plan_take rfl wy (fun w _ => (by go_simp; try rfl)) ?_)
      try simp only [put_some, put_none, eval_tmp, eval_const, List.set_cons_succ, List.set_cons_zero, List.getD_cons_succ, List.getD_cons_zero, wrap_eq]
      refine plan_do rfl (fun K hK => ?_)
      go_wp2_with (first | go_skip | (go_at_call 22; (with_reducible refine (words22 _ h0n h8n _).mono ?_); rintro e w' ⟨rfl, rfl⟩) | (go_at_call 58; (with_reducible refine (hpushL58 hp HL2.out HCC.out _ _).mono ?_); clear hp; rintro e w1 ⟨rfl, g', cap', l3, hq, hperm, hc1, hc2⟩; have hp := q_out3 hq; have HPM := Lib.hid hperm; have HCC' := Lib.hid (And.intro hc1 hc2); clear hq hperm hc1 hc2))
      refine hK.out _ _ (.inr (Keeps.two hp aa5 aa5)) ?_
      clear hK K
      try simp only [put_some, put_none, eval_tmp, eval_const, List.set_cons_succ, List.set_cons_zero, List.getD_cons_succ, List.getD_cons_zero, wrap_eq]
      refine plan_nil ?_
      go_wp2_with fail
      go_roundg (gk - 1)
      case measure => have := HGK.out; omega
      case rel => exact ⟨i + 1, nco, g', cap', l3, by have := HKI.out; have := HGK.out; omega, HCN, Lib.hid (HSP.out.step (by have h := HPM.out; rw [HST.out.1, HST.out.2] at h; exact h)), HCC', by have h := hp; rw [EW1.out] at h; exact h⟩
    · have e3 : decide (want < co) = false := decide_eq_false hlt
      have hiN : i = N := by have := HCO.out; have := HNI.out; omega
      have HCW : RowKit.Hid (co = want) := Lib.hid (by have := HCO.out; have := HNI.out; omega)
      have HIN : RowKit.Hid (i = (to - want).toNat) := Lib.hid (by rw [hiN, HN.out])
      have HR : RowKit.Hid (OwnRow 44 2 (.slice (some ⟨g, 0, none⟩) l2.length cap) l2.length (l2.flatMap blV) [⟨g, l2.flatMap blV, 44, cap * 2⟩]) := Lib.hid ⟨lit_len l2, .inr ⟨g, cap, rfl, HCC.out.1, HCC.out.2, rfl⟩⟩
      obtain ⟨av, kv, rfl, KV⟩ := HOS.out.kept
      have hlen := HSP.out.len
      have hg1 := greats_le want fs
      have hs1 := smalls_le want fs
      have hni := HNI.out
      obtain ⟨m1, m3, m4, m6⟩ := HMM.out
      have sm1 : l2.length + (smalls want fs).length ≤ maxLen := by unfold maxLen; omega
      have sm2 : (l2.length + (smalls want fs).length) * 16 ≤ 140737488355328 := by omega
      have HLS : RowKit.Hid ((l2 ++ smalls want fs).length ≤ 5000) := Lib.hid (by rw [List.length_append]; omega)
      clear hlen hg1 hs1 hni m1 m3 m4 m6 hlt hiN hki
      go_wp2_with (first | go_skip | ((first | ((with_reducible refine pre_alloc _ rfl ?_); refine lZ hp rfl (by with_reducible first | exact zero44 | exact zero103) ?_; clear hp; intro b w1 hp) | ((with_reducible refine pre_box _ _ rfl ?_); refine lB hp rfl (slot_tmp rfl) rfl ?_; clear hp; intro b w1 hp) | ((with_reducible refine pre_load _ _ rfl ?_); first | refine lO hp rfl (slot_tmp rfl) (by with_reducible first | exact cell3 | exact cell4 | exact cell24 | exact cell101 | exact cell30) aa14 ?_ | refine lA hp rfl (slot_tmp rfl) (by with_reducible first | exact agg44 | exact agg103 | exact agg109) aa14 ?_) | ((with_reducible refine pre_store _ _ _ rfl ?_); (first | refine sO hp rfl (slot_tmp rfl) (by with_reducible first | exact cell3 | exact cell4 | exact cell24 | exact cell101 | exact cell30) aa14 ?_ | refine sA hp rfl (slot_tmp rfl) (slot_tmp rfl) (by with_reducible first | exact agg44 | exact agg103 | exact agg109) aa14 ?_ | refine sG hp rfl (slot_tmp rfl) (slot_tmp rfl) (by with_reducible first | exact agg44 | exact agg103 | exact agg109) aa14 ?_); clear hp; intro w1 hp; simp only [spl, List.set_cons_zero, List.set_cons_succ] at hp) | ((with_reducible refine pre_build _ _ _ rfl ?_); refine lS hp rfl (by intro w; go_simp; rfl) ?_; clear hp; intro b w1 hp; simp only [List.length_cons, List.length_nil, Nat.reduceAdd] at hp)); simp only [put_some, put_none, List.set_cons_succ, List.set_cons_zero]))
      refine wp_region_keeps [_, _] (Keeps.two hp.drew at1 at3) [11] [(0, true), (1, true), (2, true), (3, true), (4, true), (5, true), (6, true), (7, true), (8, false), (9, true), (10, true), (11, false)] (by kernel_rfl) (by kernel_rfl) rfl (by kernel_rfl) (fun _ _ d _ _ h => by cases d <;> exact h) ?_
      replace hp := hp.drew
      (refine plan_take rfl wy (fun w _ => (by go_simp; try rfl)) ?_)
      try simp only [put_some, put_none, eval_tmp, eval_const, List.set_cons_succ, List.set_cons_zero, List.getD_cons_succ, List.getD_cons_zero, wrap_eq]
      (first | (refine pO rfl rfl (slot_tmp rfl) cell101 aa5 ?_))
      try simp only [put_some, put_none, eval_tmp, eval_const, List.set_cons_succ, List.set_cons_zero, List.getD_cons_succ, List.getD_cons_zero, wrap_eq]
      (refine plan_take rfl wy (fun w _ => (by go_simp; try rfl)) ?_)
      try simp only [put_some, put_none, eval_tmp, eval_const, List.set_cons_succ, List.set_cons_zero, List.getD_cons_succ, List.getD_cons_zero, wrap_eq]
      (first | (refine pO rfl rfl (slot_tmp rfl) cell101 aa5 ?_))
      try simp only [put_some, put_none, eval_tmp, eval_const, List.set_cons_succ, List.set_cons_zero, List.getD_cons_succ, List.getD_cons_zero, wrap_eq]
      (refine plan_take rfl wy (fun w _ => (by go_simp; try rfl)) ?_)
      try simp only [put_some, put_none, eval_tmp, eval_const, List.set_cons_succ, List.set_cons_zero, List.getD_cons_succ, List.getD_cons_zero, wrap_eq]
      (refine plan_take rfl wy (fun w _ => (by go_simp; try rfl)) ?_)
      try simp only [put_some, put_none, eval_tmp, eval_const, List.set_cons_succ, List.set_cons_zero, List.getD_cons_succ, List.getD_cons_zero, wrap_eq]
      (first | (refine pO rfl rfl (slot_tmp rfl) cell24 aa5 ?_))
      try simp only [put_some, put_none, eval_tmp, eval_const, List.set_cons_succ, List.set_cons_zero, List.getD_cons_succ, List.getD_cons_zero, wrap_eq]
      (refine plan_move rfl _ rfl wy ?_)
      try simp only [put_some, put_none, eval_tmp, eval_const, List.set_cons_succ, List.set_cons_zero, List.getD_cons_succ, List.getD_cons_zero, wrap_eq]
      refine plan_do rfl (fun K hK => ?_)
      go_wp2_with (first | go_skip | ((with_reducible refine pre_append _ _ 24 rfl ?_); refine wpList_appendGrowRow (K := [_, _, _, _]) (R := [_]) (M := RS) hp _ _ _ rfl wy i0 _ 16 Try.underlying24 hi0 hz0 hz1 hz2 rfl (by decide) (slot_tmp rfl) HR.out av (smalls want fs).length kv (slot_tmp rfl) _ (lit_len _) (KV.at hp (by intro p hp2; simp [hp2])) (blsOne _) sm1 sm2 ?_; clear hp HR; intro v' R' w1 hr hp; obtain ⟨a2, k2, rfl, _⟩ := hr.kept; rw [app_bl want] at hr; have HR : RowKit.Hid (OwnRow 44 2 (.slice a2 (l2.length + (smalls want fs).length) k2) (l2 ++ smalls want fs).length ((l2 ++ smalls want fs).flatMap blV) R') := Lib.hid (by rw [List.length_append]; exact hr); clear hr; simp only [List.cons_append, List.nil_append] at hp; simp only [put_some, put_none, List.set_cons_succ, List.set_cons_zero]))
      refine hK.out _ _ (.inr (Keeps.two hp aa5 aa5)) ?_
      clear hK K
      try simp only [put_some, put_none, eval_tmp, eval_const, List.set_cons_succ, List.set_cons_zero, List.getD_cons_succ, List.getD_cons_zero, wrap_eq]
      (refine plan_take rfl wy (fun w _ => (by go_simp; try rfl)) ?_)
      try simp only [put_some, put_none, eval_tmp, eval_const, List.set_cons_succ, List.set_cons_zero, List.getD_cons_succ, List.getD_cons_zero, wrap_eq]
      (refine plan_take rfl wy (fun w _ => (by go_simp; try rfl)) ?_)
      try simp only [put_some, put_none, eval_tmp, eval_const, List.set_cons_succ, List.set_cons_zero, List.getD_cons_succ, List.getD_cons_zero, wrap_eq]
      refine plan_do rfl (fun K hK => ?_)
      go_wp2_with (first | ((with_reducible refine pre_append _ _ 24 rfl ?_); refine wpList_appendGrowRow (K := [_, _, _, _]) (R := [_]) (M := RS) hp _ _ _ rfl wy i0 _ 16 Try.underlying24 hi0 hz0 hz1 hz2 rfl (by decide) (slot_tmp rfl) HR.out av (smalls want fs).length kv (slot_tmp rfl) _ (lit_len _) (KV.at hp (by intro p hp2; simp [hp2])) (blsOne _) sm1 sm2 ?_; clear hp HR; intro v' R' w1 hr hp; obtain ⟨a2, k2, rfl, _⟩ := hr.kept; rw [app_bl want] at hr; have HR : RowKit.Hid (OwnRow 44 2 (.slice a2 (l2.length + (smalls want fs).length) k2) (l2 ++ smalls want fs).length ((l2 ++ smalls want fs).flatMap blV) R') := Lib.hid (by rw [List.length_append]; exact hr); clear hr; simp only [List.cons_append, List.nil_append] at hp; simp only [put_some, put_none, List.set_cons_succ, List.set_cons_zero]) | go_skip | ((first | ((with_reducible refine pre_alloc _ rfl ?_); refine lZ hp rfl (by with_reducible first | exact zero44 | exact zero103) ?_; clear hp; intro b w1 hp) | ((with_reducible refine pre_box _ _ rfl ?_); refine lB hp rfl (slot_tmp rfl) rfl ?_; clear hp; intro b w1 hp) | ((with_reducible refine pre_load _ _ rfl ?_); first | refine lO hp rfl (slot_tmp rfl) (by with_reducible first | exact cell3 | exact cell4 | exact cell24 | exact cell101 | exact cell30) aa14 ?_ | refine lA hp rfl (slot_tmp rfl) (by with_reducible first | exact agg44 | exact agg103 | exact agg109) aa14 ?_) | ((with_reducible refine pre_store _ _ _ rfl ?_); (first | refine sO hp rfl (slot_tmp rfl) (by with_reducible first | exact cell3 | exact cell4 | exact cell24 | exact cell101 | exact cell30) aa14 ?_ | refine sA hp rfl (slot_tmp rfl) (slot_tmp rfl) (by with_reducible first | exact agg44 | exact agg103 | exact agg109) aa14 ?_ | refine sG hp rfl (slot_tmp rfl) (slot_tmp rfl) (by with_reducible first | exact agg44 | exact agg103 | exact agg109) aa14 ?_); clear hp; intro w1 hp; simp only [spl, List.set_cons_zero, List.set_cons_succ] at hp) | ((with_reducible refine pre_build _ _ _ rfl ?_); refine lS hp rfl (by intro w; go_simp; rfl) ?_; clear hp; intro b w1 hp; simp only [List.length_cons, List.length_nil, Nat.reduceAdd] at hp)); simp only [put_some, put_none, List.set_cons_succ, List.set_cons_zero]))
      refine hK.out _ _ (.inl rfl) ?_
      clear hK K
      try simp only [put_some, put_none, eval_tmp, eval_const, List.set_cons_succ, List.set_cons_zero, List.getD_cons_succ, List.getD_cons_zero, wrap_eq]
      refine plan_nil ?_
      go_wp2_with (first | go_skip | ((first | ((with_reducible refine pre_alloc _ rfl ?_); refine lZ hp rfl (by with_reducible first | exact zero44 | exact zero103) ?_; clear hp; intro b w1 hp) | ((with_reducible refine pre_box _ _ rfl ?_); refine lB hp rfl (slot_tmp rfl) rfl ?_; clear hp; intro b w1 hp) | ((with_reducible refine pre_load _ _ rfl ?_); first | refine lO hp rfl (slot_tmp rfl) (by with_reducible first | exact cell3 | exact cell4 | exact cell24 | exact cell101 | exact cell30) aa14 ?_ | refine lA hp rfl (slot_tmp rfl) (by with_reducible first | exact agg44 | exact agg103 | exact agg109) aa14 ?_) | ((with_reducible refine pre_store _ _ _ rfl ?_); (first | refine sO hp rfl (slot_tmp rfl) (by with_reducible first | exact cell3 | exact cell4 | exact cell24 | exact cell101 | exact cell30) aa14 ?_ | refine sA hp rfl (slot_tmp rfl) (slot_tmp rfl) (by with_reducible first | exact agg44 | exact agg103 | exact agg109) aa14 ?_ | refine sG hp rfl (slot_tmp rfl) (slot_tmp rfl) (by with_reducible first | exact agg44 | exact agg103 | exact agg109) aa14 ?_); clear hp; intro w1 hp; simp only [spl, List.set_cons_zero, List.set_cons_succ] at hp) | ((with_reducible refine pre_build _ _ _ rfl ?_); refine lS hp rfl (by intro w; go_simp; rfl) ?_; clear hp; intro b w1 hp; simp only [List.length_cons, List.length_nil, Nat.reduceAdd] at hp)); simp only [put_some, put_none, List.set_cons_succ, List.set_cons_zero]))
      refine wp_region_keeps [_, _] (Keeps.two hp.drew at0 at1) [4, 5, 6] [(0, true), (1, true), (2, true), (3, false), (4, false), (5, false), (6, false)] (by kernel_rfl) (by kernel_rfl) rfl (by kernel_rfl) (fun _ _ d _ _ h => by cases d <;> exact h) ?_
      replace hp := hp.drew
      (first | (refine pA rfl rfl (slot_tmp rfl) agg44 aa5 ?_))
      try simp only [put_some, put_none, eval_tmp, eval_const, List.set_cons_succ, List.set_cons_zero, List.getD_cons_succ, List.getD_cons_zero, wrap_eq]
      (refine plan_move rfl _ rfl wy ?_)
      try simp only [put_some, put_none, eval_tmp, eval_const, List.set_cons_succ, List.set_cons_zero, List.getD_cons_succ, List.getD_cons_zero, wrap_eq]
      (first | (refine pA rfl rfl (slot_tmp rfl) agg103 aa5 ?_))
      try simp only [put_some, put_none, eval_tmp, eval_const, List.set_cons_succ, List.set_cons_zero, List.getD_cons_succ, List.getD_cons_zero, wrap_eq]
      refine plan_do rfl (fun K hK => ?_)
      go_wp2_with (first | go_skip | (go_at_call 59; (with_reducible refine (rest59 (re_in hp) HR.out HLS.out).mono ?_); clear hp; rintro e w1 ⟨s, R2, rfl, hr2, hq, hperm, hsort⟩; have hp := re_out hq; have HR2 := Lib.hid (And.intro hr2 (And.intro hperm hsort)); clear hq hr2 hperm hsort))
      refine hK.out _ _ (.inr (Keeps.two hp aa5 aa5)) ?_
      clear hK K
      try simp only [put_some, put_none, eval_tmp, eval_const, List.set_cons_succ, List.set_cons_zero, List.getD_cons_succ, List.getD_cons_zero, wrap_eq]
      refine plan_do rfl (fun K hK => ?_)
      go_wp2_with (first | go_skip | ((first | ((with_reducible refine pre_alloc _ rfl ?_); refine lZ hp rfl (by with_reducible first | exact zero44 | exact zero103) ?_; clear hp; intro b w1 hp) | ((with_reducible refine pre_box _ _ rfl ?_); refine lB hp rfl (slot_tmp rfl) rfl ?_; clear hp; intro b w1 hp) | ((with_reducible refine pre_load _ _ rfl ?_); first | refine lO hp rfl (slot_tmp rfl) (by with_reducible first | exact cell3 | exact cell4 | exact cell24 | exact cell101 | exact cell30) aa14 ?_ | refine lA hp rfl (slot_tmp rfl) (by with_reducible first | exact agg44 | exact agg103 | exact agg109) aa14 ?_) | ((with_reducible refine pre_store _ _ _ rfl ?_); (first | refine sO hp rfl (slot_tmp rfl) (by with_reducible first | exact cell3 | exact cell4 | exact cell24 | exact cell101 | exact cell30) aa14 ?_ | refine sA hp rfl (slot_tmp rfl) (slot_tmp rfl) (by with_reducible first | exact agg44 | exact agg103 | exact agg109) aa14 ?_ | refine sG hp rfl (slot_tmp rfl) (slot_tmp rfl) (by with_reducible first | exact agg44 | exact agg103 | exact agg109) aa14 ?_); clear hp; intro w1 hp; simp only [spl, List.set_cons_zero, List.set_cons_succ] at hp) | ((with_reducible refine pre_build _ _ _ rfl ?_); refine lS hp rfl (by intro w; go_simp; rfl) ?_; clear hp; intro b w1 hp; simp only [List.length_cons, List.length_nil, Nat.reduceAdd] at hp)); simp only [put_some, put_none, List.set_cons_succ, List.set_cons_zero]))
      refine hK.out _ _ (.inl rfl) ?_
      clear hK K
      try simp only [put_some, put_none, eval_tmp, eval_const, List.set_cons_succ, List.set_cons_zero, List.getD_cons_succ, List.getD_cons_zero, wrap_eq]
      refine plan_do rfl (fun K hK => ?_)
      go_wp2_with (first | go_skip | ((first | ((with_reducible refine pre_alloc _ rfl ?_); refine lZ hp rfl (by with_reducible first | exact zero44 | exact zero103) ?_; clear hp; intro b w1 hp) | ((with_reducible refine pre_box _ _ rfl ?_); refine lB hp rfl (slot_tmp rfl) rfl ?_; clear hp; intro b w1 hp) | ((with_reducible refine pre_load _ _ rfl ?_); first | refine lO hp rfl (slot_tmp rfl) (by with_reducible first | exact cell3 | exact cell4 | exact cell24 | exact cell101 | exact cell30) aa14 ?_ | refine lA hp rfl (slot_tmp rfl) (by with_reducible first | exact agg44 | exact agg103 | exact agg109) aa14 ?_) | ((with_reducible refine pre_store _ _ _ rfl ?_); (first | refine sO hp rfl (slot_tmp rfl) (by with_reducible first | exact cell3 | exact cell4 | exact cell24 | exact cell101 | exact cell30) aa14 ?_ | refine sA hp rfl (slot_tmp rfl) (slot_tmp rfl) (by with_reducible first | exact agg44 | exact agg103 | exact agg109) aa14 ?_ | refine sG hp rfl (slot_tmp rfl) (slot_tmp rfl) (by with_reducible first | exact agg44 | exact agg103 | exact agg109) aa14 ?_); clear hp; intro w1 hp; simp only [spl, List.set_cons_zero, List.set_cons_succ] at hp) | ((with_reducible refine pre_build _ _ _ rfl ?_); refine lS hp rfl (by intro w; go_simp; rfl) ?_; clear hp; intro b w1 hp; simp only [List.length_cons, List.length_nil, Nat.reduceAdd] at hp)); simp only [put_some, put_none, List.set_cons_succ, List.set_cons_zero]))
      refine hK.out _ _ (.inl rfl) ?_
      clear hK K
      try simp only [put_some, put_none, eval_tmp, eval_const, List.set_cons_succ, List.set_cons_zero, List.getD_cons_succ, List.getD_cons_zero, wrap_eq]
      refine plan_do rfl (fun K hK => ?_)
      go_wp2_with (first | go_skip | ((first | ((with_reducible refine pre_alloc _ rfl ?_); refine lZ hp rfl (by with_reducible first | exact zero44 | exact zero103) ?_; clear hp; intro b w1 hp) | ((with_reducible refine pre_box _ _ rfl ?_); refine lB hp rfl (slot_tmp rfl) rfl ?_; clear hp; intro b w1 hp) | ((with_reducible refine pre_load _ _ rfl ?_); first | refine lO hp rfl (slot_tmp rfl) (by with_reducible first | exact cell3 | exact cell4 | exact cell24 | exact cell101 | exact cell30) aa14 ?_ | refine lA hp rfl (slot_tmp rfl) (by with_reducible first | exact agg44 | exact agg103 | exact agg109) aa14 ?_) | ((with_reducible refine pre_store _ _ _ rfl ?_); (first | refine sO hp rfl (slot_tmp rfl) (by with_reducible first | exact cell3 | exact cell4 | exact cell24 | exact cell101 | exact cell30) aa14 ?_ | refine sA hp rfl (slot_tmp rfl) (slot_tmp rfl) (by with_reducible first | exact agg44 | exact agg103 | exact agg109) aa14 ?_ | refine sG hp rfl (slot_tmp rfl) (slot_tmp rfl) (by with_reducible first | exact agg44 | exact agg103 | exact agg109) aa14 ?_); clear hp; intro w1 hp; simp only [spl, List.set_cons_zero, List.set_cons_succ] at hp) | ((with_reducible refine pre_build _ _ _ rfl ?_); refine lS hp rfl (by intro w; go_simp; rfl) ?_; clear hp; intro b w1 hp; simp only [List.length_cons, List.length_nil, Nat.reduceAdd] at hp)); simp only [put_some, put_none, List.set_cons_succ, List.set_cons_zero]))
      refine hK.out _ _ (.inl rfl) ?_
      clear hK K
      try simp only [put_some, put_none, eval_tmp, eval_const, List.set_cons_succ, List.set_cons_zero, List.getD_cons_succ, List.getD_cons_zero, wrap_eq]
      refine plan_nil ?_
      go_wp2_with fail
      obtain ⟨hr2, hperm, hsort⟩ := HR2.out
      have hsl : s.length = l2.length + (smalls want fs).length := by rw [hperm.length_eq, List.length_append]
      refine bodyPost_ret (results_many (rs := [.cell 6 44, .tmp 7, .tmp 8]) Try.results24 (.cell rfl (hp.loadAgg agg44 at2 0 _ (by rfl) (by rfl)) (.tmp rfl (.tmp rfl .nil)))) rfl ⟨⟨tp, to⟩, a2, k2, R2, s, ?_, HLE.out, ?_, ?_, ?_⟩
      · rw [hsl, HCW.out]; rfl
      · have h := HSP.out
        rw [HIN.out] at h
        exact h.done hperm hsort
      · rw [hsl]; rw [List.length_append] at hr2; exact hr2
      · exact hp.tail.tail.tail.tail.sub (List.sublist_append_left _ _)
end Go.Proofs.Ytbflmnoaiklnbaa
