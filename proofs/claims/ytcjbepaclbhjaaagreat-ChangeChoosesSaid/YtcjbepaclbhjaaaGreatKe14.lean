/- Parts of the proof. -/
import Derived.Test.YtcjbepaclbhjaaaGreatKe1
import Derived.Test.YtcjbepaclbhjaaaGreatKe5
import Derived.Test.YtcjbepaclbhjaaaGreatKe3
open List renaming set_cons_zero → zSet, set_cons_succ → sSet
/- The walks that read a text and rows. -/
set_option linter.unusedSimpArgs false
set_option linter.unusedVariables false
namespace Go.Proofs.YtcjbepaclbhjaaaGreat
open Go.RowKit
def textR (bs : List Nat) : Option (List Nat × List Nat) := match numR bs with
  | none => none
  | some n => if n ≤ 65536 ∧ n + 4 ≤ bs.length then some ((bs.drop 4).take n, (bs.drop 4).drop n) else none
theorem leftr102 (br n c : Nat) (a : Option Addr) {B : Nat} {w0 w : World} {L : List Blk} (hp : Hp B w0 w (Rb br a n c :: L)) : Calls Tryz.prog 102 #[.pointer (some ⟨br, 0, none⟩)] w fun e w' => e = .returned (.int .i64 n) ∧ w = w' := by
  have HC := Lib.hid (Rb.cell hp)
  clear hp
  go_enter Tryz.func102, Tryz.ntmps102
  go_wp2_with (first | (refine hL6 ?_) | go_skip)
  go_ret
  exact ⟨rfl, rfl⟩
theorem pre_convert {P : Program} {ops : Array Oper} {rest : List Oper} {o : Oper} {a : Act} {w : World} {Q : Exit → Act → World → Prop} (s d : TypeId) (x : Operand) (_ : o.op = .convert s d x) (h : wpList P ops Q (o :: rest) a w) : wpList P ops Q (o :: rest) a w := h
theorem row_take {w : World} {a : Option Addr} {bs : List Nat} (h : RdAt w a bs) (n : Nat) : RowIs w a ((nI (bs.take n)).map (Value.int .u8)) := by
  intro j v hj
  rw [nI_cells, fl_by, List.getElem?_map, List.getElem?_take] at hj
  split at hj
  · refine h.1 j v ?_
    rw [fl_by, List.getElem?_map]; exact hj
  · simp at hj
theorem text_some {bs t r : List Nat} (h : textR bs = some (t, r)) : ∃ n, numR bs = some n ∧ n ≤ 65536 ∧ n + 4 ≤ bs.length ∧ t = (bs.drop 4).take n ∧ r = (bs.drop 4).drop n := by
  unfold textR at h
  cases hn : numR bs with
  | none => rw [hn] at h; cases h
  | some n =>
    rw [hn] at h
    simp only at h
    split at h
    · rename_i hc
      injection h with h
      injection h with h1 h2
      exact ⟨n, rfl, hc.1, hc.2, h1.symm, h2.symm⟩
    · cases h
theorem text_none {bs : List Nat} (h : textR bs = none) : numR bs = none ∨ ∃ n, numR bs = some n ∧ (65536 < n ∨ (n ≤ 65536 ∧ bs.length < n + 4)) := by
  unfold textR at h
  cases hn : numR bs with
  | none => exact .inl rfl
  | some n =>
    rw [hn] at h
    simp only at h
    split at h
    · cases h
    · exact .inr ⟨n, rfl, by omega⟩
set_option maxRecDepth 100000 in
set_option maxHeartbeats 4000000 in
theorem textg85_no (br c : Nat) (a : Option Addr) (bs : List Nat) (hv : textR bs = none) (hnc : bs.length ≤ c) (hbl : bs.length ≤ 1000000000) {w0 w : World} {L : List Blk} (hp : Hp w0.heap.size w0 w (Rb br a bs.length c :: L)) (ha : RdAt w0 a bs) :
    Calls Tryz.prog 85 #[.pointer (some ⟨br, 0, none⟩)] w fun e w' => (∃ q : Int, (q = 10 ∨ q = 11) ∧ e = .returned (.tuple #[.string ⟨#[]⟩, .int .i64 q])) ∧ w = w' := by
  have HA := Lib.hid ha
  clear ha
  rcases text_none hv with hn | ⟨n, hn, h1 | ⟨h1, h2⟩⟩
  · have HV := Lib.hid hn
    clear hv hn
    go_enter Tryz.func85, Tryz.ntmps85
    go_wp2_with (first | (go_at_call 105; (with_reducible refine (count105_no br c a bs HV.out hnc hp HA.out).mono ?_); rintro e w' ⟨⟨q, hq, rfl⟩, rfl⟩) | go_skip)
    rcases hq with rfl | rfl
    all_goals
      go_wp2_with (first | go_skip)
      go_ret2
    · exact ⟨⟨10, .inl rfl, rfl⟩, rfl⟩
    · exact ⟨⟨11, .inr rfl, rfl⟩, rfl⟩
  · have HV := Lib.hid hn
    have e1 : decide ((65536 : Int) < (n : Int)) = true := by simp; omega
    clear hv hn
    go_enter Tryz.func85, Tryz.ntmps85
    go_wp2_with (first | (go_at_call 105; (with_reducible refine (count105 br c n a bs HV.out hnc hp HA.out).mono ?_); rintro e w' ⟨rfl, rfl⟩) | go_skip)
    go_ret2
    exact ⟨⟨11, .inr rfl, rfl⟩, rfl⟩
  · have HV := Lib.hid hn
    obtain ⟨h4, _, _⟩ := numR_len hn
    have e1 : decide ((65536 : Int) < (n : Int)) = false := by simp; omega
    have e2 : wrap64 ((bs.length : Int) - 4) = (bs.length : Int) - 4 := by unfold wrap64; omega
    have e3 : decide ((bs.length : Int) - 4 < (n : Int)) = true := by simp; omega
    clear hv hn
    go_enter Tryz.func85, Tryz.ntmps85
    go_wp2_with (first | (go_at_call 105; (with_reducible refine (count105 br c n a bs HV.out hnc hp HA.out).mono ?_); rintro e w' ⟨rfl, rfl⟩) | (go_at_call 102; (with_reducible refine (leftr102 br bs.length c a hp).mono ?_); rintro e w' ⟨rfl, rfl⟩) | go_skip)
    go_ret2
    exact ⟨⟨10, .inl rfl, rfl⟩, rfl⟩
set_option maxRecDepth 100000 in
set_option maxHeartbeats 4000000 in
theorem textg85 (br c : Nat) (t r : List Nat) (a : Option Addr) (bs : List Nat) (hv : textR bs = some (t, r)) (hnc : bs.length ≤ c) (hbl : bs.length ≤ 1000000000) {w0 w : World} {L : List Blk} (hp : Hp w0.heap.size w0 w (Rb br a bs.length c :: L)) (ha : RdAt w0 a bs) :
    Calls Tryz.prog 85 #[.pointer (some ⟨br, 0, none⟩)] w fun e w' => e = .returned (.tuple #[.string (strOfNums (nI t)), .int .i64 0]) ∧ ∃ c', r.length ≤ c' ∧ PassTo w0 br r c' L w' := by
  have HA := Lib.hid ha
  clear ha
  obtain ⟨n, hn, h1, h2, rfl, rfl⟩ := text_some hv
  have HV := Lib.hid hn
  obtain ⟨hn4, _, _⟩ := numR_len hn
  have e1 : decide ((65536 : Int) < (n : Int)) = false := by simp; omega
  have e2 : wrap64 ((bs.length : Int) - 4) = (bs.length : Int) - 4 := by unfold wrap64; omega
  have e3 : decide ((bs.length : Int) - 4 < (n : Int)) = false := by simp; omega
  obtain ⟨ys, hys⟩ : ∃ ys, ys = bs.drop 4 := ⟨_, rfl⟩
  obtain ⟨c4, hc4⟩ : ∃ c4, c4 = c - 4 := ⟨_, rfl⟩
  have hyl : ys.length = bs.length - 4 := by rw [hys, List.length_drop]
  have HNY : RowKit.Hid (n ≤ ys.length) := Lib.hid (by omega)
  have HYC : RowKit.Hid (ys.length ≤ c4) := Lib.hid (by omega)
  have HNL : RowKit.Hid ((nI (ys.take n)).length = n) := Lib.hid (by rw [nI_len, List.length_take]; omega)
  have e4 : (n : Int) ≤ (c4 : Int) := by omega
  have e5 : (0 : Int) ≤ (n : Int) := by omega
  have HYS := Lib.hid hys
  have HC4 := Lib.hid hc4
  have HF : RowKit.Hid ((ys.drop n).length ≤ c4 - n) := Lib.hid (by rw [List.length_drop]; omega)
  rw [← hys]
  clear hv hn hyl hys hc4
  go_enter Tryz.func85, Tryz.ntmps85
  go_wp2_with (first | (go_at_call 105; (with_reducible refine (count105 br c n a bs HV.out hnc hp HA.out).mono ?_); rintro e w' ⟨rfl, rfl⟩) | (go_at_call 102; (with_reducible refine (leftr102 br bs.length c a hp).mono ?_); rintro e w' ⟨rfl, rfl⟩) | (go_at_call 106; (with_reducible refine (pass4 br c a bs hn4 hnc hp HA.out).mono ?_); clear hp; rintro e w1 ⟨rfl, a', ha', hp⟩; rw [← HYS.out] at ha' hp; rw [← HC4.out] at hp; have HA2 := Lib.hid ha'; clear ha') | (refine hL13 ?_) | ((with_reducible refine pre_convert _ _ _ rfl ?_); refine wpList_conv_row 144 9 5 _ rfl wy Tryz.underlying144 Tryz.underlying5 Tryz.underlying9 a' n c4 (sTm rfl) (nI (ys.take n)) HNL.out (row_take (HA2.out.below hp.below) n) ?_; simp only [put_some, put_none, sSet, zSet]) | (go_at_call 106; (with_reducible refine (passg106 br c4 n a' ys HNY.out HYC.out hp HA2.out).mono ?_); clear hp; rintro e w1 ⟨rfl, a2, ha2, hp⟩; have HA3 := Lib.hid ha2; clear ha2) | go_skip)
  go_ret2
  exact ⟨rfl, _, HF.out, a2, HA3.out, hp⟩
theorem got84 (s : ByteArray) (w : World) : Calls Tryz.prog 84 #[.string s, .int .i64 0] w fun e w' => e = .returned (.string s) ∧ w = w' := by
  go_enter Tryz.func84, Tryz.ntmps84
  go_wp2
  go_ret
  exact ⟨rfl, rfl⟩
theorem got84_no (s : ByteArray) (q : Int) (hq : q = 10 ∨ q = 11) (w : World) : Calls Tryz.prog 84 #[.string s, .int .i64 q] w fun e w' => e = .panicked badP ∧ w = w' := by
  rcases hq with rfl | rfl
  all_goals
    go_enter Tryz.func84, Tryz.ntmps84
    go_wp2
    exact ⟨rfl, rfl, rfl⟩
def rowR (bs : List Nat) : Option (Rw × List Nat) := match nR bs with
  | none => none
  | some (c, b1) => match nR b1 with
    | none => none
    | some (s, b2) => match nR b2 with
      | none => none
      | some (e, b3) => match iR b3 with
        | none => none
        | some (v, b4) => some (⟨c, s, e, v⟩, b4)
def RowPost (w0 : World) (br bi : Nat) (r : Option (Rw × List Nat)) (L : List Blk) (e : Ending) (w' : World) : Prop :=
  match r with
  | some (x, bs') => e = .returned (.agg (rwV x).toArray) ∧ RdSt w0 br bi bs' [] L w'
  | none => e = .panicked badP ∧ Hp w0.heap.size w0 w' L
theorem RdSt.mk3 {w0 w : World} {br bi c : Nat} {a : Option Addr} {bs : List Nat} {x y : Blk} {L : List Blk} (h1 : bs.length ≤ c) (h2 : RdAt w0 a bs)
    (hp : Hp w0.heap.size w0 w (x :: y :: ⟨br, [.slice a bs.length c], 144, 1⟩ :: ⟨bi, [.pointer (some ⟨br, 0, none⟩)], 115, 1⟩ :: L)) : RdSt w0 br bi bs [] L w :=
  ⟨a, c, h1, h2, (show Hp w0.heap.size w0 w (x :: y :: Rb br a bs.length c :: Ib bi br :: L) from hp).kp⟩
set_option maxRecDepth 100000 in
set_option maxHeartbeats 8000000 in
theorem inr88 (br bi : Nat) (bs : List Nat) {w0 w : World} {L : List Blk} (hs : RdSt w0 br bi bs [] L w) :
    Calls Tryz.prog 88 #[.pointer (some ⟨bi, 0, none⟩)] w (RowPost w0 br bi (rowR bs) L) := by
  obtain ⟨a, c, hl, ha, hp⟩ := hs
  have HL := Lib.hid hl
  have HA := Lib.hid ha
  clear hl ha
  simp only [List.nil_append, Rb, Ib] at hp
  unfold rowR
  cases h1 : nR bs with
  | none => have H1 := Lib.hid h1; clear h1; simp only; go_enter Tryz.func88, Tryz.ntmps88; go_wp2_with (first | (go_at_call 87; refine (inn87 br bi _ (K := [_, _]) (L := L) ⟨_, _, HL.out, HA.out, hp⟩).mono ?_; clear hp HL HA; rintro e w1 hq; (first | rw [H1.out] at hq | rw [H2.out] at hq | rw [H3.out] at hq); (first | (obtain ⟨rfl, a, c, hl, ha, hp⟩ := hq; have HL := Lib.hid hl; have HA := Lib.hid ha; clear hl ha; simp only [List.cons_append, List.nil_append, Rb, Ib] at hp) | (obtain ⟨rfl, hp⟩ := hq; simp only [List.cons_append, List.nil_append] at hp))) | (go_at_call 109; refine (inig109 br bi _ (K := [_, _]) (L := L) ⟨_, _, HL.out, HA.out, hp⟩).mono ?_; clear hp HL HA; rintro e w1 hq; rw [H4.out] at hq; (first | (obtain ⟨rfl, a, c, hl, ha, hp⟩ := hq; have HL := Lib.hid hl; have HA := Lib.hid ha; clear hl ha; simp only [List.cons_append, List.nil_append, Rb, Ib] at hp) | (obtain ⟨rfl, hp⟩ := hq; simp only [List.cons_append, List.nil_append] at hp))) | go_skip | (first | (refine hA0 ?_; clear hp; intro b w1 hp) | refine hL0 ?_ | (refine hS0 ?_; clear hp; intro w1 hp))); exact ⟨rfl, rfl, hp.kp⟩
  | some q1 =>
    obtain ⟨rc, b1⟩ := q1
    have H1 := Lib.hid h1
    clear h1
    simp only
    cases h2 : nR b1 with
    | none => have H2 := Lib.hid h2; clear h2; simp only; go_enter Tryz.func88, Tryz.ntmps88; go_wp2_with (first | (go_at_call 87; refine (inn87 br bi _ (K := [_, _]) (L := L) ⟨_, _, HL.out, HA.out, hp⟩).mono ?_; clear hp HL HA; rintro e w1 hq; (first | rw [H1.out] at hq | rw [H2.out] at hq | rw [H3.out] at hq); (first | (obtain ⟨rfl, a, c, hl, ha, hp⟩ := hq; have HL := Lib.hid hl; have HA := Lib.hid ha; clear hl ha; simp only [List.cons_append, List.nil_append, Rb, Ib] at hp) | (obtain ⟨rfl, hp⟩ := hq; simp only [List.cons_append, List.nil_append] at hp))) | (go_at_call 109; refine (inig109 br bi _ (K := [_, _]) (L := L) ⟨_, _, HL.out, HA.out, hp⟩).mono ?_; clear hp HL HA; rintro e w1 hq; rw [H4.out] at hq; (first | (obtain ⟨rfl, a, c, hl, ha, hp⟩ := hq; have HL := Lib.hid hl; have HA := Lib.hid ha; clear hl ha; simp only [List.cons_append, List.nil_append, Rb, Ib] at hp) | (obtain ⟨rfl, hp⟩ := hq; simp only [List.cons_append, List.nil_append] at hp))) | go_skip | (first | (refine hA0 ?_; clear hp; intro b w1 hp) | refine hL0 ?_ | (refine hS0 ?_; clear hp; intro w1 hp))); exact ⟨rfl, rfl, hp.kp⟩
    | some q2 =>
      obtain ⟨rs, b2⟩ := q2
      have H2 := Lib.hid h2
      clear h2
      simp only
      cases h3 : nR b2 with
      | none => have H3 := Lib.hid h3; clear h3; simp only; go_enter Tryz.func88, Tryz.ntmps88; go_wp2_with (first | (go_at_call 87; refine (inn87 br bi _ (K := [_, _]) (L := L) ⟨_, _, HL.out, HA.out, hp⟩).mono ?_; clear hp HL HA; rintro e w1 hq; (first | rw [H1.out] at hq | rw [H2.out] at hq | rw [H3.out] at hq); (first | (obtain ⟨rfl, a, c, hl, ha, hp⟩ := hq; have HL := Lib.hid hl; have HA := Lib.hid ha; clear hl ha; simp only [List.cons_append, List.nil_append, Rb, Ib] at hp) | (obtain ⟨rfl, hp⟩ := hq; simp only [List.cons_append, List.nil_append] at hp))) | (go_at_call 109; refine (inig109 br bi _ (K := [_, _]) (L := L) ⟨_, _, HL.out, HA.out, hp⟩).mono ?_; clear hp HL HA; rintro e w1 hq; rw [H4.out] at hq; (first | (obtain ⟨rfl, a, c, hl, ha, hp⟩ := hq; have HL := Lib.hid hl; have HA := Lib.hid ha; clear hl ha; simp only [List.cons_append, List.nil_append, Rb, Ib] at hp) | (obtain ⟨rfl, hp⟩ := hq; simp only [List.cons_append, List.nil_append] at hp))) | go_skip | (first | (refine hA0 ?_; clear hp; intro b w1 hp) | refine hL0 ?_ | (refine hS0 ?_; clear hp; intro w1 hp))); exact ⟨rfl, rfl, hp.kp⟩
      | some q3 =>
        obtain ⟨re, b3⟩ := q3
        have H3 := Lib.hid h3
        clear h3
        simp only
        cases h4 : iR b3 with
        | none => have H4 := Lib.hid h4; clear h4; simp only; go_enter Tryz.func88, Tryz.ntmps88; go_wp2_with (first | (go_at_call 87; refine (inn87 br bi _ (K := [_, _]) (L := L) ⟨_, _, HL.out, HA.out, hp⟩).mono ?_; clear hp HL HA; rintro e w1 hq; (first | rw [H1.out] at hq | rw [H2.out] at hq | rw [H3.out] at hq); (first | (obtain ⟨rfl, a, c, hl, ha, hp⟩ := hq; have HL := Lib.hid hl; have HA := Lib.hid ha; clear hl ha; simp only [List.cons_append, List.nil_append, Rb, Ib] at hp) | (obtain ⟨rfl, hp⟩ := hq; simp only [List.cons_append, List.nil_append] at hp))) | (go_at_call 109; refine (inig109 br bi _ (K := [_, _]) (L := L) ⟨_, _, HL.out, HA.out, hp⟩).mono ?_; clear hp HL HA; rintro e w1 hq; rw [H4.out] at hq; (first | (obtain ⟨rfl, a, c, hl, ha, hp⟩ := hq; have HL := Lib.hid hl; have HA := Lib.hid ha; clear hl ha; simp only [List.cons_append, List.nil_append, Rb, Ib] at hp) | (obtain ⟨rfl, hp⟩ := hq; simp only [List.cons_append, List.nil_append] at hp))) | go_skip | (first | (refine hA0 ?_; clear hp; intro b w1 hp) | refine hL0 ?_ | (refine hS0 ?_; clear hp; intro w1 hp))); exact ⟨rfl, rfl, hp.kp⟩
        | some q4 =>
          obtain ⟨rv, b4⟩ := q4
          have H4 := Lib.hid h4
          clear h4
          simp only
          go_enter Tryz.func88, Tryz.ntmps88; go_wp2_with (first | (go_at_call 87; refine (inn87 br bi _ (K := [_, _]) (L := L) ⟨_, _, HL.out, HA.out, hp⟩).mono ?_; clear hp HL HA; rintro e w1 hq; (first | rw [H1.out] at hq | rw [H2.out] at hq | rw [H3.out] at hq); (first | (obtain ⟨rfl, a, c, hl, ha, hp⟩ := hq; have HL := Lib.hid hl; have HA := Lib.hid ha; clear hl ha; simp only [List.cons_append, List.nil_append, Rb, Ib] at hp) | (obtain ⟨rfl, hp⟩ := hq; simp only [List.cons_append, List.nil_append] at hp))) | (go_at_call 109; refine (inig109 br bi _ (K := [_, _]) (L := L) ⟨_, _, HL.out, HA.out, hp⟩).mono ?_; clear hp HL HA; rintro e w1 hq; rw [H4.out] at hq; (first | (obtain ⟨rfl, a, c, hl, ha, hp⟩ := hq; have HL := Lib.hid hl; have HA := Lib.hid ha; clear hl ha; simp only [List.cons_append, List.nil_append, Rb, Ib] at hp) | (obtain ⟨rfl, hp⟩ := hq; simp only [List.cons_append, List.nil_append] at hp))) | go_skip | (first | (refine hA0 ?_; clear hp; intro b w1 hp) | refine hL0 ?_ | (refine hS0 ?_; clear hp; intro w1 hp)))
          exact bodyPost_ret (results_one (rs := [.cell 2 121]) Tryz.results88 (.cell rfl (hp.loadAgg agg121 at1 0 _ (by rfl) (by rfl)) .nil)) rfl ⟨rfl, RdSt.mk3 HL.out HA.out hp⟩
def ManyRwPost (w0 : World) (br bi n : Nat) (r : Option (List Rw × List Nat)) (L : List Blk) (e : Ending) (w' : World) : Prop :=
  match r with
  | some (l, bs') => ∃ v R, e = .returned v ∧ l.length = n ∧ OwnRow 121 4 v n (l.flatMap rwV) R ∧ RdSt w0 br bi bs' [] (R ++ L) w'
  | none => e = .panicked badP ∧ Hp w0.heap.size w0 w' L
set_option maxRecDepth 100000 in
set_option maxHeartbeats 4000000 in
theorem many86 (br bi n : Nat) (most : Int) (hn : (n : Int) ≤ most) (hm : n ≤ 1000) (bs : List Nat) {w0 w : World} {L : List Blk} (hs : RdSt w0 br bi bs [] L w) :
    Calls Tryz.prog 86 #[.int .i64 n, .int .i64 most, .func (.func 88) #[.pointer (some ⟨bi, 0, none⟩)] #[]] w (ManyRwPost w0 br bi n (repR rowR n bs) L) := by
  obtain ⟨i0, hi0, hz0, hz1, hz2⟩ := info_parts info121
  go_enter Tryz.func86, Tryz.ntmps86
  go_wp2_with (first | (go_at_call 89; (with_reducible refine (is89 _).mono ?_); rintro e w' ⟨rfl, rfl⟩) | go_skip)
  go_loopg [7, 13] n (fun k v i wr => ∃ (q : Nat) (l : List Rw) (b1 : List Nat) (R : List Blk), k + q = n ∧ i = .int .i64 q ∧ RowKit.Hid (repR rowR q bs = some (l, b1)) ∧ RowKit.Hid (OwnRow 121 4 v q (l.flatMap rwV) R) ∧ RowKit.Hid (RdSt w0 br bi b1 [] (R ++ L) wr))
  case atStart => exact ⟨0, [], bs, [], by omega, rfl, Lib.hid rfl, Lib.hid (OwnRow.nil _ _), Lib.hid hs⟩
  case round =>
    clear hs
    obtain ⟨q, l, b1, R, hkq, rfl, HQ, HR, HS⟩ := hrel
    by_cases hlt : q < n
    · have f1 : (0 : Int) ≤ (q : Int) := by omega
      have f2 : (q : Int) < (n : Int) := by omega
      cases ho : rowR b1 with
      | none =>
        have HO := Lib.hid ho
        have HF := Lib.hid (repR_fail HQ.out ho n hlt)
        clear ho
        go_wp2_with (first | (go_at_call 88; (with_reducible refine (inr88 br bi b1 HS.out).mono ?_); rw [HO.out]; first | (rintro e w1 ⟨rfl, hs1⟩; obtain ⟨a, c, hnc, ha, hp⟩ := hs1; have HA := Lib.hid ha; have HNC := Lib.hid hnc; clear ha hnc; simp only [List.nil_append, Rb, Ib] at hp; simp only [rwV]) | rintro e w1 ⟨rfl, hp⟩) | go_skip)
        refine ⟨rfl, ?_⟩
        rw [HF.out]
        exact ⟨rfl, hp.kp⟩
      | some p =>
        obtain ⟨⟨rc, rs, re, rv⟩, b2⟩ := p
        have HO := Lib.hid ho
        have HT := Lib.hid (repR_step HQ.out ho)
        clear ho
        go_wp2_with (first | (go_at_call 88; (with_reducible refine (inr88 br bi b1 HS.out).mono ?_); rw [HO.out]; first | (rintro e w1 ⟨rfl, hs1⟩; obtain ⟨a, c, hnc, ha, hp⟩ := hs1; have HA := Lib.hid ha; have HNC := Lib.hid hnc; clear ha hnc; simp only [List.nil_append, Rb, Ib] at hp; simp only [rwV]) | rintro e w1 ⟨rfl, hp⟩) | ((with_reducible refine pre_append _ _ 84 rfl ?_); refine wpList_appendGrow (K := [_, _]) (R := R) (M := L) hp _ _ _ rfl wy i0 _ 32 Tryz.underlying84 hi0 hz0 hz1 hz2 rfl (by decide) (sTm rfl) HR.out 1 1 (sTm rfl) (by rfl) (by decide) (by rfl) (by unfold maxLen; omega) (by omega) ?_; clear hp HR; intro v' R' w1 hR' hp; have HR' := Lib.hid hR'; clear hR'; simp only [List.cons_append, List.nil_append] at hp; simp only [put_some, put_none, sSet, zSet]) | go_skip | (first | (refine hA0 ?_; clear hp; intro b w1 hp) | refine hL0 ?_ | (refine hS0 ?_; clear hp; intro w1 hp)))
        go_roundg (gk - 1)
        case measure => omega
        case rel => exact ⟨q + 1, l ++ [⟨rc, rs, re, rv⟩], b2, R', by omega, by go_num, HT, Lib.hid (by have := HR'.out; rw [List.flatMap_append]; exact this), Lib.hid ⟨a, c, HNC.out, HA.out, hp⟩⟩
    · obtain rfl : q = n := by omega
      have f2 : decide ((q : Int) < (q : Int)) = false := by simp
      go_wp2_with (first | go_skip)
      go_ret
      rw [HQ.out]
      exact ⟨_, R, rfl, repR_len HQ.out, HR.out, HS.out⟩
set_option maxRecDepth 100000 in
set_option maxHeartbeats 4000000 in
theorem many86_no (bi n : Nat) (most : Int) (hn : most < (n : Int)) (w : World) :
    Calls Tryz.prog 86 #[.int .i64 n, .int .i64 most, .func (.func 88) #[.pointer (some ⟨bi, 0, none⟩)] #[]] w fun e w' => e = .panicked badP ∧ w = w' := by
  have e1 : decide ((n : Int) ≤ most) = false := by simp; omega
  clear hn
  go_enter Tryz.func86, Tryz.ntmps86
  go_wp2_with (first | (go_at_call 89; (with_reducible refine (is89_no _).mono ?_); rintro e w' ⟨rfl, rfl⟩) | go_skip)
  exact ⟨rfl, rfl, rfl⟩
end Go.Proofs.YtcjbepaclbhjaaaGreat
