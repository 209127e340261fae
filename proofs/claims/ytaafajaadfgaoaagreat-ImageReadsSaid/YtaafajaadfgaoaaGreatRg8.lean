/- Parts of the proof. -/
import Derived.Test.YtaafajaadfgaoaaGreatRg3
import Derived.Test.YtaafajaadfgaoaaGreatRg2
import Derived.Test.YtaafajaadfgaoaaGreatRg7
open List renaming set_cons_zero → zSet, set_cons_succ → sSet
/- The walks that read a text and rows. -/
set_option linter.unusedSimpArgs false
set_option linter.unusedVariables false
namespace Go.Proofs.YtaafajaadfgaoaaGreat
open Go.RowKit
theorem ceJT0 {ty : TypeId} (h : cellB Tryz.prog ty = true := by with_reducible first | exact cell3 | exact cell4 | exact cell142 | exact cell210 | exact cell9 | exact cell37) : cellB Tryz.prog ty = true := h
def textR (bs : List Nat) : Option (List Nat × List Nat) := match numR bs with
  | none => none
  | some n => if n ≤ 65536 ∧ n + 4 ≤ bs.length then some ((bs.drop 4).take n, (bs.drop 4).drop n) else none
theorem leftr173 (br n c : Nat) (a : Option Addr) {B : Nat} {w0 w : World} {L : List Blk} (hp : Hp B w0 w (Rb br a n c :: L)) : Calls Tryz.prog 173 #[.pointer (some ⟨br, 0, none⟩)] w fun e w' => e = .returned (.int .i64 n) ∧ w = w' := by
  have HC := Lib.hid (Rb.cell hp)
  clear hp
  go_enter Tryz.func173, Tryz.ntmps173
  go_wp2_with (first | ((with_reducible refine pre_load 210 _ rfl ?_); refine wpList_loadRowOne_hp (Hp.start _) _ _ rfl wy _ _ (sTm rfl) cell210 _ HC.out ?_; simp only [put_some, put_none, sSet, zSet]) | go_skip)
  go_ret
  exact ⟨rfl, rfl⟩
theorem pre_convert {P : Program} {ops : Array Oper} {rest : List Oper} {o : Oper} {a : Act} {w : World} {Q : Exit → Act → World → Prop} (s d : TypeId) (x : Operand) (_ : o.op = .convert s d x) (h : wpList P ops Q (o :: rest) a w) : wpList P ops Q (o :: rest) a w := h
theorem row_take {w : World} {a : Option Addr} {bs : List Nat} (h : RdAt w a bs) (n : Nat) : RowIs w a ((nI (bs.take n)).map (Value.int .u8)) := by
  intro j v hj
  rw [nI_cells, fl_by, List.getElem?_map, List.getElem?_take] at hj
  split at hj
  · refine h.1 j v ?_
    rw [fl_by, List.getElem?_map]; exact hj
  · simp at hj
theorem text_some {bs t r : List Nat} (h : textR bs = some (t, r)) : ∃ n, numR bs = some n ∧ n ≤ 65536 ∧ n + 4 ≤ bs.length ∧ t = (bs.drop 4).take n ∧ r = (bs.drop 4).drop n := by
  unfold textR at h
  cases hn : numR bs with
  | none => rw [hn] at h; cases h
  | some n =>
    rw [hn] at h
    simp only at h
    split at h
    · rename_i hc
      injection h with h
      injection h with h1 h2
      exact ⟨n, rfl, hc.1, hc.2, h1.symm, h2.symm⟩
    · cases h
theorem text_none {bs : List Nat} (h : textR bs = none) : numR bs = none ∨ ∃ n, numR bs = some n ∧ (65536 < n ∨ (n ≤ 65536 ∧ bs.length < n + 4)) := by
  unfold textR at h
  cases hn : numR bs with
  | none => exact .inl rfl
  | some n =>
    rw [hn] at h
    simp only at h
    split at h
    · cases h
    · exact .inr ⟨n, rfl, by omega⟩
set_option maxRecDepth 100000 in
set_option maxHeartbeats 4000000 in
theorem textg101_no (br c : Nat) (a : Option Addr) (bs : List Nat) (hv : textR bs = none) (hnc : bs.length ≤ c) (hbl : bs.length ≤ 1000000000) {w0 w : World} {L : List Blk} (hp : Hp w0.heap.size w0 w (Rb br a bs.length c :: L)) (ha : RdAt w0 a bs) :
    Calls Tryz.prog 101 #[.pointer (some ⟨br, 0, none⟩)] w fun e w' => (∃ q : Int, (q = 10 ∨ q = 11) ∧ e = .returned (.tuple #[.string ⟨#[]⟩, .int .i64 q])) ∧ w = w' := by
  have HA := Lib.hid ha
  clear ha
  rcases text_none hv with hn | ⟨n, hn, h1 | ⟨h1, h2⟩⟩
  · have HV := Lib.hid hn
    clear hv hn
    go_enter Tryz.func101, Tryz.ntmps101
    go_wp2_with (first | (go_at_call 174; (with_reducible refine (count174_no br c a bs HV.out hnc hp HA.out).mono ?_); rintro e w' ⟨⟨q, hq, rfl⟩, rfl⟩) | go_skip)
    rcases hq with rfl | rfl
    all_goals
      go_wp2_with (first | go_skip)
      go_ret2
    · exact ⟨⟨10, .inl rfl, rfl⟩, rfl⟩
    · exact ⟨⟨11, .inr rfl, rfl⟩, rfl⟩
  · have HV := Lib.hid hn
    have e1 : decide ((65536 : Int) < (n : Int)) = true := by simp; omega
    clear hv hn
    go_enter Tryz.func101, Tryz.ntmps101
    go_wp2_with (first | (go_at_call 174; (with_reducible refine (count174 br c n a bs HV.out hnc hp HA.out).mono ?_); rintro e w' ⟨rfl, rfl⟩) | go_skip)
    go_ret2
    exact ⟨⟨11, .inr rfl, rfl⟩, rfl⟩
  · have HV := Lib.hid hn
    obtain ⟨h4, _, _⟩ := numR_len hn
    have e1 : decide ((65536 : Int) < (n : Int)) = false := by simp; omega
    have e2 : wrap64 ((bs.length : Int) - 4) = (bs.length : Int) - 4 := by unfold wrap64; omega
    have e3 : decide ((bs.length : Int) - 4 < (n : Int)) = true := by simp; omega
    clear hv hn
    go_enter Tryz.func101, Tryz.ntmps101
    go_wp2_with (first | (go_at_call 174; (with_reducible refine (count174 br c n a bs HV.out hnc hp HA.out).mono ?_); rintro e w' ⟨rfl, rfl⟩) | (go_at_call 173; (with_reducible refine (leftr173 br bs.length c a hp).mono ?_); rintro e w' ⟨rfl, rfl⟩) | go_skip)
    go_ret2
    exact ⟨⟨10, .inl rfl, rfl⟩, rfl⟩
set_option maxRecDepth 100000 in
set_option maxHeartbeats 4000000 in
theorem textg101 (br c : Nat) (t r : List Nat) (a : Option Addr) (bs : List Nat) (hv : textR bs = some (t, r)) (hnc : bs.length ≤ c) (hbl : bs.length ≤ 1000000000) {w0 w : World} {L : List Blk} (hp : Hp w0.heap.size w0 w (Rb br a bs.length c :: L)) (ha : RdAt w0 a bs) :
    Calls Tryz.prog 101 #[.pointer (some ⟨br, 0, none⟩)] w fun e w' => e = .returned (.tuple #[.string (strOfNums (nI t)), .int .i64 0]) ∧ ∃ c', r.length ≤ c' ∧ PassTo w0 br r c' L w' := by
  have HA := Lib.hid ha
  clear ha
  obtain ⟨n, hn, h1, h2, rfl, rfl⟩ := text_some hv
  have HV := Lib.hid hn
  obtain ⟨hn4, _, _⟩ := numR_len hn
  have e1 : decide ((65536 : Int) < (n : Int)) = false := by simp; omega
  have e2 : wrap64 ((bs.length : Int) - 4) = (bs.length : Int) - 4 := by unfold wrap64; omega
  have e3 : decide ((bs.length : Int) - 4 < (n : Int)) = false := by simp; omega
  obtain ⟨ys, hys⟩ : ∃ ys, ys = bs.drop 4 := ⟨_, rfl⟩
  obtain ⟨c4, hc4⟩ : ∃ c4, c4 = c - 4 := ⟨_, rfl⟩
  have hyl : ys.length = bs.length - 4 := by rw [hys, List.length_drop]
  have HNY : RowKit.Hid (n ≤ ys.length) := Lib.hid (by omega)
  have HYC : RowKit.Hid (ys.length ≤ c4) := Lib.hid (by omega)
  have HNL : RowKit.Hid ((nI (ys.take n)).length = n) := Lib.hid (by rw [nI_len, List.length_take]; omega)
  have e4 : (n : Int) ≤ (c4 : Int) := by omega
  have e5 : (0 : Int) ≤ (n : Int) := by omega
  have HYS := Lib.hid hys
  have HC4 := Lib.hid hc4
  have HF : RowKit.Hid ((ys.drop n).length ≤ c4 - n) := Lib.hid (by rw [List.length_drop]; omega)
  rw [← hys]
  clear hv hn hyl hys hc4
  go_enter Tryz.func101, Tryz.ntmps101
  go_wp2_with (first | (go_at_call 174; (with_reducible refine (count174 br c n a bs HV.out hnc hp HA.out).mono ?_); rintro e w' ⟨rfl, rfl⟩) | (go_at_call 173; (with_reducible refine (leftr173 br bs.length c a hp).mono ?_); rintro e w' ⟨rfl, rfl⟩) | (go_at_call 175; (with_reducible refine (pass4 br c a bs hn4 hnc hp HA.out).mono ?_); clear hp; rintro e w1 ⟨rfl, a', ha', hp⟩; rw [← HYS.out] at ha' hp; rw [← HC4.out] at hp; have HA2 := Lib.hid ha'; clear ha') | ((with_reducible refine pre_load 210 _ rfl ?_); refine wpList_loadRowOne_hp (Hp.start _) _ _ rfl wy _ _ (sTm rfl) cell210 _ (Rb.cell hp) ?_; simp only [put_some, put_none, sSet, zSet]) | ((with_reducible refine pre_convert _ _ _ rfl ?_); refine wpList_conv_row 210 9 5 _ rfl wy Tryz.underlying210 Tryz.underlying5 Tryz.underlying9 a' n c4 (sTm rfl) (nI (ys.take n)) HNL.out (row_take (HA2.out.below hp.below) n) ?_; simp only [put_some, put_none, sSet, zSet]) | (go_at_call 175; (with_reducible refine (passg175 br c4 n a' ys HNY.out HYC.out hp HA2.out).mono ?_); clear hp; rintro e w1 ⟨rfl, a2, ha2, hp⟩; have HA3 := Lib.hid ha2; clear ha2) | go_skip)
  go_ret2
  exact ⟨rfl, _, HF.out, a2, HA3.out, hp⟩
theorem got100 (s : ByteArray) (w : World) : Calls Tryz.prog 100 #[.string s, .int .i64 0] w fun e w' => e = .returned (.string s) ∧ w = w' := by
  go_enter Tryz.func100, Tryz.ntmps100
  go_wp2
  go_ret
  exact ⟨rfl, rfl⟩
theorem got100_no (s : ByteArray) (q : Int) (hq : q = 10 ∨ q = 11) (w : World) : Calls Tryz.prog 100 #[.string s, .int .i64 q] w fun e w' => e = .panicked badP ∧ w = w' := by
  rcases hq with rfl | rfl
  all_goals
    go_enter Tryz.func100, Tryz.ntmps100
    go_wp2
    exact ⟨rfl, rfl, rfl⟩
def rowR (bs : List Nat) : Option (Rw × List Nat) := match nR bs with
  | none => none
  | some (c, b1) => match nR b1 with
    | none => none
    | some (s, b2) => match nR b2 with
      | none => none
      | some (e, b3) => match iR b3 with
        | none => none
        | some (v, b4) => some (⟨c, s, e, v⟩, b4)
def RowPost (w0 : World) (br bi : Nat) (r : Option (Rw × List Nat)) (L : List Blk) (e : Ending) (w' : World) : Prop :=
  match r with
  | some (x, bs') => e = .returned (.agg (rwV x).toArray) ∧ RdSt w0 br bi bs' [] L w'
  | none => e = .panicked badP ∧ Hp w0.heap.size w0 w' L
theorem RdSt.mk3 {w0 w : World} {br bi c : Nat} {a : Option Addr} {bs : List Nat} {x y : Blk} {L : List Blk} (h1 : bs.length ≤ c) (h2 : RdAt w0 a bs)
    (hp : Hp w0.heap.size w0 w (x :: y :: ⟨br, [.slice a bs.length c], 210, 1⟩ :: ⟨bi, [.pointer (some ⟨br, 0, none⟩)], 144, 1⟩ :: L)) : RdSt w0 br bi bs [] L w :=
  ⟨a, c, h1, h2, (show Hp w0.heap.size w0 w (x :: y :: Rb br a bs.length c :: Ib bi br :: L) from hp).kp⟩
set_option maxRecDepth 100000 in
set_option maxHeartbeats 8000000 in
theorem inr104 (br bi : Nat) (bs : List Nat) {w0 w : World} {L : List Blk} (hs : RdSt w0 br bi bs [] L w) :
    Calls Tryz.prog 104 #[.pointer (some ⟨bi, 0, none⟩)] w (RowPost w0 br bi (rowR bs) L) := by
  obtain ⟨a, c, hl, ha, hp⟩ := hs
  have HL := Lib.hid hl
  have HA := Lib.hid ha
  clear hl ha
  simp only [List.nil_append, Rb, Ib] at hp
  unfold rowR
  cases h1 : nR bs with
  | none => have H1 := Lib.hid h1; clear h1; simp only; go_enter Tryz.func104, Tryz.ntmps104; go_wp2_with (first | (go_at_call 103; refine (inn103 br bi _ (K := [_, _]) (L := L) ⟨_, _, HL.out, HA.out, hp⟩).mono ?_; clear hp HL HA; rintro e w1 hq; (first | rw [H1.out] at hq | rw [H2.out] at hq | rw [H3.out] at hq); (first | (obtain ⟨rfl, a, c, hl, ha, hp⟩ := hq; have HL := Lib.hid hl; have HA := Lib.hid ha; clear hl ha; simp only [List.cons_append, List.nil_append, Rb, Ib] at hp) | (obtain ⟨rfl, hp⟩ := hq; simp only [List.cons_append, List.nil_append] at hp))) | (go_at_call 109; refine (inig109 br bi _ (K := [_, _]) (L := L) ⟨_, _, HL.out, HA.out, hp⟩).mono ?_; clear hp HL HA; rintro e w1 hq; rw [H4.out] at hq; (first | (obtain ⟨rfl, a, c, hl, ha, hp⟩ := hq; have HL := Lib.hid hl; have HA := Lib.hid ha; clear hl ha; simp only [List.cons_append, List.nil_append, Rb, Ib] at hp) | (obtain ⟨rfl, hp⟩ := hq; simp only [List.cons_append, List.nil_append] at hp))) | go_skip | ((first | ((with_reducible refine pre_alloc _ rfl ?_); refine lZ hp rfl zero120 ?_; clear hp; intro b w1 hp) | ((with_reducible refine pre_box _ _ rfl ?_); refine lB hp rfl (sTm rfl) rfl ?_; clear hp; intro b w1 hp) | ((with_reducible refine pre_load _ _ rfl ?_); first | refine lO hp rfl (sTm rfl) ceJT0 aa5 ?_ | refine lA hp rfl (sTm rfl) agg120 aa5 ?_) | ((with_reducible refine pre_store _ _ _ rfl ?_); (first | refine sO hp rfl (sTm rfl) ceJT0 aa5 ?_ | refine sA hp rfl (sTm rfl) (sTm rfl) agg120 aa5 ?_ | refine sG hp rfl (sTm rfl) (sTm rfl) agg120 aa5 ?_); clear hp; intro w1 hp; simp only [spl, zSet, sSet] at hp) | ((with_reducible refine pre_build _ _ _ rfl ?_); refine lS hp rfl (by intro w; go_simp; rfl) ?_; clear hp; intro b w1 hp; simp only [List.length_cons, List.length_nil, Nat.reduceAdd] at hp)); simp only [put_some, put_none, sSet, zSet])); exact ⟨rfl, rfl, hp.kp⟩
  | some q1 =>
    obtain ⟨rc, b1⟩ := q1
    have H1 := Lib.hid h1
    clear h1
    simp only
    cases h2 : nR b1 with
    | none => have H2 := Lib.hid h2; clear h2; simp only; go_enter Tryz.func104, Tryz.ntmps104; go_wp2_with (first | (go_at_call 103; refine (inn103 br bi _ (K := [_, _]) (L := L) ⟨_, _, HL.out, HA.out, hp⟩).mono ?_; clear hp HL HA; rintro e w1 hq; (first | rw [H1.out] at hq | rw [H2.out] at hq | rw [H3.out] at hq); (first | (obtain ⟨rfl, a, c, hl, ha, hp⟩ := hq; have HL := Lib.hid hl; have HA := Lib.hid ha; clear hl ha; simp only [List.cons_append, List.nil_append, Rb, Ib] at hp) | (obtain ⟨rfl, hp⟩ := hq; simp only [List.cons_append, List.nil_append] at hp))) | (go_at_call 109; refine (inig109 br bi _ (K := [_, _]) (L := L) ⟨_, _, HL.out, HA.out, hp⟩).mono ?_; clear hp HL HA; rintro e w1 hq; rw [H4.out] at hq; (first | (obtain ⟨rfl, a, c, hl, ha, hp⟩ := hq; have HL := Lib.hid hl; have HA := Lib.hid ha; clear hl ha; simp only [List.cons_append, List.nil_append, Rb, Ib] at hp) | (obtain ⟨rfl, hp⟩ := hq; simp only [List.cons_append, List.nil_append] at hp))) | go_skip | ((first | ((with_reducible refine pre_alloc _ rfl ?_); refine lZ hp rfl zero120 ?_; clear hp; intro b w1 hp) | ((with_reducible refine pre_box _ _ rfl ?_); refine lB hp rfl (sTm rfl) rfl ?_; clear hp; intro b w1 hp) | ((with_reducible refine pre_load _ _ rfl ?_); first | refine lO hp rfl (sTm rfl) ceJT0 aa5 ?_ | refine lA hp rfl (sTm rfl) agg120 aa5 ?_) | ((with_reducible refine pre_store _ _ _ rfl ?_); (first | refine sO hp rfl (sTm rfl) ceJT0 aa5 ?_ | refine sA hp rfl (sTm rfl) (sTm rfl) agg120 aa5 ?_ | refine sG hp rfl (sTm rfl) (sTm rfl) agg120 aa5 ?_); clear hp; intro w1 hp; simp only [spl, zSet, sSet] at hp) | ((with_reducible refine pre_build _ _ _ rfl ?_); refine lS hp rfl (by intro w; go_simp; rfl) ?_; clear hp; intro b w1 hp; simp only [List.length_cons, List.length_nil, Nat.reduceAdd] at hp)); simp only [put_some, put_none, sSet, zSet])); exact ⟨rfl, rfl, hp.kp⟩
    | some q2 =>
      obtain ⟨rs, b2⟩ := q2
      have H2 := Lib.hid h2
      clear h2
      simp only
      cases h3 : nR b2 with
      | none => have H3 := Lib.hid h3; clear h3; simp only; go_enter Tryz.func104, Tryz.ntmps104; go_wp2_with (first | (go_at_call 103; refine (inn103 br bi _ (K := [_, _]) (L := L) ⟨_, _, HL.out, HA.out, hp⟩).mono ?_; clear hp HL HA; rintro e w1 hq; (first | rw [H1.out] at hq | rw [H2.out] at hq | rw [H3.out] at hq); (first | (obtain ⟨rfl, a, c, hl, ha, hp⟩ := hq; have HL := Lib.hid hl; have HA := Lib.hid ha; clear hl ha; simp only [List.cons_append, List.nil_append, Rb, Ib] at hp) | (obtain ⟨rfl, hp⟩ := hq; simp only [List.cons_append, List.nil_append] at hp))) | (go_at_call 109; refine (inig109 br bi _ (K := [_, _]) (L := L) ⟨_, _, HL.out, HA.out, hp⟩).mono ?_; clear hp HL HA; rintro e w1 hq; rw [H4.out] at hq; (first | (obtain ⟨rfl, a, c, hl, ha, hp⟩ := hq; have HL := Lib.hid hl; have HA := Lib.hid ha; clear hl ha; simp only [List.cons_append, List.nil_append, Rb, Ib] at hp) | (obtain ⟨rfl, hp⟩ := hq; simp only [List.cons_append, List.nil_append] at hp))) | go_skip | ((first | ((with_reducible refine pre_alloc _ rfl ?_); refine lZ hp rfl zero120 ?_; clear hp; intro b w1 hp) | ((with_reducible refine pre_box _ _ rfl ?_); refine lB hp rfl (sTm rfl) rfl ?_; clear hp; intro b w1 hp) | ((with_reducible refine pre_load _ _ rfl ?_); first | refine lO hp rfl (sTm rfl) ceJT0 aa5 ?_ | refine lA hp rfl (sTm rfl) agg120 aa5 ?_) | ((with_reducible refine pre_store _ _ _ rfl ?_); (first | refine sO hp rfl (sTm rfl) ceJT0 aa5 ?_ | refine sA hp rfl (sTm rfl) (sTm rfl) agg120 aa5 ?_ | refine sG hp rfl (sTm rfl) (sTm rfl) agg120 aa5 ?_); clear hp; intro w1 hp; simp only [spl, zSet, sSet] at hp) | ((with_reducible refine pre_build _ _ _ rfl ?_); refine lS hp rfl (by intro w; go_simp; rfl) ?_; clear hp; intro b w1 hp; simp only [List.length_cons, List.length_nil, Nat.reduceAdd] at hp)); simp only [put_some, put_none, sSet, zSet])); exact ⟨rfl, rfl, hp.kp⟩
      | some q3 =>
        obtain ⟨re, b3⟩ := q3
        have H3 := Lib.hid h3
        clear h3
        simp only
        cases h4 : iR b3 with
        | none => have H4 := Lib.hid h4; clear h4; simp only; go_enter Tryz.func104, Tryz.ntmps104; go_wp2_with (first | (go_at_call 103; refine (inn103 br bi _ (K := [_, _]) (L := L) ⟨_, _, HL.out, HA.out, hp⟩).mono ?_; clear hp HL HA; rintro e w1 hq; (first | rw [H1.out] at hq | rw [H2.out] at hq | rw [H3.out] at hq); (first | (obtain ⟨rfl, a, c, hl, ha, hp⟩ := hq; have HL := Lib.hid hl; have HA := Lib.hid ha; clear hl ha; simp only [List.cons_append, List.nil_append, Rb, Ib] at hp) | (obtain ⟨rfl, hp⟩ := hq; simp only [List.cons_append, List.nil_append] at hp))) | (go_at_call 109; refine (inig109 br bi _ (K := [_, _]) (L := L) ⟨_, _, HL.out, HA.out, hp⟩).mono ?_; clear hp HL HA; rintro e w1 hq; rw [H4.out] at hq; (first | (obtain ⟨rfl, a, c, hl, ha, hp⟩ := hq; have HL := Lib.hid hl; have HA := Lib.hid ha; clear hl ha; simp only [List.cons_append, List.nil_append, Rb, Ib] at hp) | (obtain ⟨rfl, hp⟩ := hq; simp only [List.cons_append, List.nil_append] at hp))) | go_skip | ((first | ((with_reducible refine pre_alloc _ rfl ?_); refine lZ hp rfl zero120 ?_; clear hp; intro b w1 hp) | ((with_reducible refine pre_box _ _ rfl ?_); refine lB hp rfl (sTm rfl) rfl ?_; clear hp; intro b w1 hp) | ((with_reducible refine pre_load _ _ rfl ?_); first | refine lO hp rfl (sTm rfl) ceJT0 aa5 ?_ | refine lA hp rfl (sTm rfl) agg120 aa5 ?_) | ((with_reducible refine pre_store _ _ _ rfl ?_); (first | refine sO hp rfl (sTm rfl) ceJT0 aa5 ?_ | refine sA hp rfl (sTm rfl) (sTm rfl) agg120 aa5 ?_ | refine sG hp rfl (sTm rfl) (sTm rfl) agg120 aa5 ?_); clear hp; intro w1 hp; simp only [spl, zSet, sSet] at hp) | ((with_reducible refine pre_build _ _ _ rfl ?_); refine lS hp rfl (by intro w; go_simp; rfl) ?_; clear hp; intro b w1 hp; simp only [List.length_cons, List.length_nil, Nat.reduceAdd] at hp)); simp only [put_some, put_none, sSet, zSet])); exact ⟨rfl, rfl, hp.kp⟩
        | some q4 =>
          obtain ⟨rv, b4⟩ := q4
          have H4 := Lib.hid h4
          clear h4
          simp only
          go_enter Tryz.func104, Tryz.ntmps104; go_wp2_with (first | (go_at_call 103; refine (inn103 br bi _ (K := [_, _]) (L := L) ⟨_, _, HL.out, HA.out, hp⟩).mono ?_; clear hp HL HA; rintro e w1 hq; (first | rw [H1.out] at hq | rw [H2.out] at hq | rw [H3.out] at hq); (first | (obtain ⟨rfl, a, c, hl, ha, hp⟩ := hq; have HL := Lib.hid hl; have HA := Lib.hid ha; clear hl ha; simp only [List.cons_append, List.nil_append, Rb, Ib] at hp) | (obtain ⟨rfl, hp⟩ := hq; simp only [List.cons_append, List.nil_append] at hp))) | (go_at_call 109; refine (inig109 br bi _ (K := [_, _]) (L := L) ⟨_, _, HL.out, HA.out, hp⟩).mono ?_; clear hp HL HA; rintro e w1 hq; rw [H4.out] at hq; (first | (obtain ⟨rfl, a, c, hl, ha, hp⟩ := hq; have HL := Lib.hid hl; have HA := Lib.hid ha; clear hl ha; simp only [List.cons_append, List.nil_append, Rb, Ib] at hp) | (obtain ⟨rfl, hp⟩ := hq; simp only [List.cons_append, List.nil_append] at hp))) | go_skip | ((first | ((with_reducible refine pre_alloc _ rfl ?_); refine lZ hp rfl zero120 ?_; clear hp; intro b w1 hp) | ((with_reducible refine pre_box _ _ rfl ?_); refine lB hp rfl (sTm rfl) rfl ?_; clear hp; intro b w1 hp) | ((with_reducible refine pre_load _ _ rfl ?_); first | refine lO hp rfl (sTm rfl) ceJT0 aa5 ?_ | refine lA hp rfl (sTm rfl) agg120 aa5 ?_) | ((with_reducible refine pre_store _ _ _ rfl ?_); (first | refine sO hp rfl (sTm rfl) ceJT0 aa5 ?_ | refine sA hp rfl (sTm rfl) (sTm rfl) agg120 aa5 ?_ | refine sG hp rfl (sTm rfl) (sTm rfl) agg120 aa5 ?_); clear hp; intro w1 hp; simp only [spl, zSet, sSet] at hp) | ((with_reducible refine pre_build _ _ _ rfl ?_); refine lS hp rfl (by intro w; go_simp; rfl) ?_; clear hp; intro b w1 hp; simp only [List.length_cons, List.length_nil, Nat.reduceAdd] at hp)); simp only [put_some, put_none, sSet, zSet]))
          exact bodyPost_ret (results_one (rs := [.cell 2 120]) Tryz.results104 (.cell rfl (hp.loadAgg agg120 at1 0 _ (by rfl) (by rfl)) .nil)) rfl ⟨rfl, RdSt.mk3 HL.out HA.out hp⟩
def ManyRwPost (w0 : World) (br bi n : Nat) (r : Option (List Rw × List Nat)) (L : List Blk) (e : Ending) (w' : World) : Prop :=
  match r with
  | some (l, bs') => ∃ v R, e = .returned v ∧ l.length = n ∧ OwnRow 120 4 v n (l.flatMap rwV) R ∧ RdSt w0 br bi bs' [] (R ++ L) w'
  | none => e = .panicked badP ∧ Hp w0.heap.size w0 w' L
set_option maxRecDepth 100000 in
set_option maxHeartbeats 4000000 in
theorem many102 (br bi n : Nat) (most : Int) (hn : (n : Int) ≤ most) (hm : n ≤ 1000) (bs : List Nat) {w0 w : World} {L : List Blk} (hs : RdSt w0 br bi bs [] L w) :
    Calls Tryz.prog 102 #[.int .i64 n, .int .i64 most, .func (.func 104) #[.pointer (some ⟨bi, 0, none⟩)] #[]] w (ManyRwPost w0 br bi n (repR rowR n bs) L) := by
  obtain ⟨i0, hi0, hz0, hz1, hz2⟩ := info_parts info120
  go_enter Tryz.func102, Tryz.ntmps102
  go_wp2_with (first | (go_at_call 105; (with_reducible refine (is105 _).mono ?_); rintro e w' ⟨rfl, rfl⟩) | go_skip)
  go_loopg [7, 13] n (fun k v i wr => ∃ (q : Nat) (l : List Rw) (b1 : List Nat) (R : List Blk), k + q = n ∧ i = .int .i64 q ∧ RowKit.Hid (repR rowR q bs = some (l, b1)) ∧ RowKit.Hid (OwnRow 120 4 v q (l.flatMap rwV) R) ∧ RowKit.Hid (RdSt w0 br bi b1 [] (R ++ L) wr))
  case atStart => exact ⟨0, [], bs, [], by omega, rfl, Lib.hid rfl, Lib.hid (OwnRow.nil _ _), Lib.hid hs⟩
  case round =>
    clear hs
    obtain ⟨q, l, b1, R, hkq, rfl, HQ, HR, HS⟩ := hrel
    by_cases hlt : q < n
    · have f1 : (0 : Int) ≤ (q : Int) := by omega
      have f2 : (q : Int) < (n : Int) := by omega
      cases ho : rowR b1 with
      | none =>
        have HO := Lib.hid ho
        have HF := Lib.hid (repR_fail HQ.out ho n hlt)
        clear ho
        go_wp2_with (first | (go_at_call 104; (with_reducible refine (inr104 br bi b1 HS.out).mono ?_); rw [HO.out]; first | (rintro e w1 ⟨rfl, hs1⟩; obtain ⟨a, c, hnc, ha, hp⟩ := hs1; have HA := Lib.hid ha; have HNC := Lib.hid hnc; clear ha hnc; simp only [List.nil_append, Rb, Ib] at hp; simp only [rwV]) | rintro e w1 ⟨rfl, hp⟩) | go_skip)
        refine ⟨rfl, ?_⟩
        rw [HF.out]
        exact ⟨rfl, hp.kp⟩
      | some p =>
        obtain ⟨⟨rc, rs, re, rv⟩, b2⟩ := p
        have HO := Lib.hid ho
        have HT := Lib.hid (repR_step HQ.out ho)
        clear ho
        go_wp2_with (first | (go_at_call 104; (with_reducible refine (inr104 br bi b1 HS.out).mono ?_); rw [HO.out]; first | (rintro e w1 ⟨rfl, hs1⟩; obtain ⟨a, c, hnc, ha, hp⟩ := hs1; have HA := Lib.hid ha; have HNC := Lib.hid hnc; clear ha hnc; simp only [List.nil_append, Rb, Ib] at hp; simp only [rwV]) | rintro e w1 ⟨rfl, hp⟩) | ((with_reducible refine pre_append _ _ 48 rfl ?_); refine wpList_appendGrow (K := [_, _]) (R := R) (M := L) hp _ _ _ rfl wy i0 _ 32 Tryz.underlying48 hi0 hz0 hz1 hz2 rfl (by decide) (sTm rfl) HR.out 1 1 (sTm rfl) (by rfl) (by decide) (by rfl) (by unfold maxLen; omega) (by omega) ?_; clear hp HR; intro v' R' w1 hR' hp; have HR' := Lib.hid hR'; clear hR'; simp only [List.cons_append, List.nil_append] at hp; simp only [put_some, put_none, sSet, zSet]) | go_skip | ((first | ((with_reducible refine pre_alloc _ rfl ?_); refine lZ hp rfl zero120 ?_; clear hp; intro b w1 hp) | ((with_reducible refine pre_box _ _ rfl ?_); refine lB hp rfl (sTm rfl) rfl ?_; clear hp; intro b w1 hp) | ((with_reducible refine pre_load _ _ rfl ?_); first | refine lO hp rfl (sTm rfl) ceJT0 aa5 ?_ | refine lA hp rfl (sTm rfl) agg120 aa5 ?_) | ((with_reducible refine pre_store _ _ _ rfl ?_); (first | refine sO hp rfl (sTm rfl) ceJT0 aa5 ?_ | refine sA hp rfl (sTm rfl) (sTm rfl) agg120 aa5 ?_ | refine sG hp rfl (sTm rfl) (sTm rfl) agg120 aa5 ?_); clear hp; intro w1 hp; simp only [spl, zSet, sSet] at hp) | ((with_reducible refine pre_build _ _ _ rfl ?_); refine lS hp rfl (by intro w; go_simp; rfl) ?_; clear hp; intro b w1 hp; simp only [List.length_cons, List.length_nil, Nat.reduceAdd] at hp)); simp only [put_some, put_none, sSet, zSet]))
        go_roundg (gk - 1)
        case measure => omega
        case rel => exact ⟨q + 1, l ++ [⟨rc, rs, re, rv⟩], b2, R', by omega, by go_num, HT, Lib.hid (by have := HR'.out; rw [List.flatMap_append]; exact this), Lib.hid ⟨a, c, HNC.out, HA.out, hp⟩⟩
    · obtain rfl : q = n := by omega
      have f2 : decide ((q : Int) < (q : Int)) = false := by simp
      go_wp2_with (first | go_skip)
      go_ret
      rw [HQ.out]
      exact ⟨_, R, rfl, repR_len HQ.out, HR.out, HS.out⟩
set_option maxRecDepth 100000 in
set_option maxHeartbeats 4000000 in
theorem many102_no (bi n : Nat) (most : Int) (hn : most < (n : Int)) (w : World) :
    Calls Tryz.prog 102 #[.int .i64 n, .int .i64 most, .func (.func 104) #[.pointer (some ⟨bi, 0, none⟩)] #[]] w fun e w' => e = .panicked badP ∧ w = w' := by
  have e1 : decide ((n : Int) ≤ most) = false := by simp; omega
  clear hn
  go_enter Tryz.func102, Tryz.ntmps102
  go_wp2_with (first | (go_at_call 105; (with_reducible refine (is105_no _).mono ?_); rintro e w' ⟨rfl, rfl⟩) | go_skip)
  exact ⟨rfl, rfl, rfl⟩
end Go.Proofs.YtaafajaadfgaoaaGreat
/- The walk that lays a state as bytes. -/
namespace Go.Proofs.YtaafajaadfgaoaaGreat
open Go.RowKit
theorem gaJX0 {ty : TypeId} {k : Nat} (h : aggB Tryz.prog ty k = true := by with_reducible first | exact agg50 | exact agg47 | exact agg116 | exact agg120) : aggB Tryz.prog ty k = true := h
theorem ceJX1 {ty : TypeId} (h : cellB Tryz.prog ty = true := by with_reducible first | exact cell3 | exact cell4 | exact cell57 | exact cell48 | exact cell37) : cellB Tryz.prog ty = true := h
theorem needN_gt {n : Int} (h0 : 0 ≤ n) (h : n < 64) : n + 1 ≤ pw (needN n) := by
  unfold needN
  have p0 : pw 0 = 1 := by decide
  have p1 : pw 1 = 2 := by decide
  have p2 : pw 2 = 4 := by decide
  have p3 : pw 3 = 8 := by decide
  have p4 : pw 4 = 16 := by decide
  have p5 : pw 5 = 32 := by decide
  have p6 : pw 6 = 64 := by decide
  repeat' split
  all_goals omega
theorem ob_words {l : List Ob} (h : ∀ o ∈ l, ObLay o ∧ needI o.ws.length o.ls.length = o.o ∧ 0 ≤ o.o) : ((l.flatMap obB).length : Int) ≤ 16 * sumB (l.map obBl) := by
  induction l with
  | nil => simp [sumB]
  | cons o l ih =>
    have h1 := ih (fun x hx => h x (by simp [hx]))
    obtain ⟨hl, hn, h0⟩ := h o (by simp)
    have hw := hl.wl
    have hk := hl.ll
    have hg : (o.ws.length : Int) + o.ls.length + 1 ≤ pw o.o := by
      have := needN_gt (n := (o.ws.length : Int) + o.ls.length) (by omega) (by omega)
      unfold needI at hn
      rw [if_pos (by omega)] at hn
      rw [← hn]; exact this
    have hb : ((obB o).length : Int) = 16 + 8 * o.ws.length + 4 * o.ls.length := by
      unfold obB
      rw [List.length_append, List.length_append, bn4_len, bi8_len, bn4_len, List.length_map]
      simp only [List.length_cons, List.length_nil]
      push_cast; omega
    rw [List.flatMap_cons, List.length_append, List.map_cons, sumB_cons]
    simp only [obBl]
    push_cast
    omega
theorem heapB_len {x : Hv} (hx : HRight x) : (heapB x).length ≤ 4124 := by
  have hl := hright_lay hx
  have h1 := ob_words (l := x.os) (fun o ho => ⟨hl o ho, (hx.need o ho).1, by have := (hx.need o ho).2.1; simpa [obBl] using this⟩)
  have h2 := hx.words
  have hf := hx.free
  unfold rightB regionB at hf
  rw [Bool.and_eq_true] at hf
  have hod : 3 ≤ x.od ∧ x.od ≤ 8 := by simpa using hf.1
  have h3 := pw_le hod.2
  have h4 : sumB (allBl x) = sumB x.fs + sumB (x.os.map obBl) := sumB_append _ _
  have h5 := sumB_nonneg x.fs
  unfold heapB
  rw [List.length_append, headB_len]
  omega
theorem bn4_bytes (l : List Nat) : Bytes (bn4 l) := by
  intro x hx
  obtain ⟨n, _, h⟩ := List.mem_flatMap.1 hx
  exact beS_bytes 4 n x h
theorem bi8_bytes (l : List Int) : Bytes (bi8 l) := by
  intro x hx
  obtain ⟨n, _, h⟩ := List.mem_flatMap.1 hx
  exact beS_bytes 8 _ x h
theorem heapB_bytes (x : Hv) : Bytes (heapB x) := by
  unfold heapB headB
  refine Bytes.app ((bn4_bytes _).app ((bn4_bytes _).app (bn4_bytes _))) fun y hy => ?_
  obtain ⟨o, _, h⟩ := List.mem_flatMap.1 hy
  unfold obB at h
  exact ((bn4_bytes _).app ((bi8_bytes _).app (bn4_bytes _))) y h
def rowB (r : Rw) : List Nat := bn4 [r.c.toNat, r.s.toNat, r.e.toNat] ++ bi8 [r.v]
def stateB (x : Sv) : List Nat := (beS 4 (heapB x.hv).length ++ heapB x.hv) ++ (bn4 [x.rs.length] ++ x.rs.flatMap rowB)
set_option maxRecDepth 100000 in
set_option maxHeartbeats 8000000 in
theorem puts22_no (x : Sv) (hb : stB x = false) (hs : x.Small) (w : World) (hx0 : x.Is w) : Calls Tryz.prog 22 #[.agg (svL x).toArray] w (PutPost w none) := by
  have HB := Lib.hid hb
  have HSS := Lib.hid hs
  have HIS := Lib.hid hx0
  have hp := Hp.start w
  obtain ⟨⟨od, oa, os, oc, nx, t0, t1, t2, t3, fa, fs, fc⟩, ra, rs, rc⟩ := x
  simp only [svL, hvL, List.cons_append, List.nil_append]
  clear hb hs hx0
  go_enter Tryz.func22, Tryz.ntmps22
  go_wp2_with (first | (go_at_call 35; (with_reducible refine (check35L od oa os oc nx t0 t1 t2 t3 fa fs fc ra rs rc _ HB.out HSS.out _ (HIS.out.below hp.below)).mono ?_); rintro e w1 ⟨rfl, hb⟩; replace hp := hp.call hb; clear hb; simp only [errS, if_true, Bool.false_eq_true, if_false]) | go_skip | ((first | ((with_reducible refine pre_alloc _ rfl ?_); refine lZ hp rfl zero120 ?_; clear hp; intro b w1 hp) | ((with_reducible refine pre_box _ _ rfl ?_); refine lB hp rfl (sTm rfl) rfl ?_; clear hp; intro b w1 hp) | ((with_reducible refine pre_load _ _ rfl ?_); first | refine lO hp rfl (sTm rfl) ceJX1 aa14 ?_ | refine lA hp rfl (sTm rfl) gaJX0 aa14 ?_) | ((with_reducible refine pre_store _ _ _ rfl ?_); (first | refine sO hp rfl (sTm rfl) ceJX1 aa14 ?_ | refine sA hp rfl (sTm rfl) (sTm rfl) gaJX0 aa14 ?_ | refine sG hp rfl (sTm rfl) (sTm rfl) gaJX0 aa14 ?_); clear hp; intro w1 hp; simp only [spl, zSet, sSet] at hp) | ((with_reducible refine pre_build _ _ _ rfl ?_); refine lS hp rfl (by intro w; go_simp; rfl) ?_; clear hp; intro b w1 hp; simp only [List.length_cons, List.length_nil, Nat.reduceAdd] at hp)); simp only [put_some, put_none, sSet, zSet]))
  go_ret2
  exact ⟨rfl, hp.below⟩
theorem puth_L (od : Int) (oa : Option Addr) (os : List Ob) (oc : Nat) (nx t0 t1 t2 t3 : Int) (fa : Option Addr) (fs : List Bl) (fc : Nat) (bs : List Nat) (hbs : heapB ⟨od, oa, os, oc, nx, t0, t1, t2, t3, fa, fs, fc⟩ = bs) (hb : hrightB ⟨od, oa, os, oc, nx, t0, t1, t2, t3, fa, fs, fc⟩ = true) (w : World) (hx0 : Hv.Is w ⟨od, oa, os, oc, nx, t0, t1, t2, t3, fa, fs, fc⟩) :
    Calls Tryz.prog 25 #[.agg #[.int .i64 od, .slice oa os.length oc, .int .i64 nx, .int .i64 t0, .int .i64 t1, .int .i64 t2, .int .i64 t3, .slice fa fs.length fc]] w fun e w' => ∃ a c m R, e = .returned (.tuple #[.slice a m c, .int .i64 0]) ∧ bs.length = m ∧ SubRow 5 1 (.slice a m c) m (bs.flatMap byV) R ∧ Hp w.heap.size w w' R := by
  subst hbs
  refine (puth25_yes _ hb w hx0).mono fun e w' h => ?_
  obtain ⟨a, c, R, h1, h2, h3⟩ := h
  exact ⟨a, c, _, R, h1, rfl, h2, h3⟩
theorem putt_L (s : ByteArray) (hs : s.size ≤ 65536) (w : World) : Calls Tryz.prog 78 #[.slice none 0 0, .string s] w fun e w' => ∃ ys m a c R, e = .returned (.tuple #[.slice a m c, .int .i64 0]) ∧ ys = beS 4 s.size ++ strB s ∧ ys.length = m ∧ SubRow 5 1 (.slice a m c) m (ys.flatMap byV) R ∧ Hp w.heap.size w w' R := by
  refine (putt78 [] (by simp) s hs none 0 w (RowIs.nil _ _)).mono fun e w' h => ?_
  obtain ⟨v, R, h1, h2, h3⟩ := h
  obtain ⟨a, c, rfl, _, _⟩ := h2.kept
  exact ⟨_, _, a, c, R, h1, rfl, rfl, h2, h3⟩
theorem putt_join {B : Nat} {w0 w : World} {o b : Blk} {RH R : List Blk} (hp : Hp B w0 w ((o :: b :: RH) ++ R)) : Hp B w0 w (b :: o :: R) := hp.kp
theorem rowsB_len : ∀ l : List Rw, (l.flatMap rowB).length = l.length * 20
  | [] => rfl
  | r :: l => by
    rw [List.flatMap_cons, List.length_append, rowsB_len l, List.length_cons]
    unfold rowB
    rw [List.length_append, bn4_len, bi8_len]
    simp only [List.length_cons, List.length_nil]; omega
set_option maxRecDepth 100000 in
set_option maxHeartbeats 16000000 in
theorem puts22_yes (x : Sv) (hb : stB x = true) (w : World) (hx0 : x.Is w) : Calls Tryz.prog 22 #[.agg (svL x).toArray] w (PutPost w (some (stateB x))) := by
  have hst := st_of hb
  have hbl := heapB_len hst.hv
  have hrows := hst.rows
  have hrl := rowsOk_len hrows (by decide)
  have HB := Lib.hid hb
  have HHB := Lib.hid (hright_yes hst.hv)
  have HSS := Lib.hid hst.small
  have HIS := Lib.hid hx0
  have HIH := Lib.hid hx0.1
  have HRI := Lib.hid hx0.2
  obtain ⟨bs, hbs⟩ : ∃ bs, heapB x.hv = bs := ⟨_, rfl⟩
  have HRES : RowKit.Hid (stateB x = (beS 4 bs.length ++ bs) ++ (bn4 [x.rs.length] ++ x.rs.flatMap rowB)) := Lib.hid (by unfold stateB; rw [hbs])
  have HBS := Lib.hid hbs
  rw [hbs] at hbl
  have HBL := Lib.hid hbl
  have hby : Bytes bs := by
    rw [← hbs]; exact heapB_bytes x.hv
  have HNI : RowKit.Hid (∀ m, bs.length = m → (nI bs).length = m) := Lib.hid (fun m h => by rw [nI_len]; exact h)
  have HSB : RowKit.Hid (strB (strOfNums (nI bs)) = bs ∧ (strOfNums (nI bs)).size = bs.length) := Lib.hid ⟨strB_of hby, by rw [← strB_len, strB_of hby]⟩
  have HSZ : RowKit.Hid ((strOfNums (nI bs)).size ≤ 65536) := Lib.hid (by rw [← strB_len, strB_of hby]; omega)
  have HLAY : RowKit.Hid (∀ r ∈ x.rs, 0 ≤ r.c ∧ r.c ≤ 4 ∧ 0 ≤ r.s ∧ r.s ≤ 1000000 ∧ 0 ≤ r.e ∧ r.e ≤ 65535) := Lib.hid (fun r hr => by
    have := rowOk_iff.1 (rowsOk_mem hrows r hr); omega)
  have hp := Hp.start w
  clear hb hx0 hbs hbl hst hby hrows
  obtain ⟨⟨od, oa, os, oc, nx, t0, t1, t2, t3, fa, fs, fc⟩, ra, rs, rc⟩ := x
  simp only [svL, hvL, List.cons_append, List.nil_append]
  simp only at hrl
  have hrl4 : rs.length ≤ 4 := by omega
  have HRL := Lib.hid hrl4
  have HLE : RowKit.Hid ([rs.length].length = 1) := Lib.hid rfl
  have HLF : RowKit.Hid (1 ≤ 1000) := Lib.hid (by decide)
  have HB3 : RowKit.Hid (∀ x ∈ [rs.length], x ≤ 2147483647) := Lib.hid (by intro x hx; simp at hx; omega)
  have HC3 : RowKit.Hid ([Value.int .i64 (rs.length : Int)] = [rs.length].flatMap natV) := Lib.hid rfl
  clear hrl hrl4
  go_enter Tryz.func22, Tryz.ntmps22
  go_wp2_with (first | (go_at_call 35; (with_reducible refine (check35L od oa os oc nx t0 t1 t2 t3 fa fs fc ra rs rc _ HB.out HSS.out _ (HIS.out.below hp.below)).mono ?_); rintro e w1 ⟨rfl, hb⟩; replace hp := hp.call hb; clear hb; simp only [errS, if_true, Bool.false_eq_true, if_false]) | (go_at_call 25; (with_reducible refine (puth_L od oa os oc nx t0 t1 t2 t3 fa fs fc bs HBS.out HHB.out _ (HIH.out.below hp.below)).mono ?_); rintro e w1 ⟨ah, ch, mh, RH, rfl, hmh, hrh, hp2⟩; replace hp := hp.join hp2; have HMH := Lib.hid hmh; have HRH := Lib.hid hrh; clear hp2 hmh hrh; simp only [List.cons_append, List.nil_append] at hp) | ((with_reducible refine pre_convert _ _ _ rfl ?_); refine wpList_conv_row 57 9 5 _ rfl wy Tryz.underlying57 Tryz.underlying5 Tryz.underlying9 ah mh ch (sTm rfl) (nI bs) (HNI.out _ HMH.out) (by rw [nI_cells]; exact HRH.out.keptS.at hp (by intro p hp2; simp [hp2])) ?_; simp only [put_some, put_none, sSet, zSet]) | (go_at_call 78; (with_reducible refine (putt_L (strOfNums (nI bs)) HSZ.out _).mono ?_); rintro e w1 ⟨y1, m1, a1, c1, R1, rfl, hy1, hm1, hr1, hp2⟩; replace hp := putt_join (hp.join hp2); have HY1 := Lib.hid hy1; have HM1 := Lib.hid hm1; have HR1 := Lib.hid hr1; clear hp2 hy1 hm1 hr1) | go_skip | ((first | ((with_reducible refine pre_alloc _ rfl ?_); refine lZ hp rfl zero120 ?_; clear hp; intro b w1 hp) | ((with_reducible refine pre_box _ _ rfl ?_); refine lB hp rfl (sTm rfl) rfl ?_; clear hp; intro b w1 hp) | ((with_reducible refine pre_load _ _ rfl ?_); first | refine lO hp rfl (sTm rfl) ceJX1 aa14 ?_ | refine lA hp rfl (sTm rfl) gaJX0 aa14 ?_) | ((with_reducible refine pre_store _ _ _ rfl ?_); (first | refine sO hp rfl (sTm rfl) ceJX1 aa14 ?_ | refine sA hp rfl (sTm rfl) (sTm rfl) gaJX0 aa14 ?_ | refine sG hp rfl (sTm rfl) (sTm rfl) gaJX0 aa14 ?_); clear hp; intro w1 hp; simp only [spl, zSet, sSet] at hp) | ((with_reducible refine pre_build _ _ _ rfl ?_); refine lS hp rfl (by intro w; go_simp; rfl) ?_; clear hp; intro b w1 hp; simp only [List.length_cons, List.length_nil, Nat.reduceAdd] at hp)); simp only [put_some, put_none, sSet, zSet]))
  obtain ⟨bx, hbx⟩ := hp.id1
  obtain ⟨bo, hbo⟩ := hp.id2
  subst hbx hbo
  have hz : y1 = beS 4 bs.length ++ bs := by rw [HY1.out, HSB.out.1, HSB.out.2]
  have hm1 : m1 = 4 + bs.length := by rw [← HM1.out, hz, List.length_append, beS_len]
  have HX1 : RowKit.Hid (m1 ≤ 900000) := Lib.hid (by have := HBL.out; omega)
  have HZ1 := Lib.hid hz
  have HV1 := Lib.hid hm1
  clear hz hm1
  go_wp2_with (first | (go_at_call 79; (with_reducible refine (on_built1 [rs.length] 1 HLE.out HLF.out HB3.out y1 m1 HM1.out HX1.out HR1.out HC3.out hp).mono ?_); clear hp; rintro e w1 ⟨rfl, y2, m2, a2, c2, R2, hy2, hm2, hr2, hp⟩; have HY2 := Lib.hid hy2; have HM2 := Lib.hid hm2; have HR2 := Lib.hid hr2; clear hy2 hm2 hr2) | go_skip | ((first | ((with_reducible refine pre_alloc _ rfl ?_); refine lZ hp rfl zero120 ?_; clear hp; intro b w1 hp) | ((with_reducible refine pre_box _ _ rfl ?_); refine lB hp rfl (sTm rfl) rfl ?_; clear hp; intro b w1 hp) | ((with_reducible refine pre_load _ _ rfl ?_); first | refine lO hp rfl (sTm rfl) ceJX1 aa14 ?_ | refine lA hp rfl (sTm rfl) gaJX0 aa14 ?_) | ((with_reducible refine pre_store _ _ _ rfl ?_); (first | refine sO hp rfl (sTm rfl) ceJX1 aa14 ?_ | refine sA hp rfl (sTm rfl) (sTm rfl) gaJX0 aa14 ?_ | refine sG hp rfl (sTm rfl) (sTm rfl) gaJX0 aa14 ?_); clear hp; intro w1 hp; simp only [spl, zSet, sSet] at hp) | ((with_reducible refine pre_build _ _ _ rfl ?_); refine lS hp rfl (by intro w; go_simp; rfl) ?_; clear hp; intro b w1 hp; simp only [List.length_cons, List.length_nil, Nat.reduceAdd] at hp)); simp only [put_some, put_none, sSet, zSet]))
  have HZ : RowKit.Hid (y2 = (beS 4 bs.length ++ bs) ++ bn4 [rs.length]) := Lib.hid (by rw [HY2.out, HZ1.out])
  have HV : RowKit.Hid (((beS 4 bs.length ++ bs) ++ bn4 [rs.length]).length ≤ 5000) := Lib.hid (by rw [← HZ1.out, List.length_append, HM1.out, HV1.out, bn4_len]; have := HBL.out; simp only [List.length_cons, List.length_nil]; omega)
  obtain ⟨hd, hhd⟩ : ∃ hd, hd = (beS 4 bs.length ++ bs) ++ bn4 [rs.length] := ⟨_, rfl⟩
  rw [← List.append_assoc, ← hhd] at HRES
  rw [← hhd] at HZ HV
  clear hhd
  go_loopg [41] rs.length (fun k i wr => ∃ (q : Nat) (ys : List Nat) (m : Nat) (a : Option Addr) (c : Nat) (R : List Blk), k + q = rs.length ∧ i = .int .i64 q ∧ RowKit.Hid (ys = hd ++ (rs.take q).flatMap rowB) ∧ RowKit.Hid (ys.length = m) ∧ RowKit.Hid (SubRow 5 1 (.slice a m c) m (ys.flatMap byV) R) ∧
    Hp w.heap.size w wr (⟨bx, [.int .i64 od, .slice oa os.length oc, .int .i64 nx, .int .i64 t0, .int .i64 t1, .int .i64 t2, .int .i64 t3, .slice fa fs.length fc, .slice ra rs.length rc], 50, 9⟩ :: ⟨bo, [.slice a m c], 116, 1⟩ :: R))
  case atStart => exact ⟨0, y2, m2, a2, c2, R2, by omega, rfl, Lib.hid (by rw [HZ.out]; simp), HM2, HR2, hp⟩
  case round =>
    clear hp HY1 HY2 HM1 HM2 HR1 HR2 HX1 HV1 HZ HZ1 HC3 HB3 HLE HRH HMH HNI HSZ HSB
    obtain ⟨q, ys, m, a, c, R, hkq, rfl, HYS, HM, HR, hp⟩ := hrel
    by_cases hlt : q < rs.length
    · obtain ⟨bq, off, rfl, hx⟩ := HRI.out.elems 4 rwV_len (by omega) (by omega)
      have hj := List.getElem?_eq_getElem hlt
      replace hx := hx q _ hj
      have hmem := List.getElem_mem hlt
      have hlay := HLAY.out _ hmem
      have htk : (rs.take (q + 1)).flatMap rowB = (rs.take q).flatMap rowB ++ rowB rs[q] := by rw [List.take_add_one, hj, List.flatMap_append]; simp
      have hlen := rowsB_len (rs.take q)
      rw [List.length_take, Nat.min_eq_left (by omega)] at hlen
      have hm : m ≤ 5000 + q * 20 := by have := HV.out; rw [← HM.out, HYS.out, List.length_append]; omega
      have hrl := HRL.out
      clear hmem hj hlen
      generalize rs[q] = x at hx hlay htk
      obtain ⟨rc', rq', re', rv'⟩ := x
      obtain ⟨g1, g2, g3, g4, g5, g6⟩ := hlay
      simp only at hx g1 g2 g3 g4 g5 g6
      obtain ⟨rc', rfl⟩ := Int.eq_ofNat_of_zero_le g1
      obtain ⟨rq', rfl⟩ := Int.eq_ofNat_of_zero_le g3
      obtain ⟨re', rfl⟩ := Int.eq_ofNat_of_zero_le g5
      simp only [rwV] at hx
      rw [show rowB ⟨(rc' : Nat), (rq' : Nat), (re' : Nat), rv'⟩ = bn4 [rc', rq', re'] ++ bi8 [rv'] by simp only [rowB, Int.toNat_natCast]] at htk
      have hq6 : q < 4 := by omega
      have HTK := Lib.hid htk
      have HX := Lib.hid hx
      have HLA : RowKit.Hid ([rc', rq', re'].length = 3) := Lib.hid rfl
      have HLB : RowKit.Hid (3 ≤ 1000) := Lib.hid (by decide)
      have HLG : RowKit.Hid ([rv'].length = 1) := Lib.hid rfl
      have HB4 : RowKit.Hid (∀ x ∈ [rc', rq', re'], x ≤ 2147483647) := Lib.hid (by intro x hx; simp at hx; omega)
      have HC4 : RowKit.Hid ([Value.int .i64 (rc' : Int), Value.int .i64 (rq' : Int), Value.int .i64 (re' : Int)] = [rc', rq', re'].flatMap natV) := Lib.hid rfl
      have HC5 : RowKit.Hid ([Value.int .i64 rv'] = [rv'].flatMap iV) := Lib.hid rfl
      have HX0 : RowKit.Hid (m ≤ 900000) := Lib.hid (by omega)
      have HMB : RowKit.Hid (m ≤ 100000) := Lib.hid (by omega)
      have e1 : (0 : Int) ≤ (q : Int) := by omega
      have e2 : (q : Int) < (rs.length : Int) := by omega
      clear hx g1 g2 g3 g4 g5 g6 htk hm hrl
      go_wp2_with (first | (go_at_call 79; (with_reducible refine (on_built2 [rc', rq', re'] 3 HLA.out HLB.out HB4.out ys m HM.out HX0.out HR.out HC4.out hp).mono ?_); clear hp; rintro e w1 ⟨rfl, y4, m4, a4, c4, R4, hy4, hm4, hr4, hp⟩; have HY4 := Lib.hid hy4; have HM4 := Lib.hid hm4; have HR4 := Lib.hid hr4; clear hy4 hm4 hr4) | go_skip | ((first | ((with_reducible refine pre_alloc _ rfl ?_); refine lZ hp rfl zero120 ?_; clear hp; intro b w1 hp) | ((with_reducible refine pre_box _ _ rfl ?_); refine lB hp rfl (sTm rfl) rfl ?_; clear hp; intro b w1 hp) | ((with_reducible refine pre_load _ _ rfl ?_); first | refine lO hp rfl (sTm rfl) ceJX1 aa14 ?_ | refine lA hp rfl (sTm rfl) gaJX0 aa14 ?_ | refine lR hp rfl (sTm rfl) gaJX0 HX.out ?_) | ((with_reducible refine pre_store _ _ _ rfl ?_); (first | refine sO hp rfl (sTm rfl) ceJX1 aa14 ?_ | refine sA hp rfl (sTm rfl) (sTm rfl) gaJX0 aa14 ?_ | refine sG hp rfl (sTm rfl) (sTm rfl) gaJX0 aa14 ?_); clear hp; intro w1 hp; simp only [spl, zSet, sSet] at hp) | ((with_reducible refine pre_build _ _ _ rfl ?_); refine lS hp rfl (by intro w; go_simp; rfl) ?_; clear hp; intro b w1 hp; simp only [List.length_cons, List.length_nil, Nat.reduceAdd] at hp)); simp only [put_some, put_none, sSet, zSet]))
      have hm4 : m4 = m + 12 := by rw [← HM4.out, HY4.out, List.length_append, HM.out, bn4_len]; rfl
      have HX4 : RowKit.Hid (m4 ≤ 900000) := Lib.hid (by have := HMB.out; omega)
      clear hm4
      go_wp2_with (first | (go_at_call 80; (with_reducible refine (oi_built2 [rv'] 1 HLG.out HLF.out y4 m4 HM4.out HX4.out HR4.out HC5.out hp).mono ?_); clear hp; rintro e w1 ⟨rfl, y5, m5, a5, c5, R5, hy5, hm5, hr5, hp⟩; have HY5 := Lib.hid hy5; have HM5 := Lib.hid hm5; have HR5 := Lib.hid hr5; clear hy5 hm5 hr5) | go_skip | ((first | ((with_reducible refine pre_alloc _ rfl ?_); refine lZ hp rfl zero120 ?_; clear hp; intro b w1 hp) | ((with_reducible refine pre_box _ _ rfl ?_); refine lB hp rfl (sTm rfl) rfl ?_; clear hp; intro b w1 hp) | ((with_reducible refine pre_load _ _ rfl ?_); first | refine lO hp rfl (sTm rfl) ceJX1 aa14 ?_ | refine lA hp rfl (sTm rfl) gaJX0 aa14 ?_) | ((with_reducible refine pre_store _ _ _ rfl ?_); (first | refine sO hp rfl (sTm rfl) ceJX1 aa14 ?_ | refine sA hp rfl (sTm rfl) (sTm rfl) gaJX0 aa14 ?_ | refine sG hp rfl (sTm rfl) (sTm rfl) gaJX0 aa14 ?_); clear hp; intro w1 hp; simp only [spl, zSet, sSet] at hp) | ((with_reducible refine pre_build _ _ _ rfl ?_); refine lS hp rfl (by intro w; go_simp; rfl) ?_; clear hp; intro b w1 hp; simp only [List.length_cons, List.length_nil, Nat.reduceAdd] at hp)); simp only [put_some, put_none, sSet, zSet]))
      go_roundg (gk - 1)
      case measure => omega
      case rel => exact ⟨q + 1, y5, m5, a5, c5, R5, by omega, by go_num, Lib.hid (by rw [HY5.out, HY4.out, HYS.out, HTK.out]; simp only [List.append_assoc]), HM5, HR5, hp.tail⟩
    · obtain rfl : q = rs.length := by omega
      have e2 : decide ((rs.length : Int) < (rs.length : Int)) = false := by simp
      have hys := HYS.out
      rw [List.take_length, ← HRES.out] at hys
      clear hkq hlt
      go_wp2_with (first | go_skip | ((first | ((with_reducible refine pre_alloc _ rfl ?_); refine lZ hp rfl zero120 ?_; clear hp; intro b w1 hp) | ((with_reducible refine pre_box _ _ rfl ?_); refine lB hp rfl (sTm rfl) rfl ?_; clear hp; intro b w1 hp) | ((with_reducible refine pre_load _ _ rfl ?_); first | refine lO hp rfl (sTm rfl) ceJX1 aa14 ?_ | refine lA hp rfl (sTm rfl) gaJX0 aa14 ?_) | ((with_reducible refine pre_store _ _ _ rfl ?_); (first | refine sO hp rfl (sTm rfl) ceJX1 aa14 ?_ | refine sA hp rfl (sTm rfl) (sTm rfl) gaJX0 aa14 ?_ | refine sG hp rfl (sTm rfl) (sTm rfl) gaJX0 aa14 ?_); clear hp; intro w1 hp; simp only [spl, zSet, sSet] at hp) | ((with_reducible refine pre_build _ _ _ rfl ?_); refine lS hp rfl (by intro w; go_simp; rfl) ?_; clear hp; intro b w1 hp; simp only [List.length_cons, List.length_nil, Nat.reduceAdd] at hp)); simp only [put_some, put_none, sSet, zSet]))
      go_ret2
      have hmm := HM.out
      rw [hys] at hmm
      subst hmm
      exact ⟨a, c, R, rfl, by rw [← hys]; have h := HR.out; rw [← hys] at h; exact h, hp.tail.tail⟩
end Go.Proofs.YtaafajaadfgaoaaGreat
