/- Parts of the proof. -/
import Derived.Test.YtaafajaadfgaoaaGreatRg14
open List renaming set_cons_zero → zSet, set_cons_succ → sSet
/- The walks of GetOp and PutOp, of any bytes. -/
set_option linter.unusedSimpArgs false
set_option linter.unusedVariables false
namespace Go.Proofs.YtaafajaadfgaoaaGreat
open Go.RowKit
theorem gaGOa0 {ty : TypeId} {k : Nat} (h : aggB Tryz.prog ty k = true := by with_reducible first | exact agg29 | exact agg144 | exact agg116) : aggB Tryz.prog ty k = true := h
theorem ceGOa1 {ty : TypeId} (h : cellB Tryz.prog ty = true := by with_reducible first | exact cell3 | exact cell27 | exact cell4 | exact cell142 | exact cell210 | exact cell37 | exact cell57 | exact cell122) : cellB Tryz.prog ty = true := h
theorem zero29 : zeroL Tryz.prog 29 = some ([.int .i64 0, .int .i64 0, .int .i64 0, .int .i64 0, .int .i64 0, .int .i64 0, .int .i64 0], 7) := by kernel_rfl
theorem many_seven (br bi : Nat) (bs : List Nat) {w0 w : World} {K L : List Blk} (hs : RdSt w0 br bi bs K L w) :
    Calls Tryz.prog 108 #[.int .i64 7, .int .i64 56, .func (.func 109) #[.pointer (some ⟨bi, 0, none⟩)] #[]] w (ManyPost w0 br bi 7 (repR iR 7 bs) K L) := many108_i br bi 7 56 (by decide) (by decide) bs hs
theorem own_seven {v : Value} {xs : List Value} {R : List Blk} (h : OwnRow 3 1 v 7 xs R) : ∃ g cp, v = .slice (some ⟨g, 0, none⟩) 7 cp ∧ 7 ≤ cp ∧ cp ≤ maxLen ∧ R = [⟨g, xs, 3, cp * 1⟩] ∧ xs.length = 7 := by
  obtain ⟨hl, ⟨h0, _⟩ | ⟨g, cp, hv, h1, h2, hr⟩⟩ := h
  · cases h0
  · exact ⟨g, cp, hv, h1, h2, hr, by rw [hl]⟩
theorem seven_front {B : Nat} {w0 w : World} {b r i g : Blk} {L : List Blk} (hp : Hp B w0 w (b :: r :: i :: g :: L)) : Hp B w0 w (g :: b :: r :: i :: L) := hp.kp
theorem seven_back {B : Nat} {w0 w : World} {b r i g : Blk} {L : List Blk} (hp : Hp B w0 w (g :: b :: r :: i :: L)) : Hp B w0 w ([] ++ (r :: i :: ([b, g] ++ L))) := hp.kp
set_option maxRecDepth 100000 in
set_option maxHeartbeats 4000000 in
theorem getc_yes (br bi : Nat) (bs r : List Nat) (k h i n m v t : Int) (hr : repR iR 7 bs = some ([k, h, i, n, m, v, t], r)) {w0 w : World} {L : List Blk} (hs : RdSt w0 br bi bs [] L w) :
    Calls Tryz.prog 107 #[.pointer (some ⟨bi, 0, none⟩)] w fun e w' => e = .returned (.agg #[.int .i64 k, .int .i64 h, .int .i64 i, .int .i64 n, .int .i64 m, .int .i64 v, .int .i64 t]) ∧ ∃ R, RdSt w0 br bi r [] (R ++ L) w' := by
  obtain ⟨a, c, hnc, ha, hp⟩ := hs
  have HA := Lib.hid ha
  have HNC := Lib.hid hnc
  have HR := Lib.hid hr
  clear ha hnc hr
  simp only [List.nil_append, Rb, Ib] at hp
  go_enter Tryz.func107, Tryz.ntmps107
  go_wp2_with (first | (go_at_call 108; have hst : RdSt w0 br bi bs [_] L _ := ⟨a, c, HNC.out, HA.out, hp⟩; (with_reducible refine (many_seven br bi bs hst).mono ?_); clear hst; clear hp; rintro e w1 hq; rw [HR.out] at hq; first | (obtain ⟨vo, R, rfl, hown, a2, c2, hl2, ha2, hp⟩ := hq; obtain ⟨g, cp, rfl, _, _, rfl, _⟩ := own_seven hown; have HL2 := Lib.hid hl2; have HA2 := Lib.hid ha2; clear hown hl2 ha2; simp only [List.flatMap_cons, List.flatMap_nil, iV, List.cons_append, List.nil_append, Rb, Ib] at hp) | obtain ⟨rfl, hp⟩ := hq) | go_skip | ((first | ((with_reducible refine pre_alloc _ rfl ?_); refine lZ hp rfl (by with_reducible first | exact zero29 | exact zero210 | exact zero37) ?_; clear hp; intro b w1 hp) | ((with_reducible refine pre_box _ _ rfl ?_); refine lB hp rfl (sTm rfl) rfl ?_; clear hp; intro b w1 hp) | ((with_reducible refine pre_load _ _ rfl ?_); first | refine lO hp rfl (sTm rfl) ceGOa1 aa5 ?_ | refine lA hp rfl (sTm rfl) gaGOa0 aa5 ?_) | ((with_reducible refine pre_store _ _ _ rfl ?_); (first | refine sO hp rfl (sTm rfl) ceGOa1 aa5 ?_ | refine sA hp rfl (sTm rfl) (sTm rfl) gaGOa0 aa5 ?_ | refine sG hp rfl (sTm rfl) (sTm rfl) gaGOa0 aa5 ?_); clear hp; intro w1 hp; simp only [spl, zSet, sSet] at hp) | ((with_reducible refine pre_build _ _ _ rfl ?_); refine lS hp rfl (by intro w; go_simp; rfl) ?_; clear hp; intro b w1 hp; simp only [List.length_cons, List.length_nil, Nat.reduceAdd] at hp)); simp only [put_some, put_none, sSet, zSet]))
  replace hp := seven_front hp
  refine wp_region_keeps [_] (Keeps.one hp.drew at0) [22] [(0, true), (1, true), (2, true), (3, true), (4, true), (5, true), (6, true), (7, true), (8, true), (9, true), (10, true), (11, true), (12, true), (13, true), (14, true), (15, true), (16, true), (17, true), (18, true), (19, true), (20, true), (21, true), (22, false)] (by kernel_rfl) (by kernel_rfl) rfl (by kernel_rfl) (fun _ _ d _ _ h => by cases d <;> exact h) ?_
  replace hp := hp.drew
  repeat' (with_reducible refine plan_is ?_); first | (with_reducible refine plan_nil ?_) | ((with_reducible refine plan_t ?_); refine plan_tk rfl ?_; (first | ((with_reducible refine tk_mv _ rfl ?_); refine tM rfl ?_) | ((with_reducible refine tk_ld _ _ rfl ?_); refine tO rfl (sTm rfl) cell3 aa5 ?_) | refine tG (fun w _ => (by go_simp; try rfl)) ?_); try simp only [put_some, put_none, eval_tmp, eval_const, sSet, zSet, List.getD_cons_succ, List.getD_cons_zero, wrap_eq]) | (refine plan_do rfl (fun K hK => ?_); go_wp2_with (first | go_skip | (((with_reducible refine pre_store _ _ _ rfl ?_); (first | refine sO hp rfl (sTm rfl) ceGOa1 aa5 ?_ | refine sA hp rfl (sTm rfl) (sTm rfl) gaGOa0 aa5 ?_ | refine sG hp rfl (sTm rfl) (sTm rfl) gaGOa0 aa5 ?_); clear hp; intro w1 hp; simp only [spl, zSet, sSet] at hp); simp only [put_some, put_none, sSet, zSet])); (first | refine hK.out _ _ (.inl rfl) ?_ | refine hK.out _ _ (.inr (Keeps.one hp aa5)) ?_); clear hK K; try simp only [put_some, put_none, eval_tmp, eval_const, sSet, zSet, List.getD_cons_succ, List.getD_cons_zero, wrap_eq])
  go_wp2_with (first | go_skip | ((first | ((with_reducible refine pre_alloc _ rfl ?_); refine lZ hp rfl (by with_reducible first | exact zero29 | exact zero210 | exact zero37) ?_; clear hp; intro b w1 hp) | ((with_reducible refine pre_box _ _ rfl ?_); refine lB hp rfl (sTm rfl) rfl ?_; clear hp; intro b w1 hp) | ((with_reducible refine pre_load _ _ rfl ?_); first | refine lO hp rfl (sTm rfl) ceGOa1 aa5 ?_ | refine lA hp rfl (sTm rfl) gaGOa0 aa5 ?_) | ((with_reducible refine pre_store _ _ _ rfl ?_); (first | refine sO hp rfl (sTm rfl) ceGOa1 aa5 ?_ | refine sA hp rfl (sTm rfl) (sTm rfl) gaGOa0 aa5 ?_ | refine sG hp rfl (sTm rfl) (sTm rfl) gaGOa0 aa5 ?_); clear hp; intro w1 hp; simp only [spl, zSet, sSet] at hp) | ((with_reducible refine pre_build _ _ _ rfl ?_); refine lS hp rfl (by intro w; go_simp; rfl) ?_; clear hp; intro b w1 hp; simp only [List.length_cons, List.length_nil, Nat.reduceAdd] at hp)); simp only [put_some, put_none, sSet, zSet]))
  exact bodyPost_ret (results_one (rs := [.cell 2 29]) Tryz.results107 (.cell rfl (hp.loadAgg agg29 at1 0 _ (by rfl) (by rfl)) .nil)) rfl ⟨rfl, [_, _], a2, c2, HL2.out, HA2.out, seven_back hp⟩
set_option maxRecDepth 100000 in
set_option maxHeartbeats 4000000 in
theorem getc_no (br bi : Nat) (bs : List Nat) (hr : repR iR 7 bs = none) {w0 w : World} {L : List Blk} (hs : RdSt w0 br bi bs [] L w) :
    Calls Tryz.prog 107 #[.pointer (some ⟨bi, 0, none⟩)] w fun e w' => e = .panicked badP ∧ Hp w0.heap.size w0 w' L := by
  obtain ⟨a, c, hnc, ha, hp⟩ := hs
  have HA := Lib.hid ha
  have HNC := Lib.hid hnc
  have HR := Lib.hid hr
  clear ha hnc hr
  simp only [List.nil_append, Rb, Ib] at hp
  go_enter Tryz.func107, Tryz.ntmps107
  go_wp2_with (first | (go_at_call 108; have hst : RdSt w0 br bi bs [_] L _ := ⟨a, c, HNC.out, HA.out, hp⟩; (with_reducible refine (many_seven br bi bs hst).mono ?_); clear hst; clear hp; rintro e w1 hq; rw [HR.out] at hq; first | (obtain ⟨vo, R, rfl, hown, a2, c2, hl2, ha2, hp⟩ := hq; obtain ⟨g, cp, rfl, _, _, rfl, _⟩ := own_seven hown; have HL2 := Lib.hid hl2; have HA2 := Lib.hid ha2; clear hown hl2 ha2; simp only [List.flatMap_cons, List.flatMap_nil, iV, List.cons_append, List.nil_append, Rb, Ib] at hp) | obtain ⟨rfl, hp⟩ := hq) | go_skip | ((first | ((with_reducible refine pre_alloc _ rfl ?_); refine lZ hp rfl (by with_reducible first | exact zero29 | exact zero210 | exact zero37) ?_; clear hp; intro b w1 hp) | ((with_reducible refine pre_box _ _ rfl ?_); refine lB hp rfl (sTm rfl) rfl ?_; clear hp; intro b w1 hp) | ((with_reducible refine pre_load _ _ rfl ?_); first | refine lO hp rfl (sTm rfl) ceGOa1 aa5 ?_ | refine lA hp rfl (sTm rfl) gaGOa0 aa5 ?_) | ((with_reducible refine pre_store _ _ _ rfl ?_); (first | refine sO hp rfl (sTm rfl) ceGOa1 aa5 ?_ | refine sA hp rfl (sTm rfl) (sTm rfl) gaGOa0 aa5 ?_ | refine sG hp rfl (sTm rfl) (sTm rfl) gaGOa0 aa5 ?_); clear hp; intro w1 hp; simp only [spl, zSet, sSet] at hp) | ((with_reducible refine pre_build _ _ _ rfl ?_); refine lS hp rfl (by intro w; go_simp; rfl) ?_; clear hp; intro b w1 hp; simp only [List.length_cons, List.length_nil, Nat.reduceAdd] at hp)); simp only [put_some, put_none, sSet, zSet]))
  exact ⟨rfl, rfl, Hp.tail hp⟩
theorem idle178 (p q r : Addr) (w : World) : CallsD Tryz.prog 178 #[.pointer (some p), .pointer (some q), .pointer (some r)] .returning w fun e u' w' => e = .returned (.tuple #[]) ∧ u' = .returning ∧ w' = w := by
  refine callsD_of_wpS Tryz.func178 rfl fun c₀ cs hu => ?_
  apply wpS_seq
  apply wpS_region
  simp [wpOpsS, go_sem, recoverD, hu, Tryz.ntmps178, Exit.thenS]
  refine wpS_of_wp ?_
  go_wp2
  cases c₀
  simp_all [bodyPostS, results, Tryz.results178]
theorem bad178 (bn bx be : Nat) (k h i n m v t : Int) {B : Nat} {w0 w : World} {L : List Blk} (hp : Hp B w0 w (⟨bn, [.int .i64 0, .int .i64 0, .int .i64 0, .int .i64 0, .int .i64 0, .int .i64 0, .int .i64 0], 29, 7⟩ :: ⟨be, [.int .i64 0], 37, 1⟩ :: ⟨bx, [.int .i64 k, .int .i64 h, .int .i64 i, .int .i64 n, .int .i64 m, .int .i64 v, .int .i64 t], 29, 7⟩ :: L)) :
    CallsD Tryz.prog 178 #[.pointer (some ⟨bn, 0, none⟩), .pointer (some ⟨bx, 0, none⟩), .pointer (some ⟨be, 0, none⟩)] (.panicking badP) w fun e u' w' => e = .returned (.tuple #[]) ∧ u' = .panicking [{ v := .iface 206 (.agg #[]), recovered := true }] ∧ Hp B w0 w' (⟨bn, [.int .i64 0, .int .i64 0, .int .i64 0, .int .i64 0, .int .i64 0, .int .i64 0, .int .i64 0], 29, 7⟩ :: ⟨be, [.int .i64 60], 37, 1⟩ :: ⟨bx, [.int .i64 0, .int .i64 0, .int .i64 0, .int .i64 0, .int .i64 0, .int .i64 0, .int .i64 0], 29, 7⟩ :: L) := by
  refine callsD_of_wpS Tryz.func178 rfl fun c₀ cs hu => ?_
  apply wpS_seq
  apply wpS_region
  simp [wpOpsS, go_sem, recoverD, hu, badP, Tryz.ntmps178, Exit.thenS]
  refine wpS_of_wp ?_
  change Code.wp Tryz.prog _ _ ⟨#[.pointer (some ⟨bn, 0, none⟩), .pointer (some ⟨bx, 0, none⟩), .pointer (some ⟨be, 0, none⟩), .iface 206 (.agg #[]), .iface 206 (.agg #[]), undef, undef, undef], []⟩ w
  go_wp2_with (first | go_skip | ((first | ((with_reducible refine pre_alloc _ rfl ?_); refine lZ hp rfl (by with_reducible first | exact zero29 | exact zero210 | exact zero37) ?_; clear hp; intro b w1 hp) | ((with_reducible refine pre_box _ _ rfl ?_); refine lB hp rfl (sTm rfl) rfl ?_; clear hp; intro b w1 hp) | ((with_reducible refine pre_load _ _ rfl ?_); first | refine lO hp rfl (sTm rfl) ceGOa1 aa5 ?_ | refine lA hp rfl (sTm rfl) gaGOa0 aa5 ?_) | ((with_reducible refine pre_store _ _ _ rfl ?_); (first | refine sO hp rfl (sTm rfl) ceGOa1 aa5 ?_ | refine sA hp rfl (sTm rfl) (sTm rfl) gaGOa0 aa5 ?_ | refine sG hp rfl (sTm rfl) (sTm rfl) gaGOa0 aa5 ?_); clear hp; intro w1 hp; simp only [spl, zSet, sSet] at hp) | ((with_reducible refine pre_build _ _ _ rfl ?_); refine lS hp rfl (by intro w; go_simp; rfl) ?_; clear hp; intro b w1 hp; simp only [List.length_cons, List.length_nil, Nat.reduceAdd] at hp)); simp only [put_some, put_none, sSet, zSet]))
  simp [bodyPostS, results, Tryz.results178]
  exact hp
def GetPostO (w : World) (r : Option (List Int)) (e : Ending) (w' : World) : Prop :=
  match r with
  | some l => e = .returned (.tuple #[.agg (l.map (Value.int .i64)).toArray, .int .i64 0]) ∧ Below w.heap.size w w'
  | none => e = .returned (.tuple #[.agg #[.int .i64 0, .int .i64 0, .int .i64 0, .int .i64 0, .int .i64 0, .int .i64 0, .int .i64 0], .int .i64 60]) ∧ Below w.heap.size w w'
theorem readerO_out {B : Nat} {w0 w : World} {r i x y z : Blk} {R : List Blk} (hp : Hp B w0 w (r :: i :: (R ++ [x, y, z]))) : Hp B w0 w (r :: i :: x :: y :: z :: R) := hp.kp
theorem seven_of {l : List Int} (h : l.length = 7) : ∃ k h i n m v t, l = [k, h, i, n, m, v, t] := by
  match l, h with
  | [k, h, i, n, m, v, t], _ => exact ⟨k, h, i, n, m, v, t, rfl⟩
set_option maxRecDepth 100000 in
set_option maxHeartbeats 8000000 in
theorem wholeOpG (bs : List Nat) (a : Option Addr) (c : Nat) (hnc : bs.length ≤ c) (w : World) (ha : RdAt w a bs) :
    Calls Tryz.prog 106 #[.slice a bs.length c, .func (.func 107) #[] #[]] w (GetPostO w (opR bs)) := by
  have HA := Lib.hid ha
  have HNC := Lib.hid hnc
  have hp := Hp.start w
  cases hr : repR iR 7 bs with
  | none =>
    have HE : RowKit.Hid (opR bs = none) := Lib.hid (by unfold opR wholeR; simp only; rw [hr])
    have HR := Lib.hid hr
    clear hr ha hnc
    go_enter_defers Tryz.func106, Tryz.ntmps106
    go_wp2_with (first | (go_at_call 172; (with_reducible refine (newr172 _ _ _ _).mono ?_); rintro e w1 ⟨br, rfl, hp2⟩; replace hp := reader4 (hp.join hp2); clear hp2) | (go_at_call 107; have hst : RdSt w _ _ bs [] _ _ := ⟨a, c, HNC.out, HA.out, reader_in hp⟩; (with_reducible refine (getc_no _ _ bs HR.out hst).mono ?_); clear hst; clear hp; rintro e w1 ⟨rfl, hp⟩) | go_skip | ((first | ((with_reducible refine pre_alloc _ rfl ?_); refine lZ hp rfl (by with_reducible first | exact zero29 | exact zero210 | exact zero37) ?_; clear hp; intro b w1 hp) | ((with_reducible refine pre_box _ _ rfl ?_); refine lB hp rfl (sTm rfl) rfl ?_; clear hp; intro b w1 hp) | ((with_reducible refine pre_load _ _ rfl ?_); first | refine lO hp rfl (sTm rfl) ceGOa1 aa5 ?_ | refine lA hp rfl (sTm rfl) gaGOa0 aa5 ?_) | ((with_reducible refine pre_store _ _ _ rfl ?_); (first | refine sO hp rfl (sTm rfl) ceGOa1 aa5 ?_ | refine sA hp rfl (sTm rfl) (sTm rfl) gaGOa0 aa5 ?_ | refine sG hp rfl (sTm rfl) (sTm rfl) gaGOa0 aa5 ?_); clear hp; intro w1 hp; simp only [spl, zSet, sSet] at hp) | ((with_reducible refine pre_build _ _ _ rfl ?_); refine lS hp rfl (by intro w; go_simp; rfl) ?_; clear hp; intro b w1 hp; simp only [List.length_cons, List.length_nil, Nat.reduceAdd] at hp)); simp only [put_some, put_none, sSet, zSet]))
    obtain ⟨b2, rfl⟩ := hp.id0; obtain ⟨b3, rfl⟩ := hp.id1; obtain ⟨b4, rfl⟩ := hp.id2; refine leaves_cons (f := 178) (args := #[.pointer (some ⟨b2, 0, none⟩), .pointer (some ⟨b4, 0, none⟩), .pointer (some ⟨b3, 0, none⟩)]) (by simp) (by simp [go_sem]) ?_
    refine (bad178 b2 b4 b3 0 0 0 0 0 0 0 hp).mono ?_
    clear hp
    rintro e u' w'' ⟨rfl, rfl, hp⟩
    refine ⟨_, results_many (rs := [.cell 4 29, .cell 5 37]) Tryz.results106 (.cell rfl (hp.loadAgg agg29 at2 0 _ (by rfl) (by rfl)) (.cell rfl (hp.loadOne cell37 at1 0 _ (by rfl)) .nil)), ?_⟩
    rw [HE.out]
    exact ⟨rfl, hp.below⟩
  | some p =>
    obtain ⟨x, r⟩ := p
    obtain ⟨k, h, i, n, m, v, t, rfl⟩ := seven_of (ints_rv ha.2 hr).2
    have HR := Lib.hid hr
    by_cases h0 : r.length = 0
    · have HE : RowKit.Hid (opR bs = some [k, h, i, n, m, v, t]) := Lib.hid (by unfold opR wholeR; simp only; rw [hr]; simp only; rw [if_pos h0])
      have e0 : ((r.length : Int) == 0) = true := by simp [h0]
      clear hr h0 ha hnc
      go_enter_defers Tryz.func106, Tryz.ntmps106
      go_wp2_with (first | (go_at_call 172; (with_reducible refine (newr172 _ _ _ _).mono ?_); rintro e w1 ⟨br, rfl, hp2⟩; replace hp := reader4 (hp.join hp2); clear hp2) | (go_at_call 107; have hst : RdSt w _ _ bs [] _ _ := ⟨a, c, HNC.out, HA.out, reader_in hp⟩; (with_reducible refine (getc_yes _ _ bs r k h i n m v t HR.out hst).mono ?_); clear hst; clear hp; rintro e w1 ⟨rfl, R, a2, c2, hl2, ha2, hp⟩; clear hl2 ha2; simp only [List.nil_append, Rb, Ib] at hp; replace hp := readerO_out hp) | (go_at_call 173; (with_reducible refine (leftq _ _ _ _ hp).mono ?_); rintro e w' ⟨rfl, rfl⟩) | (go_at_call 105; first | ((with_reducible refine (is105 _).mono ?_); rintro e w' ⟨rfl, rfl⟩) | ((with_reducible refine (is105_no _).mono ?_); rintro e w' ⟨rfl, rfl⟩)) | go_skip | ((first | ((with_reducible refine pre_alloc _ rfl ?_); refine lZ hp rfl (by with_reducible first | exact zero29 | exact zero210 | exact zero37) ?_; clear hp; intro b w1 hp) | ((with_reducible refine pre_box _ _ rfl ?_); refine lB hp rfl (sTm rfl) rfl ?_; clear hp; intro b w1 hp) | ((with_reducible refine pre_load _ _ rfl ?_); first | refine lO hp rfl (sTm rfl) ceGOa1 aa5 ?_ | refine lA hp rfl (sTm rfl) gaGOa0 aa5 ?_) | ((with_reducible refine pre_store _ _ _ rfl ?_); (first | refine sO hp rfl (sTm rfl) ceGOa1 aa5 ?_ | refine sA hp rfl (sTm rfl) (sTm rfl) gaGOa0 aa5 ?_ | refine sG hp rfl (sTm rfl) (sTm rfl) gaGOa0 aa5 ?_); clear hp; intro w1 hp; simp only [spl, zSet, sSet] at hp) | ((with_reducible refine pre_build _ _ _ rfl ?_); refine lS hp rfl (by intro w; go_simp; rfl) ?_; clear hp; intro b w1 hp; simp only [List.length_cons, List.length_nil, Nat.reduceAdd] at hp)); simp only [put_some, put_none, sSet, zSet]))
      replace hp := hp.tail.tail
      obtain ⟨b2, rfl⟩ := hp.id0; obtain ⟨b3, rfl⟩ := hp.id1; obtain ⟨b4, rfl⟩ := hp.id2; refine leaves_cons (f := 178) (args := #[.pointer (some ⟨b2, 0, none⟩), .pointer (some ⟨b4, 0, none⟩), .pointer (some ⟨b3, 0, none⟩)]) (by simp) (by simp [go_sem]) ?_
      refine (idle178 _ _ _ _).mono ?_
      rintro e u' w'' ⟨rfl, rfl, rfl⟩
      refine ⟨_, results_many (rs := [.cell 4 29, .cell 5 37]) Tryz.results106 (.cell rfl (hp.loadAgg agg29 at2 0 _ (by rfl) (by rfl)) (.cell rfl (hp.loadOne cell37 at1 0 _ (by rfl)) .nil)), ?_⟩
      rw [HE.out]
      exact ⟨rfl, hp.below⟩
    · have HE : RowKit.Hid (opR bs = none) := Lib.hid (by unfold opR wholeR; simp only; rw [hr]; simp only; rw [if_neg h0])
      have e0 : ((r.length : Int) == 0) = false := beq_eq_false_iff_ne.2 (by omega)
      clear hr h0 ha hnc
      go_enter_defers Tryz.func106, Tryz.ntmps106
      go_wp2_with (first | (go_at_call 172; (with_reducible refine (newr172 _ _ _ _).mono ?_); rintro e w1 ⟨br, rfl, hp2⟩; replace hp := reader4 (hp.join hp2); clear hp2) | (go_at_call 107; have hst : RdSt w _ _ bs [] _ _ := ⟨a, c, HNC.out, HA.out, reader_in hp⟩; (with_reducible refine (getc_yes _ _ bs r k h i n m v t HR.out hst).mono ?_); clear hst; clear hp; rintro e w1 ⟨rfl, R, a2, c2, hl2, ha2, hp⟩; clear hl2 ha2; simp only [List.nil_append, Rb, Ib] at hp; replace hp := readerO_out hp) | (go_at_call 173; (with_reducible refine (leftq _ _ _ _ hp).mono ?_); rintro e w' ⟨rfl, rfl⟩) | (go_at_call 105; first | ((with_reducible refine (is105 _).mono ?_); rintro e w' ⟨rfl, rfl⟩) | ((with_reducible refine (is105_no _).mono ?_); rintro e w' ⟨rfl, rfl⟩)) | go_skip | ((first | ((with_reducible refine pre_alloc _ rfl ?_); refine lZ hp rfl (by with_reducible first | exact zero29 | exact zero210 | exact zero37) ?_; clear hp; intro b w1 hp) | ((with_reducible refine pre_box _ _ rfl ?_); refine lB hp rfl (sTm rfl) rfl ?_; clear hp; intro b w1 hp) | ((with_reducible refine pre_load _ _ rfl ?_); first | refine lO hp rfl (sTm rfl) ceGOa1 aa5 ?_ | refine lA hp rfl (sTm rfl) gaGOa0 aa5 ?_) | ((with_reducible refine pre_store _ _ _ rfl ?_); (first | refine sO hp rfl (sTm rfl) ceGOa1 aa5 ?_ | refine sA hp rfl (sTm rfl) (sTm rfl) gaGOa0 aa5 ?_ | refine sG hp rfl (sTm rfl) (sTm rfl) gaGOa0 aa5 ?_); clear hp; intro w1 hp; simp only [spl, zSet, sSet] at hp) | ((with_reducible refine pre_build _ _ _ rfl ?_); refine lS hp rfl (by intro w; go_simp; rfl) ?_; clear hp; intro b w1 hp; simp only [List.length_cons, List.length_nil, Nat.reduceAdd] at hp)); simp only [put_some, put_none, sSet, zSet]))
      replace hp := hp.tail.tail
      obtain ⟨b2, rfl⟩ := hp.id0; obtain ⟨b3, rfl⟩ := hp.id1; obtain ⟨b4, rfl⟩ := hp.id2; refine leaves_cons (f := 178) (args := #[.pointer (some ⟨b2, 0, none⟩), .pointer (some ⟨b4, 0, none⟩), .pointer (some ⟨b3, 0, none⟩)]) (by simp) (by simp [go_sem]) ?_
      refine (bad178 b2 b4 b3 k h i n m v t hp).mono ?_
      clear hp
      rintro e u' w'' ⟨rfl, rfl, hp⟩
      refine ⟨_, results_many (rs := [.cell 4 29, .cell 5 37]) Tryz.results106 (.cell rfl (hp.loadAgg agg29 at2 0 _ (by rfl) (by rfl)) (.cell rfl (hp.loadOne cell37 at1 0 _ (by rfl)) .nil)), ?_⟩
      rw [HE.out]
      exact ⟨rfl, hp.below⟩
set_option maxRecDepth 100000 in
set_option maxHeartbeats 8000000 in
theorem getOp_yes (bs : List Nat) (k h i n m v t : Int) (hr : opR bs = some [k, h, i, n, m, v, t]) (a : Option Addr) (c : Nat) (hnc : bs.length ≤ c) (w : World) (ha : RdAt w a bs) :
    Calls Tryz.prog 39 #[.slice a bs.length c] w fun e w' => e = .returned (.tuple #[.agg #[.int .i64 k, .int .i64 h, .int .i64 i, .int .i64 n, .int .i64 m, .int .i64 v, .int .i64 t], .int .i64 0]) ∧ Below w.heap.size w w' := by
  have HA := Lib.hid ha
  have HNC := Lib.hid hnc
  have HR := Lib.hid hr
  have hp := Hp.start w
  clear ha hnc hr
  go_enter Tryz.func39, Tryz.ntmps39
  go_wp2_with (first | (go_at_call 106; (with_reducible refine (wholeOpG bs a c HNC.out _ (HA.out.below hp.below)).mono ?_); rintro e w1 hq; rw [HR.out] at hq; obtain ⟨rfl, hb⟩ := hq; replace hp := hp.call hb; clear hb) | go_skip | ((first | ((with_reducible refine pre_alloc _ rfl ?_); refine lZ hp rfl (by with_reducible first | exact zero29 | exact zero210 | exact zero37) ?_; clear hp; intro b w1 hp) | ((with_reducible refine pre_box _ _ rfl ?_); refine lB hp rfl (sTm rfl) rfl ?_; clear hp; intro b w1 hp) | ((with_reducible refine pre_load _ _ rfl ?_); first | refine lO hp rfl (sTm rfl) ceGOa1 aa5 ?_ | refine lA hp rfl (sTm rfl) gaGOa0 aa5 ?_) | ((with_reducible refine pre_store _ _ _ rfl ?_); (first | refine sO hp rfl (sTm rfl) ceGOa1 aa5 ?_ | refine sA hp rfl (sTm rfl) (sTm rfl) gaGOa0 aa5 ?_ | refine sG hp rfl (sTm rfl) (sTm rfl) gaGOa0 aa5 ?_); clear hp; intro w1 hp; simp only [spl, zSet, sSet] at hp) | ((with_reducible refine pre_build _ _ _ rfl ?_); refine lS hp rfl (by intro w; go_simp; rfl) ?_; clear hp; intro b w1 hp; simp only [List.length_cons, List.length_nil, Nat.reduceAdd] at hp)); simp only [put_some, put_none, sSet, zSet]))
  exact bodyPost_ret (results_many (rs := [.cell 2 29, .tmp 3]) Tryz.results39 (.cell rfl (hp.loadAgg agg29 at0 0 _ (by rfl) (by rfl)) (.tmp rfl .nil))) rfl ⟨rfl, hp.below⟩
set_option maxRecDepth 100000 in
set_option maxHeartbeats 8000000 in
theorem getOp_no (bs : List Nat) (hr : opR bs = none) (a : Option Addr) (c : Nat) (hnc : bs.length ≤ c) (w : World) (ha : RdAt w a bs) :
    Calls Tryz.prog 39 #[.slice a bs.length c] w fun e w' => e = .returned (.tuple #[.agg #[.int .i64 0, .int .i64 0, .int .i64 0, .int .i64 0, .int .i64 0, .int .i64 0, .int .i64 0], .int .i64 60]) ∧ Below w.heap.size w w' := by
  have HA := Lib.hid ha
  have HNC := Lib.hid hnc
  have HR := Lib.hid hr
  have hp := Hp.start w
  clear ha hnc hr
  go_enter Tryz.func39, Tryz.ntmps39
  go_wp2_with (first | (go_at_call 106; (with_reducible refine (wholeOpG bs a c HNC.out _ (HA.out.below hp.below)).mono ?_); rintro e w1 hq; rw [HR.out] at hq; obtain ⟨rfl, hb⟩ := hq; replace hp := hp.call hb; clear hb) | go_skip | ((first | ((with_reducible refine pre_alloc _ rfl ?_); refine lZ hp rfl (by with_reducible first | exact zero29 | exact zero210 | exact zero37) ?_; clear hp; intro b w1 hp) | ((with_reducible refine pre_box _ _ rfl ?_); refine lB hp rfl (sTm rfl) rfl ?_; clear hp; intro b w1 hp) | ((with_reducible refine pre_load _ _ rfl ?_); first | refine lO hp rfl (sTm rfl) ceGOa1 aa5 ?_ | refine lA hp rfl (sTm rfl) gaGOa0 aa5 ?_) | ((with_reducible refine pre_store _ _ _ rfl ?_); (first | refine sO hp rfl (sTm rfl) ceGOa1 aa5 ?_ | refine sA hp rfl (sTm rfl) (sTm rfl) gaGOa0 aa5 ?_ | refine sG hp rfl (sTm rfl) (sTm rfl) gaGOa0 aa5 ?_); clear hp; intro w1 hp; simp only [spl, zSet, sSet] at hp) | ((with_reducible refine pre_build _ _ _ rfl ?_); refine lS hp rfl (by intro w; go_simp; rfl) ?_; clear hp; intro b w1 hp; simp only [List.length_cons, List.length_nil, Nat.reduceAdd] at hp)); simp only [put_some, put_none, sSet, zSet]))
  exact bodyPost_ret (results_many (rs := [.cell 2 29, .tmp 3]) Tryz.results39 (.cell rfl (hp.loadAgg agg29 at0 0 _ (by rfl) (by rfl)) (.tmp rfl .nil))) rfl ⟨rfl, hp.below⟩
set_option maxRecDepth 100000 in
set_option maxHeartbeats 8000000 in
theorem putOpG (k h i n m v t : Int) (bs : List Nat) (hbs : bi8 [k, h, i, n, m, v, t] = bs) (w : World) : Calls Tryz.prog 41 #[.agg #[.int .i64 k, .int .i64 h, .int .i64 i, .int .i64 n, .int .i64 m, .int .i64 v, .int .i64 t]] w fun e w' => ∃ a c R, e = .returned (.slice a 56 c) ∧ 56 ≤ c ∧ Kept R (fun w => RdAt w a bs) ∧ Hp w.heap.size w w' R := by
  have hp := Hp.start w
  have HLA : RowKit.Hid ([k, h, i, n, m, v, t].length = 7) := Lib.hid rfl
  have HLB : RowKit.Hid (7 ≤ 1000) := Lib.hid (by decide)
  have HNIL : RowKit.Hid (([] : List Nat).length = 0) := Lib.hid rfl
  have HNIL2 : RowKit.Hid (0 ≤ 900000) := Lib.hid (by decide)
  have HC1 : RowKit.Hid ([.int .i64 k, .int .i64 h, .int .i64 i, .int .i64 n, .int .i64 m, .int .i64 v, .int .i64 t] = [k, h, i, n, m, v, t].flatMap iV) := Lib.hid rfl
  go_enter Tryz.func41, Tryz.ntmps41
  go_wp2_with (first | (go_at_call 80; replace hp := swap1 hp; (with_reducible refine (oi_built1 [k, h, i, n, m, v, t] 7 HLA.out HLB.out [] 0 HNIL.out HNIL2.out (SubRow.nil 5 1 none) HC1.out hp).mono ?_); clear hp; rintro e w1 ⟨rfl, y1, m1, a1, c1, R1, hy1, hm1, hr1, hp⟩; have HY1 := Lib.hid hy1; have HM1 := Lib.hid hm1; have HR1 := Lib.hid hr1; clear hy1 hm1 hr1) | go_skip | ((first | ((with_reducible refine pre_alloc _ rfl ?_); refine lZ hp rfl (by with_reducible first | exact zero29 | exact zero210 | exact zero37) ?_; clear hp; intro b w1 hp) | ((with_reducible refine pre_box _ _ rfl ?_); refine lB hp rfl (sTm rfl) rfl ?_; clear hp; intro b w1 hp) | ((with_reducible refine pre_load _ _ rfl ?_); first | refine lO hp rfl (sTm rfl) ceGOa1 aa5 ?_ | refine lA hp rfl (sTm rfl) gaGOa0 aa5 ?_) | ((with_reducible refine pre_store _ _ _ rfl ?_); (first | refine sO hp rfl (sTm rfl) ceGOa1 aa5 ?_ | refine sA hp rfl (sTm rfl) (sTm rfl) gaGOa0 aa5 ?_ | refine sG hp rfl (sTm rfl) (sTm rfl) gaGOa0 aa5 ?_); clear hp; intro w1 hp; simp only [spl, zSet, sSet] at hp) | ((with_reducible refine pre_build _ _ _ rfl ?_); refine lS hp rfl (by intro w; go_simp; rfl) ?_; clear hp; intro b w1 hp; simp only [List.length_cons, List.length_nil, Nat.reduceAdd] at hp)); simp only [put_some, put_none, sSet, zSet]))
  go_ret
  have hm : m1 = 56 := by rw [← HM1.out, HY1.out, List.nil_append, bi8_len]; rfl
  subst hm
  have hy : y1 = bs := by rw [HY1.out, List.nil_append]; exact hbs
  subst hy
  have hby : Bytes y1 := by rw [← hbs]; exact bi8_bytes _
  exact ⟨a1, c1, R1, rfl, HR1.out.cap rfl, HR1.out.keptS.mono (fun _ h => h) (fun w hw => ⟨hw, hby⟩), hp.kp⟩
end Go.Proofs.YtaafajaadfgaoaaGreat
