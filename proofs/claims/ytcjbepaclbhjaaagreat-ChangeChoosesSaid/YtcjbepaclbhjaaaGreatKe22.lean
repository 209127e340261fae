/- Parts of the proof. -/
import Derived.Test.YtcjbepaclbhjaaaGreatKe1
import Derived.Test.YtcjbepaclbhjaaaGreatKe21
import Derived.Test.YtcjbepaclbhjaaaGreatKe7
import Derived.Defers
import Derived.Recover
import Derived.Lib.ConvBytes
import Derived.Test.YtcjbepaclbhjaaaGreatKe3
import Derived.Test.YtcjbepaclbhjaaaGreatKe12
import Derived.Test.YtcjbepaclbhjaaaGreatKe2
import Derived.Test.YtcjbepaclbhjaaaGreatKe0
open List renaming set_cons_zero → zSet, set_cons_succ → sSet
/- The walks of GetHeap: a heap that is all there is. -/
set_option linter.unusedSimpArgs false
set_option linter.unusedVariables false
namespace Go.Proofs.YtcjbepaclbhjaaaGreat
open Go.RowKit
theorem newr101 (a : Option Addr) (n c : Nat) (w : World) : Calls Tryz.prog 101 #[.slice a n c] w fun e w' => ∃ br, e = .returned (.pointer (some ⟨br, 0, none⟩)) ∧ Hp w.heap.size w w' [⟨br, [.slice a n c], 144, 1⟩] := by
  have hp := Hp.start w
  go_enter Tryz.func101, Tryz.ntmps101
  go_wp2_with (first | go_skip | (first | (refine hA0 ?_; clear hp; intro b w1 hp) | refine hL0 ?_ | (refine hS0 ?_; clear hp; intro w1 hp)))
  go_ret
  exact ⟨_, rfl, hp⟩
def wholeR {α : Type} (one : List Nat → Option (α × List Nat)) (bs : List Nat) : Option α := match one bs with
  | some (x, r) => if r.length = 0 then some x else none
  | none => none
noncomputable def heapR (bs : List Nat) : Option Hv := wholeR heapR0 bs
def GetPost (w : World) (r : Option Hv) (e : Ending) (w' : World) : Prop :=
  match r with
  | some x => ∃ y R, e = .returned (.tuple #[.agg (hvL y).toArray, .int .i64 0]) ∧ y.Sm x ∧ HvO y R ∧ Hp w.heap.size w w' R
  | none => e = .returned (.tuple #[.agg (hvL zeroHv).toArray, .int .i64 60]) ∧ Below w.heap.size w w'
theorem idle124 (p q r : Addr) (w : World) : CallsD Tryz.prog 124 #[.pointer (some p), .pointer (some q), .pointer (some r)] .returning w fun e u' w' => e = .returned (.tuple #[]) ∧ u' = .returning ∧ w' = w := by
  refine callsD_of_wpS Tryz.func124 rfl fun c₀ cs hu => ?_
  apply wpS_seq
  apply wpS_region
  simp [wpOpsS, go_sem, recoverD, hu, Tryz.ntmps124, Exit.thenS]
  refine wpS_of_wp ?_
  go_wp2
  cases c₀
  simp_all [bodyPostS, results, Tryz.results124]
theorem bad124 (bn bx be : Nat) (y : Hv) {B : Nat} {w0 w : World} {L : List Blk} (hp : Hp B w0 w (⟨bn, [.int .i64 0, .slice none 0 0, .int .i64 0, .int .i64 0, .int .i64 0, .int .i64 0, .int .i64 0, .slice none 0 0], 83, 8⟩ :: ⟨be, [.int .i64 0], 33, 1⟩ :: ⟨bx, hvL y, 83, 8⟩ :: L)) :
    CallsD Tryz.prog 124 #[.pointer (some ⟨bn, 0, none⟩), .pointer (some ⟨bx, 0, none⟩), .pointer (some ⟨be, 0, none⟩)] (.panicking badP) w fun e u' w' => e = .returned (.tuple #[]) ∧ u' = .panicking [{ v := .iface 137 (.agg #[]), recovered := true }] ∧ Hp B w0 w' (⟨bn, [.int .i64 0, .slice none 0 0, .int .i64 0, .int .i64 0, .int .i64 0, .int .i64 0, .int .i64 0, .slice none 0 0], 83, 8⟩ :: ⟨be, [.int .i64 60], 33, 1⟩ :: ⟨bx, [.int .i64 0, .slice none 0 0, .int .i64 0, .int .i64 0, .int .i64 0, .int .i64 0, .int .i64 0, .slice none 0 0], 83, 8⟩ :: L) := by
  obtain ⟨od, oa, os, oc, nx, t0, t1, t2, t3, fa, fs, fc⟩ := y
  simp only [hvL] at hp
  refine callsD_of_wpS Tryz.func124 rfl fun c₀ cs hu => ?_
  apply wpS_seq
  apply wpS_region
  simp [wpOpsS, go_sem, recoverD, hu, badP, Tryz.ntmps124, Exit.thenS]
  refine wpS_of_wp ?_
  change Code.wp Tryz.prog _ _ ⟨#[.pointer (some ⟨bn, 0, none⟩), .pointer (some ⟨bx, 0, none⟩), .pointer (some ⟨be, 0, none⟩), .iface 137 (.agg #[]), .iface 137 (.agg #[]), undef, undef, undef], []⟩ w
  go_wp2_with (first | go_skip | (first | (refine hA0 ?_; clear hp; intro b w1 hp) | refine hL0 ?_ | (refine hS0 ?_; clear hp; intro w1 hp)))
  simp [bodyPostS, results, Tryz.results124]
  exact hp
theorem reader4 {B : Nat} {w0 w : World} {x y z r : Blk} (hp : Hp B w0 w ([x, y, z] ++ [r])) : Hp B w0 w [r, x, y, z] := hp.kp
theorem reader_in {B : Nat} {w0 w : World} {br bi n c : Nat} {a : Option Addr} {x y z : Blk} (hp : Hp B w0 w [⟨bi, [.pointer (some ⟨br, 0, none⟩)], 115, 1⟩, ⟨br, [.slice a n c], 144, 1⟩, x, y, z]) : Hp B w0 w ([] ++ (Rb br a n c :: Ib bi br :: [x, y, z])) := (show Hp B w0 w [Ib bi br, Rb br a n c, x, y, z] from hp).kp
theorem leftq (br n c : Nat) (a : Option Addr) {B : Nat} {w0 w : World} {L : List Blk} (hp : Hp B w0 w (⟨br, [.slice a n c], 144, 1⟩ :: L)) : Calls Tryz.prog 102 #[.pointer (some ⟨br, 0, none⟩)] w fun e w' => e = .returned (.int .i64 n) ∧ w = w' := leftr102 br n c a hp
theorem reader_out {B : Nat} {w0 w : World} {r i x y z : Blk} {RO RF M : List Blk} (hp : Hp B w0 w (r :: i :: (RO ++ (RF ++ (M ++ [x, y, z]))))) : Hp B w0 w (r :: i :: x :: y :: z :: (RO ++ (RF ++ M))) := hp.kp
set_option maxRecDepth 100000 in
set_option maxHeartbeats 8000000 in
theorem wholeh103 (bs : List Nat) (a : Option Addr) (c : Nat) (hnc : bs.length ≤ c) (w : World) (ha : RdAt w a bs) :
    Calls Tryz.prog 103 #[.slice a bs.length c, .func (.func 104) #[] #[]] w (GetPost w (heapR bs)) := by
  have HA := Lib.hid ha
  have HNC := Lib.hid hnc
  have hp := Hp.start w
  clear ha hnc
  cases hr : heapR0 bs with
  | none =>
    have HE : RowKit.Hid (heapR bs = none) := Lib.hid (by unfold heapR wholeR; rw [hr])
    have HR := Lib.hid hr
    clear hr
    go_enter_defers Tryz.func103, Tryz.ntmps103
    go_wp2_with (first | (go_at_call 101; (with_reducible refine (newr101 _ _ _ _).mono ?_); rintro e w1 ⟨br, rfl, hp2⟩; replace hp := reader4 (hp.join hp2); clear hp2) | (go_at_call 104; have hst : RdSt w _ _ bs [] _ _ := ⟨a, c, HNC.out, HA.out, reader_in hp⟩; (with_reducible refine (inh104 _ _ bs hst).mono ?_); clear hst; clear hp; rintro e w1 hq; rw [HR.out] at hq; first | (obtain ⟨y, RO, RF, M, rfl, hy, hown, a2, c2, hl2, ha2, hp⟩ := hq; have HY := Lib.hid hy; have HW := Lib.hid hown; clear hy hown hl2 ha2; obtain ⟨od, oa, os, oc, nx, t0, t1, t2, t3, fa, fs, fc⟩ := y; simp only [List.nil_append, Rb, Ib] at hp; simp only [hvL]; replace hp := reader_out hp) | obtain ⟨rfl, hp⟩ := hq) | go_skip | (first | (refine hA0 ?_; clear hp; intro b w1 hp) | refine hL0 ?_ | (refine hS0 ?_; clear hp; intro w1 hp)))
    obtain ⟨b2, rfl⟩ := hp.id0; obtain ⟨b3, rfl⟩ := hp.id1; obtain ⟨b4, rfl⟩ := hp.id2; refine leaves_cons (f := 124) (args := #[.pointer (some ⟨b2, 0, none⟩), .pointer (some ⟨b4, 0, none⟩), .pointer (some ⟨b3, 0, none⟩)]) (by simp) (by simp [go_sem]) ?_
    refine (bad124 b2 b4 b3 zeroHv hp).mono ?_
    clear hp
    rintro e u' w'' ⟨rfl, rfl, hp⟩
    refine ⟨_, results_many (rs := [.cell 4 83, .cell 5 33]) Tryz.results103 (.cell rfl (hp.loadAgg agg83 at2 0 _ (by rfl) (by rfl)) (.cell rfl (hp.loadOne cell33 at1 0 _ (by rfl)) .nil)), ?_⟩
    rw [HE.out]
    exact ⟨rfl, hp.below⟩
  | some p =>
    obtain ⟨x, r⟩ := p
    have HR := Lib.hid hr
    by_cases h0 : r.length = 0
    · have HE : RowKit.Hid (heapR bs = some x) := Lib.hid (by unfold heapR wholeR; rw [hr]; simp only; rw [if_pos h0])
      have e0 : ((r.length : Int) == 0) = true := by simp [h0]
      clear hr h0
      go_enter_defers Tryz.func103, Tryz.ntmps103
      go_wp2_with (first | (go_at_call 101; (with_reducible refine (newr101 _ _ _ _).mono ?_); rintro e w1 ⟨br, rfl, hp2⟩; replace hp := reader4 (hp.join hp2); clear hp2) | (go_at_call 104; have hst : RdSt w _ _ bs [] _ _ := ⟨a, c, HNC.out, HA.out, reader_in hp⟩; (with_reducible refine (inh104 _ _ bs hst).mono ?_); clear hst; clear hp; rintro e w1 hq; rw [HR.out] at hq; first | (obtain ⟨y, RO, RF, M, rfl, hy, hown, a2, c2, hl2, ha2, hp⟩ := hq; have HY := Lib.hid hy; have HW := Lib.hid hown; clear hy hown hl2 ha2; obtain ⟨od, oa, os, oc, nx, t0, t1, t2, t3, fa, fs, fc⟩ := y; simp only [List.nil_append, Rb, Ib] at hp; simp only [hvL]; replace hp := reader_out hp) | obtain ⟨rfl, hp⟩ := hq) | (go_at_call 102; (with_reducible refine (leftq _ _ _ _ hp).mono ?_); rintro e w' ⟨rfl, rfl⟩) | (go_at_call 89; first | ((with_reducible refine (is89 _).mono ?_); rintro e w' ⟨rfl, rfl⟩) | ((with_reducible refine (is89_no _).mono ?_); rintro e w' ⟨rfl, rfl⟩)) | go_skip | (first | (refine hA0 ?_; clear hp; intro b w1 hp) | refine hL0 ?_ | (refine hS0 ?_; clear hp; intro w1 hp)))
      replace hp := hp.tail.tail
      obtain ⟨b2, rfl⟩ := hp.id0; obtain ⟨b3, rfl⟩ := hp.id1; obtain ⟨b4, rfl⟩ := hp.id2; refine leaves_cons (f := 124) (args := #[.pointer (some ⟨b2, 0, none⟩), .pointer (some ⟨b4, 0, none⟩), .pointer (some ⟨b3, 0, none⟩)]) (by simp) (by simp [go_sem]) ?_
      refine (idle124 _ _ _ _).mono ?_
      rintro e u' w'' ⟨rfl, rfl, rfl⟩
      refine ⟨_, results_many (rs := [.cell 4 83, .cell 5 33]) Tryz.results103 (.cell rfl (hp.loadAgg agg83 at2 0 _ (by rfl) (by rfl)) (.cell rfl (hp.loadOne cell33 at1 0 _ (by rfl)) .nil)), ?_⟩
      rw [HE.out]
      exact ⟨⟨od, oa, os, oc, nx, t0, t1, t2, t3, fa, fs, fc⟩, _, rfl, HY.out, ⟨RO, RF, M, rfl, HW.out⟩, hp.tail.tail.tail⟩
    · have HE : RowKit.Hid (heapR bs = none) := Lib.hid (by unfold heapR wholeR; rw [hr]; simp only; rw [if_neg h0])
      have e0 : ((r.length : Int) == 0) = false := beq_eq_false_iff_ne.2 (by omega)
      clear hr h0
      go_enter_defers Tryz.func103, Tryz.ntmps103
      go_wp2_with (first | (go_at_call 101; (with_reducible refine (newr101 _ _ _ _).mono ?_); rintro e w1 ⟨br, rfl, hp2⟩; replace hp := reader4 (hp.join hp2); clear hp2) | (go_at_call 104; have hst : RdSt w _ _ bs [] _ _ := ⟨a, c, HNC.out, HA.out, reader_in hp⟩; (with_reducible refine (inh104 _ _ bs hst).mono ?_); clear hst; clear hp; rintro e w1 hq; rw [HR.out] at hq; first | (obtain ⟨y, RO, RF, M, rfl, hy, hown, a2, c2, hl2, ha2, hp⟩ := hq; have HY := Lib.hid hy; have HW := Lib.hid hown; clear hy hown hl2 ha2; obtain ⟨od, oa, os, oc, nx, t0, t1, t2, t3, fa, fs, fc⟩ := y; simp only [List.nil_append, Rb, Ib] at hp; simp only [hvL]; replace hp := reader_out hp) | obtain ⟨rfl, hp⟩ := hq) | (go_at_call 102; (with_reducible refine (leftq _ _ _ _ hp).mono ?_); rintro e w' ⟨rfl, rfl⟩) | (go_at_call 89; first | ((with_reducible refine (is89 _).mono ?_); rintro e w' ⟨rfl, rfl⟩) | ((with_reducible refine (is89_no _).mono ?_); rintro e w' ⟨rfl, rfl⟩)) | go_skip | (first | (refine hA0 ?_; clear hp; intro b w1 hp) | refine hL0 ?_ | (refine hS0 ?_; clear hp; intro w1 hp)))
      replace hp := hp.tail.tail
      obtain ⟨b2, rfl⟩ := hp.id0; obtain ⟨b3, rfl⟩ := hp.id1; obtain ⟨b4, rfl⟩ := hp.id2; refine leaves_cons (f := 124) (args := #[.pointer (some ⟨b2, 0, none⟩), .pointer (some ⟨b4, 0, none⟩), .pointer (some ⟨b3, 0, none⟩)]) (by simp) (by simp [go_sem]) ?_
      refine (bad124 b2 b4 b3 ⟨od, oa, os, oc, nx, t0, t1, t2, t3, fa, fs, fc⟩ hp).mono ?_
      clear hp
      rintro e u' w'' ⟨rfl, rfl, hp⟩
      refine ⟨_, results_many (rs := [.cell 4 83, .cell 5 33]) Tryz.results103 (.cell rfl (hp.loadAgg agg83 at2 0 _ (by rfl) (by rfl)) (.cell rfl (hp.loadOne cell33 at1 0 _ (by rfl)) .nil)), ?_⟩
      rw [HE.out]
      exact ⟨rfl, hp.below⟩
set_option maxRecDepth 100000 in
set_option maxHeartbeats 8000000 in
theorem geth83 (bs : List Nat) (a : Option Addr) (c : Nat) (hnc : bs.length ≤ c) (w : World) (ha : RdAt w a bs) :
    Calls Tryz.prog 83 #[.slice a bs.length c] w (GetPost w (heapR bs)) := by
  have HA := Lib.hid ha
  have HNC := Lib.hid hnc
  have hp := Hp.start w
  clear ha hnc
  cases hr : heapR bs with
  | none =>
    have HR := Lib.hid hr
    clear hr
    go_enter Tryz.func83, Tryz.ntmps83
    go_wp2_with (first | (go_at_call 103; (with_reducible refine (wholeh103 bs a c HNC.out _ (HA.out.below hp.below)).mono ?_); rintro e w1 hq; rw [HR.out] at hq; first | (obtain ⟨y, R, rfl, hy, hown, hp2⟩ := hq; replace hp := hp.join hp2; have HY := Lib.hid hy; have HW := Lib.hid hown; clear hy hown hp2; obtain ⟨od, oa, os, oc, nx, t0, t1, t2, t3, fa, fs, fc⟩ := y; simp only [hvL, List.cons_append, List.nil_append] at hp ⊢) | (obtain ⟨rfl, hb⟩ := hq; replace hp := hp.call hb; clear hb; simp only [hvL, zeroHv])) | go_skip | (first | (refine hA0 ?_; clear hp; intro b w1 hp) | refine hL0 ?_ | (refine hS0 ?_; clear hp; intro w1 hp)))
    exact bodyPost_ret (results_many (rs := [.cell 2 83, .tmp 3]) Tryz.results83 (.cell rfl (hp.loadAgg agg83 at0 0 _ (by rfl) (by rfl)) (.tmp rfl .nil))) rfl ⟨rfl, hp.below⟩
  | some x =>
    have HR := Lib.hid hr
    clear hr
    go_enter Tryz.func83, Tryz.ntmps83
    go_wp2_with (first | (go_at_call 103; (with_reducible refine (wholeh103 bs a c HNC.out _ (HA.out.below hp.below)).mono ?_); rintro e w1 hq; rw [HR.out] at hq; first | (obtain ⟨y, R, rfl, hy, hown, hp2⟩ := hq; replace hp := hp.join hp2; have HY := Lib.hid hy; have HW := Lib.hid hown; clear hy hown hp2; obtain ⟨od, oa, os, oc, nx, t0, t1, t2, t3, fa, fs, fc⟩ := y; simp only [hvL, List.cons_append, List.nil_append] at hp ⊢) | (obtain ⟨rfl, hb⟩ := hq; replace hp := hp.call hb; clear hb; simp only [hvL, zeroHv])) | go_skip | (first | (refine hA0 ?_; clear hp; intro b w1 hp) | refine hL0 ?_ | (refine hS0 ?_; clear hp; intro w1 hp)))
    exact bodyPost_ret (results_many (rs := [.cell 2 83, .tmp 3]) Tryz.results83 (.cell rfl (hp.loadAgg agg83 at0 0 _ (by rfl) (by rfl)) (.tmp rfl .nil))) rfl ⟨⟨od, oa, os, oc, nx, t0, t1, t2, t3, fa, fs, fc⟩, R, rfl, HY.out, HW.out, hp.tail⟩
theorem got82 (y : Hv) (w : World) : Calls Tryz.prog 82 #[.agg (hvL y).toArray, .int .i64 0] w fun e w' => e = .returned (.agg (hvL y).toArray) ∧ Below w.heap.size w w' := by
  have hp := Hp.start w
  obtain ⟨od, oa, os, oc, nx, t0, t1, t2, t3, fa, fs, fc⟩ := y
  simp only [hvL]
  go_enter Tryz.func82, Tryz.ntmps82
  go_wp2_with (first | go_skip | (first | (refine hA0 ?_; clear hp; intro b w1 hp) | refine hL0 ?_ | (refine hS0 ?_; clear hp; intro w1 hp)))
  exact bodyPost_ret (results_one (rs := [.cell 4 83]) Tryz.results82 (.cell rfl (hp.loadAgg agg83 at0 0 _ (by rfl) (by rfl)) .nil)) rfl ⟨rfl, hp.below⟩
theorem got82_no (y : Hv) (w : World) : Calls Tryz.prog 82 #[.agg (hvL y).toArray, .int .i64 60] w fun e w' => e = .panicked badP ∧ Below w.heap.size w w' := by
  have hp := Hp.start w
  obtain ⟨od, oa, os, oc, nx, t0, t1, t2, t3, fa, fs, fc⟩ := y
  simp only [hvL]
  go_enter Tryz.func82, Tryz.ntmps82
  go_wp2_with (first | go_skip | (first | (refine hA0 ?_; clear hp; intro b w1 hp) | refine hL0 ?_ | (refine hS0 ?_; clear hp; intro w1 hp)))
  exact ⟨rfl, rfl, hp.below⟩
theorem below_bytes (w : World) (e : TypeId) (s : ByteArray) : Below w.heap.size w (Lib.bytesWorld w e s) :=
  ⟨rfl, rfl, rfl, by rw [Lib.bytesWorld_size]; omega, fun j hj => Lib.bytesWorld_at_old w e s j hj⟩
theorem rd_bytes (w : World) (e : TypeId) (s : ByteArray) : RdAt (Lib.bytesWorld w e s) (some ⟨w.heap.size, 0, none⟩) (strB s) := by
  refine ⟨fun j v hj => ⟨_, _, rfl, ?_⟩, strB_bytes s⟩
  rw [fl_by, List.getElem?_map] at hj
  have hjl : j < (strB s).length := by
    rcases Nat.lt_or_ge j (strB s).length with h | h
    · exact h
    · rw [List.getElem?_eq_none h] at hj; cases hj
  rw [List.getElem?_eq_getElem hjl] at hj
  injection hj with hj
  subst hj
  rw [Nat.zero_add, Lib.bytesWorld_cell w e s j (by rw [← strB_len]; exact hjl)]
  rw [strB_len] at hjl
  have h2 : j < s.data.size := hjl
  simp [strB, List.getD]
  rw [Array.getElem?_eq_getElem h2]; rfl
section
variable {P : Program} {ops : Array Oper} {rest : List Oper} {o : Oper} {a : Act} {w : World} {Q : Exit → Act → World → Prop} {w0 : World} {L : List Blk}
theorem wpList_convB {B : Nat} (hp : Hp B w0 w L) (src dst e : TypeId) (x : Operand) (ho : o.op = .convert src dst x) (hw : Region.wanted o (yielded ops a.tmps) = true) (hs : P.underlying src = some .string) (hd : P.underlying dst = some (.slice e)) (he : P.underlying e = some (.int .u8))
    (s : ByteArray) (hx : a.eval x = .string s) (h : ∀ ad c w', s.size ≤ c → RdAt w' ad (strB s) → Hp B w0 w' L → wpList P ops Q rest (a.put o.dst (.slice ad s.size c)) w') : wpList P ops Q (o :: rest) a w := by
  refine BigFrame.wpList_want hw fun K hK => ?_
  unfold Oper.wp execOp
  have hr := Lib.run_convert_string_bytes (P := P) w src dst e s hs hd he
  simp only [ho, hx, Sem.run_bind, hr, Result.andThen_ok, Sem.run_pure]
  exact hK _ _ (h _ _ _ (grownCap_ge w s.size 0 e) (rd_bytes w e s) (hp.call (below_bytes w e s)))
end
end Go.Proofs.YtcjbepaclbhjaaaGreat
/- The walks of May of entries, the program's and the document's. -/
namespace Go.Proofs.YtcjbepaclbhjaaaGreat
open Go.RowKit
def inM (n lo hi : Int) : Bool := decide (lo ≤ n) && decide (n ≤ hi)
structure Opv where
  k : Int
  h : Int
  i : Int
  n : Int
  m : Int
  v : Int
  t : Int
  deriving DecidableEq
structure Env where
  nu : Int
  vi : Int
  cl : Int
  sq : Int
  op : Opv
def opL (o : Opv) : List Value := [.int .i64 o.k, .int .i64 o.h, .int .i64 o.i, .int .i64 o.n, .int .i64 o.m, .int .i64 o.v, .int .i64 o.t]
def envL (e : Env) : List Value := [.int .i64 e.nu, .int .i64 e.vi, .int .i64 e.cl, .int .i64 e.sq] ++ opL e.op
def op0 : Opv := ⟨0, 0, 0, 0, 0, 0, 0⟩
def mayE (e : Env) : Bool := inM e.nu 1 900000000 && inM e.vi 0 900000000 && (if e.cl = 0 then decide (e.sq = 0) && decide (e.op = op0) else inM e.cl 1 4 && inM e.sq 1 1000000)
theorem within64 (n lo hi : Int) (w : World) : Calls Tryz.prog 64 #[.int .i64 n, .int .i64 lo, .int .i64 hi] w fun e w' => e = .returned (.bool (inM n lo hi)) ∧ w = w' := by
  go_enter Tryz.func64, Tryz.ntmps64
  go_wp2
  all_goals go_ret
  all_goals refine ⟨ret_bool ?_, rfl⟩
  all_goals (simp [inM, *]; try omega)
theorem within65 (n lo hi : Int) (w : World) : Calls Tryz.prog 65 #[.int .i64 n, .int .i64 lo, .int .i64 hi] w fun e w' => e = .returned (.bool (inM n lo hi)) ∧ w = w' := by
  go_enter Tryz.func65, Tryz.ntmps65
  go_wp2
  all_goals go_ret
  all_goals refine ⟨ret_bool ?_, rfl⟩
  all_goals (simp [inM, *]; try omega)
theorem may_ways (e : Env) : (inM e.nu 1 900000000 = false ∧ (e.cl == 0) = true ∧ mayE e = false) ∨ (inM e.nu 1 900000000 = false ∧ (e.cl == 0) = false ∧ mayE e = false) ∨
    (inM e.nu 1 900000000 = true ∧ inM e.vi 0 900000000 = false ∧ (e.cl == 0) = true ∧ mayE e = false) ∨ (inM e.nu 1 900000000 = true ∧ inM e.vi 0 900000000 = false ∧ (e.cl == 0) = false ∧ mayE e = false) ∨
    (inM e.nu 1 900000000 = true ∧ inM e.vi 0 900000000 = true ∧ (e.cl == 0) = true ∧ (e.sq == 0) = false ∧ mayE e = false) ∨
    (inM e.nu 1 900000000 = true ∧ inM e.vi 0 900000000 = true ∧ (e.cl == 0) = true ∧ (e.sq == 0) = true ∧ mayE e = decide (e.op = op0)) ∨
    (inM e.nu 1 900000000 = true ∧ inM e.vi 0 900000000 = true ∧ (e.cl == 0) = false ∧ inM e.cl 1 4 = false ∧ mayE e = false) ∨
    (inM e.nu 1 900000000 = true ∧ inM e.vi 0 900000000 = true ∧ (e.cl == 0) = false ∧ inM e.cl 1 4 = true ∧ mayE e = inM e.sq 1 1000000) := by
  unfold mayE
  by_cases hc : e.cl = 0 <;> by_cases hs : e.sq = 0 <;> simp only [hc, hs, if_true, if_false, beq_self_eq_true, decide_true, decide_false, Bool.true_and, Bool.false_and, Bool.and_false] <;> cases inM e.nu 1 900000000 <;> cases inM e.vi 0 900000000 <;> simp [hc, hs] <;> (try cases inM e.cl 1 4) <;> simp
set_option maxRecDepth 100000 in
set_option maxHeartbeats 8000000 in
theorem may35 (e : Env) (w : World) : Calls Tryz.prog 35 #[.agg (envL e).toArray] w fun x w' => x = .returned (.bool (mayE e)) ∧ Below w.heap.size w w' := by
  have hp := Hp.start w
  have H := may_ways e
  generalize hm : mayE e = r at H
  clear hm
  obtain ⟨nu, vi, cl, sq, ⟨k, h, i, n, m, v, t⟩⟩ := e
  simp only at H
  simp only [envL, opL, List.cons_append, List.nil_append]
  have k1 := within64 nu 1 900000000
  have k2 := within64 vi 0 900000000
  have k3 := within64 cl 1 4
  have k4 := within64 sq 1 1000000
  rcases H with ⟨a1, a2, a3⟩ | ⟨a1, a2, a3⟩ | ⟨a1, a2, a3, a4⟩ | ⟨a1, a2, a3, a4⟩ | ⟨a1, a2, a3, a4, a5⟩ | ⟨a1, a2, a3, a4, a5⟩ | ⟨a1, a2, a3, a4, a5⟩ | ⟨a1, a2, a3, a4, a5⟩
  all_goals
    try rw [a1] at k1
    try rw [a2] at k2
    try rw [a4] at k3
    have K1 := Lib.hid k1
    have K2 := Lib.hid k2
    have K3 := Lib.hid k3
    have K4 := Lib.hid k4
    clear k1 k2 k3 k4
    subst r
    go_enter Tryz.func35, Tryz.ntmps35
    go_wp2_with (first | (go_at_call 64; (first | (with_reducible refine (K1.out _).mono ?_) | (with_reducible refine (K2.out _).mono ?_) | (with_reducible refine (K3.out _).mono ?_) | (with_reducible refine (K4.out _).mono ?_)); rintro e w' ⟨rfl, rfl⟩) | go_skip | (first | (refine hA1 ?_; clear hp; intro b w1 hp) | refine hL2 ?_ | (refine hS1 ?_; clear hp; intro w1 hp)))
    all_goals go_ret
  all_goals first
    | exact ⟨rfl, hp.below⟩
    | exact ⟨Eq.trans (b := Ending.returned (.bool true)) rfl (ret_bool (by simp [op0, *])), hp.below⟩
    | exact ⟨Eq.trans (b := Value.bool true) rfl (congrArg Value.bool (by simp [op0, *])), hp.below⟩
    | exact ⟨Eq.trans (b := Ending.returned (.bool false)) rfl (ret_bool (by simp [op0, *])), hp.below⟩
    | exact ⟨Eq.trans (b := Value.bool false) rfl (congrArg Value.bool (by simp [op0, *])), hp.below⟩
set_option maxRecDepth 100000 in
set_option maxHeartbeats 8000000 in
theorem may38 (e : Env) (w : World) : Calls Tryz.prog 38 #[.agg (envL e).toArray] w fun x w' => x = .returned (.bool (mayE e)) ∧ Below w.heap.size w w' := by
  have hp := Hp.start w
  have H := may_ways e
  generalize hm : mayE e = r at H
  clear hm
  obtain ⟨nu, vi, cl, sq, ⟨k, h, i, n, m, v, t⟩⟩ := e
  simp only at H
  simp only [envL, opL, List.cons_append, List.nil_append]
  have k1 := within65 nu 1 900000000
  have k2 := within65 vi 0 900000000
  have k3 := within65 cl 1 4
  have k4 := within65 sq 1 1000000
  rcases H with ⟨a1, a2, a3⟩ | ⟨a1, a2, a3⟩ | ⟨a1, a2, a3, a4⟩ | ⟨a1, a2, a3, a4⟩ | ⟨a1, a2, a3, a4, a5⟩ | ⟨a1, a2, a3, a4, a5⟩ | ⟨a1, a2, a3, a4, a5⟩ | ⟨a1, a2, a3, a4, a5⟩
  all_goals
    try rw [a1] at k1
    try rw [a2] at k2
    try rw [a4] at k3
    have K1 := Lib.hid k1
    have K2 := Lib.hid k2
    have K3 := Lib.hid k3
    have K4 := Lib.hid k4
    clear k1 k2 k3 k4
    subst r
    go_enter Tryz.func38, Tryz.ntmps38
    go_wp2_with (first | (go_at_call 65; (first | (with_reducible refine (K1.out _).mono ?_) | (with_reducible refine (K2.out _).mono ?_) | (with_reducible refine (K3.out _).mono ?_) | (with_reducible refine (K4.out _).mono ?_)); rintro e w' ⟨rfl, rfl⟩) | go_skip | (first | (refine hA1 ?_; clear hp; intro b w1 hp) | refine hL2 ?_ | (refine hS1 ?_; clear hp; intro w1 hp)))
    all_goals go_ret
  all_goals first
    | exact ⟨rfl, hp.below⟩
    | exact ⟨Eq.trans (b := Ending.returned (.bool true)) rfl (ret_bool (by simp [op0, *])), hp.below⟩
    | exact ⟨Eq.trans (b := Value.bool true) rfl (congrArg Value.bool (by simp [op0, *])), hp.below⟩
    | exact ⟨Eq.trans (b := Ending.returned (.bool false)) rfl (ret_bool (by simp [op0, *])), hp.below⟩
    | exact ⟨Eq.trans (b := Value.bool false) rfl (congrArg Value.bool (by simp [op0, *])), hp.below⟩
end Go.Proofs.YtcjbepaclbhjaaaGreat
/- The walk of table.Apply: what an entry makes of a state. -/
namespace Go.Proofs.YtcjbepaclbhjaaaGreat
open Go.RowKit
def SvO (y : Sv) (R : List Blk) : Prop := ∃ RR RH, R = RR ++ RH ∧ OwnRow 121 4 (.slice y.ra y.rs.length y.rc) y.rs.length (y.rs.flatMap rwV) RR ∧ HvO y.hv RH
def zeroSv : Sv := ⟨zeroHv, none, [], 0⟩
noncomputable def applyP (x : Sv) (e : Env) : Sv × Int × Int := if stB x = true ∧ mayE e = true then applyC x e.cl e.sq ⟨e.op.k, e.op.h, e.op.i, e.op.n, e.op.m, e.op.v, e.op.t⟩ else (zeroSv, 1, 0)
theorem may_lit (nu vi cl sq kk hh ii nn cc vv tt : Int) (b : Bool) (hb : mayE ⟨nu, vi, cl, sq, ⟨kk, hh, ii, nn, cc, vv, tt⟩⟩ = b) (w : World) : Calls Tryz.prog 35 #[.agg #[.int .i64 nu, .int .i64 vi, .int .i64 cl, .int .i64 sq, .int .i64 kk, .int .i64 hh, .int .i64 ii, .int .i64 nn, .int .i64 cc, .int .i64 vv, .int .i64 tt]] w fun x w' => x = .returned (.bool b) ∧ Below w.heap.size w w' := hb ▸ may35 ⟨nu, vi, cl, sq, ⟨kk, hh, ii, nn, cc, vv, tt⟩⟩ w
end Go.Proofs.YtcjbepaclbhjaaaGreat
