/- Parts of the proof. -/
import Derived.Test.YtcjbepaclbhjaaaGreatCj2
import Derived.Test.YtcjbepaclbhjaaaGreatCj11
import Derived.Test.YtcjbepaclbhjaaaGreatCj1
import Derived.Test.YtcjbepaclbhjaaaGreatCj0
open List renaming set_cons_zero → zSet, set_cons_succ → sSet
/- The walks of May of entries, the program's and the document's. -/
set_option linter.unusedSimpArgs false
set_option linter.unusedVariables false
namespace Go.Proofs.YtcjbepaclbhjaaaGreat
open Go.RowKit
theorem agg47 : aggB Tryz.prog 47 11 = true := by kernel_rfl
theorem zero47 : zeroL Tryz.prog 47 = some ([.int .i64 0, .int .i64 0, .int .i64 0, .int .i64 0, .int .i64 0, .int .i64 0, .int .i64 0, .int .i64 0, .int .i64 0, .int .i64 0, .int .i64 0], 11) := by kernel_rfl
def inM (n lo hi : Int) : Bool := decide (lo ≤ n) && decide (n ≤ hi)
structure Opv where
  k : Int
  h : Int
  i : Int
  n : Int
  m : Int
  v : Int
  t : Int
  deriving DecidableEq
structure Env where
  nu : Int
  vi : Int
  cl : Int
  sq : Int
  op : Opv
def opL (o : Opv) : List Value := [.int .i64 o.k, .int .i64 o.h, .int .i64 o.i, .int .i64 o.n, .int .i64 o.m, .int .i64 o.v, .int .i64 o.t]
def envL (e : Env) : List Value := [.int .i64 e.nu, .int .i64 e.vi, .int .i64 e.cl, .int .i64 e.sq] ++ opL e.op
def op0 : Opv := ⟨0, 0, 0, 0, 0, 0, 0⟩
def mayE (e : Env) : Bool := inM e.nu 1 900000000 && inM e.vi 0 900000000 && (if e.cl = 0 then decide (e.sq = 0) && decide (e.op = op0) else inM e.cl 1 4 && inM e.sq 1 1000000)
theorem within64 (n lo hi : Int) (w : World) : Calls Tryz.prog 64 #[.int .i64 n, .int .i64 lo, .int .i64 hi] w fun e w' => e = .returned (.bool (inM n lo hi)) ∧ w = w' := by
  go_enter Tryz.func64, Tryz.ntmps64
  go_wp2
  all_goals go_ret
  all_goals refine ⟨ret_bool ?_, rfl⟩
  all_goals (simp [inM, *]; try omega)
theorem may_ways (e : Env) : (inM e.nu 1 900000000 = false ∧ (e.cl == 0) = true ∧ mayE e = false) ∨ (inM e.nu 1 900000000 = false ∧ (e.cl == 0) = false ∧ mayE e = false) ∨
    (inM e.nu 1 900000000 = true ∧ inM e.vi 0 900000000 = false ∧ (e.cl == 0) = true ∧ mayE e = false) ∨ (inM e.nu 1 900000000 = true ∧ inM e.vi 0 900000000 = false ∧ (e.cl == 0) = false ∧ mayE e = false) ∨
    (inM e.nu 1 900000000 = true ∧ inM e.vi 0 900000000 = true ∧ (e.cl == 0) = true ∧ (e.sq == 0) = false ∧ mayE e = false) ∨
    (inM e.nu 1 900000000 = true ∧ inM e.vi 0 900000000 = true ∧ (e.cl == 0) = true ∧ (e.sq == 0) = true ∧ mayE e = decide (e.op = op0)) ∨
    (inM e.nu 1 900000000 = true ∧ inM e.vi 0 900000000 = true ∧ (e.cl == 0) = false ∧ inM e.cl 1 4 = false ∧ mayE e = false) ∨
    (inM e.nu 1 900000000 = true ∧ inM e.vi 0 900000000 = true ∧ (e.cl == 0) = false ∧ inM e.cl 1 4 = true ∧ mayE e = inM e.sq 1 1000000) := by
  unfold mayE
  by_cases hc : e.cl = 0 <;> by_cases hs : e.sq = 0 <;> simp only [hc, hs, if_true, if_false, beq_self_eq_true, decide_true, decide_false, Bool.true_and, Bool.false_and, Bool.and_false] <;> cases inM e.nu 1 900000000 <;> cases inM e.vi 0 900000000 <;> simp [hc, hs] <;> (try cases inM e.cl 1 4) <;> simp
set_option maxRecDepth 100000 in
set_option maxHeartbeats 8000000 in
theorem may35 (e : Env) (w : World) : Calls Tryz.prog 35 #[.agg (envL e).toArray] w fun x w' => x = .returned (.bool (mayE e)) ∧ Below w.heap.size w w' := by
  have hp := Hp.start w
  have H := may_ways e
  generalize hm : mayE e = r at H
  clear hm
  obtain ⟨nu, vi, cl, sq, ⟨k, h, i, n, m, v, t⟩⟩ := e
  simp only at H
  simp only [envL, opL, List.cons_append, List.nil_append]
  have k1 := within64 nu 1 900000000
  have k2 := within64 vi 0 900000000
  have k3 := within64 cl 1 4
  have k4 := within64 sq 1 1000000
  rcases H with ⟨a1, a2, a3⟩ | ⟨a1, a2, a3⟩ | ⟨a1, a2, a3, a4⟩ | ⟨a1, a2, a3, a4⟩ | ⟨a1, a2, a3, a4, a5⟩ | ⟨a1, a2, a3, a4, a5⟩ | ⟨a1, a2, a3, a4, a5⟩ | ⟨a1, a2, a3, a4, a5⟩
  all_goals
    try rw [a1] at k1
    try rw [a2] at k2
    try rw [a4] at k3
    have K1 := Lib.hid k1
    have K2 := Lib.hid k2
    have K3 := Lib.hid k3
    have K4 := Lib.hid k4
    clear k1 k2 k3 k4
    subst r
    go_enter Tryz.func35, Tryz.ntmps35
    go_wp2_with (first | (go_at_call 64; (first | (with_reducible refine (K1.out _).mono ?_) | (with_reducible refine (K2.out _).mono ?_) | (with_reducible refine (K3.out _).mono ?_) | (with_reducible refine (K4.out _).mono ?_)); rintro e w' ⟨rfl, rfl⟩) | go_skip | ((first | ((with_reducible refine pre_alloc _ rfl ?_); refine lZ hp rfl zero47 ?_; clear hp; intro b w1 hp) | ((with_reducible refine pre_box _ _ rfl ?_); refine lB hp rfl (sTm rfl) rfl ?_; clear hp; intro b w1 hp) | ((with_reducible refine pre_load _ _ rfl ?_); first | refine lO hp rfl (sTm rfl) (by with_reducible first | exact cell3 | exact cell4) aa14 ?_ | refine lA hp rfl (sTm rfl) (by with_reducible first | exact agg47 | exact agg45) aa14 ?_) | ((with_reducible refine pre_store _ _ _ rfl ?_); (first | refine sO hp rfl (sTm rfl) (by with_reducible first | exact cell3 | exact cell4) aa14 ?_ | refine sA hp rfl (sTm rfl) (sTm rfl) (by with_reducible first | exact agg47 | exact agg45) aa14 ?_ | refine sG hp rfl (sTm rfl) (sTm rfl) (by with_reducible first | exact agg47 | exact agg45) aa14 ?_); clear hp; intro w1 hp; simp only [spl, zSet, sSet] at hp)); simp only [put_some, put_none, sSet, zSet]))
    all_goals go_ret
  all_goals first
    | exact ⟨rfl, hp.below⟩
    | exact ⟨Eq.trans (b := Ending.returned (.bool true)) rfl (ret_bool (by simp [op0, *])), hp.below⟩
    | exact ⟨Eq.trans (b := Value.bool true) rfl (congrArg Value.bool (by simp [op0, *])), hp.below⟩
    | exact ⟨Eq.trans (b := Ending.returned (.bool false)) rfl (ret_bool (by simp [op0, *])), hp.below⟩
    | exact ⟨Eq.trans (b := Value.bool false) rfl (congrArg Value.bool (by simp [op0, *])), hp.below⟩
end Go.Proofs.YtcjbepaclbhjaaaGreat
/- The walk of table.Apply: what an entry makes of a state. -/
namespace Go.Proofs.YtcjbepaclbhjaaaGreat
open Go.RowKit
def SvO (y : Sv) (R : List Blk) : Prop := ∃ RR RH, R = RR ++ RH ∧ OwnRow 121 4 (.slice y.ra y.rs.length y.rc) y.rs.length (y.rs.flatMap rwV) RR ∧ HvO y.hv RH
def zeroSv : Sv := ⟨zeroHv, none, [], 0⟩
theorem may_lit (nu vi cl sq kk hh ii nn cc vv tt : Int) (b : Bool) (hb : mayE ⟨nu, vi, cl, sq, ⟨kk, hh, ii, nn, cc, vv, tt⟩⟩ = b) (w : World) : Calls Tryz.prog 35 #[.agg #[.int .i64 nu, .int .i64 vi, .int .i64 cl, .int .i64 sq, .int .i64 kk, .int .i64 hh, .int .i64 ii, .int .i64 nn, .int .i64 cc, .int .i64 vv, .int .i64 tt]] w fun x w' => x = .returned (.bool b) ∧ Below w.heap.size w w' := hb ▸ may35 ⟨nu, vi, cl, sq, ⟨kk, hh, ii, nn, cc, vv, tt⟩⟩ w
end Go.Proofs.YtcjbepaclbhjaaaGreat
