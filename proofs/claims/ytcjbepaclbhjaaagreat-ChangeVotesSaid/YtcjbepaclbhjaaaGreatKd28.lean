/- Parts of the proof. -/
import Derived.Test.YtcjbepaclbhjaaaGreatKd1
import Derived.Test.YtcjbepaclbhjaaaGreatKd27
open List renaming set_cons_zero → zSet, set_cons_succ → sSet
/- The walks of Add's closures, and of IndexFunc of votes (written by mkcv.py). -/
set_option linter.unusedSimpArgs false
set_option linter.unusedVariables false
namespace Go.Proofs.YtcjbepaclbhjaaaGreat
open Go.RowKit
def IdxV (p : Vt → Bool) (l : List Vt) (r : Int) : Prop := (r = -1 ∧ ∀ (i : Nat) y, l[i]? = some y → p y = false) ∨ ∃ (m : Nat) (x : Vt), r = m ∧ l[m]? = some x ∧ p x = true ∧ ∀ (i : Nat) y, i < m → l[i]? = some y → p y = false
def IdxVPost (w : World) (p : Vt → Bool) (l : List Vt) (e : Ending) (w' : World) : Prop := ∃ r : Int, e = .returned (.int .i64 r) ∧ IdxV p l r ∧ Below w.heap.size w w'
def eqN (n : Int) (x : Vt) : Bool := x.nd == n
def gtN (n : Int) (x : Vt) : Bool := decide (n < x.nd)
set_option maxRecDepth 100000 in
set_option maxHeartbeats 4000000 in
theorem cl41 (nd nm bs nu cm : Int) (va : Option Addr) (n2 vc : Nat) (c : Int) (b : Nat) (w : World) (hb : b < w.heap.size) (hc : w.cell? ⟨b, 0, none⟩ = some (.int .i64 c)) (r : Bool) (hr : (nd == c) = r) :
    Calls Tryz.prog 41 #[.agg #[.int .i64 nd, .int .i64 nm, .int .i64 bs, .int .i64 nu, .int .i64 cm, .slice va n2 vc], .pointer (some ⟨b, 0, none⟩)] w fun e w' => e = .returned (.bool r) ∧ Below w.heap.size w w' := by
  subst hr
  have hp := Hp.start w
  have HC := Lib.hid hc
  clear hc
  go_enter Tryz.func41, Tryz.ntmps41
  go_wp2_with (first | go_skip | (first | (refine hA1 ?_; clear hp; intro b w1 hp) | refine hL0 ?_ | (refine hS0 ?_; clear hp; intro w1 hp)) | (refine hL15 ?_))
  go_ret
  exact ⟨rfl, hp.below⟩
set_option maxRecDepth 100000 in
set_option maxHeartbeats 4000000 in
theorem idx42_e (l : List Vt) (a : Option Addr) (k : Nat) (hl : l.length ≤ 1000) (c : Int) (bc : Nat) (w : World) (ha : RowIs w a (l.flatMap vtV)) (hbc : bc < w.heap.size) (hcc : w.cell? ⟨bc, 0, none⟩ = some (.int .i64 c)) :
    Calls Tryz.prog 42 #[.slice a l.length k, .func (.func 41) #[] #[.pointer (some ⟨bc, 0, none⟩)]] w (IdxVPost w (eqN c) l) := by
  have hp := Hp.start w
  have HA := Lib.hid ha
  have HC := Lib.hid hcc
  clear ha hcc
  go_enter Tryz.func42, Tryz.ntmps42
  go_wp2_with (first | go_skip | (first | (refine hA1 ?_; clear hp; intro b w1 hp) | refine hL0 ?_ | (refine hS0 ?_; clear hp; intro w1 hp)))
  go_loopg [8] l.length (fun k i wr => ∃ j : Nat, k + j = l.length ∧ i = .int .i64 j ∧ RowKit.Hid (∀ (i : Nat) y, i < j → l[i]? = some y → eqN c y = false) ∧ Hp w.heap.size w wr [])
  case atStart => exact ⟨0, by omega, rfl, Lib.hid (fun i y h => by omega), hp⟩
  case round =>
    clear hp
    obtain ⟨j, hkj, rfl, HNO, hp⟩ := hrel
    by_cases hlt : j < l.length
    · obtain ⟨bq, off, rfl, hx⟩ := HA.out.elems 6 vtV_len (by omega) (by omega)
      have hj := List.getElem?_eq_getElem hlt
      replace hx := hx j _ hj
      have HJ := Lib.hid hj
      clear hj
      generalize l[j] = y at hx HJ
      have e1 : (0 : Int) ≤ (j : Int) := by omega
      have e2 : (j : Int) < (l.length : Int) := by omega
      cases hpy : eqN c y with
      | true =>
        have HPY := Lib.hid hpy
        obtain ⟨nd, nm, bs, nu, cm, va, es, vc⟩ := y
        have HXC : RowKit.Hid ((nd == c) = true) := Lib.hid hpy
        simp only [vtV] at hx
        have HX := Lib.hid hx
        clear hx hpy
        go_wp2_with (first | (go_at_call 41; (with_reducible refine (cl41 nd nm bs nu cm va es.length vc c bc _ (by have := hp.below.size; omega) ((hp.below.cell (p := ⟨bc, 0, none⟩) hbc).trans HC.out) _ HXC.out).mono ?_); rintro e w1 ⟨rfl, hb⟩; replace hp := hp.call hb; clear hb) | go_skip | (first | (refine hA1 ?_; clear hp; intro b w1 hp) | refine hL11 ?_ | (refine hS0 ?_; clear hp; intro w1 hp)))
        go_ret
        exact ⟨_, rfl, .inr ⟨j, _, rfl, HJ.out, HPY.out, HNO.out⟩, hp.below⟩
      | false =>
        have HPY := Lib.hid hpy
        obtain ⟨nd, nm, bs, nu, cm, va, es, vc⟩ := y
        have HXC : RowKit.Hid ((nd == c) = false) := Lib.hid hpy
        simp only [vtV] at hx
        have HX := Lib.hid hx
        clear hx hpy
        go_wp2_with (first | (go_at_call 41; (with_reducible refine (cl41 nd nm bs nu cm va es.length vc c bc _ (by have := hp.below.size; omega) ((hp.below.cell (p := ⟨bc, 0, none⟩) hbc).trans HC.out) _ HXC.out).mono ?_); rintro e w1 ⟨rfl, hb⟩; replace hp := hp.call hb; clear hb) | go_skip | (first | (refine hA1 ?_; clear hp; intro b w1 hp) | refine hL11 ?_ | (refine hS0 ?_; clear hp; intro w1 hp)))
        go_roundg (gk - 1)
        case measure => omega
        case rel => exact ⟨j + 1, by omega, by go_num, Lib.hid (fun i y hi hy => by
          rcases Nat.lt_or_ge i j with h | h
          · exact HNO.out i y h hy
          · obtain rfl : i = j := by omega
            rw [HJ.out] at hy; injection hy with hy; rw [← hy]; exact HPY.out), hp⟩
    · have e2 : decide ((j : Int) < (l.length : Int)) = false := by simp; omega
      go_wp2_with (first | go_skip | (first | (refine hA1 ?_; clear hp; intro b w1 hp) | refine hL0 ?_ | (refine hS0 ?_; clear hp; intro w1 hp)))
      go_ret
      exact ⟨-1, rfl, .inl ⟨rfl, fun i y hy => HNO.out i y (by have := (List.getElem?_eq_some_iff.1 hy).1; omega) hy⟩, hp.below⟩
set_option maxRecDepth 100000 in
set_option maxHeartbeats 4000000 in
theorem cl43 (nd nm bs nu cm : Int) (va : Option Addr) (n2 vc : Nat) (c : Int) (b : Nat) (w : World) (hb : b < w.heap.size) (hc : w.cell? ⟨b, 0, none⟩ = some (.int .i64 c)) (r : Bool) (hr : decide (c < nd) = r) :
    Calls Tryz.prog 43 #[.agg #[.int .i64 nd, .int .i64 nm, .int .i64 bs, .int .i64 nu, .int .i64 cm, .slice va n2 vc], .pointer (some ⟨b, 0, none⟩)] w fun e w' => e = .returned (.bool r) ∧ Below w.heap.size w w' := by
  subst hr
  have hp := Hp.start w
  have HC := Lib.hid hc
  clear hc
  go_enter Tryz.func43, Tryz.ntmps43
  go_wp2_with (first | go_skip | (first | (refine hA1 ?_; clear hp; intro b w1 hp) | refine hL0 ?_ | (refine hS0 ?_; clear hp; intro w1 hp)) | (refine hL15 ?_))
  go_ret
  exact ⟨rfl, hp.below⟩
set_option maxRecDepth 100000 in
set_option maxHeartbeats 4000000 in
theorem idx42_g (l : List Vt) (a : Option Addr) (k : Nat) (hl : l.length ≤ 1000) (c : Int) (bc : Nat) (w : World) (ha : RowIs w a (l.flatMap vtV)) (hbc : bc < w.heap.size) (hcc : w.cell? ⟨bc, 0, none⟩ = some (.int .i64 c)) :
    Calls Tryz.prog 42 #[.slice a l.length k, .func (.func 43) #[] #[.pointer (some ⟨bc, 0, none⟩)]] w (IdxVPost w (gtN c) l) := by
  have hp := Hp.start w
  have HA := Lib.hid ha
  have HC := Lib.hid hcc
  clear ha hcc
  go_enter Tryz.func42, Tryz.ntmps42
  go_wp2_with (first | go_skip | (first | (refine hA1 ?_; clear hp; intro b w1 hp) | refine hL0 ?_ | (refine hS0 ?_; clear hp; intro w1 hp)))
  go_loopg [8] l.length (fun k i wr => ∃ j : Nat, k + j = l.length ∧ i = .int .i64 j ∧ RowKit.Hid (∀ (i : Nat) y, i < j → l[i]? = some y → gtN c y = false) ∧ Hp w.heap.size w wr [])
  case atStart => exact ⟨0, by omega, rfl, Lib.hid (fun i y h => by omega), hp⟩
  case round =>
    clear hp
    obtain ⟨j, hkj, rfl, HNO, hp⟩ := hrel
    by_cases hlt : j < l.length
    · obtain ⟨bq, off, rfl, hx⟩ := HA.out.elems 6 vtV_len (by omega) (by omega)
      have hj := List.getElem?_eq_getElem hlt
      replace hx := hx j _ hj
      have HJ := Lib.hid hj
      clear hj
      generalize l[j] = y at hx HJ
      have e1 : (0 : Int) ≤ (j : Int) := by omega
      have e2 : (j : Int) < (l.length : Int) := by omega
      cases hpy : gtN c y with
      | true =>
        have HPY := Lib.hid hpy
        obtain ⟨nd, nm, bs, nu, cm, va, es, vc⟩ := y
        have HXC : RowKit.Hid (decide (c < nd) = true) := Lib.hid hpy
        simp only [vtV] at hx
        have HX := Lib.hid hx
        clear hx hpy
        go_wp2_with (first | (go_at_call 43; (with_reducible refine (cl43 nd nm bs nu cm va es.length vc c bc _ (by have := hp.below.size; omega) ((hp.below.cell (p := ⟨bc, 0, none⟩) hbc).trans HC.out) _ HXC.out).mono ?_); rintro e w1 ⟨rfl, hb⟩; replace hp := hp.call hb; clear hb) | go_skip | (first | (refine hA1 ?_; clear hp; intro b w1 hp) | refine hL11 ?_ | (refine hS0 ?_; clear hp; intro w1 hp)))
        go_ret
        exact ⟨_, rfl, .inr ⟨j, _, rfl, HJ.out, HPY.out, HNO.out⟩, hp.below⟩
      | false =>
        have HPY := Lib.hid hpy
        obtain ⟨nd, nm, bs, nu, cm, va, es, vc⟩ := y
        have HXC : RowKit.Hid (decide (c < nd) = false) := Lib.hid hpy
        simp only [vtV] at hx
        have HX := Lib.hid hx
        clear hx hpy
        go_wp2_with (first | (go_at_call 43; (with_reducible refine (cl43 nd nm bs nu cm va es.length vc c bc _ (by have := hp.below.size; omega) ((hp.below.cell (p := ⟨bc, 0, none⟩) hbc).trans HC.out) _ HXC.out).mono ?_); rintro e w1 ⟨rfl, hb⟩; replace hp := hp.call hb; clear hb) | go_skip | (first | (refine hA1 ?_; clear hp; intro b w1 hp) | refine hL11 ?_ | (refine hS0 ?_; clear hp; intro w1 hp)))
        go_roundg (gk - 1)
        case measure => omega
        case rel => exact ⟨j + 1, by omega, by go_num, Lib.hid (fun i y hi hy => by
          rcases Nat.lt_or_ge i j with h | h
          · exact HNO.out i y h hy
          · obtain rfl : i = j := by omega
            rw [HJ.out] at hy; injection hy with hy; rw [← hy]; exact HPY.out), hp⟩
    · have e2 : decide ((j : Int) < (l.length : Int)) = false := by simp; omega
      go_wp2_with (first | go_skip | (first | (refine hA1 ?_; clear hp; intro b w1 hp) | refine hL0 ?_ | (refine hS0 ?_; clear hp; intro w1 hp)))
      go_ret
      exact ⟨-1, rfl, .inl ⟨rfl, fun i y hy => HNO.out i y (by have := (List.getElem?_eq_some_iff.1 hy).1; omega) hy⟩, hp.below⟩
end Go.Proofs.YtcjbepaclbhjaaaGreat
