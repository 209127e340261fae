/- Parts of the proof. -/
import Derived.Test.YtcjbepaclbhjaaaGreatCl23
import Derived.Test.YtcjbepaclbhjaaaGreatCl4
import Derived.Test.YtcjbepaclbhjaaaGreatCl17
import Derived.Test.YtcjbepaclbhjaaaGreatCl2
import Derived.Test.YtcjbepaclbhjaaaGreatCl1
import Derived.Test.YtcjbepaclbhjaaaGreatCl0
import Derived.Test.YtcjbepaclbhjaaaGreatCl14
import Derived.Test.YtcjbepaclbhjaaaGreatCl15
import Derived.Test.YtcjbepaclbhjaaaGreatCl20
open List renaming set_cons_zero → zSet, set_cons_succ → sSet
/- The walk of each: votes in memory of their own. -/
set_option linter.unusedSimpArgs false
set_option linter.unusedVariables false
namespace Go.Proofs.YtcjbepaclbhjaaaGreat
open Go.RowKit
theorem ceCVb0 {ty : TypeId} (h : cellB Tryz.prog ty = true := by with_reducible first | exact cell3 | exact cell4 | exact cell25) : cellB Tryz.prog ty = true := h
def EachRel (w : World) (l : List Vt) (q : Nat) (v : Value) (wr : World) : Prop :=
  ∃ (ys : List Vt) (R M : List Blk), RowKit.Hid (VtsSm (l.take q) ys) ∧ RowKit.Hid (OwnRow 27 6 v q (ys.flatMap vtV) R) ∧ RowKit.Hid (OwnVs ys M) ∧ Hp w.heap.size w wr (R ++ M)
def EachPost (w : World) (l : List Vt) (e : Ending) (w' : World) : Prop :=
  ∃ (v : Value) (ys : List Vt) (R M : List Blk), e = .returned v ∧ VtsSm l ys ∧ OwnRow 27 6 v l.length (ys.flatMap vtV) R ∧ OwnVs ys M ∧ Hp w.heap.size w w' (R ++ M)
set_option maxRecDepth 100000 in
set_option maxHeartbeats 8000000 in
theorem each40 (l : List Vt) (a : Option Addr) (c : Nat) (hl : l.length ≤ 1000) (hes : ∀ v ∈ l, v.es.length ≤ 100000) (w : World) (ha : RowIs w a (l.flatMap vtV)) (hv : ∀ v ∈ l, v.Is w) :
    Calls Tryz.prog 40 #[.slice a l.length c, .func (.func 28) #[] #[]] w (EachPost w l) := by
  obtain ⟨i0, hi0, hz0, hz1, hz2⟩ := info_parts info27
  have hp := Hp.start w
  have HA := Lib.hid ha
  have HES := Lib.hid hes
  have HVS := Lib.hid hv
  clear ha hes hv
  go_enter Tryz.func40, Tryz.ntmps40
  go_wp2_with (first | go_skip | ((first | ((with_reducible refine pre_alloc _ rfl ?_); refine lZ hp rfl zero27 ?_; clear hp; intro b w1 hp) | ((with_reducible refine pre_box _ _ rfl ?_); refine lB hp rfl (sTm rfl) rfl ?_; clear hp; intro b w1 hp) | ((with_reducible refine pre_load _ _ rfl ?_); first | refine lO hp rfl (sTm rfl) ceCVb0 aa5 ?_ | refine lA hp rfl (sTm rfl) agg27 aa5 ?_ | refine lR hp rfl (sTm rfl) agg27 HX.out ?_) | ((with_reducible refine pre_store _ _ _ rfl ?_); (first | refine sO hp rfl (sTm rfl) ceCVb0 aa5 ?_ | refine sA hp rfl (sTm rfl) (sTm rfl) agg27 aa5 ?_ | refine sG hp rfl (sTm rfl) (sTm rfl) agg27 aa5 ?_); clear hp; intro w1 hp; simp only [spl, zSet, sSet] at hp)); simp only [put_some, put_none, sSet, zSet]))
  go_loopg [5, 10] l.length (fun k v i wr => ∃ q : Nat, k + q = l.length ∧ i = .int .i64 q ∧ EachRel w l q v wr)
  case atStart => exact ⟨0, by omega, rfl, [], [], [], Lib.hid ⟨by simp, fun i a b h => by simp at h⟩, Lib.hid (OwnRow.nil _ _), Lib.hid trivial, hp⟩
  case round =>
    clear hp
    obtain ⟨q, hkq, rfl, ys, R, M, HSM, HR, HM, hp⟩ := hrel
    by_cases hlt : q < l.length
    · obtain ⟨bq, off, rfl, hx⟩ := HA.out.elems 6 vtV_len (by omega) (by omega)
      have hj := List.getElem?_eq_getElem hlt
      replace hx := hx q _ hj
      have hmem := List.getElem_mem hlt
      have hv := HVS.out _ hmem
      have hel := HES.out _ hmem
      have HJ := Lib.hid hj
      clear hj hmem
      generalize l[q] = x at hx hv hel HJ
      obtain ⟨nd, nm, bs, nu, cm, va, es, vc⟩ := x
      simp only [vtV] at hx
      simp only at hel
      have HX := Lib.hid hx
      have HV : RowKit.Hid (RowIs w va (es.flatMap envL)) := Lib.hid hv
      clear hx hv
      have e1 : (0 : Int) ≤ (q : Int) := by omega
      have e2 : (q : Int) < (l.length : Int) := by omega
      have sm5 : q + 1 ≤ maxLen := by unfold maxLen; omega
      have sm6 : (q + 1) * 64 ≤ 140737488355328 := by omega
      go_wp2_with (first | (go_at_call 28; (with_reducible refine (own28 nd nm bs nu cm va es vc hel _ (HV.out.below hp.below)).mono ?_); rintro e w1 ⟨a2, c2, R2, rfl, hk2, hp2⟩; replace hp := hp.join hp2; have HK2 := Lib.hid hk2; clear hp2 hk2; simp only [List.cons_append, List.nil_append, List.append_assoc] at hp) | ((with_reducible refine pre_build _ _ _ rfl ?_); refine wpList_buildSlice_hp hp _ _ _ rfl wy [.int .i64 nd, .int .i64 nm, .int .i64 bs, .int .i64 nu, .int .i64 cm, .slice a2 es.length c2] 27 (by intro w; go_simp; try rfl) ?_; clear hp; intro bb w1 hp; simp only [put_some, put_none, sSet, zSet]) | ((with_reducible refine pre_append _ _ 25 rfl ?_); refine wpList_appendGrow (K := [_]) (R := R) (M := M ++ R2) hp _ _ _ rfl wy i0 _ 64 Tryz.underlying25 hi0 hz0 hz1 hz2 rfl (by decide) (sTm rfl) HR.out 1 1 (sTm rfl) (by rfl) (by decide) (by rfl) sm5 sm6 ?_; clear hp HR; intro v' R' w1 hR' hp; have HR' := Lib.hid hR'; clear hR'; simp only [List.cons_append, List.nil_append] at hp; simp only [put_some, put_none, sSet, zSet]) | go_skip | ((first | ((with_reducible refine pre_alloc _ rfl ?_); refine lZ hp rfl zero27 ?_; clear hp; intro b w1 hp) | ((with_reducible refine pre_box _ _ rfl ?_); refine lB hp rfl (sTm rfl) rfl ?_; clear hp; intro b w1 hp) | ((with_reducible refine pre_load _ _ rfl ?_); first | refine lO hp rfl (sTm rfl) ceCVb0 aa5 ?_ | refine lA hp rfl (sTm rfl) agg27 aa5 ?_ | refine lR hp rfl (sTm rfl) agg27 HX.out ?_) | ((with_reducible refine pre_store _ _ _ rfl ?_); (first | refine sO hp rfl (sTm rfl) ceCVb0 aa5 ?_ | refine sA hp rfl (sTm rfl) (sTm rfl) agg27 aa5 ?_ | refine sG hp rfl (sTm rfl) (sTm rfl) agg27 aa5 ?_); clear hp; intro w1 hp; simp only [spl, zSet, sSet] at hp)); simp only [put_some, put_none, sSet, zSet]))
      go_roundg (l.length - (q + 1))
      case measure => omega
      case rel =>
        refine ⟨q + 1, by omega, by go_num, ys ++ [⟨nd, nm, bs, nu, cm, a2, es, c2⟩], R', M ++ R2, Lib.hid ?_, Lib.hid (by rw [List.flatMap_append]; exact HR'.out), Lib.hid (HM.out.snoc (y := ⟨nd, nm, bs, nu, cm, a2, es, c2⟩) HK2.out), hp.kp⟩
        rw [List.take_add_one, HJ.out]; exact VtsSm.snoc HSM.out ⟨rfl, rfl, rfl, rfl, rfl, rfl⟩
    · have e2 : decide ((q : Int) < (l.length : Int)) = false := by simp; omega
      obtain rfl : q = l.length := by omega
      go_wp2_with (first | go_skip | ((first | ((with_reducible refine pre_alloc _ rfl ?_); refine lZ hp rfl zero27 ?_; clear hp; intro b w1 hp) | ((with_reducible refine pre_box _ _ rfl ?_); refine lB hp rfl (sTm rfl) rfl ?_; clear hp; intro b w1 hp) | ((with_reducible refine pre_load _ _ rfl ?_); first | refine lO hp rfl (sTm rfl) ceCVb0 aa5 ?_ | refine lA hp rfl (sTm rfl) agg27 aa5 ?_ | refine lR hp rfl (sTm rfl) agg27 HX.out ?_) | ((with_reducible refine pre_store _ _ _ rfl ?_); (first | refine sO hp rfl (sTm rfl) ceCVb0 aa5 ?_ | refine sA hp rfl (sTm rfl) (sTm rfl) agg27 aa5 ?_ | refine sG hp rfl (sTm rfl) (sTm rfl) agg27 aa5 ?_); clear hp; intro w1 hp; simp only [spl, zSet, sSet] at hp)); simp only [put_some, put_none, sSet, zSet]))
      go_ret
      exact ⟨_, ys, R, M, rfl, by have := HSM.out; rw [List.take_length] at this; exact this, HR.out, HM.out, hp⟩
end Go.Proofs.YtcjbepaclbhjaaaGreat
/- The walks of Add's closures, and of IndexFunc of votes (written by mkcv.py). -/
namespace Go.Proofs.YtcjbepaclbhjaaaGreat
open Go.RowKit
def IdxV (p : Vt → Bool) (l : List Vt) (r : Int) : Prop := (r = -1 ∧ ∀ (i : Nat) y, l[i]? = some y → p y = false) ∨ ∃ (m : Nat) (x : Vt), r = m ∧ l[m]? = some x ∧ p x = true ∧ ∀ (i : Nat) y, i < m → l[i]? = some y → p y = false
def IdxVPost (w : World) (p : Vt → Bool) (l : List Vt) (e : Ending) (w' : World) : Prop := ∃ r : Int, e = .returned (.int .i64 r) ∧ IdxV p l r ∧ Below w.heap.size w w'
def eqN (n : Int) (x : Vt) : Bool := x.nd == n
def gtN (n : Int) (x : Vt) : Bool := decide (n < x.nd)
set_option maxRecDepth 100000 in
set_option maxHeartbeats 4000000 in
theorem cl41 (nd nm bs nu cm : Int) (va : Option Addr) (n2 vc : Nat) (c : Int) (b : Nat) (w : World) (hb : b < w.heap.size) (hc : w.cell? ⟨b, 0, none⟩ = some (.int .i64 c)) (r : Bool) (hr : (nd == c) = r) :
    Calls Tryz.prog 41 #[.agg #[.int .i64 nd, .int .i64 nm, .int .i64 bs, .int .i64 nu, .int .i64 cm, .slice va n2 vc], .pointer (some ⟨b, 0, none⟩)] w fun e w' => e = .returned (.bool r) ∧ Below w.heap.size w w' := by
  subst hr
  have hp := Hp.start w
  have HC := Lib.hid hc
  clear hc
  go_enter Tryz.func41, Tryz.ntmps41
  go_wp2_with (first | go_skip | ((first | ((with_reducible refine pre_alloc _ rfl ?_); refine lZ hp rfl zero27 ?_; clear hp; intro b w1 hp) | ((with_reducible refine pre_box _ _ rfl ?_); refine lB hp rfl (sTm rfl) rfl ?_; clear hp; intro b w1 hp) | ((with_reducible refine pre_load _ _ rfl ?_); first | refine lO hp rfl (sTm rfl) (by with_reducible first | exact cell3 | exact cell4) aa5 ?_ | refine lA hp rfl (sTm rfl) agg27 aa5 ?_) | ((with_reducible refine pre_store _ _ _ rfl ?_); (first | refine sO hp rfl (sTm rfl) (by with_reducible first | exact cell3 | exact cell4) aa5 ?_ | refine sA hp rfl (sTm rfl) (sTm rfl) agg27 aa5 ?_ | refine sG hp rfl (sTm rfl) (sTm rfl) agg27 aa5 ?_); clear hp; intro w1 hp; simp only [spl, zSet, sSet] at hp)); simp only [put_some, put_none, sSet, zSet]) | ((with_reducible refine pre_load 3 _ rfl ?_); refine lRO hp rfl (sTm rfl) cell3 HC.out ?_; simp only [put_some, put_none, sSet, zSet]))
  go_ret
  exact ⟨rfl, hp.below⟩
set_option maxRecDepth 100000 in
set_option maxHeartbeats 4000000 in
theorem idx42_e (l : List Vt) (a : Option Addr) (k : Nat) (hl : l.length ≤ 1000) (c : Int) (bc : Nat) (w : World) (ha : RowIs w a (l.flatMap vtV)) (hbc : bc < w.heap.size) (hcc : w.cell? ⟨bc, 0, none⟩ = some (.int .i64 c)) :
    Calls Tryz.prog 42 #[.slice a l.length k, .func (.func 41) #[] #[.pointer (some ⟨bc, 0, none⟩)]] w (IdxVPost w (eqN c) l) := by
  have hp := Hp.start w
  have HA := Lib.hid ha
  have HC := Lib.hid hcc
  clear ha hcc
  go_enter Tryz.func42, Tryz.ntmps42
  go_wp2_with (first | go_skip | ((first | ((with_reducible refine pre_alloc _ rfl ?_); refine lZ hp rfl zero27 ?_; clear hp; intro b w1 hp) | ((with_reducible refine pre_box _ _ rfl ?_); refine lB hp rfl (sTm rfl) rfl ?_; clear hp; intro b w1 hp) | ((with_reducible refine pre_load _ _ rfl ?_); first | refine lO hp rfl (sTm rfl) (by with_reducible first | exact cell3 | exact cell4) aa5 ?_ | refine lA hp rfl (sTm rfl) agg27 aa5 ?_) | ((with_reducible refine pre_store _ _ _ rfl ?_); (first | refine sO hp rfl (sTm rfl) (by with_reducible first | exact cell3 | exact cell4) aa5 ?_ | refine sA hp rfl (sTm rfl) (sTm rfl) agg27 aa5 ?_ | refine sG hp rfl (sTm rfl) (sTm rfl) agg27 aa5 ?_); clear hp; intro w1 hp; simp only [spl, zSet, sSet] at hp)); simp only [put_some, put_none, sSet, zSet]))
  go_loopg [8] l.length (fun k i wr => ∃ j : Nat, k + j = l.length ∧ i = .int .i64 j ∧ RowKit.Hid (∀ (i : Nat) y, i < j → l[i]? = some y → eqN c y = false) ∧ Hp w.heap.size w wr [])
  case atStart => exact ⟨0, by omega, rfl, Lib.hid (fun i y h => by omega), hp⟩
  case round =>
    clear hp
    obtain ⟨j, hkj, rfl, HNO, hp⟩ := hrel
    by_cases hlt : j < l.length
    · obtain ⟨bq, off, rfl, hx⟩ := HA.out.elems 6 vtV_len (by omega) (by omega)
      have hj := List.getElem?_eq_getElem hlt
      replace hx := hx j _ hj
      have HJ := Lib.hid hj
      clear hj
      generalize l[j] = y at hx HJ
      have e1 : (0 : Int) ≤ (j : Int) := by omega
      have e2 : (j : Int) < (l.length : Int) := by omega
      cases hpy : eqN c y with
      | true =>
        have HPY := Lib.hid hpy
        obtain ⟨nd, nm, bs, nu, cm, va, es, vc⟩ := y
        have HXC : RowKit.Hid ((nd == c) = true) := Lib.hid hpy
        simp only [vtV] at hx
        have HX := Lib.hid hx
        clear hx hpy
        go_wp2_with (first | (go_at_call 41; (with_reducible refine (cl41 nd nm bs nu cm va es.length vc c bc _ (by have := hp.below.size; omega) ((hp.below.cell (p := ⟨bc, 0, none⟩) hbc).trans HC.out) _ HXC.out).mono ?_); rintro e w1 ⟨rfl, hb⟩; replace hp := hp.call hb; clear hb) | go_skip | ((first | ((with_reducible refine pre_alloc _ rfl ?_); refine lZ hp rfl zero27 ?_; clear hp; intro b w1 hp) | ((with_reducible refine pre_box _ _ rfl ?_); refine lB hp rfl (sTm rfl) rfl ?_; clear hp; intro b w1 hp) | ((with_reducible refine pre_load _ _ rfl ?_); first | refine lO hp rfl (sTm rfl) (by with_reducible first | exact cell3 | exact cell4) aa5 ?_ | refine lA hp rfl (sTm rfl) agg27 aa5 ?_ | refine lR hp rfl (sTm rfl) agg27 HX.out ?_) | ((with_reducible refine pre_store _ _ _ rfl ?_); (first | refine sO hp rfl (sTm rfl) (by with_reducible first | exact cell3 | exact cell4) aa5 ?_ | refine sA hp rfl (sTm rfl) (sTm rfl) agg27 aa5 ?_ | refine sG hp rfl (sTm rfl) (sTm rfl) agg27 aa5 ?_); clear hp; intro w1 hp; simp only [spl, zSet, sSet] at hp)); simp only [put_some, put_none, sSet, zSet]))
        go_ret
        exact ⟨_, rfl, .inr ⟨j, _, rfl, HJ.out, HPY.out, HNO.out⟩, hp.below⟩
      | false =>
        have HPY := Lib.hid hpy
        obtain ⟨nd, nm, bs, nu, cm, va, es, vc⟩ := y
        have HXC : RowKit.Hid ((nd == c) = false) := Lib.hid hpy
        simp only [vtV] at hx
        have HX := Lib.hid hx
        clear hx hpy
        go_wp2_with (first | (go_at_call 41; (with_reducible refine (cl41 nd nm bs nu cm va es.length vc c bc _ (by have := hp.below.size; omega) ((hp.below.cell (p := ⟨bc, 0, none⟩) hbc).trans HC.out) _ HXC.out).mono ?_); rintro e w1 ⟨rfl, hb⟩; replace hp := hp.call hb; clear hb) | go_skip | ((first | ((with_reducible refine pre_alloc _ rfl ?_); refine lZ hp rfl zero27 ?_; clear hp; intro b w1 hp) | ((with_reducible refine pre_box _ _ rfl ?_); refine lB hp rfl (sTm rfl) rfl ?_; clear hp; intro b w1 hp) | ((with_reducible refine pre_load _ _ rfl ?_); first | refine lO hp rfl (sTm rfl) (by with_reducible first | exact cell3 | exact cell4) aa5 ?_ | refine lA hp rfl (sTm rfl) agg27 aa5 ?_ | refine lR hp rfl (sTm rfl) agg27 HX.out ?_) | ((with_reducible refine pre_store _ _ _ rfl ?_); (first | refine sO hp rfl (sTm rfl) (by with_reducible first | exact cell3 | exact cell4) aa5 ?_ | refine sA hp rfl (sTm rfl) (sTm rfl) agg27 aa5 ?_ | refine sG hp rfl (sTm rfl) (sTm rfl) agg27 aa5 ?_); clear hp; intro w1 hp; simp only [spl, zSet, sSet] at hp)); simp only [put_some, put_none, sSet, zSet]))
        go_roundg (gk - 1)
        case measure => omega
        case rel => exact ⟨j + 1, by omega, by go_num, Lib.hid (fun i y hi hy => by
          rcases Nat.lt_or_ge i j with h | h
          · exact HNO.out i y h hy
          · obtain rfl : i = j := by omega
            rw [HJ.out] at hy; injection hy with hy; rw [← hy]; exact HPY.out), hp⟩
    · have e2 : decide ((j : Int) < (l.length : Int)) = false := by simp; omega
      go_wp2_with (first | go_skip | ((first | ((with_reducible refine pre_alloc _ rfl ?_); refine lZ hp rfl zero27 ?_; clear hp; intro b w1 hp) | ((with_reducible refine pre_box _ _ rfl ?_); refine lB hp rfl (sTm rfl) rfl ?_; clear hp; intro b w1 hp) | ((with_reducible refine pre_load _ _ rfl ?_); first | refine lO hp rfl (sTm rfl) (by with_reducible first | exact cell3 | exact cell4) aa5 ?_ | refine lA hp rfl (sTm rfl) agg27 aa5 ?_) | ((with_reducible refine pre_store _ _ _ rfl ?_); (first | refine sO hp rfl (sTm rfl) (by with_reducible first | exact cell3 | exact cell4) aa5 ?_ | refine sA hp rfl (sTm rfl) (sTm rfl) agg27 aa5 ?_ | refine sG hp rfl (sTm rfl) (sTm rfl) agg27 aa5 ?_); clear hp; intro w1 hp; simp only [spl, zSet, sSet] at hp)); simp only [put_some, put_none, sSet, zSet]))
      go_ret
      exact ⟨-1, rfl, .inl ⟨rfl, fun i y hy => HNO.out i y (by have := (List.getElem?_eq_some_iff.1 hy).1; omega) hy⟩, hp.below⟩
set_option maxRecDepth 100000 in
set_option maxHeartbeats 4000000 in
theorem cl43 (nd nm bs nu cm : Int) (va : Option Addr) (n2 vc : Nat) (c : Int) (b : Nat) (w : World) (hb : b < w.heap.size) (hc : w.cell? ⟨b, 0, none⟩ = some (.int .i64 c)) (r : Bool) (hr : decide (c < nd) = r) :
    Calls Tryz.prog 43 #[.agg #[.int .i64 nd, .int .i64 nm, .int .i64 bs, .int .i64 nu, .int .i64 cm, .slice va n2 vc], .pointer (some ⟨b, 0, none⟩)] w fun e w' => e = .returned (.bool r) ∧ Below w.heap.size w w' := by
  subst hr
  have hp := Hp.start w
  have HC := Lib.hid hc
  clear hc
  go_enter Tryz.func43, Tryz.ntmps43
  go_wp2_with (first | go_skip | ((first | ((with_reducible refine pre_alloc _ rfl ?_); refine lZ hp rfl zero27 ?_; clear hp; intro b w1 hp) | ((with_reducible refine pre_box _ _ rfl ?_); refine lB hp rfl (sTm rfl) rfl ?_; clear hp; intro b w1 hp) | ((with_reducible refine pre_load _ _ rfl ?_); first | refine lO hp rfl (sTm rfl) (by with_reducible first | exact cell3 | exact cell4) aa5 ?_ | refine lA hp rfl (sTm rfl) agg27 aa5 ?_) | ((with_reducible refine pre_store _ _ _ rfl ?_); (first | refine sO hp rfl (sTm rfl) (by with_reducible first | exact cell3 | exact cell4) aa5 ?_ | refine sA hp rfl (sTm rfl) (sTm rfl) agg27 aa5 ?_ | refine sG hp rfl (sTm rfl) (sTm rfl) agg27 aa5 ?_); clear hp; intro w1 hp; simp only [spl, zSet, sSet] at hp)); simp only [put_some, put_none, sSet, zSet]) | ((with_reducible refine pre_load 3 _ rfl ?_); refine lRO hp rfl (sTm rfl) cell3 HC.out ?_; simp only [put_some, put_none, sSet, zSet]))
  go_ret
  exact ⟨rfl, hp.below⟩
set_option maxRecDepth 100000 in
set_option maxHeartbeats 4000000 in
theorem idx42_g (l : List Vt) (a : Option Addr) (k : Nat) (hl : l.length ≤ 1000) (c : Int) (bc : Nat) (w : World) (ha : RowIs w a (l.flatMap vtV)) (hbc : bc < w.heap.size) (hcc : w.cell? ⟨bc, 0, none⟩ = some (.int .i64 c)) :
    Calls Tryz.prog 42 #[.slice a l.length k, .func (.func 43) #[] #[.pointer (some ⟨bc, 0, none⟩)]] w (IdxVPost w (gtN c) l) := by
  have hp := Hp.start w
  have HA := Lib.hid ha
  have HC := Lib.hid hcc
  clear ha hcc
  go_enter Tryz.func42, Tryz.ntmps42
  go_wp2_with (first | go_skip | ((first | ((with_reducible refine pre_alloc _ rfl ?_); refine lZ hp rfl zero27 ?_; clear hp; intro b w1 hp) | ((with_reducible refine pre_box _ _ rfl ?_); refine lB hp rfl (sTm rfl) rfl ?_; clear hp; intro b w1 hp) | ((with_reducible refine pre_load _ _ rfl ?_); first | refine lO hp rfl (sTm rfl) (by with_reducible first | exact cell3 | exact cell4) aa5 ?_ | refine lA hp rfl (sTm rfl) agg27 aa5 ?_) | ((with_reducible refine pre_store _ _ _ rfl ?_); (first | refine sO hp rfl (sTm rfl) (by with_reducible first | exact cell3 | exact cell4) aa5 ?_ | refine sA hp rfl (sTm rfl) (sTm rfl) agg27 aa5 ?_ | refine sG hp rfl (sTm rfl) (sTm rfl) agg27 aa5 ?_); clear hp; intro w1 hp; simp only [spl, zSet, sSet] at hp)); simp only [put_some, put_none, sSet, zSet]))
  go_loopg [8] l.length (fun k i wr => ∃ j : Nat, k + j = l.length ∧ i = .int .i64 j ∧ RowKit.Hid (∀ (i : Nat) y, i < j → l[i]? = some y → gtN c y = false) ∧ Hp w.heap.size w wr [])
  case atStart => exact ⟨0, by omega, rfl, Lib.hid (fun i y h => by omega), hp⟩
  case round =>
    clear hp
    obtain ⟨j, hkj, rfl, HNO, hp⟩ := hrel
    by_cases hlt : j < l.length
    · obtain ⟨bq, off, rfl, hx⟩ := HA.out.elems 6 vtV_len (by omega) (by omega)
      have hj := List.getElem?_eq_getElem hlt
      replace hx := hx j _ hj
      have HJ := Lib.hid hj
      clear hj
      generalize l[j] = y at hx HJ
      have e1 : (0 : Int) ≤ (j : Int) := by omega
      have e2 : (j : Int) < (l.length : Int) := by omega
      cases hpy : gtN c y with
      | true =>
        have HPY := Lib.hid hpy
        obtain ⟨nd, nm, bs, nu, cm, va, es, vc⟩ := y
        have HXC : RowKit.Hid (decide (c < nd) = true) := Lib.hid hpy
        simp only [vtV] at hx
        have HX := Lib.hid hx
        clear hx hpy
        go_wp2_with (first | (go_at_call 43; (with_reducible refine (cl43 nd nm bs nu cm va es.length vc c bc _ (by have := hp.below.size; omega) ((hp.below.cell (p := ⟨bc, 0, none⟩) hbc).trans HC.out) _ HXC.out).mono ?_); rintro e w1 ⟨rfl, hb⟩; replace hp := hp.call hb; clear hb) | go_skip | ((first | ((with_reducible refine pre_alloc _ rfl ?_); refine lZ hp rfl zero27 ?_; clear hp; intro b w1 hp) | ((with_reducible refine pre_box _ _ rfl ?_); refine lB hp rfl (sTm rfl) rfl ?_; clear hp; intro b w1 hp) | ((with_reducible refine pre_load _ _ rfl ?_); first | refine lO hp rfl (sTm rfl) (by with_reducible first | exact cell3 | exact cell4) aa5 ?_ | refine lA hp rfl (sTm rfl) agg27 aa5 ?_ | refine lR hp rfl (sTm rfl) agg27 HX.out ?_) | ((with_reducible refine pre_store _ _ _ rfl ?_); (first | refine sO hp rfl (sTm rfl) (by with_reducible first | exact cell3 | exact cell4) aa5 ?_ | refine sA hp rfl (sTm rfl) (sTm rfl) agg27 aa5 ?_ | refine sG hp rfl (sTm rfl) (sTm rfl) agg27 aa5 ?_); clear hp; intro w1 hp; simp only [spl, zSet, sSet] at hp)); simp only [put_some, put_none, sSet, zSet]))
        go_ret
        exact ⟨_, rfl, .inr ⟨j, _, rfl, HJ.out, HPY.out, HNO.out⟩, hp.below⟩
      | false =>
        have HPY := Lib.hid hpy
        obtain ⟨nd, nm, bs, nu, cm, va, es, vc⟩ := y
        have HXC : RowKit.Hid (decide (c < nd) = false) := Lib.hid hpy
        simp only [vtV] at hx
        have HX := Lib.hid hx
        clear hx hpy
        go_wp2_with (first | (go_at_call 43; (with_reducible refine (cl43 nd nm bs nu cm va es.length vc c bc _ (by have := hp.below.size; omega) ((hp.below.cell (p := ⟨bc, 0, none⟩) hbc).trans HC.out) _ HXC.out).mono ?_); rintro e w1 ⟨rfl, hb⟩; replace hp := hp.call hb; clear hb) | go_skip | ((first | ((with_reducible refine pre_alloc _ rfl ?_); refine lZ hp rfl zero27 ?_; clear hp; intro b w1 hp) | ((with_reducible refine pre_box _ _ rfl ?_); refine lB hp rfl (sTm rfl) rfl ?_; clear hp; intro b w1 hp) | ((with_reducible refine pre_load _ _ rfl ?_); first | refine lO hp rfl (sTm rfl) (by with_reducible first | exact cell3 | exact cell4) aa5 ?_ | refine lA hp rfl (sTm rfl) agg27 aa5 ?_ | refine lR hp rfl (sTm rfl) agg27 HX.out ?_) | ((with_reducible refine pre_store _ _ _ rfl ?_); (first | refine sO hp rfl (sTm rfl) (by with_reducible first | exact cell3 | exact cell4) aa5 ?_ | refine sA hp rfl (sTm rfl) (sTm rfl) agg27 aa5 ?_ | refine sG hp rfl (sTm rfl) (sTm rfl) agg27 aa5 ?_); clear hp; intro w1 hp; simp only [spl, zSet, sSet] at hp)); simp only [put_some, put_none, sSet, zSet]))
        go_roundg (gk - 1)
        case measure => omega
        case rel => exact ⟨j + 1, by omega, by go_num, Lib.hid (fun i y hi hy => by
          rcases Nat.lt_or_ge i j with h | h
          · exact HNO.out i y h hy
          · obtain rfl : i = j := by omega
            rw [HJ.out] at hy; injection hy with hy; rw [← hy]; exact HPY.out), hp⟩
    · have e2 : decide ((j : Int) < (l.length : Int)) = false := by simp; omega
      go_wp2_with (first | go_skip | ((first | ((with_reducible refine pre_alloc _ rfl ?_); refine lZ hp rfl zero27 ?_; clear hp; intro b w1 hp) | ((with_reducible refine pre_box _ _ rfl ?_); refine lB hp rfl (sTm rfl) rfl ?_; clear hp; intro b w1 hp) | ((with_reducible refine pre_load _ _ rfl ?_); first | refine lO hp rfl (sTm rfl) (by with_reducible first | exact cell3 | exact cell4) aa5 ?_ | refine lA hp rfl (sTm rfl) agg27 aa5 ?_) | ((with_reducible refine pre_store _ _ _ rfl ?_); (first | refine sO hp rfl (sTm rfl) (by with_reducible first | exact cell3 | exact cell4) aa5 ?_ | refine sA hp rfl (sTm rfl) (sTm rfl) agg27 aa5 ?_ | refine sG hp rfl (sTm rfl) (sTm rfl) agg27 aa5 ?_); clear hp; intro w1 hp; simp only [spl, zSet, sSet] at hp)); simp only [put_some, put_none, sSet, zSet]))
      go_ret
      exact ⟨-1, rfl, .inl ⟨rfl, fun i y hy => HNO.out i y (by have := (List.getElem?_eq_some_iff.1 hy).1; omega) hy⟩, hp.below⟩
end Go.Proofs.YtcjbepaclbhjaaaGreat
/- The walks of the document's reader of bytes. -/
namespace Go.Proofs.YtcjbepaclbhjaaaGreat
open Go.RowKit
def NRel {α : Type} (one : List Nat → Option (α × List Nat)) (st : Option (List Nat)) (x : α) (st' : Option (List Nat)) : Prop := match st.bind one with
  | some (y, b1) => x = y ∧ st' = some b1
  | none => st' = none
theorem NRel.none_ {α : Type} {one : List Nat → Option (α × List Nat)} {x : α} {st' : Option (List Nat)} (h : NRel one none x st') : st' = none := h
theorem NRel.bad {α : Type} {one : List Nat → Option (α × List Nat)} {b : List Nat} {x : α} {st' : Option (List Nat)} (h : NRel one (some b) x st') (hn : one b = none) : st' = none := by
  unfold NRel at h
  rw [show (some b).bind one = none from hn] at h
  exact h
theorem NRel.good {α : Type} {one : List Nat → Option (α × List Nat)} {b b1 : List Nat} {x y : α} {st' : Option (List Nat)} (h : NRel one (some b) x st') (hn : one b = some (y, b1)) : x = y ∧ st' = some b1 := by
  unfold NRel at h
  rw [show (some b).bind one = some (y, b1) from hn] at h
  exact h
end Go.Proofs.YtcjbepaclbhjaaaGreat
/- The walks of the document that read an object. -/
namespace Go.Proofs.YtcjbepaclbhjaaaGreat
open Go.RowKit
theorem NRel.step {α : Type} {one : List Nat → Option (α × List Nat)} {q : Nat} {st st1 st2 : Option (List Nat)} {l : List α} {x : α} (h1 : NRel (repR one q) st l st1) (h2 : NRel one st1 x st2) : NRel (repR one (q + 1)) st (l ++ [x]) st2 := by
  cases st with
  | none =>
    obtain rfl := h1.none_
    obtain rfl := h2.none_
    rfl
  | some b =>
    cases e1 : repR one q b with
    | none =>
      obtain rfl := h1.bad e1
      obtain rfl := h2.none_
      have e2 : repR one (q + 1) b = none := by unfold repR; rw [e1]
      unfold NRel
      rw [show (some b).bind (repR one (q + 1)) = none from e2]
    | some p =>
      obtain ⟨l0, b1⟩ := p
      obtain ⟨rfl, rfl⟩ := h1.good e1
      cases e2 : one b1 with
      | none =>
        obtain rfl := h2.bad e2
        unfold NRel
        rw [show (some b).bind (repR one (q + 1)) = none from repR_fail e1 e2 (q + 1) (Nat.lt_succ_self q)]
      | some p2 =>
        obtain ⟨x0, b2⟩ := p2
        obtain ⟨rfl, rfl⟩ := h2.good e2
        unfold NRel
        rw [show (some b).bind (repR one (q + 1)) = some (l ++ [x], b2) from repR_step e1 e2]
        exact ⟨rfl, rfl⟩
def ORel (st : Option (List Nat)) (y : Ob) (st' : Option (List Nat)) : Prop := match st.bind objR with
  | some (o, b1) => y.Sm o ∧ st' = some b1
  | none => st' = none
end Go.Proofs.YtcjbepaclbhjaaaGreat
/- The walk of the document's Place. -/
namespace Go.Proofs.YtcjbepaclbhjaaaGreat
open Go.RowKit
def PlaceI (os : List Ob) (t : Int) (r : Int) : Prop := (r = -1 ∧ ∀ o ∈ os, o.h ≠ t) ∨ ∃ (j : Nat) (o : Ob), r = j ∧ os[j]? = some o ∧ o.h = t ∧ ∀ (i : Nat) q, i < j → os[i]? = some q → q.h ≠ t
theorem PlaceI.leads {os : List Ob} {t r : Int} (h : PlaceI os t r) (h0 : t ≠ 0) : decide (0 ≤ r) = leadsB os t := by
  rw [Bool.eq_iff_iff, decide_eq_true_eq, leadsB_iff]
  rcases h with ⟨rfl, h⟩ | ⟨j, o, rfl, hj, ho, _⟩
  · constructor
    · intro h; omega
    · rintro (h1 | ⟨o, ho, h1⟩)
      · exact absurd h1 h0
      · exact absurd h1 (h o ho)
  · exact ⟨fun _ => .inr ⟨o, List.mem_of_getElem? hj, ho⟩, fun _ => by omega⟩
end Go.Proofs.YtcjbepaclbhjaaaGreat
/- The walk of the document's Right of heaps. -/
namespace Go.Proofs.YtcjbepaclbhjaaaGreat
open Go.RowKit
def LinksTo (os : List Ob) (j : Nat) : Prop := ∀ (i : Nat) o, i < j → os[i]? = some o → ∀ t ∈ o.ls, leadsP os t
theorem LinksTo.step {os : List Ob} {j : Nat} {x : Ob} (h : LinksTo os j) (hx : os[j]? = some x) (hl : ∀ t ∈ x.ls, leadsP os t) : LinksTo os (j + 1) := by
  intro i o hi ho t ht
  by_cases hij : i = j
  · subst hij; rw [hx] at ho; injection ho with ho; subst ho; exact hl t ht
  · exact h i o (by omega) ho t ht
theorem LinksTo.done {os : List Ob} (h : LinksTo os os.length) : HLinks os := fun o ho t ht => by
  obtain ⟨i, hi, rfl⟩ := List.getElem_of_mem ho
  exact h i _ hi (List.getElem?_eq_getElem hi) t ht
def ApartTo (l : List Bl) (j : Nat) : Prop := ∀ (i k : Nat) a b, k < i → i < j → l[i]? = some a → l[k]? = some b → ¬ MeetP a b
theorem ApartTo.done {l : List Bl} (h : ApartTo l l.length) : Apart l := by
  unfold Apart
  rw [List.pairwise_iff_getElem]
  intro i j hi hj hij hm
  exact h j i _ _ hij hj (List.getElem?_eq_getElem hj) (List.getElem?_eq_getElem hi) hm.symm
theorem Apart.get {l : List Bl} (h : Apart l) {i k : Nat} {a b : Bl} (hki : k < i) (ha : l[i]? = some a) (hb : l[k]? = some b) : ¬ MeetP a b := by
  unfold Apart at h
  rw [List.pairwise_iff_getElem] at h
  obtain ⟨hi, rfl⟩ := List.getElem?_eq_some_iff.1 ha
  obtain ⟨hk, rfl⟩ := List.getElem?_eq_some_iff.1 hb
  exact fun hm => h k i hk hi hki hm.symm
theorem RowIs.tops {w : World} {b : Nat} {v0 v1 v2 v7 : Value} {t0 t1 t2 t3 : Int} (h : ∀ j v, [v0, v1, v2, .int .i64 t0, .int .i64 t1, .int .i64 t2, .int .i64 t3, v7][j]? = some v → w.cell? ⟨b, 0 + j, none⟩ = some v) :
    ∀ (j : Nat) t, [t0, t1, t2, t3][j]? = some t → w.cell? ⟨b, 3 + j, none⟩ = some (.int .i64 t) := fun j t hj => by
  have h4 : j < 4 := (List.getElem?_eq_some_iff.1 hj).1
  have hc : j = 0 ∨ j = 1 ∨ j = 2 ∨ j = 3 := by omega
  rcases hc with rfl | rfl | rfl | rfl <;> simp at hj <;> subst hj
  · exact h 3 _ rfl
  · exact h 4 _ rfl
  · exact h 5 _ rfl
  · exact h 6 _ rfl
end Go.Proofs.YtcjbepaclbhjaaaGreat
/- The walk of the document's GetHeap. -/
namespace Go.Proofs.YtcjbepaclbhjaaaGreat
open Go.RowKit
theorem obsSm_snoc {l k : List Ob} {x y : Ob} (h : ObsSm l k) (hx : x.Sm y) : ObsSm (l ++ [x]) (k ++ [y]) := obs_snoc2 h hx
def OsRel (q : Nat) (st : Option (List Nat)) (l : List Ob) (st' : Option (List Nat)) : Prop := match st.bind (repR objR q) with
  | some (l0, b1) => ObsSm l l0 ∧ st' = some b1
  | none => st' = none
theorem OsRel.step {q : Nat} {st st1 st2 : Option (List Nat)} {l : List Ob} {x : Ob} (h1 : OsRel q st l st1) (h2 : ORel st1 x st2) : OsRel (q + 1) st (l ++ [x]) st2 := by
  have hn : ∀ {s : Option (List Nat)}, ORel none x s → s = none := fun h => h
  cases st with
  | none =>
    obtain rfl : st1 = none := h1
    obtain rfl := hn h2
    rfl
  | some b =>
    unfold OsRel at h1 ⊢
    replace h1 : (match repR objR q b with | some (l0, b1) => ObsSm l l0 ∧ st1 = some b1 | none => st1 = none) := h1
    show (match repR objR (q + 1) b with | some (l0, b1) => ObsSm (l ++ [x]) l0 ∧ st2 = some b1 | none => st2 = none)
    cases e1 : repR objR q b with
    | none =>
      rw [e1] at h1
      obtain rfl : st1 = none := h1
      obtain rfl := hn h2
      have e2 : repR objR (q + 1) b = none := by unfold repR; rw [e1]
      rw [e2]
    | some p =>
      obtain ⟨l0, b1⟩ := p
      rw [e1] at h1
      obtain ⟨hl, rfl⟩ := h1
      unfold ORel at h2
      replace h2 : (match objR b1 with | some (o, b1) => x.Sm o ∧ st2 = some b1 | none => st2 = none) := h2
      cases e2 : objR b1 with
      | none =>
        rw [e2] at h2
        rw [repR_fail e1 e2 (q + 1) (Nat.lt_succ_self q)]
        exact h2
      | some p2 =>
        obtain ⟨x0, b2⟩ := p2
        rw [e2] at h2
        obtain ⟨hx, rfl⟩ := h2
        rw [repR_step e1 e2]
        exact ⟨obsSm_snoc hl hx, rfl⟩
end Go.Proofs.YtcjbepaclbhjaaaGreat
