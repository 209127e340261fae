import Derived.Test.YtcjbepaclbhjaaaTjTRp
import Derived.Test.YtcjbepaclbhjaaaTjDV
import Derived.Test.YtcjbepaclbhjaaaTjML
import Derived.Test.YtcjbepaclbhjaaaTjQC
/- The walks of leads and Len, and what heap.Do keeps of a right heap. -/
set_option linter.unusedSimpArgs false
set_option linter.unusedVariables false
namespace Go.Proofs.Ytcjbepaclbhjaaa
open Go.RowKit
theorem ceTRa0 {ty : TypeId} (h : cellB Try.prog ty = true := by with_reducible first | exact cell3 | exact cell4 | exact cell23) : cellB Try.prog ty = true := h
theorem gaTRa1 {ty : TypeId} {k : Nat} (h : aggB Try.prog ty k = true := by with_reducible first | exact agg27 | exact agg34 | exact agg39) : aggB Try.prog ty k = true := h
theorem ceTRa2 {ty : TypeId} (h : cellB Try.prog ty = true := by with_reducible first | exact cell3 | exact cell4 | exact cell28 | exact cell23) : cellB Try.prog ty = true := h
set_option maxRecDepth 100000 in
set_option maxHeartbeats 4000000 in
theorem leads11 (od : Int) (oa : Option Addr) (os : List Ob) (oc : Nat) (nx t0 t1 t2 t3 : Int) (fa : Option Addr) (fl fc : Nat) (hol : os.length ≤ 1000) (t : Int) (w : World) (ha : RowIs w oa (os.flatMap obV)) (hl : leadsP os t) :
    Calls Try.prog 11 #[.agg #[.int .i64 od, .slice oa os.length oc, .int .i64 nx, .int .i64 t0, .int .i64 t1, .int .i64 t2, .int .i64 t3, .slice fa fl fc], .int .i64 t] w fun e w' => e = .returned (.bool true) ∧ Below w.heap.size w w' := by
  have hp := Hp.start w
  have HA := Lib.hid ha
  have HL := Lib.hid hl
  clear ha hl
  go_enter Try.func11, Try.ntmps11
  go_wp2_with (first | go_skip | ((first | ((with_reducible refine pre_box _ _ rfl ?_); refine lB hp rfl (slot_tmp rfl) rfl ?_; clear hp; intro b w1 hp) | ((with_reducible refine pre_load _ _ rfl ?_); first | refine lO hp rfl (slot_tmp rfl) ceTRa0 aa5 ?_ | refine lRO hp rfl (slot_tmp rfl) ceTRa0 (by first | exact HX.out 0 _ rfl | exact HX.out 1 _ rfl | exact HX.out 2 _ rfl | exact HX.out 3 _ rfl | exact HX.out 4 _ rfl) ?_ | refine lA hp rfl (slot_tmp rfl) (by with_reducible first | exact agg27 | exact agg48) aa5 ?_ | refine lR hp rfl (slot_tmp rfl) (by with_reducible first | exact agg27 | exact agg48) HX.out ?_) | ((with_reducible refine pre_store _ _ _ rfl ?_); (first | refine sO hp rfl (slot_tmp rfl) ceTRa0 aa5 ?_ | refine sA hp rfl (slot_tmp rfl) (slot_tmp rfl) (by with_reducible first | exact agg27 | exact agg48) aa5 ?_ | refine sG hp rfl (slot_tmp rfl) (slot_tmp rfl) (by with_reducible first | exact agg27 | exact agg48) aa5 ?_); clear hp; intro w1 hp; simp only [spl, List.set_cons_zero, List.set_cons_succ] at hp)); simp only [put_some, put_none, List.set_cons_succ, List.set_cons_zero]))
  obtain ⟨b1, rfl⟩ := hp.id0
  go_loopg [5] os.length (fun k i wr => ∃ q : Nat, k + q = os.length ∧ i = .int .i64 q ∧ RowKit.Hid (∀ (j : Nat) o, j < q → os[j]? = some o → o.h ≠ t) ∧ Hp w.heap.size w wr [⟨b1, [.int .i64 od, .slice oa os.length oc, .int .i64 nx, .int .i64 t0, .int .i64 t1, .int .i64 t2, .int .i64 t3, .slice fa fl fc], 27, 8⟩])
  case atStart => exact ⟨0, by omega, rfl, Lib.hid (fun j o h => by omega), hp⟩
  case round =>
    clear hp
    obtain ⟨q, hkq, rfl, HNO, hp⟩ := hrel
    by_cases hlt : q < os.length
    · obtain ⟨bq, off, rfl, hx⟩ := HA.out.elems 5 obV_len (by omega) (by omega)
      have hj := List.getElem?_eq_getElem hlt
      replace hx := hx q _ hj
      have HJ := Lib.hid hj
      clear hj
      generalize os[q] = o at hx HJ
      have HX := Lib.hid hx
      clear hx
      have e1 : (0 : Int) ≤ (q : Int) := by omega
      have e2 : (q : Int) < (os.length : Int) := by omega
      by_cases he : o.h = t
      · have e3 : (o.h == t) = true := by simpa using he
        go_wp2_with (first | go_skip | ((first | ((with_reducible refine pre_box _ _ rfl ?_); refine lB hp rfl (slot_tmp rfl) rfl ?_; clear hp; intro b w1 hp) | ((with_reducible refine pre_load _ _ rfl ?_); first | refine lO hp rfl (slot_tmp rfl) ceTRa0 aa5 ?_ | refine lRO hp rfl (slot_tmp rfl) ceTRa0 (by first | exact HX.out 0 _ rfl | exact HX.out 1 _ rfl | exact HX.out 2 _ rfl | exact HX.out 3 _ rfl | exact HX.out 4 _ rfl) ?_ | refine lA hp rfl (slot_tmp rfl) (by with_reducible first | exact agg27 | exact agg48) aa5 ?_ | refine lR hp rfl (slot_tmp rfl) (by with_reducible first | exact agg27 | exact agg48) HX.out ?_) | ((with_reducible refine pre_store _ _ _ rfl ?_); (first | refine sO hp rfl (slot_tmp rfl) ceTRa0 aa5 ?_ | refine sA hp rfl (slot_tmp rfl) (slot_tmp rfl) (by with_reducible first | exact agg27 | exact agg48) aa5 ?_ | refine sG hp rfl (slot_tmp rfl) (slot_tmp rfl) (by with_reducible first | exact agg27 | exact agg48) aa5 ?_); clear hp; intro w1 hp; simp only [spl, List.set_cons_zero, List.set_cons_succ] at hp)); simp only [put_some, put_none, List.set_cons_succ, List.set_cons_zero]))
        go_ret
        exact ⟨rfl, hp.below⟩
      · have e3 : (o.h == t) = false := by simpa using he
        go_wp2_with (first | go_skip | ((first | ((with_reducible refine pre_box _ _ rfl ?_); refine lB hp rfl (slot_tmp rfl) rfl ?_; clear hp; intro b w1 hp) | ((with_reducible refine pre_load _ _ rfl ?_); first | refine lO hp rfl (slot_tmp rfl) ceTRa0 aa5 ?_ | refine lRO hp rfl (slot_tmp rfl) ceTRa0 (by first | exact HX.out 0 _ rfl | exact HX.out 1 _ rfl | exact HX.out 2 _ rfl | exact HX.out 3 _ rfl | exact HX.out 4 _ rfl) ?_ | refine lA hp rfl (slot_tmp rfl) (by with_reducible first | exact agg27 | exact agg48) aa5 ?_ | refine lR hp rfl (slot_tmp rfl) (by with_reducible first | exact agg27 | exact agg48) HX.out ?_) | ((with_reducible refine pre_store _ _ _ rfl ?_); (first | refine sO hp rfl (slot_tmp rfl) ceTRa0 aa5 ?_ | refine sA hp rfl (slot_tmp rfl) (slot_tmp rfl) (by with_reducible first | exact agg27 | exact agg48) aa5 ?_ | refine sG hp rfl (slot_tmp rfl) (slot_tmp rfl) (by with_reducible first | exact agg27 | exact agg48) aa5 ?_); clear hp; intro w1 hp; simp only [spl, List.set_cons_zero, List.set_cons_succ] at hp)); simp only [put_some, put_none, List.set_cons_succ, List.set_cons_zero]))
        go_roundg (gk - 1)
        case measure => omega
        case rel => exact ⟨q + 1, by omega, by go_num, Lib.hid (fun j y hjq hy => by
          by_cases hjj : j = q
          · subst hjj; rw [HJ.out] at hy; injection hy with hy; rw [← hy]; exact he
          · exact HNO.out j y (by omega) hy), hp⟩
    · have e2 : decide ((q : Int) < (os.length : Int)) = false := by simp; omega
      have e3 : (t == 0) = true := by
        rcases HL.out with h | ⟨o, ho, h⟩
        · simpa using h
        · obtain ⟨j, hj, rfl⟩ := List.getElem_of_mem ho
          exact absurd h (HNO.out j _ (by omega) (List.getElem?_eq_getElem hj))
      go_wp2_with (first | go_skip | ((first | ((with_reducible refine pre_box _ _ rfl ?_); refine lB hp rfl (slot_tmp rfl) rfl ?_; clear hp; intro b w1 hp) | ((with_reducible refine pre_load _ _ rfl ?_); first | refine lO hp rfl (slot_tmp rfl) ceTRa0 aa5 ?_ | refine lRO hp rfl (slot_tmp rfl) ceTRa0 (by first | exact HX.out 0 _ rfl | exact HX.out 1 _ rfl | exact HX.out 2 _ rfl | exact HX.out 3 _ rfl | exact HX.out 4 _ rfl) ?_ | refine lA hp rfl (slot_tmp rfl) (by with_reducible first | exact agg27 | exact agg48) aa5 ?_ | refine lR hp rfl (slot_tmp rfl) (by with_reducible first | exact agg27 | exact agg48) HX.out ?_) | ((with_reducible refine pre_store _ _ _ rfl ?_); (first | refine sO hp rfl (slot_tmp rfl) ceTRa0 aa5 ?_ | refine sA hp rfl (slot_tmp rfl) (slot_tmp rfl) (by with_reducible first | exact agg27 | exact agg48) aa5 ?_ | refine sG hp rfl (slot_tmp rfl) (slot_tmp rfl) (by with_reducible first | exact agg27 | exact agg48) aa5 ?_); clear hp; intro w1 hp; simp only [spl, List.set_cons_zero, List.set_cons_succ] at hp)); simp only [put_some, put_none, List.set_cons_succ, List.set_cons_zero]))
      go_ret
      exact ⟨rfl, hp.below⟩
theorem opdL_lenT (o : Opd) : (opdL o).length = 7 := rfl
theorem len14 (bm bw n : Nat) (f : Nat → Bool) (w : World) (hM : MapAt w bm bw n f) : Calls Try.prog 14 #[.pointer (some ⟨bm, 0, none⟩)] w fun e w' => e = .returned (.int .i64 n) ∧ w = w' := by
  have h0 := hM.len
  clear hM
  go_enter Try.func14, Try.ntmps14
  go_wp2
  go_ret
  exact ⟨rfl, rfl⟩
theorem tops_row {w : World} {b : Nat} {v0 v1 v2 v7 : Value} {t0 t1 t2 t3 : Int} (h : ∀ j v, [v0, v1, v2, .int .i64 t0, .int .i64 t1, .int .i64 t2, .int .i64 t3, v7][j]? = some v → w.cell? ⟨b, 0 + j, none⟩ = some v) :
    ∀ (m : Nat) t, [t0, t1, t2, t3][m]? = some t → w.cell? ⟨b, 3 + m, none⟩ = some (.int .i64 t) := fun m t ht => by
  have := h (3 + m) (.int .i64 t) (by
    match m, ht with
    | 0, ht => simp at ht; subst ht; rfl
    | 1, ht => simp at ht; subst ht; rfl
    | 2, ht => simp at ht; subst ht; rfl
    | 3, ht => simp at ht; subst ht; rfl)
  rw [Nat.zero_add] at this; exact this
theorem cell_row {w : World} {b o : Nat} {x : Value} (h : w.cell? ⟨b, o, none⟩ = some x) : ∀ j v, [x][j]? = some v → w.cell? ⟨b, o + j, none⟩ = some v := fun j v hj => by
  have h1 := (List.getElem?_eq_some_iff.1 hj).1
  simp only [List.length_cons, List.length_nil] at h1
  obtain rfl : j = 0 := by omega
  simp at hj; subst hj; exact h
theorem doC_od (x : Hv) (o : Opd) : (doC x o).1.od = x.od := by
  unfold doC allocC atC topC topH
  (repeat' split) <;> rfl
theorem row_fix {w : World} {b off : Nat} {xs : List Value} (h : RowIs w (some ⟨b, off, none⟩) xs) : ∀ j v, xs[j]? = some v → w.cell? ⟨b, off + j, none⟩ = some v := fun j v hj => by
  obtain ⟨b', off', he, hc⟩ := h j v hj
  injection he with he; injection he with e1 e2; subst e1; subst e2; exact hc
theorem row_one {w : World} {b o : Nat} {v0 v1 v2 v3 v4 : Value} (h : ∀ j v, [v0, v1, v2, v3, v4][j]? = some v → w.cell? ⟨b, o + j, none⟩ = some v) : ∀ j v, [v1, v2][j]? = some v → w.cell? ⟨b, o + 1 + j, none⟩ = some v := fun j v hj => by
  rw [Nat.add_assoc]
  refine h (1 + j) v ?_
  match j, hj with
  | 0, hj => exact hj
  | 1, hj => exact hj
def KeptT (w0 : World) (R : List Blk) (Q : World → Prop) : Prop := ∀ (w : World) (L : List Blk), Hp w0.heap.size w0 w L → (∀ p ∈ R, p ∈ L) → Q w
theorem KeptT.at {w0 : World} {R : List Blk} {Q : World → Prop} (h : KeptT w0 R Q) {w : World} {L : List Blk} (hp : Hp w0.heap.size w0 w L) (hm : ∀ p ∈ R, p ∈ L) : Q w := h w L hp hm
theorem KeptT.of {w0 : World} {R : List Blk} {Q : World → Prop} (h : Kept R Q) : KeptT w0 R Q := fun w L hp hm => h _ _ w L hp hm
def DoR (w : World) (od : Int) (e : Ending) (w' : World) : Prop :=
  ∃ (oa : Option Addr) (os : List Ob) (oc : Nat) (nx t0 t1 t2 t3 : Int) (fa : Option Addr) (fs : List Bl) (fc : Nat) (c v : Int) (R : List Blk),
    e = .returned (.tuple #[.agg #[.int .i64 od, .slice oa os.length oc, .int .i64 nx, .int .i64 t0, .int .i64 t1, .int .i64 t2, .int .i64 t3, .slice fa fs.length fc], .agg #[.int .i64 c, .int .i64 v]]) ∧ HRight ⟨od, oa, os, oc, nx, t0, t1, t2, t3, fa, fs, fc⟩ ∧ Kept R (fun w => Hv.Is w ⟨od, oa, os, oc, nx, t0, t1, t2, t3, fa, fs, fc⟩) ∧ Hp w.heap.size w w' R
theorem doh7R (od : Int) (oa : Option Addr) (os : List Ob) (oc : Nat) (nx t0 t1 t2 t3 : Int) (fa : Option Addr) (fs : List Bl) (fc : Nat) (kk hh ii nn cc vv tt : Int) (hx : HRight ⟨od, oa, os, oc, nx, t0, t1, t2, t3, fa, fs, fc⟩) (w : World) (h : Hv.Is w ⟨od, oa, os, oc, nx, t0, t1, t2, t3, fa, fs, fc⟩) :
    Calls Try.prog 7 #[.agg #[.int .i64 od, .slice oa os.length oc, .int .i64 nx, .int .i64 t0, .int .i64 t1, .int .i64 t2, .int .i64 t3, .slice fa fs.length fc], .agg #[.int .i64 kk, .int .i64 hh, .int .i64 ii, .int .i64 nn, .int .i64 cc, .int .i64 vv, .int .i64 tt]] w (DoR w od) := by
  refine (doh7L od oa os oc nx t0 t1 t2 t3 fa fs fc kk hh ii nn cc vv tt _ (doP_yes hx _) hx.small w h).mono fun e w' ⟨y, R, he, hs, hk, _, hp⟩ => ?_
  have hr := hright_mono hs.symm (doC_right hx ⟨kk, hh, ii, nn, cc, vv, tt⟩)
  have ho : y.od = od := hs.od.trans (doC_od _ _)
  obtain ⟨od2, oa2, os2, oc2, nx2, t02, t12, t22, t32, fa2, fs2, fc2⟩ := y
  simp only at ho
  subst ho
  exact ⟨oa2, os2, oc2, nx2, t02, t12, t22, t32, fa2, fs2, fc2, _, _, R, he, hr, hk, hp⟩
def NewR (w : World) (od : Int) (e : Ending) (w' : World) : Prop :=
  ∃ (oa : Option Addr) (os : List Ob) (oc : Nat) (nx t0 t1 t2 t3 : Int) (fa : Option Addr) (fs : List Bl) (fc : Nat) (R : List Blk),
    e = .returned (.tuple #[.agg #[.int .i64 od, .slice oa os.length oc, .int .i64 nx, .int .i64 t0, .int .i64 t1, .int .i64 t2, .int .i64 t3, .slice fa fs.length fc], .int .i64 0]) ∧ HRight ⟨od, oa, os, oc, nx, t0, t1, t2, t3, fa, fs, fc⟩ ∧ Kept R (fun w => Hv.Is w ⟨od, oa, os, oc, nx, t0, t1, t2, t3, fa, fs, fc⟩) ∧ Hp w.heap.size w w' R
theorem newh4R (o : Int) (h : regionB o = true) (w : World) : Calls Try.prog 4 #[.int .i64 o] w (NewR w o) := by
  refine (newh4_yes o h w).mono fun e w' ⟨y, R, he, hs, hk, hp⟩ => ?_
  have h38 : 3 ≤ o ∧ o ≤ 8 := by simpa [regionB] using h
  have hr := hright_mono hs.symm (hright_of (hright_one h38.1 h38.2))
  have ho : y.od = o := hs.od
  obtain ⟨od2, oa2, os2, oc2, nx2, t02, t12, t22, t32, fa2, fs2, fc2⟩ := y
  simp only at ho
  subst ho
  exact ⟨oa2, os2, oc2, nx2, t02, t12, t22, t32, fa2, fs2, fc2, R, he, hr, hk, hp⟩
def GrowP (w : World) (e : Ending) (w' : World) : Prop :=
  ∃ (od : Int) (b off oc : Nat) (nx t0 t1 t2 t3 : Int) (fa : Option Addr) (fl fc : Nat) (R : List Blk),
    e = .returned (.tuple #[.agg #[.int .i64 od, .slice (some ⟨b, off, none⟩) 1 oc, .int .i64 nx, .int .i64 t0, .int .i64 t1, .int .i64 t2, .int .i64 t3, .slice fa fl fc], .agg #[.int .i64 0, .int .i64 1]]) ∧
    Kept R (fun w => w.cell? ⟨b, off + 2, none⟩ = some (.int .i64 1)) ∧ Hp w.heap.size w w' R
theorem grow_two : (doC (oneHv 3) ⟨1, 0, 0, 1, 0, 0, 0⟩).2 = (0, 1) := by decide +kernel
theorem grow_one : (doC (oneHv 3) ⟨1, 0, 0, 1, 0, 0, 0⟩).1.os.map (fun o => o.o) = [1] := by decide +kernel
theorem grow_os {x y : Hv} (h : x.Sm (oneHv 3)) (hy : y.Sm (doC x ⟨1, 0, 0, 1, 0, 0, 0⟩).1) : ∃ o, y.os = [o] ∧ o.o = 1 := by
  have h1 := hy.trans (doC_sm h ⟨1, 0, 0, 1, 0, 0, 0⟩).2
  have h2 := h1.os
  have h3 := grow_one
  generalize (doC (oneHv 3) ⟨1, 0, 0, 1, 0, 0, 0⟩).1.os = l at h2 h3
  cases l with
  | nil => simp at h3
  | cons o r =>
    cases r with
    | cons _ _ => simp at h3
    | nil =>
      generalize y.os = k at h2 ⊢
      cases k with
      | nil => have := h2.1; simp at this
      | cons q s =>
        cases s with
        | cons _ _ => have := h2.1; simp at this
        | nil =>
          have e := (h2.2 0 q o rfl rfl).2.2.1
          simp at h3
          exact ⟨q, rfl, by rw [e, h3]⟩
theorem doh7grow (od : Int) (oa : Option Addr) (os : List Ob) (oc : Nat) (nx t0 t1 t2 t3 : Int) (fa : Option Addr) (fs : List Bl) (fc : Nat) (hx : Hv.Sm ⟨od, oa, os, oc, nx, t0, t1, t2, t3, fa, fs, fc⟩ (oneHv 3)) (w : World) (h : Hv.Is w ⟨od, oa, os, oc, nx, t0, t1, t2, t3, fa, fs, fc⟩) :
    Calls Try.prog 7 #[.agg #[.int .i64 od, .slice oa os.length oc, .int .i64 nx, .int .i64 t0, .int .i64 t1, .int .i64 t2, .int .i64 t3, .slice fa fs.length fc], .agg #[.int .i64 1, .int .i64 0, .int .i64 0, .int .i64 1, .int .i64 0, .int .i64 0, .int .i64 0]] w (GrowP w) := by
  have hr := hright_mono hx.symm (hright_of (hright_one (by decide) (by decide)))
  refine (doh7L od oa os oc nx t0 t1 t2 t3 fa fs fc 1 0 0 1 0 0 0 _ (doP_yes hr _) hr.small w h).mono fun e w' ⟨y, R, he, hs, hk, _, hp⟩ => ?_
  rw [(doC_sm hx ⟨1, 0, 0, 1, 0, 0, 0⟩).1, grow_two] at he
  obtain ⟨o, ho, ho1⟩ := grow_os hx hs
  have hi := hk _ _ w' R hp (fun p hm => hm)
  obtain ⟨od2, oa2, os2, oc2, nx2, t02, t12, t22, t32, fa2, fs2, fc2⟩ := y
  simp only at ho
  subst ho
  obtain ⟨b, off, hb, _⟩ := hi.1 2 (.int .i64 o.o) (by simp [obV])
  simp only at hb
  subst hb
  refine ⟨od2, b, off, oc2, nx2, t02, t12, t22, t32, fa2, fs2.length, fc2, R, he, fun B w0 w3 L hpx hm => ?_, hp⟩
  have hq := (hk B w0 w3 L hpx hm).1
  obtain ⟨b', off', hb', hc⟩ := hq 2 (.int .i64 o.o) (by simp [obV])
  simp only at hb'
  injection hb' with hb'; injection hb' with e1 e2; subst e1; subst e2
  show w3.cell? _ = _
  rw [hc, ho1]
set_option maxRecDepth 100000 in
set_option maxHeartbeats 8000000 in
theorem grows6 (w : World) : Calls Try.prog 6 #[] w fun e w' => e = .returned (.bool true) ∧ Below w.heap.size w w' := by
  have hp := Hp.start w
  go_enter Try.func6, Try.ntmps6
  go_wp2_with (first | (go_at_call 4; (with_reducible refine (newh4_yes 3 (by decide) _).mono ?_); rintro e w1 ⟨⟨od, oa, os, oc, nx, t0, t1, t2, t3, fa, fs, fc⟩, RX, rfl, hsm, hk, hp5⟩; replace hp := hp.join hp5; have HK := Lib.hid hk; have HSM := Lib.hid hsm; clear hp5 hk hsm; simp only [hvL, List.cons_append, List.nil_append, List.append_assoc] at hp ⊢) | (go_at_call 7; (with_reducible refine (doh7grow od oa os oc nx t0 t1 t2 t3 fa fs fc HSM.out _ (HK.out.at hp (fun p hm => by simp [hm]))).mono ?_); rintro e w1 ⟨od2, bq, off, oc2, nx2, t02, t12, t22, t32, fa2, fl2, fc2, R2, rfl, hk, hp5⟩; replace hp := hp.join hp5; have HC := Lib.hid hk; clear hp5 hk; simp only [List.cons_append, List.nil_append, List.append_assoc] at hp ⊢) | (go_at_call 9; (with_reducible refine (words9 1 (by decide) (by decide) _).mono ?_); rintro e w' ⟨rfl, rfl⟩; rw [show pw 1 = 2 from rfl]) | go_skip | ((first | ((with_reducible refine pre_alloc _ rfl ?_); refine lZ hp rfl (by with_reducible first | exact zero34 | exact zero27) ?_; clear hp; intro b w1 hp) | ((with_reducible refine pre_box _ _ rfl ?_); refine lB hp rfl (slot_tmp rfl) rfl ?_; clear hp; intro b w1 hp) | ((with_reducible refine pre_load _ _ rfl ?_); first | refine lO hp rfl (slot_tmp rfl) ceTRa2 aa5 ?_ | refine lA hp rfl (slot_tmp rfl) gaTRa1 aa5 ?_) | ((with_reducible refine pre_store _ _ _ rfl ?_); (first | refine sO hp rfl (slot_tmp rfl) ceTRa2 aa5 ?_ | refine sA hp rfl (slot_tmp rfl) (slot_tmp rfl) gaTRa1 aa5 ?_ | refine sG hp rfl (slot_tmp rfl) (slot_tmp rfl) gaTRa1 aa5 ?_); clear hp; intro w1 hp; simp only [spl, List.set_cons_zero, List.set_cons_succ] at hp) | ((with_reducible refine pre_build _ _ _ rfl ?_); refine lS hp rfl (by intro w; go_simp; rfl) ?_; clear hp; intro b w1 hp; simp only [List.length_cons, List.length_nil, Nat.reduceAdd] at hp)); simp only [put_some, put_none, List.set_cons_succ, List.set_cons_zero]) | ((with_reducible refine pre_load 3 _ rfl ?_); refine lRO (Hp.start _) rfl (slot_tmp rfl) cell3 (HC.out.at hp (fun p hm => by simp [hm])) ?_; simp only [put_some, put_none, List.set_cons_succ, List.set_cons_zero]))
  go_ret
  exact ⟨rfl, hp.below⟩
theorem over5 (b : Bool) (a : Option Addr) (n c : Nat) (hb : decide ((60 : Int) < (n : Int)) = b) (w : World) : Calls Try.prog 5 #[.slice a n c] w fun e w' => e = .returned (.bool b) ∧ w = w' := by
  subst hb
  go_enter Try.func5, Try.ntmps5
  go_wp2
  go_ret
  exact ⟨rfl, rfl⟩
theorem putOnT {x : Blk} {L : List Blk} {bm bw n : Nat} {f : Nat → Bool} {B : Nat} {w0 w : World} (a m : Nat) (hn : n ≤ 4096) (ha : a + m ≤ n) (hp : Hp B w0 w (x :: mBlk bm bw n :: wBlk bw n f :: L)) :
    Calls Try.prog 10 #[.pointer (some ⟨bm, 0, none⟩), .int .i64 a, .int .i64 m, .bool true] w fun e w' => e = .returned (.int .i64 0) ∧ Hp B w0 w' (x :: mBlk bm bw n :: wBlk bw n (upd f a (a + m) true) :: L) :=
  (putOn (L := x :: L) a m hn ha (hp.reorder (List.perm_middle (a := x) (l₁ := [mBlk bm bw n, wBlk bw n f]) (l₂ := L)).symm)).mono fun _ _ ⟨he, hq⟩ => ⟨he, hq.reorder (List.perm_middle (a := x) (l₁ := [mBlk bm bw n, wBlk bw n (upd f a (a + m) true)]) (l₂ := L))⟩
theorem runOffT {bm bw n : Nat} {f : Nat → Bool} {w : World} (a m : Nat) (hn : n ≤ 4096) (ha : a + m ≤ n) (hm : 0 < m) (hf : ∀ i, a ≤ i → i < a + m → f i = false) (hM : MapAt w bm bw n f) :
    Calls Try.prog 13 #[.pointer (some ⟨bm, 0, none⟩), .int .i64 a, .int .i64 m, .bool false] w fun e w' => e = .returned (.int .i64 a) ∧ w = w' :=
  (run16 bm bw n f hn a m false (by omega) w hM).mono fun _ _ ⟨_, he, hr, hw⟩ => ⟨by rw [he, run_off hr hm ha hf], hw⟩
end Go.Proofs.Ytcjbepaclbhjaaa
