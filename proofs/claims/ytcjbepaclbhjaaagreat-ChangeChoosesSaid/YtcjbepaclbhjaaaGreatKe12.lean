/- Parts of the proof. -/
import Derived.Test.YtcjbepaclbhjaaaGreatKe1
import Derived.Test.YtcjbepaclbhjaaaGreatKe11
import Derived.Test.YtcjbepaclbhjaaaGreatKe3
import Derived.Test.YtcjbepaclbhjaaaGreatKe10
import Derived.Test.YtcjbepaclbhjaaaGreatKe2
open List renaming set_cons_zero → zSet, set_cons_succ → sSet
/- Equal heaps are right alike; the walk of fresh. -/
set_option linter.unusedSimpArgs false
set_option linter.unusedVariables false
namespace Go.Proofs.YtcjbepaclbhjaaaGreat
open Go.RowKit
theorem ObsSm.get {l k : List Ob} (h : ObsSm l k) {i : Nat} {a : Ob} (ha : l[i]? = some a) : ∃ b, k[i]? = some b ∧ a.Sm b := by
  obtain ⟨hlt, _⟩ := List.getElem?_eq_some_iff.1 ha
  have hb := List.getElem?_eq_getElem (l := k) (i := i) (by have := h.1; omega)
  exact ⟨_, hb, h.2 i _ _ ha hb⟩
theorem ObsSm.mem {l k : List Ob} (h : ObsSm l k) {a : Ob} (ha : a ∈ l) : ∃ b, b ∈ k ∧ a.Sm b := by
  obtain ⟨i, hi, rfl⟩ := List.getElem_of_mem ha
  obtain ⟨b, hb, hs⟩ := h.get (List.getElem?_eq_getElem hi)
  exact ⟨b, List.mem_of_getElem? hb, hs⟩
theorem ObsSm.blocks {l k : List Ob} (h : ObsSm l k) : l.map obBl = k.map obBl := by
  apply List.ext_getElem?
  intro i
  rw [List.getElem?_map, List.getElem?_map]
  cases ha : l[i]? with
  | none =>
    have : l.length ≤ i := List.getElem?_eq_none_iff.1 ha
    rw [List.getElem?_eq_none (by have := h.1; omega)]
  | some a =>
    obtain ⟨b, hb, _, h2, h3, _⟩ := h.get ha
    rw [hb]; simp [obBl, h2, h3]
theorem leadsP_sm {l k : List Ob} (h : ObsSm l k) {t : Int} (ht : leadsP l t) : leadsP k t := by
  rcases ht with h0 | ⟨o, ho, rfl⟩
  · exact .inl h0
  · obtain ⟨b, hb, h1, _⟩ := h.mem ho
    exact .inr ⟨b, hb, h1.symm⟩
theorem hright_mono {x y : Hv} (h : x.Sm y) (hx : HRight x) : HRight y where
  free := by rw [← h.od, ← h.fs]; exact hx.free
  lo := by rw [← h.nx]; exact hx.lo
  hi := by rw [← h.nx]; exact hx.hi
  len := by rw [← h.os.1]; exact hx.len
  rise := fun i o ho => by
    obtain ⟨a, ha, h1, _⟩ := h.os.symm.get ho
    obtain ⟨r1, r2, r3⟩ := hx.rise i a ha
    rw [h1, ← h.nx]
    refine ⟨r1, r2, fun k q hk hq => ?_⟩
    obtain ⟨c, hc, h2, _⟩ := h.os.symm.get hq
    rw [h2]
    exact r3 k c hk hc
  need := fun o ho => by
    obtain ⟨a, ha, h1, h2, h3, h4, h5⟩ := h.os.symm.mem ho
    have := hx.need a ha
    have e : obBl o = obBl a := by simp [obBl, h2, h3]
    rw [e, h4, h5, h3, ← h.od]; exact this
  apart := by unfold allBl; rw [← h.fs, ← h.os.blocks]; exact hx.apart
  links := fun o ho t ht => by
    obtain ⟨a, ha, h1, h2, h3, h4, h5⟩ := h.os.symm.mem ho
    rw [h5] at ht
    exact leadsP_sm h.os (hx.links a ha t ht)
  tops := fun t ht => by
    have e : tops y = tops x := by simp [tops, h.t0, h.t1, h.t2, h.t3]
    rw [e] at ht
    exact leadsP_sm h.os (hx.tops t ht)
  words := by unfold allBl; rw [← h.fs, ← h.os.blocks, ← h.od]; exact hx.words
theorem hright_sm {x y : Hv} (h : x.Sm y) : hrightB x = hrightB y := by
  unfold hrightB
  exact decide_eq_decide.2 ⟨hright_mono h, hright_mono h.symm⟩
theorem hright_one {o : Int} (h3 : 3 ≤ o) (h8 : o ≤ 8) : hrightB (oneHv o) = true := by
  have hp := pw_pos o
  refine hright_yes ⟨rightB_yes (by simp only [regionB, oneHv]; simp [h3, h8]) ?_, Int.le_refl 1, (by show (1 : Int) ≤ 1000001; decide), by simp [oneHv], fun i o ho => by simp [oneHv] at ho, fun o ho => by simp [oneHv] at ho, ?_, fun o ho => by simp [oneHv] at ho, fun t ht => .inl ?_, ?_⟩
  · intro i y hy
    rcases i with _ | i
    · simp [oneHv] at hy
      subst hy
      exact ⟨⟨by show (0 : Int) ≤ o; omega, Int.le_refl _, Int.le_refl _, by show (0 : Int) ≤ pw o - pw o; omega, by simp⟩, fun k x hk => by omega⟩
    · simp [oneHv] at hy
  · simp [Apart, allBl, oneHv]
  · simp [tops, oneHv] at ht; exact ht
  · simp [allBl, oneHv, sumB]
theorem check110L (od : Int) (oa : Option Addr) (os : List Ob) (oc : Nat) (nx t0 t1 t2 t3 : Int) (fa : Option Addr) (fs : List Bl) (fc : Nat) (b : Bool) (hb : hrightB ⟨od, oa, os, oc, nx, t0, t1, t2, t3, fa, fs, fc⟩ = b) (hs : Hv.Small ⟨od, oa, os, oc, nx, t0, t1, t2, t3, fa, fs, fc⟩) (w : World) (h : Hv.Is w ⟨od, oa, os, oc, nx, t0, t1, t2, t3, fa, fs, fc⟩) : Calls Tryz.prog 110 #[(.agg #[.int .i64 od, .slice oa os.length oc, .int .i64 nx, .int .i64 t0, .int .i64 t1, .int .i64 t2, .int .i64 t3, .slice fa fs.length fc])] w fun e w' => e = .returned (.int .i64 (errI b)) ∧ Below w.heap.size w w' := hb ▸ check110 ⟨od, oa, os, oc, nx, t0, t1, t2, t3, fa, fs, fc⟩ hs w h
end Go.Proofs.YtcjbepaclbhjaaaGreat
/- The walk of heap.Do: what an operation makes of a heap. -/
namespace Go.Proofs.YtcjbepaclbhjaaaGreat
open Go.RowKit
def HvO (y : Hv) (R : List Blk) : Prop := ∃ RO RF M, R = RO ++ (RF ++ M) ∧ HvR y RO RF M
theorem hright_of {x : Hv} (h : hrightB x = true) : HRight x := by unfold hrightB at h; simpa using h
end Go.Proofs.YtcjbepaclbhjaaaGreat
/- The walks of Find in a state's rows, the program's and the document's. -/
namespace Go.Proofs.YtcjbepaclbhjaaaGreat
open Go.RowKit
def findR (l : List Rw) (c : Int) : Rw × Bool := match l.find? (fun x => decide (x.c = c)) with
  | some x => (x, true)
  | none => (⟨0, 0, 0, 0⟩, false)
end Go.Proofs.YtcjbepaclbhjaaaGreat
/- What an entry makes of a state: the plain law. No program in sight. -/
namespace Go.Proofs.YtcjbepaclbhjaaaGreat
def rowOk (last : Int) (x : Rw) : Bool := decide (last < x.c ∧ x.c ≤ 4 ∧ 1 ≤ x.s ∧ x.s ≤ 1000000 ∧ 0 ≤ x.e ∧ x.e ≤ 65535)
def rowsOk : Int → List Rw → Bool
  | _, [] => true
  | last, x :: r => rowOk last x && rowsOk x.c r
noncomputable def stB (x : Sv) : Bool := hrightB x.hv && rowsOk 0 x.rs
def putRow : List Rw → Rw → List Rw
  | [], x => [x]
  | y :: r, x => if y.c < x.c then y :: putRow r x else if y.c = x.c then x :: r else x :: y :: r
def applyC (x : Sv) (c s : Int) (o : Opd) : Sv × Int × Int :=
  if s < (findR x.rs c).1.s then (x, 130, 0) else if c = 0 ∨ (findR x.rs c).1.s = s then (x, (findR x.rs c).1.e, (findR x.rs c).1.v) else
    ({ x with hv := (doC x.hv o).1, rs := putRow x.rs ⟨c, s, (doC x.hv o).2.1, (doC x.hv o).2.2⟩ }, (doC x.hv o).2.1, (doC x.hv o).2.2)
theorem rowsOk_cons {last : Int} {x : Rw} {r : List Rw} : rowsOk last (x :: r) = true ↔ rowOk last x = true ∧ rowsOk x.c r = true := by simp [rowsOk]
theorem rowOk_iff {last : Int} {x : Rw} : rowOk last x = true ↔ last < x.c ∧ x.c ≤ 4 ∧ 1 ≤ x.s ∧ x.s ≤ 1000000 ∧ 0 ≤ x.e ∧ x.e ≤ 65535 := by simp [rowOk]
theorem rowsOk_mem : ∀ {l : List Rw} {last : Int}, rowsOk last l = true → ∀ x ∈ l, rowOk last x = true
  | [], _, _, x, hx => by cases hx
  | y :: r, last, h, x, hx => by
    obtain ⟨h1, h2⟩ := rowsOk_cons.1 h
    rcases List.mem_cons.1 hx with rfl | hx
    · exact h1
    · have h3 := rowOk_iff.1 h1
      have h4 := rowOk_iff.1 (rowsOk_mem h2 x hx)
      exact rowOk_iff.2 ⟨by omega, h4.2⟩
theorem rowsOk_len : ∀ {l : List Rw} {last : Int}, rowsOk last l = true → last ≤ 4 → (l.length : Int) ≤ 4 - last
  | [], _, _, h => by simp; omega
  | y :: r, last, h, _ => by
    obtain ⟨h1, h2⟩ := rowsOk_cons.1 h
    have h3 := rowOk_iff.1 h1
    have := rowsOk_len h2 h3.2.1
    simp only [List.length_cons]; omega
structure StR (x : Sv) : Prop where
  hv : HRight x.hv
  rows : rowsOk 0 x.rs = true
theorem st_of {x : Sv} (h : stB x = true) : StR x := by
  unfold stB at h
  rw [Bool.and_eq_true] at h
  exact ⟨hright_of h.1, h.2⟩
theorem st_yes {x : Sv} (h : StR x) : stB x = true := by unfold stB; rw [hright_yes h.hv, h.rows]; rfl
theorem StR.small {x : Sv} (h : StR x) : x.Small := ⟨h.hv.small, by have := rowsOk_len h.rows (by decide); omega⟩
theorem stB_sm {x y : Sv} (h : x.Sm y) : stB x = stB y := by unfold stB; rw [hright_sm h.1, h.2]
end Go.Proofs.YtcjbepaclbhjaaaGreat
/- The walk of image.Check. -/
namespace Go.Proofs.YtcjbepaclbhjaaaGreat
open Go.RowKit
theorem row_ways (last : Int) (x : Rw) : (decide (last < x.c) = false ∧ rowOk last x = false) ∨ (decide (last < x.c) = true ∧ decide (x.c ≤ 4) = false ∧ rowOk last x = false) ∨
    (decide (last < x.c) = true ∧ decide (x.c ≤ 4) = true ∧ decide (1 ≤ x.s) = false ∧ rowOk last x = false) ∨ (decide (last < x.c) = true ∧ decide (x.c ≤ 4) = true ∧ decide (1 ≤ x.s) = true ∧ decide (x.s ≤ 1000000) = false ∧ rowOk last x = false) ∨
    (decide (last < x.c) = true ∧ decide (x.c ≤ 4) = true ∧ decide (1 ≤ x.s) = true ∧ decide (x.s ≤ 1000000) = true ∧ decide (0 ≤ x.e) = false ∧ rowOk last x = false) ∨
    (decide (last < x.c) = true ∧ decide (x.c ≤ 4) = true ∧ decide (1 ≤ x.s) = true ∧ decide (x.s ≤ 1000000) = true ∧ decide (0 ≤ x.e) = true ∧ decide (x.e ≤ 65535) = false ∧ rowOk last x = false) ∨
    (decide (last < x.c) = true ∧ decide (x.c ≤ 4) = true ∧ decide (1 ≤ x.s) = true ∧ decide (x.s ≤ 1000000) = true ∧ decide (0 ≤ x.e) = true ∧ decide (x.e ≤ 65535) = true ∧ rowOk last x = true) := by
  unfold rowOk
  simp only [decide_eq_true_eq, decide_eq_false_iff_not]
  omega
def errS (b : Bool) : Int := if b then 0 else 60
set_option maxRecDepth 100000 in
set_option maxHeartbeats 8000000 in
theorem check90 (x : Sv) (r : Bool) (hr : stB x = r) (hs : x.Small) (w : World) (hx0 : x.Is w) :
    Calls Tryz.prog 90 #[.agg (svL x).toArray] w fun e w' => e = .returned (.int .i64 (errS r)) ∧ Below w.heap.size w w' := by
  obtain ⟨⟨od, oa, os, oc, nx, t0, t1, t2, t3, fa, fs, fc⟩, ra, rs, rc⟩ := x
  obtain ⟨hb, hhb⟩ : ∃ b, hrightB ⟨od, oa, os, oc, nx, t0, t1, t2, t3, fa, fs, fc⟩ = b := ⟨_, rfl⟩
  have hq : (hb && rowsOk 0 rs) = r := by rw [← hr]; unfold stB; simp only; rw [hhb]
  obtain ⟨hi, hri⟩ := hx0
  simp only at hi hri
  simp only [svL, hvL, List.cons_append, List.nil_append]
  have hl : rs.length ≤ 1000 := hs.2
  have HB := Lib.hid hhb
  have HQ := Lib.hid hq
  have HSS : RowKit.Hid (Hv.Small ⟨od, oa, os, oc, nx, t0, t1, t2, t3, fa, fs, fc⟩) := Lib.hid hs.1
  have HIS := Lib.hid hi
  have HR : RowKit.Hid (RowIs w ra (rs.flatMap rwV)) := Lib.hid hri
  have he : ((errI hb == 0) : Bool) = hb := by cases hb <;> rfl
  have hp := Hp.start w
  clear hr hhb hq hi hri hs
  go_enter Tryz.func90, Tryz.ntmps90
  go_wp2_with (first | (go_at_call 110; (with_reducible refine (check110L od oa os oc nx t0 t1 t2 t3 fa fs fc _ HB.out HSS.out _ (HIS.out.below hp.below)).mono ?_); rintro e w1 ⟨rfl, hb⟩; replace hp := hp.call hb; clear hb) | go_skip | (first | (refine hA1 ?_; clear hp; intro b w1 hp) | refine hL3 ?_ | (refine hS1 ?_; clear hp; intro w1 hp)))
  obtain ⟨b1, rfl⟩ := hp.id0
  go_loopg [3, 4, 14] rs.length (fun k o l i wr => ∃ (q : Nat) (ok : Bool) (last : Int) (L : List Blk), k + q = rs.length ∧ o = .bool ok ∧ l = .int .i64 last ∧ i = .int .i64 q ∧ RowKit.Hid ((ok && rowsOk last (rs.drop q)) = r) ∧ Hp w.heap.size w wr L)
  case atStart => exact ⟨0, hb, 0, _, by omega, by first | rfl | (rw [he]), rfl, rfl, Lib.hid (by simpa using HQ.out), hp⟩
  case round =>
    clear hp
    obtain ⟨q, ok, last, L, hkq, rfl, rfl, rfl, HI, hp⟩ := hrel
    by_cases hlt : q < rs.length
    · obtain ⟨bq, off, rfl, hx⟩ := HR.out.elems 4 rwV_len (by omega) (by omega)
      have hj := List.getElem?_eq_getElem hlt
      replace hx := hx q _ hj
      have hdrop := List.drop_eq_getElem_cons hlt
      have hin := HI.out
      rw [hdrop] at hin
      clear hj hdrop HI
      generalize rs[q] = x at hx hin
      have hw := row_ways last x
      obtain ⟨yc, ys, ye, yv⟩ := x
      simp only [rwV] at hx
      simp only [rowsOk] at hin
      simp only at hw
      have HX := Lib.hid hx
      have HIN := Lib.hid hin
      have e1 : (0 : Int) ≤ (q : Int) := by omega
      have e2 : (q : Int) < (rs.length : Int) := by omega
      clear hx hin
      cases ok with
      | false =>
        clear hw
        go_wp2_with (first | go_skip | (first | (refine hA1 ?_; clear hp; intro b w1 hp) | refine hL3 ?_ | (refine hS1 ?_; clear hp; intro w1 hp)))
        go_roundg (gk - 1)
        case measure => omega
        case rel => exact ⟨q + 1, false, yc, _, by omega, rfl, rfl, by go_num, Lib.hid (by simpa using HIN.out), hp⟩
      | true =>
        rcases hw with ⟨d1, g⟩ | ⟨d1, d2, g⟩ | ⟨d1, d2, d3, g⟩ | ⟨d1, d2, d3, d4, g⟩ | ⟨d1, d2, d3, d4, d5, g⟩ | ⟨d1, d2, d3, d4, d5, d6, g⟩ | ⟨d1, d2, d3, d4, d5, d6, g⟩
        all_goals
          have HG := Lib.hid g
          clear g
          go_wp2_with (first | go_skip | (first | (refine hA1 ?_; clear hp; intro b w1 hp) | refine hL3 ?_ | (refine hS1 ?_; clear hp; intro w1 hp)))
          go_roundg (gk - 1)
          case measure => omega
          case rel => exact ⟨q + 1, _, yc, _, by omega, rfl, rfl, by go_num, Lib.hid (by have h := HIN.out; rw [HG.out] at h; simpa using h), hp⟩
    · have e2 : decide ((q : Int) < (rs.length : Int)) = false := by simp; omega
      have hr : ok = r := by have h := HI.out; rw [List.drop_eq_nil_of_le (by omega)] at h; simpa [rowsOk] using h
      subst hr
      clear HI HQ
      cases ok with
      | true =>
        go_wp2_with (first | go_skip | (first | (refine hA1 ?_; clear hp; intro b w1 hp) | refine hL3 ?_ | (refine hS1 ?_; clear hp; intro w1 hp)))
        go_ret
        exact ⟨rfl, hp.below⟩
      | false =>
        go_wp2_with (first | go_skip | (first | (refine hA1 ?_; clear hp; intro b w1 hp) | refine hL3 ?_ | (refine hS1 ?_; clear hp; intro w1 hp)))
        go_ret
        exact ⟨rfl, hp.below⟩
theorem check90L (od : Int) (oa : Option Addr) (os : List Ob) (oc : Nat) (nx t0 t1 t2 t3 : Int) (fa : Option Addr) (fs : List Bl) (fc : Nat) (ra : Option Addr) (rs : List Rw) (rc : Nat) (r : Bool) (hr : stB ⟨⟨od, oa, os, oc, nx, t0, t1, t2, t3, fa, fs, fc⟩, ra, rs, rc⟩ = r)
    (hs : Sv.Small ⟨⟨od, oa, os, oc, nx, t0, t1, t2, t3, fa, fs, fc⟩, ra, rs, rc⟩) (w : World) (h : Sv.Is w ⟨⟨od, oa, os, oc, nx, t0, t1, t2, t3, fa, fs, fc⟩, ra, rs, rc⟩) :
    Calls Tryz.prog 90 #[.agg #[.int .i64 od, .slice oa os.length oc, .int .i64 nx, .int .i64 t0, .int .i64 t1, .int .i64 t2, .int .i64 t3, .slice fa fs.length fc, .slice ra rs.length rc]] w fun e w' => e = .returned (.int .i64 (errS r)) ∧ Below w.heap.size w w' := check90 _ r hr hs w h
end Go.Proofs.YtcjbepaclbhjaaaGreat
