/- Parts of the proof. -/
import Derived.Test.YtcjbepaclbhjaaaGreatKe1
import Derived.Test.YtcjbepaclbhjaaaGreatKe37
import Derived.Test.YtcjbepaclbhjaaaGreatKe0
open List renaming set_cons_zero → zSet, set_cons_succ → sSet
/- The walk of the document's Big of votes. -/
set_option linter.unusedSimpArgs false
set_option linter.unusedVariables false
namespace Go.Proofs.YtcjbepaclbhjaaaGreat
open Go.RowKit
theorem big_z (vw nm bs : Int) (im : ByteArray) (ea : Option Addr) (es : List Env) (ec : Nat) (w : World) :
    Calls Tryz.prog 26 #[.agg #[.int .i64 vw, .int .i64 nm, .int .i64 bs, .string im, .slice ea es.length ec], .agg #[.int .i64 0, .int .i64 0, .int .i64 0, .int .i64 0, .string ⟨#[]⟩, .int .i64 0, .int .i64 0, .int .i64 0, .int .i64 0, .int .i64 0, .int .i64 0, .int .i64 0, .int .i64 0, .int .i64 0, .int .i64 0, .int .i64 0, .slice none 0 0]] w (BigP w es.length 0 im.size 0) :=
  big26 vw nm bs im ea es ec 0 0 0 0 ⟨#[]⟩ 0 0 0 0 0 0 0 0 0 0 0 none [] 0 w
def BigVP (w : World) (l : List Vt) (n p : Nat) (e : Ending) (w' : World) : Prop := ∃ bb, e = .returned (.bool bb) ∧ (bb = false → l.length ≤ 50 ∧ n ≤ 300 ∧ p ≤ 100000 ∧ ∀ v ∈ l, v.es.length ≤ 200) ∧ Below w.heap.size w w'
set_option maxRecDepth 100000 in
set_option maxHeartbeats 4000000 in
theorem big7 (l : List Vt) (a : Option Addr) (k : Nat) (vw nm bs : Int) (im : ByteArray) (ea : Option Addr) (es : List Env) (ec : Nat) (w : World) (ha : RowIs w a (l.flatMap vtV)) :
    Calls Tryz.prog 7 #[.slice a l.length k, .agg #[.int .i64 vw, .int .i64 nm, .int .i64 bs, .string im, .slice ea es.length ec]] w (BigVP w l es.length im.size) := by
  have hp := Hp.start w
  have HA := Lib.hid ha
  clear ha
  by_cases hl : l.length ≤ 50
  · have e0 : decide ((50 : Int) < (l.length : Int)) = false := by simp; omega
    go_enter Tryz.func7, Tryz.ntmps7
    go_wp2_with (first | (go_at_call 26; (with_reducible refine (big_z vw nm bs im ea es ec _).mono ?_); rintro e w1 ⟨bb, rfl, hbb, hb⟩; replace hp := hp.call hb; clear hb; cases bb) | go_skip | (first | (refine hA2 ?_; clear hp; intro b w1 hp) | refine hL0 ?_ | (refine hS0 ?_; clear hp; intro w1 hp)))
    · have HBB := Lib.hid (hbb (by first | rfl | trivial))
      clear hbb e0
      go_loopg [5] l.length (fun k i wr => ∃ j : Nat, k + j = l.length ∧ i = .int .i64 j ∧ RowKit.Hid (∀ (i : Nat) y, i < j → l[i]? = some y → y.es.length ≤ 200) ∧ Hp w.heap.size w wr [⟨b, [.int .i64 vw, .int .i64 nm, .int .i64 bs, .string im, .slice ea es.length ec], 24, 5⟩])
      case atStart => exact ⟨0, by omega, rfl, Lib.hid (fun i y h => by omega), hp⟩
      case round =>
        clear hp
        obtain ⟨j, hkj, rfl, HNO, hp⟩ := hrel
        by_cases hlt : j < l.length
        · obtain ⟨bq, off, rfl, hx⟩ := HA.out.elems 6 vtV_len (by omega) (by omega)
          have hj := List.getElem?_eq_getElem hlt
          replace hx := hx j _ hj
          have HJ := Lib.hid hj
          clear hj
          generalize l[j] = y at hx HJ
          obtain ⟨nd, nm2, bs2, nu, cm, va, xs, vc⟩ := y
          simp only [vtV] at hx
          have HX := Lib.hid hx
          clear hx
          have f1 : (0 : Int) ≤ (j : Int) := by omega
          have f2 : (j : Int) < (l.length : Int) := by omega
          by_cases hxs : xs.length ≤ 200
          · have e1 : decide ((200 : Int) < (xs.length : Int)) = false := by simp; omega
            go_wp2_with (first | go_skip | (first | (refine hA2 ?_; clear hp; intro b w1 hp) | refine hL19 ?_ | (refine hS0 ?_; clear hp; intro w1 hp)))
            go_roundg (gk - 1)
            case measure => omega
            case rel => exact ⟨j + 1, by omega, by go_num, Lib.hid (fun i y hi hy => by
              rcases Nat.lt_or_ge i j with h | h
              · exact HNO.out i y h hy
              · obtain rfl : i = j := by omega
                rw [HJ.out] at hy; injection hy with hy; rw [← hy]; exact hxs), hp⟩
          · have e1 : decide ((200 : Int) < (xs.length : Int)) = true := by simp; omega
            go_wp2_with (first | go_skip | (first | (refine hA2 ?_; clear hp; intro b w1 hp) | refine hL19 ?_ | (refine hS0 ?_; clear hp; intro w1 hp)))
            go_ret
            exact ⟨true, rfl, fun h => (by cases h), hp.below⟩
        · have f2 : decide ((j : Int) < (l.length : Int)) = false := by simp; omega
          go_wp2_with (first | go_skip | (first | (refine hA2 ?_; clear hp; intro b w1 hp) | refine hL0 ?_ | (refine hS0 ?_; clear hp; intro w1 hp)))
          go_ret
          exact ⟨false, rfl, fun _ => ⟨hl, HBB.out.1, HBB.out.2.2.1, fun v hv => by
            obtain ⟨i, hi, rfl⟩ := List.getElem_of_mem hv
            exact HNO.out i _ (by omega) (List.getElem?_eq_getElem hi)⟩, hp.below⟩
    · go_wp2_with (first | go_skip | (first | (refine hA2 ?_; clear hp; intro b w1 hp) | refine hL0 ?_ | (refine hS0 ?_; clear hp; intro w1 hp)))
      go_ret
      exact ⟨true, rfl, fun h => (by cases h), hp.below⟩
  · have e0 : decide ((50 : Int) < (l.length : Int)) = true := by simp; omega
    go_enter Tryz.func7, Tryz.ntmps7
    go_wp2_with (first | (go_at_call 26; (with_reducible refine (big_z vw nm bs im ea es ec _).mono ?_); rintro e w1 ⟨bb, rfl, hbb, hb⟩; replace hp := hp.call hb; clear hb; cases bb) | go_skip | (first | (refine hA2 ?_; clear hp; intro b w1 hp) | refine hL0 ?_ | (refine hS0 ?_; clear hp; intro w1 hp)))
    go_ret
    exact ⟨true, rfl, fun h => (by cases h), hp.below⟩
end Go.Proofs.YtcjbepaclbhjaaaGreat
/- The walks of Best of views and of its document's twin. -/
namespace Go.Proofs.YtcjbepaclbhjaaaGreat
open Go.RowKit Go.Lib
def ltX (x y : Vt) : Prop := x.nm < y.nm ∨ (x.nm = y.nm ∧ x.nu < y.nu)
def leX (x y : Vt) : Prop := x.nm < y.nm ∨ (x.nm = y.nm ∧ x.nu ≤ y.nu)
theorem leX_of_not {x y : Vt} (h : ¬ ltX y x) : leX x y := by unfold ltX at h; unfold leX; omega
structure TopV (l : List Vt) (m : Nat) (x : Vt) : Prop where
  get : l[m]? = some x
  top : ∀ (i : Nat) y, l[i]? = some y → leX y x
  first : ∀ (i : Nat) y, i < m → l[i]? = some y → ltX y x
theorem TopV.uniq {l : List Vt} {m k : Nat} {x y : Vt} (h : TopV l m x) (g : TopV l k y) : m = k ∧ x = y := by
  have hmk : m = k := by
    rcases Nat.lt_trichotomy m k with e | e | e
    · have h1 := g.first m x e h.get
      have h2 := h.top k y g.get
      unfold ltX at h1; unfold leX at h2; omega
    · exact e
    · have h1 := h.first k y e g.get
      have h2 := g.top m x h.get
      unfold ltX at h1; unfold leX at h2; omega
  subst hmk
  have h1 := h.get
  rw [g.get] at h1
  injection h1 with h1
  exact ⟨rfl, h1.symm⟩
theorem take_get {l : List Vt} {q i : Nat} {y : Vt} (h : (l.take q)[i]? = some y) : i < q ∧ l[i]? = some y := by
  rw [List.getElem?_take] at h
  split at h
  · exact ⟨by assumption, h⟩
  · cases h
theorem take_at {l : List Vt} {q i : Nat} {y : Vt} (hi : i < q) (h : l[i]? = some y) : (l.take q)[i]? = some y := by
  rw [List.getElem?_take, if_pos hi]; exact h
theorem TopV.one {l : List Vt} {x : Vt} (h : l[0]? = some x) : TopV (l.take 1) 0 x :=
  ⟨take_at (by omega) h, fun i y hy => by
    obtain ⟨h1, h2⟩ := take_get hy
    obtain rfl : i = 0 := by omega
    rw [h] at h2; injection h2 with h2; subst h2
    exact .inr ⟨rfl, Int.le_refl _⟩, fun i y hi => by omega⟩
theorem TopV.keep {l : List Vt} {q m : Nat} {x y : Vt} (h : TopV (l.take q) m x) (hy : l[q]? = some y) (hn : ¬ ltX x y) : TopV (l.take (q + 1)) m x := by
  obtain ⟨h1, h2⟩ := take_get h.get
  refine ⟨take_at (by omega) h2, fun i z hz => ?_, fun i z hi hz => ?_⟩
  · obtain ⟨h3, h4⟩ := take_get hz
    rcases Nat.lt_or_ge i q with e | e
    · exact h.top i z (take_at e h4)
    · obtain rfl : i = q := by omega
      rw [hy] at h4; injection h4 with h4; subst h4
      exact leX_of_not hn
  · obtain ⟨_, h4⟩ := take_get hz
    exact h.first i z hi (take_at (by omega) h4)
theorem TopV.next {l : List Vt} {q m : Nat} {x y : Vt} (h : TopV (l.take q) m x) (hy : l[q]? = some y) (hn : ltX x y) : TopV (l.take (q + 1)) q y := by
  have hlow : ∀ (i : Nat) z, i < q → l[i]? = some z → ltX z y := fun i z hi hz => by
    have := h.top i z (take_at hi hz)
    unfold leX at this; unfold ltX at hn ⊢; omega
  refine ⟨take_at (by omega) hy, fun i z hz => ?_, fun i z hi hz => hlow i z hi (take_get hz).2⟩
  obtain ⟨h3, h4⟩ := take_get hz
  rcases Nat.lt_or_ge i q with e | e
  · have := hlow i z e h4
    unfold ltX at this; unfold leX; omega
  · obtain rfl : i = q := by omega
    rw [hy] at h4; injection h4 with h4; subst h4
    exact .inr ⟨rfl, Int.le_refl _⟩
def eqM (c1 c2 : Int) (x : Vt) : Bool := x.nm == c1 && x.nu == c2
theorem TopV.of {l : List Vt} {x : Vt} {r : Int} {m0 : Nat} (hx : l[m0]? = some x) (ht : ∀ (i : Nat) y, l[i]? = some y → leX y x) (h : IdxV (eqM x.nm x.nu) l r) : ∃ (m : Nat) (y : Vt), r = m ∧ TopV l m y := by
  rcases h with ⟨_, h⟩ | ⟨m, y, rfl, h1, h2, h3⟩
  · have := h m0 x hx
    simp [eqM] at this
  · refine ⟨m, y, rfl, h1, fun i z hz => ?_, fun i z hi hz => ?_⟩
    · have := ht i z hz
      simp only [eqM, Bool.and_eq_true, beq_iff_eq] at h2
      unfold leX at this ⊢; omega
    · have h4 := ht i z hz
      have h5 := h3 i z hi hz
      simp only [eqM, Bool.and_eq_true, beq_iff_eq] at h2
      simp only [eqM, Bool.and_eq_false_iff, beq_eq_false_iff_ne] at h5
      unfold leX at h4; unfold ltX; omega
set_option maxRecDepth 100000 in
set_option maxHeartbeats 4000000 in
theorem cl77 (nd nm bs nu cm : Int) (va : Option Addr) (n2 vc : Nat) (c1 c2 : Int) (b : Nat) (w : World) (hb : b < w.heap.size) (hc : w.cell? ⟨b, 1, none⟩ = some (.int .i64 c1)) (hd : w.cell? ⟨b, 3, none⟩ = some (.int .i64 c2)) (r : Bool) (hr : (nm == c1 && nu == c2) = r) :
    Calls Tryz.prog 77 #[.agg #[.int .i64 nd, .int .i64 nm, .int .i64 bs, .int .i64 nu, .int .i64 cm, .slice va n2 vc], .pointer (some ⟨b, 0, none⟩)] w fun e w' => e = .returned (.bool r) ∧ Below w.heap.size w w' := by
  subst hr
  have hp := Hp.start w
  have HC := Lib.hid hc
  have HD := Lib.hid hd
  clear hc hd
  by_cases h1 : nm = c1
  · have e1 : (nm == c1) = true := by simpa using h1
    go_enter Tryz.func77, Tryz.ntmps77
    go_wp2_with (first | go_skip | (first | (refine hA0 ?_; clear hp; intro b w1 hp) | refine hL0 ?_ | (refine hS0 ?_; clear hp; intro w1 hp)) | (refine hL20 ?_))
    go_ret
    exact ⟨by rw [e1, Bool.true_and]; rfl, hp.below⟩
  · have e1 : (nm == c1) = false := by simpa using h1
    go_enter Tryz.func77, Tryz.ntmps77
    go_wp2_with (first | go_skip | (first | (refine hA0 ?_; clear hp; intro b w1 hp) | refine hL0 ?_ | (refine hS0 ?_; clear hp; intro w1 hp)) | (refine hL20 ?_))
    go_ret
    exact ⟨by rw [e1, Bool.false_and]; rfl, hp.below⟩
set_option maxRecDepth 100000 in
set_option maxHeartbeats 4000000 in
theorem idx42_b (l : List Vt) (a : Option Addr) (k : Nat) (hl : l.length ≤ 1000) (c1 c2 : Int) (bc : Nat) (w : World) (ha : RowIs w a (l.flatMap vtV)) (hbc : bc < w.heap.size) (hcc : w.cell? ⟨bc, 1, none⟩ = some (.int .i64 c1)) (hcd : w.cell? ⟨bc, 3, none⟩ = some (.int .i64 c2)) :
    Calls Tryz.prog 42 #[.slice a l.length k, .func (.func 77) #[] #[.pointer (some ⟨bc, 0, none⟩)]] w (IdxVPost w (eqM c1 c2) l) := by
  have hp := Hp.start w
  have HA := Lib.hid ha
  have HC := Lib.hid hcc
  have HD := Lib.hid hcd
  clear ha hcc hcd
  go_enter Tryz.func42, Tryz.ntmps42
  go_wp2_with (first | go_skip | (first | (refine hA0 ?_; clear hp; intro b w1 hp) | refine hL0 ?_ | (refine hS0 ?_; clear hp; intro w1 hp)))
  go_loopg [8] l.length (fun k i wr => ∃ j : Nat, k + j = l.length ∧ i = .int .i64 j ∧ RowKit.Hid (∀ (i : Nat) y, i < j → l[i]? = some y → eqM c1 c2 y = false) ∧ Hp w.heap.size w wr [])
  case atStart => exact ⟨0, by omega, rfl, Lib.hid (fun i y h => by omega), hp⟩
  case round =>
    clear hp
    obtain ⟨j, hkj, rfl, HNO, hp⟩ := hrel
    by_cases hlt : j < l.length
    · obtain ⟨bq, off, rfl, hx⟩ := HA.out.elems 6 vtV_len (by omega) (by omega)
      have hj := List.getElem?_eq_getElem hlt
      replace hx := hx j _ hj
      have HJ := Lib.hid hj
      clear hj
      generalize l[j] = y at hx HJ
      have e1 : (0 : Int) ≤ (j : Int) := by omega
      have e2 : (j : Int) < (l.length : Int) := by omega
      cases hpy : eqM c1 c2 y with
      | true =>
        have HPY := Lib.hid hpy
        obtain ⟨nd, nm, bs, nu, cm, va, es, vc⟩ := y
        have HXC : RowKit.Hid ((nm == c1 && nu == c2) = true) := Lib.hid hpy
        simp only [vtV] at hx
        have HX := Lib.hid hx
        clear hx hpy
        go_wp2_with (first | (go_at_call 77; (with_reducible refine (cl77 nd nm bs nu cm va es.length vc c1 c2 bc _ (by have := hp.below.size; omega) ((hp.below.cell (p := ⟨bc, 1, none⟩) hbc).trans HC.out) ((hp.below.cell (p := ⟨bc, 3, none⟩) hbc).trans HD.out) _ HXC.out).mono ?_); rintro e w1 ⟨rfl, hb⟩; replace hp := hp.call hb; clear hb) | go_skip | (first | (refine hA1 ?_; clear hp; intro b w1 hp) | refine hL11 ?_ | (refine hS0 ?_; clear hp; intro w1 hp)))
        go_ret
        exact ⟨_, rfl, .inr ⟨j, _, rfl, HJ.out, HPY.out, HNO.out⟩, hp.below⟩
      | false =>
        have HPY := Lib.hid hpy
        obtain ⟨nd, nm, bs, nu, cm, va, es, vc⟩ := y
        have HXC : RowKit.Hid ((nm == c1 && nu == c2) = false) := Lib.hid hpy
        simp only [vtV] at hx
        have HX := Lib.hid hx
        clear hx hpy
        go_wp2_with (first | (go_at_call 77; (with_reducible refine (cl77 nd nm bs nu cm va es.length vc c1 c2 bc _ (by have := hp.below.size; omega) ((hp.below.cell (p := ⟨bc, 1, none⟩) hbc).trans HC.out) ((hp.below.cell (p := ⟨bc, 3, none⟩) hbc).trans HD.out) _ HXC.out).mono ?_); rintro e w1 ⟨rfl, hb⟩; replace hp := hp.call hb; clear hb) | go_skip | (first | (refine hA1 ?_; clear hp; intro b w1 hp) | refine hL11 ?_ | (refine hS0 ?_; clear hp; intro w1 hp)))
        go_roundg (gk - 1)
        case measure => omega
        case rel => exact ⟨j + 1, by omega, by go_num, Lib.hid (fun i y hi hy => by
          rcases Nat.lt_or_ge i j with h | h
          · exact HNO.out i y h hy
          · obtain rfl : i = j := by omega
            rw [HJ.out] at hy; injection hy with hy; rw [← hy]; exact HPY.out), hp⟩
    · have e2 : decide ((j : Int) < (l.length : Int)) = false := by simp; omega
      go_wp2_with (first | go_skip | (first | (refine hA0 ?_; clear hp; intro b w1 hp) | refine hL0 ?_ | (refine hS0 ?_; clear hp; intro w1 hp)))
      go_ret
      exact ⟨-1, rfl, .inl ⟨rfl, fun i y hy => HNO.out i y (by have := (List.getElem?_eq_some_iff.1 hy).1; omega) hy⟩, hp.below⟩
def orV (a b : Int) : Int := if a = 0 then b else a
set_option maxRecDepth 100000 in
set_option maxHeartbeats 4000000 in
theorem orv75 (a b : Int) {B : Nat} {w0 w : World} {g t n : Nat} {L : List Blk} (hp : Hp B w0 w (⟨g, [.int .i64 a, .int .i64 b], t, n⟩ :: L)) :
    Calls Tryz.prog 75 #[.slice (some ⟨g, 0, none⟩) 2 2] w fun e w' => e = .returned (.int .i64 (orV a b)) ∧ Hp B w0 w' (⟨g, [.int .i64 a, .int .i64 b], t, n⟩ :: L) := by
  go_enter Tryz.func75, Tryz.ntmps75
  go_wp2_with (first | go_skip | (first | (refine hA2 ?_; clear hp; intro b w1 hp) | refine hL21 ?_ | (refine hS3 ?_; clear hp; intro w1 hp)))
  go_loopg [5, 8] 2 (fun k x i wr => ∃ j : Nat, k + j = 2 ∧ i = .int .i64 j ∧ (0 < j → a = 0) ∧ (1 < j → b = 0) ∧ Hp B w0 wr (⟨g, [.int .i64 a, .int .i64 b], t, n⟩ :: L))
  case atStart => exact ⟨0, by omega, rfl, by omega, by omega, hp⟩
  case round =>
    clear hp
    obtain ⟨j, hkj, rfl, h0, h1, hp⟩ := hrel
    have hj : j = 0 ∨ j = 1 ∨ j = 2 := by omega
    rcases hj with rfl | rfl | rfl
    · clear h0 h1
      by_cases ha : a = 0
      · have HA := Lib.hid ha
        have e0 : (a != 0) = false := by simp [ha]
        clear ha
        go_wp2_with (first | go_skip | (first | (refine hA2 ?_; clear hp; intro b w1 hp) | refine hL21 ?_ | (refine hS3 ?_; clear hp; intro w1 hp)))
        go_roundg (gk - 1)
        case measure => omega
        case rel => exact ⟨1, by omega, rfl, fun _ => HA.out, by omega, hp⟩
      · have HA : RowKit.Hid (orV a b = a) := Lib.hid (by simp [orV, ha])
        have e0 : (a != 0) = true := by simp [ha]
        clear ha
        go_wp2_with (first | go_skip | (first | (refine hA2 ?_; clear hp; intro b w1 hp) | refine hL21 ?_ | (refine hS3 ?_; clear hp; intro w1 hp)))
        go_ret
        exact ⟨ret_int HA.out.symm, hp⟩
    · have HA0 := Lib.hid (h0 (by omega))
      have HA : RowKit.Hid (orV a b = b) := Lib.hid (by simp [orV, h0 (by omega)])
      clear h0 h1
      by_cases hb : b = 0
      · have HB := Lib.hid hb
        have e0 : (b != 0) = false := by simp [hb]
        clear hb
        go_wp2_with (first | go_skip | (first | (refine hA2 ?_; clear hp; intro b w1 hp) | refine hL21 ?_ | (refine hS3 ?_; clear hp; intro w1 hp)))
        go_roundg (gk - 1)
        case measure => omega
        case rel => exact ⟨2, by omega, rfl, fun _ => HA0.out, fun _ => HB.out, hp⟩
      · have e0 : (b != 0) = true := by simp [hb]
        clear hb
        go_wp2_with (first | go_skip | (first | (refine hA2 ?_; clear hp; intro b w1 hp) | refine hL21 ?_ | (refine hS3 ?_; clear hp; intro w1 hp)))
        go_ret
        exact ⟨ret_int HA.out.symm, hp⟩
    · have HA : RowKit.Hid (orV a b = 0) := Lib.hid (by simp [orV, h0 (by omega), h1 (by omega)])
      clear h0 h1
      go_wp2_with (first | go_skip | (first | (refine hA2 ?_; clear hp; intro b w1 hp) | refine hL21 ?_ | (refine hS3 ?_; clear hp; intro w1 hp)))
      go_ret
      exact ⟨ret_int HA.out.symm, hp⟩
theorem orI_gt (a b c d : Int) : 0 < orV (cmpI a b) (cmpI c d) ↔ (b < a ∨ (b = a ∧ d < c)) := by
  unfold orV cmpI
  (repeat' split) <;> omega
set_option maxRecDepth 100000 in
set_option maxHeartbeats 4000000 in
theorem cl74 (nd nm bs nu cm : Int) (va : Option Addr) (n2 vc : Nat) (nd2 nm2 bs2 nu2 cm2 : Int) (vb : Option Addr) (n3 vd : Nat) (x : Int) (hx : orV (cmpI nm nm2) (cmpI nu nu2) = x) (w : World) :
    Calls Tryz.prog 74 #[.agg #[.int .i64 nd, .int .i64 nm, .int .i64 bs, .int .i64 nu, .int .i64 cm, .slice va n2 vc], .agg #[.int .i64 nd2, .int .i64 nm2, .int .i64 bs2, .int .i64 nu2, .int .i64 cm2, .slice vb n3 vd]] w fun e w' => e = .returned (.int .i64 x) ∧ Below w.heap.size w w' := by
  subst hx
  have hp := Hp.start w
  go_enter Tryz.func74, Tryz.ntmps74
  go_wp2_with (first | go_skip | (first | (refine hA3 ?_; clear hp; intro b w1 hp) | refine hL0 ?_ | (refine hS0 ?_; clear hp; intro w1 hp)))
  refine wp_region_keepsT [_, _] (Keeps.two hp.drew at0 at1) [] (.take 0 (.take 1 (.take 2 (.take 3 (.take 5 (.take 6 (.take 7 (.take 8 (.one 4 (.one 9 (.one 10 (.one 11 (.one 12 .nil))))))))))))) (by kernel_rfl) (by kernel_rfl) (by kernel_rfl) (by kernel_rfl) (fun _ _ d _ _ h => by cases d <;> exact h) ?_
  replace hp := hp.drew
  repeat' (with_reducible refine tree_is ?_); first | (with_reducible refine tree_nil ?_) | refine tk22 ?_ | ((refine tree_one (doT_of rfl (fun K hK => ?_))) <;> (go_wp2_with (first | (go_at_call 76; (with_reducible refine (cmp76 nm nm2 _).mono ?_); rintro e w' ⟨rfl, rfl⟩) | (go_at_call 76; (with_reducible refine (cmp76 nu nu2 _).mono ?_); rintro e w' ⟨rfl, rfl⟩) | (go_at_call 75; (with_reducible refine (orv75 _ _ hp).mono ?_); clear hp; rintro e w' ⟨rfl, hp⟩) | go_skip | (refine hA5 ?_; clear hp; intro b w1 hp)); (refine hK.out _ _ (.inr (Keeps.two hp aa5 aa5)) ?_); clear hK K; try simp only [put_some, put_none, eval_tmp, eval_const, sSet, zSet, List.getD_cons_succ, List.getD_cons_zero, wrap_eq]))
  all_goals go_wp2_with (first | go_skip | (first | (refine hA3 ?_; clear hp; intro b w1 hp) | refine hL0 ?_ | (refine hS0 ?_; clear hp; intro w1 hp)))
  all_goals go_ret
  all_goals exact ⟨rfl, hp.below⟩
def MaxP (w : World) (l : List Vt) (e : Ending) (w' : World) : Prop := ∃ (m : Nat) (x : Vt), e = .returned (.agg (vtV x).toArray) ∧ l[m]? = some x ∧ (∀ (i : Nat) y, l[i]? = some y → leX y x) ∧ Below w.heap.size w w'
set_option maxRecDepth 100000 in
set_option maxHeartbeats 8000000 in
theorem maxf73 (l : List Vt) (a : Option Addr) (q c : Nat) (hq : l.length = q) (hl : q ≤ 1000) (h0 : 0 < q) (w : World) (ha : RowIs w a (l.flatMap vtV)) :
    Calls Tryz.prog 73 #[.slice a q c, .func (.func 74) #[] #[]] w (MaxP w l) := by
  subst hq
  have hp := Hp.start w
  obtain ⟨b0, off, rfl, hx0⟩ := ha.elems 6 vtV_len h0 (by omega)
  have HA := Lib.hid hx0
  have hj0 := List.getElem?_eq_getElem h0
  have hx := hx0 0 _ hj0
  generalize l[0] = x0 at hx hj0
  have hb1 := TopV.one hj0
  have HB := Lib.hid hb1
  obtain ⟨nd, nm, bs, nu, cm, va, es, vc⟩ := x0
  simp only [vtV] at hx
  have HX := Lib.hid hx
  have e0 : decide ((l.length : Int) < 1) = false := by simp; omega
  have f1 : (0 : Int) < (l.length : Int) := by omega
  clear ha hx0 hx hj0 hb1
  go_enter Tryz.func73, Tryz.ntmps73
  go_wp2_with (first | go_skip | (first | (refine hA1 ?_; clear hp; intro b w1 hp) | refine hL11 ?_ | (refine hS0 ?_; clear hp; intro w1 hp)))
  obtain ⟨b5, hb5⟩ := hp.id0
  obtain ⟨b4, hb4⟩ := hp.id1
  subst hb5 hb4
  clear HX e0
  go_loopg [6] (l.length + 1) (fun k i wr => ∃ (j m : Nat) (x : Vt), k + j = l.length + 1 ∧ j < l.length ∧ i = .int .i64 ((j : Int) + 1) ∧ RowKit.Hid (TopV (l.take (j + 1)) m x) ∧ Hp w.heap.size w wr [⟨b5, vtV x, 27, 6⟩, ⟨b4, [.int .i64 0, .int .i64 0, .int .i64 0, .int .i64 0, .int .i64 0, .slice none 0 0], 27, 6⟩])
  case atStart => exact ⟨0, 0, _, by omega, h0, rfl, HB, hp⟩
  case round =>
    clear hp HB
    obtain ⟨j, m, x, hkj, hjl, rfl, HB, hp⟩ := hrel
    obtain ⟨nd2, nm2, bs2, nu2, cm2, vb, es2, vd⟩ := x
    simp only [vtV] at hp
    have f2 : (0 : Int) ≤ (j : Int) := by omega
    by_cases hlt : j + 1 < l.length
    · have hj := List.getElem?_eq_getElem hlt
      have hx := HA.out (j + 1) _ hj
      have HJ := Lib.hid hj
      clear hj
      generalize l[j + 1] = y at hx HJ
      obtain ⟨nd, nm, bs, nu, cm, va, es, vc⟩ := y
      simp only [vtV] at hx
      have HX := Lib.hid hx
      clear hx
      have f3 : (j : Int) + 1 < (l.length : Int) := by omega
      obtain ⟨x, hcx⟩ : ∃ x, orV (cmpI nm nm2) (cmpI nu nu2) = x := ⟨_, rfl⟩
      have HCX := Lib.hid hcx
      have hgt := orI_gt nm nm2 nu nu2
      rw [hcx] at hgt
      have e6 : wrap64 ((j : Int) + 1 + 1) = (j : Int) + 1 + 1 := by unfold wrap64; omega
      by_cases hx : 0 < x
      · have e1 : decide (0 < x) = true := by simpa using hx
        have HNX : RowKit.Hid (TopV (l.take (j + 1 + 1)) (j + 1) ⟨nd, nm, bs, nu, cm, va, es, vc⟩) := Lib.hid (HB.out.next HJ.out (hgt.1 hx))
        clear hx hgt hcx
        go_wp2_with (first | go_skip | (first | (refine hA1 ?_; clear hp; intro b w1 hp) | refine hL11 ?_ | (refine hS0 ?_; clear hp; intro w1 hp)))
        refine wp_region_keeps [_, _] (Keeps.two hp.drew at0 at1) [] [(0, true), (1, true), (2, true), (3, true), (4, true), (5, true), (6, false), (7, true)] (by kernel_rfl) (by kernel_rfl) rfl (by kernel_rfl) (fun _ _ d _ _ h => by cases d <;> exact h) ?_
        replace hp := hp.drew
        repeat' (with_reducible refine plan_is ?_); first | (with_reducible refine plan_nil ?_) | refine tk10 ?_ | (refine plan_do rfl (fun K hK => ?_); go_wp2_with (first | (go_at_call 74; (with_reducible refine (cl74 nd nm bs nu cm va _ vc nd2 nm2 bs2 nu2 cm2 vb _ vd _ HCX.out _).mono ?_); rintro e w1 ⟨rfl, hb⟩; replace hp := hp.call hb; clear hb) | go_skip); (refine hK.out _ _ (.inr (Keeps.two hp aa5 aa5)) ?_); clear hK K; try simp only [put_some, put_none, eval_tmp, eval_const, sSet, zSet, List.getD_cons_succ, List.getD_cons_zero, wrap_eq])
        go_wp2_with (first | go_skip | (first | (refine hA1 ?_; clear hp; intro b w1 hp) | refine hL11 ?_ | (refine hS0 ?_; clear hp; intro w1 hp)))
        go_roundg (gk - 1)
        case measure => omega
        case rel => exact ⟨j + 1, j + 1, _, by omega, hlt, by go_num, HNX, hp⟩
      · have e1 : decide (0 < x) = false := by simpa using hx
        have HNX : RowKit.Hid (TopV (l.take (j + 1 + 1)) m ⟨nd2, nm2, bs2, nu2, cm2, vb, es2, vd⟩) := Lib.hid (HB.out.keep HJ.out (fun h => hx (hgt.2 h)))
        clear hx hgt hcx
        go_wp2_with (first | go_skip | (first | (refine hA1 ?_; clear hp; intro b w1 hp) | refine hL11 ?_ | (refine hS0 ?_; clear hp; intro w1 hp)))
        refine wp_region_keeps [_, _] (Keeps.two hp.drew at0 at1) [] [(0, true), (1, true), (2, true), (3, true), (4, true), (5, true), (6, false), (7, true)] (by kernel_rfl) (by kernel_rfl) rfl (by kernel_rfl) (fun _ _ d _ _ h => by cases d <;> exact h) ?_
        replace hp := hp.drew
        repeat' (with_reducible refine plan_is ?_); first | (with_reducible refine plan_nil ?_) | refine tk10 ?_ | (refine plan_do rfl (fun K hK => ?_); go_wp2_with (first | (go_at_call 74; (with_reducible refine (cl74 nd nm bs nu cm va _ vc nd2 nm2 bs2 nu2 cm2 vb _ vd _ HCX.out _).mono ?_); rintro e w1 ⟨rfl, hb⟩; replace hp := hp.call hb; clear hb) | go_skip); (refine hK.out _ _ (.inr (Keeps.two hp aa5 aa5)) ?_); clear hK K; try simp only [put_some, put_none, eval_tmp, eval_const, sSet, zSet, List.getD_cons_succ, List.getD_cons_zero, wrap_eq])
        go_wp2_with (first | go_skip | (first | (refine hA1 ?_; clear hp; intro b w1 hp) | refine hL11 ?_ | (refine hS0 ?_; clear hp; intro w1 hp)))
        go_roundg (gk - 1)
        case measure => omega
        case rel => exact ⟨j + 1, m, _, by omega, hlt, by go_num, HNX, hp⟩
    · have f3 : decide ((j : Int) + 1 < (l.length : Int)) = false := by simp; omega
      have hlj : l.length = j + 1 := by omega
      have HEND := HB
      clear hlt
      go_wp2_with (first | go_skip | (first | (refine hA0 ?_; clear hp; intro b w1 hp) | refine hL0 ?_ | (refine hS0 ?_; clear hp; intro w1 hp)))
      have hb := HEND.out
      rw [List.take_of_length_le (by omega)] at hb
      exact bodyPost_ret (results_one (rs := [.cell 4 27]) Tryz.results73 (.cell rfl (hp.loadAgg agg27 at1 0 _ (by rfl) (by rfl)) .nil)) rfl ⟨m, ⟨nd2, nm2, bs2, nu2, cm2, vb, es2, vd⟩, rfl, hb.get, hb.top, hp.below⟩
end Go.Proofs.YtcjbepaclbhjaaaGreat
