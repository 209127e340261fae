/- Parts of the proof. -/
import Derived.Test.YtcjbepaclbhjaaaGreatKe1
import Derived.Test.YtcjbepaclbhjaaaGreatKe33
import Derived.Test.YtcjbepaclbhjaaaGreatKe35
open List renaming set_cons_zero → zSet, set_cons_succ → sSet
/- The walks of the document's Right, Last and rows of entries. -/
set_option linter.unusedSimpArgs false
set_option linter.unusedVariables false
namespace Go.Proofs.YtcjbepaclbhjaaaGreat
open Go.RowKit
theorem follows1562 (l : List Env) (fr : Int) (a : Option Addr) (c : Nat) (b : Bool) (hb : folB fr 0 l = b) (hl : l.length ≤ 100000) (w : World) (ha : RowIs w a (l.flatMap envL)) :
    Calls Tryz.prog 62 #[.slice a l.length c, .int .i64 fr] w fun e w' => e = .returned (.bool b) ∧ Below w.heap.size w w' := by
  subst hb
  have HA := Lib.hid ha
  clear ha
  have hp := Hp.start w
  go_enter Tryz.func62, Tryz.ntmps62
  go_wp2_with (first | go_skip | (first | (refine hA1 ?_; clear hp; intro b w1 hp) | refine hL0 ?_ | (refine hS0 ?_; clear hp; intro w1 hp)))
  go_loopg [5] l.length (fun k i wr => ∃ q : Nat, k + q = l.length ∧ i = .int .i64 q ∧ RowKit.Hid (folB fr 0 l = folB fr q (l.drop q)) ∧ Hp w.heap.size w wr [])
  case atStart => exact ⟨0, by omega, rfl, Lib.hid rfl, hp⟩
  case round =>
    clear hp
    obtain ⟨q, hkq, rfl, HF, hp⟩ := hrel
    by_cases hlt : q < l.length
    · obtain ⟨bq, off, rfl, hx⟩ := HA.out.elems 11 envL_len11 (by omega) (by omega)
      have hj := List.getElem?_eq_getElem hlt
      replace hx := hx q _ hj
      have hd := List.drop_eq_getElem_cons hlt
      clear hj
      generalize l[q] = en at hx hd
      obtain ⟨nu, vi, cl, sq, ⟨kk, hh, ii, nn, cc, vv, tt⟩⟩ := en
      simp only [envL, opL, List.cons_append, List.nil_append] at hx
      have HX := Lib.hid hx
      have HF2 : RowKit.Hid (folB fr 0 l = (decide (wrap64 (wrap64 (nu - 1) - (q : Int)) = fr) && folB fr (q + 1) (l.drop (q + 1)))) := Lib.hid (by rw [HF.out, hd]; rfl)
      have f1 : (0 : Int) ≤ (q : Int) := by omega
      have f2 : (q : Int) < (l.length : Int) := by omega
      clear hx hd HF
      by_cases heq : wrap64 (wrap64 (nu - 1) - (q : Int)) = fr
      · have e3 : (wrap64 (wrap64 (nu - 1) - (q : Int)) == fr) = true := by simpa using heq
        have HE := Lib.hid heq
        clear heq
        go_wp2_with (first | go_skip | (first | (refine hA2 ?_; clear hp; intro b w1 hp) | refine hL5 ?_ | (refine hS0 ?_; clear hp; intro w1 hp)))
        go_roundg (gk - 1)
        case measure => omega
        case rel => exact ⟨q + 1, by omega, by go_num, Lib.hid (by rw [HF2.out, HE.out]; simp), hp⟩
      · have e3 : (wrap64 (wrap64 (nu - 1) - (q : Int)) == fr) = false := by simpa using heq
        have HE := Lib.hid heq
        clear heq
        go_wp2_with (first | go_skip | (first | (refine hA2 ?_; clear hp; intro b w1 hp) | refine hL5 ?_ | (refine hS0 ?_; clear hp; intro w1 hp)))
        go_ret
        refine ⟨?_, hp.below⟩
        rw [HF2.out, decide_eq_false HE.out]; rfl
    · obtain rfl : q = l.length := by omega
      have e2 : decide ((l.length : Int) < (l.length : Int)) = false := by simp
      clear hkq hlt
      go_wp2_with (first | go_skip | (first | (refine hA1 ?_; clear hp; intro b w1 hp) | refine hL0 ?_ | (refine hS0 ?_; clear hp; intro w1 hp)))
      go_ret
      refine ⟨?_, hp.below⟩
      rw [HF.out, List.drop_length]; rfl
theorem last1532 (vw nm bs : Int) (im : ByteArray) (ea : Option Addr) (n ec : Nat) (w : World) : Calls Tryz.prog 32 #[.agg #[.int .i64 vw, .int .i64 nm, .int .i64 bs, .string im, .slice ea n ec]] w fun e w' => e = .returned (.int .i64 (wrap64 (bs + (n : Int)))) ∧ Below w.heap.size w w' := by
  have hp := Hp.start w
  go_enter Tryz.func32, Tryz.ntmps32
  go_wp2_with (first | go_skip | (first | (refine hA1 ?_; clear hp; intro b w1 hp) | refine hL0 ?_ | (refine hS0 ?_; clear hp; intro w1 hp)))
  go_ret
  exact ⟨rfl, hp.below⟩
theorem may14_lit (nu vi cl sq kk hh ii nn cc vv tt : Int) (b : Bool) (hb : mayE ⟨nu, vi, cl, sq, ⟨kk, hh, ii, nn, cc, vv, tt⟩⟩ = b) (w : World) : Calls Tryz.prog 38 #[.agg #[.int .i64 nu, .int .i64 vi, .int .i64 cl, .int .i64 sq, .int .i64 kk, .int .i64 hh, .int .i64 ii, .int .i64 nn, .int .i64 cc, .int .i64 vv, .int .i64 tt]] w fun x w' => x = .returned (.bool b) ∧ Below w.heap.size w w' := hb ▸ may38 ⟨nu, vi, cl, sq, ⟨kk, hh, ii, nn, cc, vv, tt⟩⟩ w
theorem gets06_yes (s : ByteArray) (x : Sv) (hr : stateR (strB s) = some x) (ad : Option Addr) (c : Nat) (hc : s.size ≤ c) (hs : s.size ≤ 1000000000) (w : World) (ha : RdAt w ad (strB s)) : Calls Tryz.prog 63 #[.slice ad s.size c] w (GotS w x) := by
  have h := gets63 (strB s) ad c (by rw [strB_len]; exact hc) (by rw [strB_len]; exact hs) w ha
  rw [strB_len] at h
  refine h.mono fun e w' h => ?_
  rw [hr] at h
  obtain ⟨y, R, h1, h2, h3, h4⟩ := h
  obtain ⟨⟨od, oa, os, oc, nx, t0, t1, t2, t3, fa, fs, fc⟩, ra, rs, rc⟩ := y
  exact ⟨od, oa, os, oc, nx, t0, t1, t2, t3, fa, fs, fc, ra, rs, rc, R, h1, h2, h3, h4⟩
theorem gets06_no (s : ByteArray) (hr : stateR (strB s) = none) (ad : Option Addr) (c : Nat) (hc : s.size ≤ c) (hs : s.size ≤ 1000000000) (w : World) (ha : RdAt w ad (strB s)) : Calls Tryz.prog 63 #[.slice ad s.size c] w fun e w' => e = .returned (.tuple #[.agg #[.int .i64 0, .slice none 0 0, .int .i64 0, .int .i64 0, .int .i64 0, .int .i64 0, .int .i64 0, .slice none 0 0, .slice none 0 0], .int .i64 60]) ∧ Below w.heap.size w w' := by
  have h := gets63 (strB s) ad c (by rw [strB_len]; exact hc) (by rw [strB_len]; exact hs) w ha
  rw [strB_len] at h
  refine h.mono fun e w' h => ?_
  rw [hr] at h
  exact h
theorem okC_all (x : Kv) : okC x = true ↔ (0 ≤ x.vw ∧ x.vw ≤ 900000000) ∧ (0 ≤ x.nm ∧ x.nm ≤ x.vw) ∧ (0 ≤ x.bs ∧ x.bs ≤ 900000000) ∧ x.es.length ≤ 4000 ∧ folB x.bs 0 x.es = true ∧ entsB x.nm 0 x.es = true ∧ (stateR (strB x.im)).isSome = true := by
  unfold okC inM
  simp only [Bool.and_eq_true, decide_eq_true_eq]
def LastV (es : List Env) (q : Nat) (v : Int) : Prop := (q = 0 → v = 0) ∧ (0 < q → ∃ y, es[q - 1]? = some y ∧ y.vi = v)
theorem ent_ways {es : List Env} (hel : es.length ≤ 4000) {nm : Int} {q : Nat} {v : Int} {x : Env} (h : LastV es q v) (hx : es[q]? = some x) (hr : entsB nm 0 es = entsB nm v (es.drop q)) :
    (mayE x = false ∧ entsB nm 0 es = false) ∨ (mayE x = true ∧ decide (nm < x.vi) = true ∧ entsB nm 0 es = false) ∨
    (mayE x = true ∧ decide (nm < x.vi) = false ∧ decide ((0 : Int) < (q : Int)) = false ∧ decide (0 < q) = false ∧ entsB nm 0 es = entsB nm x.vi (es.drop (q + 1)) ∧ LastV es (q + 1) x.vi) ∨
    (∃ (k : Nat) (y : Env), mayE x = true ∧ decide (nm < x.vi) = false ∧ decide ((0 : Int) < (q : Int)) = true ∧ decide (0 < q) = true ∧ wrap64 ((q : Int) - 1) = (k : Int) ∧ (0 : Int) ≤ (k : Int) ∧ (k : Int) < (es.length : Int) ∧ es[k]? = some y ∧ decide (x.vi < y.vi) = true ∧ entsB nm 0 es = false) ∨
    (∃ (k : Nat) (y : Env), mayE x = true ∧ decide (nm < x.vi) = false ∧ decide ((0 : Int) < (q : Int)) = true ∧ decide (0 < q) = true ∧ wrap64 ((q : Int) - 1) = (k : Int) ∧ (0 : Int) ≤ (k : Int) ∧ (k : Int) < (es.length : Int) ∧ es[k]? = some y ∧ decide (x.vi < y.vi) = false ∧ entsB nm 0 es = entsB nm x.vi (es.drop (q + 1)) ∧ LastV es (q + 1) x.vi) := by
  have hql := (List.getElem?_eq_some_iff.1 hx).1
  have hd : es.drop q = x :: es.drop (q + 1) := by
    rw [List.drop_eq_getElem_cons hql]
    congr 1
    rw [List.getElem?_eq_getElem hql] at hx; injection hx
  have hc : entsB nm 0 es = (mayE x && (inM x.vi v nm && entsB nm x.vi (es.drop (q + 1)))) := by rw [hr, hd]; rfl
  have hnext : LastV es (q + 1) x.vi := ⟨fun h => by omega, fun _ => ⟨x, by simpa using hx, rfl⟩⟩
  cases hm : mayE x with
  | false => left; exact ⟨rfl, by rw [hc, hm]; rfl⟩
  | true =>
    right
    have hf := mayE_facts hm
    by_cases h1 : nm < x.vi
    · left
      refine ⟨rfl, decide_eq_true h1, ?_⟩
      rw [hc, hm, show inM x.vi v nm = false by unfold inM; simp; omega]; rfl
    · right
      rcases Nat.eq_zero_or_pos q with h0 | h0
      · left
        have hv := h.1 h0
        refine ⟨rfl, decide_eq_false h1, by simp; omega, by simp; omega, ?_, hnext⟩
        rw [hc, hm, show inM x.vi v nm = true by unfold inM; simp; omega]; rfl
      · right
        obtain ⟨y, hy, hyv⟩ := h.2 h0
        have w1 : wrap64 ((q : Int) - 1) = ((q - 1 : Nat) : Int) := by unfold wrap64; omega
        by_cases h2 : x.vi < y.vi
        · left
          refine ⟨q - 1, y, rfl, decide_eq_false h1, by simp; omega, by simp; omega, w1, by omega, by omega, hy, decide_eq_true h2, ?_⟩
          rw [hc, hm, show inM x.vi v nm = false by unfold inM; simp; omega]; rfl
        · right
          refine ⟨q - 1, y, rfl, decide_eq_false h1, by simp; omega, by simp; omega, w1, by omega, by omega, hy, decide_eq_false h2, ?_, hnext⟩
          rw [hc, hm, show inM x.vi v nm = true by unfold inM; simp; omega]; rfl
set_option maxRecDepth 100000 in
set_option maxHeartbeats 16000000 in
theorem right1531L (vw nm bs : Int) (im : ByteArray) (ea : Option Addr) (es : List Env) (ec : Nat) (b : Bool) (hb : okC ⟨vw, nm, bs, im, ea, es, ec⟩ = b) (hs : Kv.Small ⟨vw, nm, bs, im, ea, es, ec⟩) (w : World) (ha : RowIs w ea (es.flatMap envL)) :
    Calls Tryz.prog 31 #[.agg #[.int .i64 vw, .int .i64 nm, .int .i64 bs, .string im, .slice ea es.length ec]] w fun e w' => e = .returned (.bool b) ∧ Below w.heap.size w w' := by
  subst hb
  have hp := Hp.start w
  have HA := Lib.hid ha
  have hsl : es.length ≤ 100000 := hs.1
  have HL := Lib.hid hsl
  have hsi : im.size ≤ 1000000 := hs.2
  have HIM : RowKit.Hid (im.size ≤ 1000000000) := Lib.hid (by omega)
  clear ha hs hsi
  by_cases h1 : vw < 0
  · have e1 : decide (vw < 0) = true := decide_eq_true h1
    (have HNO : RowKit.Hid (okC ⟨vw, nm, bs, im, ea, es, ec⟩ = false) := Lib.hid (Bool.eq_false_iff.2 fun h => by have := (okC_all _).1 h; simp only at this; first | omega | (rw [this.2.2.2.2.1] at h5; cases h5)); go_enter Tryz.func31, Tryz.ntmps31; go_wp2_with (first | (go_at_call 62; (with_reducible refine (follows1562 es bs ea ec _ H5.out HL.out _ (HA.out.below hp.below)).mono ?_); rintro e w1 ⟨rfl, hb⟩; replace hp := hp.call hb; clear hb) | go_skip | (first | (refine hA1 ?_; clear hp; intro b w1 hp) | refine hL0 ?_ | (refine hS0 ?_; clear hp; intro w1 hp))); go_ret; exact ⟨ret_bool HNO.out.symm, hp.below⟩)
  have e1 : decide (vw < 0) = false := decide_eq_false h1
  by_cases h2 : 900000000 < vw
  · have e2 : decide (900000000 < vw) = true := decide_eq_true h2
    (have HNO : RowKit.Hid (okC ⟨vw, nm, bs, im, ea, es, ec⟩ = false) := Lib.hid (Bool.eq_false_iff.2 fun h => by have := (okC_all _).1 h; simp only at this; first | omega | (rw [this.2.2.2.2.1] at h5; cases h5)); go_enter Tryz.func31, Tryz.ntmps31; go_wp2_with (first | (go_at_call 62; (with_reducible refine (follows1562 es bs ea ec _ H5.out HL.out _ (HA.out.below hp.below)).mono ?_); rintro e w1 ⟨rfl, hb⟩; replace hp := hp.call hb; clear hb) | go_skip | (first | (refine hA1 ?_; clear hp; intro b w1 hp) | refine hL0 ?_ | (refine hS0 ?_; clear hp; intro w1 hp))); go_ret; exact ⟨ret_bool HNO.out.symm, hp.below⟩)
  have e2 : decide (900000000 < vw) = false := decide_eq_false h2
  by_cases h3 : nm < 0
  · have e3 : decide (nm < 0) = true := decide_eq_true h3
    (have HNO : RowKit.Hid (okC ⟨vw, nm, bs, im, ea, es, ec⟩ = false) := Lib.hid (Bool.eq_false_iff.2 fun h => by have := (okC_all _).1 h; simp only at this; first | omega | (rw [this.2.2.2.2.1] at h5; cases h5)); go_enter Tryz.func31, Tryz.ntmps31; go_wp2_with (first | (go_at_call 62; (with_reducible refine (follows1562 es bs ea ec _ H5.out HL.out _ (HA.out.below hp.below)).mono ?_); rintro e w1 ⟨rfl, hb⟩; replace hp := hp.call hb; clear hb) | go_skip | (first | (refine hA1 ?_; clear hp; intro b w1 hp) | refine hL0 ?_ | (refine hS0 ?_; clear hp; intro w1 hp))); go_ret; exact ⟨ret_bool HNO.out.symm, hp.below⟩)
  have e3 : decide (nm < 0) = false := decide_eq_false h3
  by_cases h4 : vw < nm
  · have e4 : decide (vw < nm) = true := decide_eq_true h4
    (have HNO : RowKit.Hid (okC ⟨vw, nm, bs, im, ea, es, ec⟩ = false) := Lib.hid (Bool.eq_false_iff.2 fun h => by have := (okC_all _).1 h; simp only at this; first | omega | (rw [this.2.2.2.2.1] at h5; cases h5)); go_enter Tryz.func31, Tryz.ntmps31; go_wp2_with (first | (go_at_call 62; (with_reducible refine (follows1562 es bs ea ec _ H5.out HL.out _ (HA.out.below hp.below)).mono ?_); rintro e w1 ⟨rfl, hb⟩; replace hp := hp.call hb; clear hb) | go_skip | (first | (refine hA1 ?_; clear hp; intro b w1 hp) | refine hL0 ?_ | (refine hS0 ?_; clear hp; intro w1 hp))); go_ret; exact ⟨ret_bool HNO.out.symm, hp.below⟩)
  have e4 : decide (vw < nm) = false := decide_eq_false h4
  by_cases h6 : bs < 0
  · have e6 : decide (bs < 0) = true := decide_eq_true h6
    (have HNO : RowKit.Hid (okC ⟨vw, nm, bs, im, ea, es, ec⟩ = false) := Lib.hid (Bool.eq_false_iff.2 fun h => by have := (okC_all _).1 h; simp only at this; first | omega | (rw [this.2.2.2.2.1] at h5; cases h5)); go_enter Tryz.func31, Tryz.ntmps31; go_wp2_with (first | (go_at_call 62; (with_reducible refine (follows1562 es bs ea ec _ H5.out HL.out _ (HA.out.below hp.below)).mono ?_); rintro e w1 ⟨rfl, hb⟩; replace hp := hp.call hb; clear hb) | go_skip | (first | (refine hA1 ?_; clear hp; intro b w1 hp) | refine hL0 ?_ | (refine hS0 ?_; clear hp; intro w1 hp))); go_ret; exact ⟨ret_bool HNO.out.symm, hp.below⟩)
  have e6 : decide (bs < 0) = false := decide_eq_false h6
  by_cases h7 : 900000000 < bs
  · have e7 : decide (900000000 < bs) = true := decide_eq_true h7
    (have HNO : RowKit.Hid (okC ⟨vw, nm, bs, im, ea, es, ec⟩ = false) := Lib.hid (Bool.eq_false_iff.2 fun h => by have := (okC_all _).1 h; simp only at this; first | omega | (rw [this.2.2.2.2.1] at h5; cases h5)); go_enter Tryz.func31, Tryz.ntmps31; go_wp2_with (first | (go_at_call 62; (with_reducible refine (follows1562 es bs ea ec _ H5.out HL.out _ (HA.out.below hp.below)).mono ?_); rintro e w1 ⟨rfl, hb⟩; replace hp := hp.call hb; clear hb) | go_skip | (first | (refine hA1 ?_; clear hp; intro b w1 hp) | refine hL0 ?_ | (refine hS0 ?_; clear hp; intro w1 hp))); go_ret; exact ⟨ret_bool HNO.out.symm, hp.below⟩)
  have e7 : decide (900000000 < bs) = false := decide_eq_false h7
  by_cases h8 : (4000 : Int) < (es.length : Int)
  · have e8 : decide ((4000 : Int) < (es.length : Int)) = true := decide_eq_true h8
    (have HNO : RowKit.Hid (okC ⟨vw, nm, bs, im, ea, es, ec⟩ = false) := Lib.hid (Bool.eq_false_iff.2 fun h => by have := (okC_all _).1 h; simp only at this; first | omega | (rw [this.2.2.2.2.1] at h5; cases h5)); go_enter Tryz.func31, Tryz.ntmps31; go_wp2_with (first | (go_at_call 62; (with_reducible refine (follows1562 es bs ea ec _ H5.out HL.out _ (HA.out.below hp.below)).mono ?_); rintro e w1 ⟨rfl, hb⟩; replace hp := hp.call hb; clear hb) | go_skip | (first | (refine hA1 ?_; clear hp; intro b w1 hp) | refine hL0 ?_ | (refine hS0 ?_; clear hp; intro w1 hp))); go_ret; exact ⟨ret_bool HNO.out.symm, hp.below⟩)
  have e8 : decide ((4000 : Int) < (es.length : Int)) = false := decide_eq_false h8
  cases h5 : folB bs 0 es with
  | false =>
    have H5 := Lib.hid h5
    (have HNO : RowKit.Hid (okC ⟨vw, nm, bs, im, ea, es, ec⟩ = false) := Lib.hid (Bool.eq_false_iff.2 fun h => by have := (okC_all _).1 h; simp only at this; first | omega | (rw [this.2.2.2.2.1] at h5; cases h5)); go_enter Tryz.func31, Tryz.ntmps31; go_wp2_with (first | (go_at_call 62; (with_reducible refine (follows1562 es bs ea ec _ H5.out HL.out _ (HA.out.below hp.below)).mono ?_); rintro e w1 ⟨rfl, hb⟩; replace hp := hp.call hb; clear hb) | go_skip | (first | (refine hA1 ?_; clear hp; intro b w1 hp) | refine hL0 ?_ | (refine hS0 ?_; clear hp; intro w1 hp))); go_ret; exact ⟨ret_bool HNO.out.symm, hp.below⟩)
  | true =>
    have H5 := Lib.hid h5
    have HOK : RowKit.Hid (okC ⟨vw, nm, bs, im, ea, es, ec⟩ = (entsB nm 0 es && (stateR (strB im)).isSome)) := Lib.hid (by
      unfold okC inM
      simp only
      rw [h5]
      have g1 : decide (0 ≤ vw) = true := by simp; omega
      have g2 : decide (vw ≤ 900000000) = true := by simp; omega
      have g3 : decide (0 ≤ nm) = true := by simp; omega
      have g4 : decide (nm ≤ vw) = true := by simp; omega
      have g5 : decide (0 ≤ bs) = true := by simp; omega
      have g6 : decide (bs ≤ 900000000) = true := by simp; omega
      have g7 : decide (es.length ≤ 4000) = true := by simp; omega
      rw [g1, g2, g3, g4, g5, g6, g7]
      simp)
    have hel : es.length ≤ 4000 := by omega
    clear h5 h1 h2 h3 h4 h6 h7 h8
    go_enter Tryz.func31, Tryz.ntmps31
    go_wp2_with (first | (go_at_call 62; (with_reducible refine (follows1562 es bs ea ec _ H5.out HL.out _ (HA.out.below hp.below)).mono ?_); rintro e w1 ⟨rfl, hb⟩; replace hp := hp.call hb; clear hb) | go_skip | (first | (refine hA1 ?_; clear hp; intro b w1 hp) | refine hL0 ?_ | (refine hS0 ?_; clear hp; intro w1 hp)))
    obtain ⟨bk, rfl⟩ := hp.id0
    go_loopg [3] es.length (fun k i wr => ∃ (q : Nat) (vq : Int), k + q = es.length ∧ i = .int .i64 q ∧ RowKit.Hid (entsB nm 0 es = entsB nm vq (es.drop q)) ∧ RowKit.Hid (LastV es q vq) ∧ Hp w.heap.size w wr [⟨bk, [.int .i64 vw, .int .i64 nm, .int .i64 bs, .string im, .slice ea es.length ec], 24, 5⟩])
    case atStart => exact ⟨0, 0, by omega, rfl, Lib.hid rfl, Lib.hid ⟨fun _ => rfl, fun h => absurd h (Nat.lt_irrefl 0)⟩, hp⟩
    case round =>
      clear hp
      obtain ⟨q, vq, hkq, rfl, HF, HLV, hp⟩ := hrel
      by_cases hlt : q < es.length
      · obtain ⟨bq, off, rfl, hx⟩ := HA.out.elems 11 envL_len11 (by omega) (by omega)
        have HE := Lib.hid hx
        have hj := List.getElem?_eq_getElem hlt
        replace hx := hx q _ hj
        have hways := ent_ways hel HLV.out hj HF.out
        clear hj
        generalize es[q] = en at hx hways
        obtain ⟨nu, vi, cl, sq, ⟨kk, hh, ii, nn, cc, vv, tt⟩⟩ := en
        simp only [envL, opL, List.cons_append, List.nil_append] at hx
        have HX := Lib.hid hx
        have f1 : (0 : Int) ≤ (q : Int) := by omega
        have f2 : (q : Int) < (es.length : Int) := by omega
        clear hx
        rcases hways with ⟨hm, hr⟩ | ⟨hm, d0, hr⟩ | ⟨hm, d0, d1, d2, hn, hl⟩ | ⟨k, y, hm, d0, d1, d2, d3, d5, d6, hy, hle, hr⟩ | ⟨k, y, hm, d0, d1, d2, d3, d5, d6, hy, hle, hn, hl⟩
        · have HM := Lib.hid hm
          have HRR := Lib.hid hr
          clear hm hr HE
          go_wp2_with (first | go_skip | (first | (refine hA1 ?_; clear hp; intro b w1 hp) | refine hL11 ?_ | (refine hS0 ?_; clear hp; intro w1 hp)))
          refine wp_region_keeps _ (Keeps.all hp.drew) [] [(0, true), (1, false), (2, true), (3, true), (4, true), (5, true), (6, true), (7, true), (8, true), (9, true), (10, true), (11, true), (12, true), (13, true), (14, true), (15, true), (16, true), (17, true), (18, true), (19, true), (20, true), (21, true), (22, true), (23, true), (24, true), (25, true)] (by kernel_rfl) (by kernel_rfl) rfl (by kernel_rfl) (fun _ _ d _ _ h => by cases d <;> exact h) ?_
          replace hp := hp.drew
          repeat' (with_reducible refine plan_is ?_); first | (with_reducible refine plan_nil ?_) | refine tk19 ?_ | (refine plan_do rfl (fun K hK => ?_); go_wp2_with (first | (go_at_call 38; (with_reducible refine (may14_lit _ _ _ _ _ _ _ _ _ _ _ _ HM.out _).mono ?_); rintro e w1 ⟨rfl, hb⟩; replace hp := hp.call hb; clear hb) | go_skip); (refine hK.out _ _ (.inr (kall hp)) ?_); clear hK K; try simp only [put_some, put_none, eval_tmp, eval_const, sSet, zSet, List.getD_cons_succ, List.getD_cons_zero, wrap_eq])
          (go_wp2_with (first | go_skip | (first | (refine hA1 ?_; clear hp; intro b w1 hp) | refine hL0 ?_ | (refine hS0 ?_; clear hp; intro w1 hp))); go_ret; refine ⟨ret_bool ?_, hp.below⟩; rw [HOK.out, HRR.out, Bool.false_and])
        · have HM := Lib.hid hm
          have HRR := Lib.hid hr
          simp only at d0
          clear hm hr HE
          go_wp2_with (first | go_skip | (first | (refine hA1 ?_; clear hp; intro b w1 hp) | refine hL11 ?_ | (refine hS0 ?_; clear hp; intro w1 hp)))
          refine wp_region_keeps _ (Keeps.all hp.drew) [] [(0, true), (1, false), (2, true), (3, true), (4, true), (5, true), (6, true), (7, true), (8, true), (9, true), (10, true), (11, true), (12, true), (13, true), (14, true), (15, true), (16, true), (17, true), (18, true), (19, true), (20, true), (21, true), (22, true), (23, true), (24, true), (25, true)] (by kernel_rfl) (by kernel_rfl) rfl (by kernel_rfl) (fun _ _ d _ _ h => by cases d <;> exact h) ?_
          replace hp := hp.drew
          repeat' (with_reducible refine plan_is ?_); first | (with_reducible refine plan_nil ?_) | refine tk19 ?_ | (refine plan_do rfl (fun K hK => ?_); go_wp2_with (first | (go_at_call 38; (with_reducible refine (may14_lit _ _ _ _ _ _ _ _ _ _ _ _ HM.out _).mono ?_); rintro e w1 ⟨rfl, hb⟩; replace hp := hp.call hb; clear hb) | go_skip); (refine hK.out _ _ (.inr (kall hp)) ?_); clear hK K; try simp only [put_some, put_none, eval_tmp, eval_const, sSet, zSet, List.getD_cons_succ, List.getD_cons_zero, wrap_eq])
          (go_wp2_with (first | go_skip | (first | (refine hA1 ?_; clear hp; intro b w1 hp) | refine hL0 ?_ | (refine hS0 ?_; clear hp; intro w1 hp))); go_ret; refine ⟨ret_bool ?_, hp.below⟩; rw [HOK.out, HRR.out, Bool.false_and])
        · have HM := Lib.hid hm
          have HNN := Lib.hid hn
          have HLL := Lib.hid hl
          simp only at d0
          have d3 : ¬ 0 < q := by simpa using d2
          clear hm hn hl HE
          go_wp2_with (first | go_skip | (first | (refine hA1 ?_; clear hp; intro b w1 hp) | refine hL11 ?_ | (refine hS0 ?_; clear hp; intro w1 hp)))
          refine wp_region_keeps _ (Keeps.all hp.drew) [] [(0, true), (1, false), (2, true), (3, true), (4, true), (5, true), (6, true), (7, true), (8, true), (9, true), (10, true), (11, true), (12, true), (13, true), (14, true), (15, true), (16, true), (17, true), (18, true), (19, true), (20, true), (21, true), (22, true), (23, true), (24, true), (25, true)] (by kernel_rfl) (by kernel_rfl) rfl (by kernel_rfl) (fun _ _ d _ _ h => by cases d <;> exact h) ?_
          replace hp := hp.drew
          repeat' (with_reducible refine plan_is ?_); first | (with_reducible refine plan_nil ?_) | refine tk19 ?_ | (refine plan_do rfl (fun K hK => ?_); go_wp2_with (first | (go_at_call 38; (with_reducible refine (may14_lit _ _ _ _ _ _ _ _ _ _ _ _ HM.out _).mono ?_); rintro e w1 ⟨rfl, hb⟩; replace hp := hp.call hb; clear hb) | go_skip); (refine hK.out _ _ (.inr (kall hp)) ?_); clear hK K; try simp only [put_some, put_none, eval_tmp, eval_const, sSet, zSet, List.getD_cons_succ, List.getD_cons_zero, wrap_eq])
          go_wp2_with (first | go_skip | (first | (refine hA1 ?_; clear hp; intro b w1 hp) | refine hL0 ?_ | (refine hS0 ?_; clear hp; intro w1 hp)))
          go_roundg (gk - 1)
          case measure => omega
          case rel => exact ⟨q + 1, vi, by omega, by go_num, HNN, HLL, hp.tail⟩
        · have HM := Lib.hid hm
          have HRR := Lib.hid hr
          have HY := HE.out _ _ hy
          obtain ⟨yn, yv, yc, ys, ⟨y1, y2, y3, y4, y5, y6, y7⟩⟩ := y
          simp only [envL, opL, List.cons_append, List.nil_append] at HY
          have HK := Lib.hid HY
          have HW := Lib.hid d3
          have d7 : 0 < q := by simpa using d2
          simp only at d0 hle
          clear hm hr HE HY hy d3
          go_wp2_with (first | go_skip | (first | (refine hA1 ?_; clear hp; intro b w1 hp) | refine hL11 ?_ | (refine hS0 ?_; clear hp; intro w1 hp)))
          refine wp_region_keeps _ (Keeps.all hp.drew) [] [(0, true), (1, false), (2, true), (3, true), (4, true), (5, true), (6, true), (7, true), (8, true), (9, true), (10, true), (11, true), (12, true), (13, true), (14, true), (15, true), (16, true), (17, true), (18, true), (19, true), (20, true), (21, true), (22, true), (23, true), (24, true), (25, true)] (by kernel_rfl) (by kernel_rfl) rfl (by kernel_rfl) (fun _ _ d _ _ h => by cases d <;> exact h) ?_
          replace hp := hp.drew
          repeat' (with_reducible refine plan_is ?_); first | (with_reducible refine plan_nil ?_) | refine tk20 ?_ | (refine plan_do rfl (fun K hK => ?_); go_wp2_with (first | (go_at_call 38; (with_reducible refine (may14_lit _ _ _ _ _ _ _ _ _ _ _ _ HM.out _).mono ?_); rintro e w1 ⟨rfl, hb⟩; replace hp := hp.call hb; clear hb) | go_skip); (refine hK.out _ _ (.inr (kall hp)) ?_); clear hK K; try simp only [put_some, put_none, eval_tmp, eval_const, sSet, zSet, List.getD_cons_succ, List.getD_cons_zero, wrap_eq, HW.out])
          (go_wp2_with (first | go_skip | (first | (refine hA1 ?_; clear hp; intro b w1 hp) | refine hL0 ?_ | (refine hS0 ?_; clear hp; intro w1 hp))); go_ret; refine ⟨ret_bool ?_, hp.below⟩; rw [HOK.out, HRR.out, Bool.false_and])
        · have HM := Lib.hid hm
          have HNN := Lib.hid hn
          have HLL := Lib.hid hl
          have HY := HE.out _ _ hy
          obtain ⟨yn, yv, yc, ys, ⟨y1, y2, y3, y4, y5, y6, y7⟩⟩ := y
          simp only [envL, opL, List.cons_append, List.nil_append] at HY
          have HK := Lib.hid HY
          have HW := Lib.hid d3
          have d7 : 0 < q := by simpa using d2
          simp only at d0 hle
          clear hm hn hl HE HY hy d3
          go_wp2_with (first | go_skip | (first | (refine hA1 ?_; clear hp; intro b w1 hp) | refine hL11 ?_ | (refine hS0 ?_; clear hp; intro w1 hp)))
          refine wp_region_keeps _ (Keeps.all hp.drew) [] [(0, true), (1, false), (2, true), (3, true), (4, true), (5, true), (6, true), (7, true), (8, true), (9, true), (10, true), (11, true), (12, true), (13, true), (14, true), (15, true), (16, true), (17, true), (18, true), (19, true), (20, true), (21, true), (22, true), (23, true), (24, true), (25, true)] (by kernel_rfl) (by kernel_rfl) rfl (by kernel_rfl) (fun _ _ d _ _ h => by cases d <;> exact h) ?_
          replace hp := hp.drew
          repeat' (with_reducible refine plan_is ?_); first | (with_reducible refine plan_nil ?_) | refine tk20 ?_ | (refine plan_do rfl (fun K hK => ?_); go_wp2_with (first | (go_at_call 38; (with_reducible refine (may14_lit _ _ _ _ _ _ _ _ _ _ _ _ HM.out _).mono ?_); rintro e w1 ⟨rfl, hb⟩; replace hp := hp.call hb; clear hb) | go_skip); (refine hK.out _ _ (.inr (kall hp)) ?_); clear hK K; try simp only [put_some, put_none, eval_tmp, eval_const, sSet, zSet, List.getD_cons_succ, List.getD_cons_zero, wrap_eq, HW.out])
          go_wp2_with (first | go_skip | (first | (refine hA1 ?_; clear hp; intro b w1 hp) | refine hL0 ?_ | (refine hS0 ?_; clear hp; intro w1 hp)))
          go_roundg (gk - 1)
          case measure => omega
          case rel => exact ⟨q + 1, vi, by omega, by go_num, HNN, HLL, hp.tail⟩
      · obtain rfl : q = es.length := by omega
        have f2 : decide ((es.length : Int) < (es.length : Int)) = false := by simp
        have HE : RowKit.Hid (entsB nm 0 es = true) := Lib.hid (by rw [HF.out, List.drop_length]; rfl)
        clear hkq hlt HF
        cases hst : stateR (strB im) with
        | none =>
          have HS := Lib.hid hst
          clear hst
          go_wp2_with (first | ((with_reducible refine pre_convert _ _ _ rfl ?_); refine wpList_convB hp 9 89 5 _ rfl wy Tryz.underlying9 Tryz.underlying89 Tryz.underlying5 _ (sTm rfl) ?_; clear hp; intro ad cb w1 hcb had hp; have HCB := Lib.hid hcb; have HAD := Lib.hid had; clear hcb had; simp only [put_some, put_none, sSet, zSet]) | (go_at_call 63; (with_reducible refine (gets06_no im HS.out ad cb HCB.out HIM.out _ HAD.out).mono ?_); rintro e w1 ⟨rfl, hb⟩; replace hp := hp.call hb; clear hb) | go_skip | (first | (refine hA1 ?_; clear hp; intro b w1 hp) | refine hL0 ?_ | (refine hS0 ?_; clear hp; intro w1 hp)))
          go_ret
          refine ⟨ret_bool ?_, hp.below⟩
          rw [HOK.out, HE.out, HS.out]; rfl
        | some x =>
          have HS := Lib.hid hst
          clear hst
          go_wp2_with (first | ((with_reducible refine pre_convert _ _ _ rfl ?_); refine wpList_convB hp 9 89 5 _ rfl wy Tryz.underlying9 Tryz.underlying89 Tryz.underlying5 _ (sTm rfl) ?_; clear hp; intro ad cb w1 hcb had hp; have HCB := Lib.hid hcb; have HAD := Lib.hid had; clear hcb had; simp only [put_some, put_none, sSet, zSet]) | (go_at_call 63; (with_reducible refine (gets06_yes im _ HS.out ad cb HCB.out HIM.out _ HAD.out).mono ?_); rintro e w1 ⟨odX, oaX, osX, ocX, nxX, t0X, t1X, t2X, t3X, faX, fsX, fcX, raX, rsX, rcX, RX, rfl, _, _, hpn⟩; replace hp := hp.join hpn; clear hpn; simp only [List.cons_append, List.nil_append] at hp) | go_skip | (first | (refine hA1 ?_; clear hp; intro b w1 hp) | refine hL0 ?_ | (refine hS0 ?_; clear hp; intro w1 hp)))
          go_ret
          refine ⟨ret_bool ?_, hp.below⟩
          rw [HOK.out, HE.out, HS.out]; rfl
end Go.Proofs.YtcjbepaclbhjaaaGreat
