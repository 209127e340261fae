/- Parts of the proof. -/
import Derived.Test.YtcjbepaclbhjaaaGreatKd1
import Derived.Test.YtcjbepaclbhjaaaGreatKd41
import Derived.Test.YtcjbepaclbhjaaaGreatKd23
open List renaming set_cons_zero → zSet, set_cons_succ → sSet
/- The walk of change's Check of a vote. -/
set_option linter.unusedSimpArgs false
set_option linter.unusedVariables false
namespace Go.Proofs.YtcjbepaclbhjaaaGreat
open Go.RowKit
def headV (nd nm bs : Int) (es : List Env) : Bool := inM nd 1 7 && (inM nm 0 900000000 && (inM bs 0 900000000 && (decide (es.length ≤ 4000) && folB bs 0 es)))
def lastV (v : Int) : List Env → Int
  | [] => v
  | e :: r => lastV e.vi r
theorem lastV_snoc (e : Env) : ∀ (v : Int) (l : List Env), lastV v (l ++ [e]) = e.vi
  | _, [] => rfl
  | _, a :: r => lastV_snoc e a.vi r
theorem entsB_snoc (nm : Int) (e : Env) : ∀ (v : Int) (l : List Env), entsB nm v (l ++ [e]) = (entsB nm v l && (mayE e && inM e.vi (lastV v l) nm))
  | v, [] => by
    show (mayE e && (inM e.vi v nm && true)) = (true && (mayE e && inM e.vi v nm))
    rw [Bool.and_true, Bool.true_and]
  | v, a :: r => by
    show (mayE a && (inM a.vi v nm && entsB nm a.vi (r ++ [e]))) = ((mayE a && (inM a.vi v nm && entsB nm a.vi r)) && (mayE e && inM e.vi (lastV a.vi r) nm))
    rw [entsB_snoc nm e a.vi r]
    simp only [Bool.and_assoc]
def checkV (nd nm bs nu cm : Int) (es : List Env) : Bool := headV nd nm bs es && (entsB nm 0 es && (decide (nu = wrap64 (bs + es.length)) && inM cm bs nu))
def CkPost (w : World) (b : Bool) (e : Ending) (w' : World) : Prop := e = .returned (.int .i64 (if b = true then 0 else 150)) ∧ Below w.heap.size w w'
set_option maxRecDepth 100000 in
set_option maxHeartbeats 8000000 in
theorem check13L (nd nm bs nu cm : Int) (va : Option Addr) (es : List Env) (vc : Nat) (hl : es.length ≤ 100000) (w : World) (ha : RowIs w va (es.flatMap envL)) :
    Calls Tryz.prog 13 #[.agg #[.int .i64 nd, .int .i64 nm, .int .i64 bs, .int .i64 nu, .int .i64 cm, .slice va es.length vc]] w (CkPost w (checkV nd nm bs nu cm es)) := by
  have hp := Hp.start w
  have HA := Lib.hid ha
  have HL := Lib.hid hl
  clear ha
  obtain ⟨bH, hbH⟩ : ∃ b, headV nd nm bs es = b := ⟨_, rfl⟩
  have hcases : (inM nd 1 7 = false ∧ bH = false) ∨ (inM nd 1 7 = true ∧ inM nm 0 900000000 = false ∧ bH = false) ∨ (inM nd 1 7 = true ∧ inM nm 0 900000000 = true ∧ inM bs 0 900000000 = false ∧ bH = false) ∨ (inM nd 1 7 = true ∧ inM nm 0 900000000 = true ∧ inM bs 0 900000000 = true ∧ decide ((es.length : Int) ≤ 4000) = false ∧ bH = false) ∨ (inM nd 1 7 = true ∧ inM nm 0 900000000 = true ∧ inM bs 0 900000000 = true ∧ decide ((es.length : Int) ≤ 4000) = true ∧ folB bs 0 es = bH) := by
    have e1 : decide ((es.length : Int) ≤ 4000) = decide (es.length ≤ 4000) := by congr 1; exact propext (by omega)
    unfold headV at hbH
    rw [e1]
    cases h1 : inM nd 1 7 <;> cases h2 : inM nm 0 900000000 <;> cases h3 : inM bs 0 900000000 <;> cases h4 : decide (es.length ≤ 4000) <;> simp_all
  have HBH := Lib.hid hbH
  clear hbH
  go_enter Tryz.func13, Tryz.ntmps13
  rcases hcases with ⟨h1, h2⟩ | ⟨h1, h2, h3⟩ | ⟨h1, h2, h3, h4⟩ | ⟨h1, h2, h3, h4, h5⟩ | ⟨h1, h2, h3, h4, h5⟩
  · have HW1 := Lib.hid h1
    have HB0 : RowKit.Hid (bH = false) := Lib.hid h2
    clear h1 h2
    go_wp2_with (first | (go_at_call 33; (with_reducible refine (within33 nd 1 7 _ HW1.out _).mono ?_); rintro e w' ⟨rfl, rfl⟩) | go_skip | (first | (refine hA1 ?_; clear hp; intro b w1 hp) | refine hL3 ?_ | (refine hS1 ?_; clear hp; intro w1 hp)))
    obtain ⟨b1, hb1⟩ := hp.id0
    subst hb1
    go_loopg [36, 3, 4] es.length (fun k i o v wr => ∃ q : Nat, k + q = es.length ∧ i = .int .i64 q ∧ o = .bool (bH && entsB nm 0 (es.take q)) ∧ v = .int .i64 (lastV 0 (es.take q)) ∧ Hp w.heap.size w wr [⟨b1, [.int .i64 nd, .int .i64 nm, .int .i64 bs, .int .i64 nu, .int .i64 cm, .slice va es.length vc], 27, 6⟩])
    case atStart => exact ⟨0, by omega, rfl, by simp only [List.take_zero, entsB, Bool.and_true]; try rw [HB0.out], rfl, hp⟩
    case round =>
      clear hp
      obtain ⟨q, hkq, rfl, rfl, rfl, hp⟩ := hrel
      obtain ⟨p, hpp⟩ : ∃ p, (bH && entsB nm 0 (es.take q)) = p := ⟨_, rfl⟩
      obtain ⟨vq, hvq⟩ : ∃ v, lastV 0 (es.take q) = v := ⟨_, rfl⟩
      have HP0 := Lib.hid hpp
      have HVQ := Lib.hid hvq
      rw [hpp, hvq]
      clear hpp hvq
      by_cases hlt : q < es.length
      · obtain ⟨bq, off, rfl, hx⟩ := HA.out.elems 11 envL_len11 (by omega) (by omega)
        have hj := List.getElem?_eq_getElem hlt
        replace hx := hx q _ hj
        have htk : es.take (q + 1) = es.take q ++ [es[q]] := by rw [List.take_add_one, hj]; rfl
        clear hj
        generalize es[q] = en at hx htk
        have hsn : (bH && entsB nm 0 (es.take (q + 1))) = (p && (mayE en && inM en.vi vq nm)) := by rw [htk, entsB_snoc, ← Bool.and_assoc, HP0.out, HVQ.out]
        have hls : lastV 0 (es.take (q + 1)) = en.vi := by rw [htk, lastV_snoc]
        obtain ⟨nu2, vi, cl, sq, ⟨kk, hh, ii, nn, cc, vv, tt⟩⟩ := en
        simp only [envL, opL, List.cons_append, List.nil_append] at hx
        have HX := Lib.hid hx
        have HSN := Lib.hid hsn
        have HLS := Lib.hid hls
        have f1 : (0 : Int) ≤ (q : Int) := by omega
        have f2 : (q : Int) < (es.length : Int) := by omega
        clear hx htk hsn hls
        cases p with
        | false =>
          go_wp2_with (first | go_skip | (first | (refine hA1 ?_; clear hp; intro b w1 hp) | refine hL3 ?_ | (refine hS1 ?_; clear hp; intro w1 hp)))
          go_roundg (gk - 1)
          case measure => omega
          case rel => exact ⟨q + 1, by omega, congrArg (Value.int .i64) (by push_cast; first | omega | (unfold wrap64; omega)), by rw [HSN.out]; rfl, by rw [HLS.out], hp.tail⟩
        | true =>
          cases hm : mayE ⟨nu2, vi, cl, sq, ⟨kk, hh, ii, nn, cc, vv, tt⟩⟩ with
          | false =>
            have HM := Lib.hid hm
            clear hm
            go_wp2_with (first | (go_at_call 35; (with_reducible refine (may_lit nu2 vi cl sq kk hh ii nn cc vv tt _ HM.out _).mono ?_); rintro e w1 ⟨rfl, hb⟩; replace hp := hp.call hb; clear hb) | go_skip | (first | (refine hA1 ?_; clear hp; intro b w1 hp) | refine hL3 ?_ | (refine hS1 ?_; clear hp; intro w1 hp)))
            go_roundg (gk - 1)
            case measure => omega
            case rel => exact ⟨q + 1, by omega, congrArg (Value.int .i64) (by push_cast; first | omega | (unfold wrap64; omega)), by rw [HSN.out, HM.out]; rfl, by rw [HLS.out], hp.tail⟩
          | true =>
            obtain ⟨r, hv⟩ : ∃ r, inM vi vq nm = r := ⟨_, rfl⟩
            have HM := Lib.hid hm
            have HV := Lib.hid hv
            clear hm hv
            go_wp2_with (first | (go_at_call 35; (with_reducible refine (may_lit nu2 vi cl sq kk hh ii nn cc vv tt _ HM.out _).mono ?_); rintro e w1 ⟨rfl, hb⟩; replace hp := hp.call hb; clear hb) | (go_at_call 33; (with_reducible refine (within33 vi vq nm _ HV.out _).mono ?_); rintro e w' ⟨rfl, rfl⟩) | go_skip | (first | (refine hA1 ?_; clear hp; intro b w1 hp) | refine hL3 ?_ | (refine hS1 ?_; clear hp; intro w1 hp)))
            go_roundg (gk - 1)
            case measure => omega
            case rel => exact ⟨q + 1, by omega, congrArg (Value.int .i64) (by push_cast; first | omega | (unfold wrap64; omega)), by rw [HSN.out, HM.out, HV.out]; rfl, by rw [HLS.out], hp.tail⟩
      · obtain rfl : q = es.length := by omega
        have f2 : decide ((es.length : Int) < (es.length : Int)) = false := by simp
        have hp0 := HP0.out
        rw [List.take_length, ← HBH.out] at hp0
        have HP1 := Lib.hid hp0
        clear hkq hlt HP0 hp0
        cases p with
        | false =>
          have hck : checkV nd nm bs nu cm es = false := by unfold checkV; rw [← Bool.and_assoc, HP1.out]; rfl
          have HCK := Lib.hid hck
          clear hck
          go_wp2_with (first | go_skip | (first | (refine hA1 ?_; clear hp; intro b w1 hp) | refine hL3 ?_ | (refine hS1 ?_; clear hp; intro w1 hp)))
          go_ret
          exact ⟨by rw [HCK.out]; first | rfl | (rw [decide_eq_true HN.out, Bool.true_and, HWN.out, HWC.out]; rfl) | (rw [decide_eq_false HN.out, Bool.false_and]; rfl), hp.below⟩
        | true =>
          have hck : checkV nd nm bs nu cm es = (decide (nu = wrap64 (bs + es.length)) && inM cm bs nu) := by unfold checkV; rw [← Bool.and_assoc, HP1.out, Bool.true_and]
          have HCK := Lib.hid hck
          clear hck
          by_cases hn : nu = wrap64 (bs + es.length)
          · have e1 : (nu == wrap64 (bs + es.length)) = true := by simpa using hn
            have HN := Lib.hid hn
            clear hn
            cases hc : inM cm bs (wrap64 (bs + es.length)) with
            | false =>
              have HWC := Lib.hid hc
              have HWN : RowKit.Hid (inM cm bs nu = inM cm bs (wrap64 (bs + es.length))) := Lib.hid (by rw [HN.out])
              clear hc
              go_wp2_with (first | (go_at_call 33; (with_reducible refine (within33 cm bs _ _ HWC.out _).mono ?_); rintro e w' ⟨rfl, rfl⟩) | go_skip | (first | (refine hA1 ?_; clear hp; intro b w1 hp) | refine hL3 ?_ | (refine hS1 ?_; clear hp; intro w1 hp)))
              go_ret
              exact ⟨by rw [HCK.out]; first | rfl | (rw [decide_eq_true HN.out, Bool.true_and, HWN.out, HWC.out]; rfl) | (rw [decide_eq_false HN.out, Bool.false_and]; rfl), hp.below⟩
            | true =>
              have HWC := Lib.hid hc
              have HWN : RowKit.Hid (inM cm bs nu = inM cm bs (wrap64 (bs + es.length))) := Lib.hid (by rw [HN.out])
              clear hc
              go_wp2_with (first | (go_at_call 33; (with_reducible refine (within33 cm bs _ _ HWC.out _).mono ?_); rintro e w' ⟨rfl, rfl⟩) | go_skip | (first | (refine hA1 ?_; clear hp; intro b w1 hp) | refine hL3 ?_ | (refine hS1 ?_; clear hp; intro w1 hp)))
              go_ret
              exact ⟨by rw [HCK.out]; first | rfl | (rw [decide_eq_true HN.out, Bool.true_and, HWN.out, HWC.out]; rfl) | (rw [decide_eq_false HN.out, Bool.false_and]; rfl), hp.below⟩
          · have e1 : (nu == wrap64 (bs + es.length)) = false := by simpa using hn
            have HN := Lib.hid hn
            go_wp2_with (first | go_skip | (first | (refine hA1 ?_; clear hp; intro b w1 hp) | refine hL3 ?_ | (refine hS1 ?_; clear hp; intro w1 hp)))
            go_ret
            exact ⟨by rw [HCK.out]; first | rfl | (rw [decide_eq_true HN.out, Bool.true_and, HWN.out, HWC.out]; rfl) | (rw [decide_eq_false HN.out, Bool.false_and]; rfl), hp.below⟩
  · have HW1 := Lib.hid h1
    have HW2 := Lib.hid h2
    have HB0 : RowKit.Hid (bH = false) := Lib.hid h3
    clear h1 h2 h3
    go_wp2_with (first | (go_at_call 33; (with_reducible refine (within33 nd 1 7 _ HW1.out _).mono ?_); rintro e w' ⟨rfl, rfl⟩) | (go_at_call 33; (with_reducible refine (within33 nm 0 900000000 _ HW2.out _).mono ?_); rintro e w' ⟨rfl, rfl⟩) | go_skip | (first | (refine hA1 ?_; clear hp; intro b w1 hp) | refine hL3 ?_ | (refine hS1 ?_; clear hp; intro w1 hp)))
    obtain ⟨b1, hb1⟩ := hp.id0
    subst hb1
    go_loopg [36, 3, 4] es.length (fun k i o v wr => ∃ q : Nat, k + q = es.length ∧ i = .int .i64 q ∧ o = .bool (bH && entsB nm 0 (es.take q)) ∧ v = .int .i64 (lastV 0 (es.take q)) ∧ Hp w.heap.size w wr [⟨b1, [.int .i64 nd, .int .i64 nm, .int .i64 bs, .int .i64 nu, .int .i64 cm, .slice va es.length vc], 27, 6⟩])
    case atStart => exact ⟨0, by omega, rfl, by simp only [List.take_zero, entsB, Bool.and_true]; try rw [HB0.out], rfl, hp⟩
    case round =>
      clear hp
      obtain ⟨q, hkq, rfl, rfl, rfl, hp⟩ := hrel
      obtain ⟨p, hpp⟩ : ∃ p, (bH && entsB nm 0 (es.take q)) = p := ⟨_, rfl⟩
      obtain ⟨vq, hvq⟩ : ∃ v, lastV 0 (es.take q) = v := ⟨_, rfl⟩
      have HP0 := Lib.hid hpp
      have HVQ := Lib.hid hvq
      rw [hpp, hvq]
      clear hpp hvq
      by_cases hlt : q < es.length
      · obtain ⟨bq, off, rfl, hx⟩ := HA.out.elems 11 envL_len11 (by omega) (by omega)
        have hj := List.getElem?_eq_getElem hlt
        replace hx := hx q _ hj
        have htk : es.take (q + 1) = es.take q ++ [es[q]] := by rw [List.take_add_one, hj]; rfl
        clear hj
        generalize es[q] = en at hx htk
        have hsn : (bH && entsB nm 0 (es.take (q + 1))) = (p && (mayE en && inM en.vi vq nm)) := by rw [htk, entsB_snoc, ← Bool.and_assoc, HP0.out, HVQ.out]
        have hls : lastV 0 (es.take (q + 1)) = en.vi := by rw [htk, lastV_snoc]
        obtain ⟨nu2, vi, cl, sq, ⟨kk, hh, ii, nn, cc, vv, tt⟩⟩ := en
        simp only [envL, opL, List.cons_append, List.nil_append] at hx
        have HX := Lib.hid hx
        have HSN := Lib.hid hsn
        have HLS := Lib.hid hls
        have f1 : (0 : Int) ≤ (q : Int) := by omega
        have f2 : (q : Int) < (es.length : Int) := by omega
        clear hx htk hsn hls
        cases p with
        | false =>
          go_wp2_with (first | go_skip | (first | (refine hA1 ?_; clear hp; intro b w1 hp) | refine hL3 ?_ | (refine hS1 ?_; clear hp; intro w1 hp)))
          go_roundg (gk - 1)
          case measure => omega
          case rel => exact ⟨q + 1, by omega, congrArg (Value.int .i64) (by push_cast; first | omega | (unfold wrap64; omega)), by rw [HSN.out]; rfl, by rw [HLS.out], hp.tail⟩
        | true =>
          cases hm : mayE ⟨nu2, vi, cl, sq, ⟨kk, hh, ii, nn, cc, vv, tt⟩⟩ with
          | false =>
            have HM := Lib.hid hm
            clear hm
            go_wp2_with (first | (go_at_call 35; (with_reducible refine (may_lit nu2 vi cl sq kk hh ii nn cc vv tt _ HM.out _).mono ?_); rintro e w1 ⟨rfl, hb⟩; replace hp := hp.call hb; clear hb) | go_skip | (first | (refine hA1 ?_; clear hp; intro b w1 hp) | refine hL3 ?_ | (refine hS1 ?_; clear hp; intro w1 hp)))
            go_roundg (gk - 1)
            case measure => omega
            case rel => exact ⟨q + 1, by omega, congrArg (Value.int .i64) (by push_cast; first | omega | (unfold wrap64; omega)), by rw [HSN.out, HM.out]; rfl, by rw [HLS.out], hp.tail⟩
          | true =>
            obtain ⟨r, hv⟩ : ∃ r, inM vi vq nm = r := ⟨_, rfl⟩
            have HM := Lib.hid hm
            have HV := Lib.hid hv
            clear hm hv
            go_wp2_with (first | (go_at_call 35; (with_reducible refine (may_lit nu2 vi cl sq kk hh ii nn cc vv tt _ HM.out _).mono ?_); rintro e w1 ⟨rfl, hb⟩; replace hp := hp.call hb; clear hb) | (go_at_call 33; (with_reducible refine (within33 vi vq nm _ HV.out _).mono ?_); rintro e w' ⟨rfl, rfl⟩) | go_skip | (first | (refine hA1 ?_; clear hp; intro b w1 hp) | refine hL3 ?_ | (refine hS1 ?_; clear hp; intro w1 hp)))
            go_roundg (gk - 1)
            case measure => omega
            case rel => exact ⟨q + 1, by omega, congrArg (Value.int .i64) (by push_cast; first | omega | (unfold wrap64; omega)), by rw [HSN.out, HM.out, HV.out]; rfl, by rw [HLS.out], hp.tail⟩
      · obtain rfl : q = es.length := by omega
        have f2 : decide ((es.length : Int) < (es.length : Int)) = false := by simp
        have hp0 := HP0.out
        rw [List.take_length, ← HBH.out] at hp0
        have HP1 := Lib.hid hp0
        clear hkq hlt HP0 hp0
        cases p with
        | false =>
          have hck : checkV nd nm bs nu cm es = false := by unfold checkV; rw [← Bool.and_assoc, HP1.out]; rfl
          have HCK := Lib.hid hck
          clear hck
          go_wp2_with (first | go_skip | (first | (refine hA1 ?_; clear hp; intro b w1 hp) | refine hL3 ?_ | (refine hS1 ?_; clear hp; intro w1 hp)))
          go_ret
          exact ⟨by rw [HCK.out]; first | rfl | (rw [decide_eq_true HN.out, Bool.true_and, HWN.out, HWC.out]; rfl) | (rw [decide_eq_false HN.out, Bool.false_and]; rfl), hp.below⟩
        | true =>
          have hck : checkV nd nm bs nu cm es = (decide (nu = wrap64 (bs + es.length)) && inM cm bs nu) := by unfold checkV; rw [← Bool.and_assoc, HP1.out, Bool.true_and]
          have HCK := Lib.hid hck
          clear hck
          by_cases hn : nu = wrap64 (bs + es.length)
          · have e1 : (nu == wrap64 (bs + es.length)) = true := by simpa using hn
            have HN := Lib.hid hn
            clear hn
            cases hc : inM cm bs (wrap64 (bs + es.length)) with
            | false =>
              have HWC := Lib.hid hc
              have HWN : RowKit.Hid (inM cm bs nu = inM cm bs (wrap64 (bs + es.length))) := Lib.hid (by rw [HN.out])
              clear hc
              go_wp2_with (first | (go_at_call 33; (with_reducible refine (within33 cm bs _ _ HWC.out _).mono ?_); rintro e w' ⟨rfl, rfl⟩) | go_skip | (first | (refine hA1 ?_; clear hp; intro b w1 hp) | refine hL3 ?_ | (refine hS1 ?_; clear hp; intro w1 hp)))
              go_ret
              exact ⟨by rw [HCK.out]; first | rfl | (rw [decide_eq_true HN.out, Bool.true_and, HWN.out, HWC.out]; rfl) | (rw [decide_eq_false HN.out, Bool.false_and]; rfl), hp.below⟩
            | true =>
              have HWC := Lib.hid hc
              have HWN : RowKit.Hid (inM cm bs nu = inM cm bs (wrap64 (bs + es.length))) := Lib.hid (by rw [HN.out])
              clear hc
              go_wp2_with (first | (go_at_call 33; (with_reducible refine (within33 cm bs _ _ HWC.out _).mono ?_); rintro e w' ⟨rfl, rfl⟩) | go_skip | (first | (refine hA1 ?_; clear hp; intro b w1 hp) | refine hL3 ?_ | (refine hS1 ?_; clear hp; intro w1 hp)))
              go_ret
              exact ⟨by rw [HCK.out]; first | rfl | (rw [decide_eq_true HN.out, Bool.true_and, HWN.out, HWC.out]; rfl) | (rw [decide_eq_false HN.out, Bool.false_and]; rfl), hp.below⟩
          · have e1 : (nu == wrap64 (bs + es.length)) = false := by simpa using hn
            have HN := Lib.hid hn
            go_wp2_with (first | go_skip | (first | (refine hA1 ?_; clear hp; intro b w1 hp) | refine hL3 ?_ | (refine hS1 ?_; clear hp; intro w1 hp)))
            go_ret
            exact ⟨by rw [HCK.out]; first | rfl | (rw [decide_eq_true HN.out, Bool.true_and, HWN.out, HWC.out]; rfl) | (rw [decide_eq_false HN.out, Bool.false_and]; rfl), hp.below⟩
  · have HW1 := Lib.hid h1
    have HW2 := Lib.hid h2
    have HW3 := Lib.hid h3
    have HB0 : RowKit.Hid (bH = false) := Lib.hid h4
    clear h1 h2 h3 h4
    go_wp2_with (first | (go_at_call 33; (with_reducible refine (within33 nd 1 7 _ HW1.out _).mono ?_); rintro e w' ⟨rfl, rfl⟩) | (go_at_call 33; (with_reducible refine (within33 nm 0 900000000 _ HW2.out _).mono ?_); rintro e w' ⟨rfl, rfl⟩) | (go_at_call 33; (with_reducible refine (within33 bs 0 900000000 _ HW3.out _).mono ?_); rintro e w' ⟨rfl, rfl⟩) | go_skip | (first | (refine hA1 ?_; clear hp; intro b w1 hp) | refine hL3 ?_ | (refine hS1 ?_; clear hp; intro w1 hp)))
    obtain ⟨b1, hb1⟩ := hp.id0
    subst hb1
    go_loopg [36, 3, 4] es.length (fun k i o v wr => ∃ q : Nat, k + q = es.length ∧ i = .int .i64 q ∧ o = .bool (bH && entsB nm 0 (es.take q)) ∧ v = .int .i64 (lastV 0 (es.take q)) ∧ Hp w.heap.size w wr [⟨b1, [.int .i64 nd, .int .i64 nm, .int .i64 bs, .int .i64 nu, .int .i64 cm, .slice va es.length vc], 27, 6⟩])
    case atStart => exact ⟨0, by omega, rfl, by simp only [List.take_zero, entsB, Bool.and_true]; try rw [HB0.out], rfl, hp⟩
    case round =>
      clear hp
      obtain ⟨q, hkq, rfl, rfl, rfl, hp⟩ := hrel
      obtain ⟨p, hpp⟩ : ∃ p, (bH && entsB nm 0 (es.take q)) = p := ⟨_, rfl⟩
      obtain ⟨vq, hvq⟩ : ∃ v, lastV 0 (es.take q) = v := ⟨_, rfl⟩
      have HP0 := Lib.hid hpp
      have HVQ := Lib.hid hvq
      rw [hpp, hvq]
      clear hpp hvq
      by_cases hlt : q < es.length
      · obtain ⟨bq, off, rfl, hx⟩ := HA.out.elems 11 envL_len11 (by omega) (by omega)
        have hj := List.getElem?_eq_getElem hlt
        replace hx := hx q _ hj
        have htk : es.take (q + 1) = es.take q ++ [es[q]] := by rw [List.take_add_one, hj]; rfl
        clear hj
        generalize es[q] = en at hx htk
        have hsn : (bH && entsB nm 0 (es.take (q + 1))) = (p && (mayE en && inM en.vi vq nm)) := by rw [htk, entsB_snoc, ← Bool.and_assoc, HP0.out, HVQ.out]
        have hls : lastV 0 (es.take (q + 1)) = en.vi := by rw [htk, lastV_snoc]
        obtain ⟨nu2, vi, cl, sq, ⟨kk, hh, ii, nn, cc, vv, tt⟩⟩ := en
        simp only [envL, opL, List.cons_append, List.nil_append] at hx
        have HX := Lib.hid hx
        have HSN := Lib.hid hsn
        have HLS := Lib.hid hls
        have f1 : (0 : Int) ≤ (q : Int) := by omega
        have f2 : (q : Int) < (es.length : Int) := by omega
        clear hx htk hsn hls
        cases p with
        | false =>
          go_wp2_with (first | go_skip | (first | (refine hA1 ?_; clear hp; intro b w1 hp) | refine hL3 ?_ | (refine hS1 ?_; clear hp; intro w1 hp)))
          go_roundg (gk - 1)
          case measure => omega
          case rel => exact ⟨q + 1, by omega, congrArg (Value.int .i64) (by push_cast; first | omega | (unfold wrap64; omega)), by rw [HSN.out]; rfl, by rw [HLS.out], hp.tail⟩
        | true =>
          cases hm : mayE ⟨nu2, vi, cl, sq, ⟨kk, hh, ii, nn, cc, vv, tt⟩⟩ with
          | false =>
            have HM := Lib.hid hm
            clear hm
            go_wp2_with (first | (go_at_call 35; (with_reducible refine (may_lit nu2 vi cl sq kk hh ii nn cc vv tt _ HM.out _).mono ?_); rintro e w1 ⟨rfl, hb⟩; replace hp := hp.call hb; clear hb) | go_skip | (first | (refine hA1 ?_; clear hp; intro b w1 hp) | refine hL3 ?_ | (refine hS1 ?_; clear hp; intro w1 hp)))
            go_roundg (gk - 1)
            case measure => omega
            case rel => exact ⟨q + 1, by omega, congrArg (Value.int .i64) (by push_cast; first | omega | (unfold wrap64; omega)), by rw [HSN.out, HM.out]; rfl, by rw [HLS.out], hp.tail⟩
          | true =>
            obtain ⟨r, hv⟩ : ∃ r, inM vi vq nm = r := ⟨_, rfl⟩
            have HM := Lib.hid hm
            have HV := Lib.hid hv
            clear hm hv
            go_wp2_with (first | (go_at_call 35; (with_reducible refine (may_lit nu2 vi cl sq kk hh ii nn cc vv tt _ HM.out _).mono ?_); rintro e w1 ⟨rfl, hb⟩; replace hp := hp.call hb; clear hb) | (go_at_call 33; (with_reducible refine (within33 vi vq nm _ HV.out _).mono ?_); rintro e w' ⟨rfl, rfl⟩) | go_skip | (first | (refine hA1 ?_; clear hp; intro b w1 hp) | refine hL3 ?_ | (refine hS1 ?_; clear hp; intro w1 hp)))
            go_roundg (gk - 1)
            case measure => omega
            case rel => exact ⟨q + 1, by omega, congrArg (Value.int .i64) (by push_cast; first | omega | (unfold wrap64; omega)), by rw [HSN.out, HM.out, HV.out]; rfl, by rw [HLS.out], hp.tail⟩
      · obtain rfl : q = es.length := by omega
        have f2 : decide ((es.length : Int) < (es.length : Int)) = false := by simp
        have hp0 := HP0.out
        rw [List.take_length, ← HBH.out] at hp0
        have HP1 := Lib.hid hp0
        clear hkq hlt HP0 hp0
        cases p with
        | false =>
          have hck : checkV nd nm bs nu cm es = false := by unfold checkV; rw [← Bool.and_assoc, HP1.out]; rfl
          have HCK := Lib.hid hck
          clear hck
          go_wp2_with (first | go_skip | (first | (refine hA1 ?_; clear hp; intro b w1 hp) | refine hL3 ?_ | (refine hS1 ?_; clear hp; intro w1 hp)))
          go_ret
          exact ⟨by rw [HCK.out]; first | rfl | (rw [decide_eq_true HN.out, Bool.true_and, HWN.out, HWC.out]; rfl) | (rw [decide_eq_false HN.out, Bool.false_and]; rfl), hp.below⟩
        | true =>
          have hck : checkV nd nm bs nu cm es = (decide (nu = wrap64 (bs + es.length)) && inM cm bs nu) := by unfold checkV; rw [← Bool.and_assoc, HP1.out, Bool.true_and]
          have HCK := Lib.hid hck
          clear hck
          by_cases hn : nu = wrap64 (bs + es.length)
          · have e1 : (nu == wrap64 (bs + es.length)) = true := by simpa using hn
            have HN := Lib.hid hn
            clear hn
            cases hc : inM cm bs (wrap64 (bs + es.length)) with
            | false =>
              have HWC := Lib.hid hc
              have HWN : RowKit.Hid (inM cm bs nu = inM cm bs (wrap64 (bs + es.length))) := Lib.hid (by rw [HN.out])
              clear hc
              go_wp2_with (first | (go_at_call 33; (with_reducible refine (within33 cm bs _ _ HWC.out _).mono ?_); rintro e w' ⟨rfl, rfl⟩) | go_skip | (first | (refine hA1 ?_; clear hp; intro b w1 hp) | refine hL3 ?_ | (refine hS1 ?_; clear hp; intro w1 hp)))
              go_ret
              exact ⟨by rw [HCK.out]; first | rfl | (rw [decide_eq_true HN.out, Bool.true_and, HWN.out, HWC.out]; rfl) | (rw [decide_eq_false HN.out, Bool.false_and]; rfl), hp.below⟩
            | true =>
              have HWC := Lib.hid hc
              have HWN : RowKit.Hid (inM cm bs nu = inM cm bs (wrap64 (bs + es.length))) := Lib.hid (by rw [HN.out])
              clear hc
              go_wp2_with (first | (go_at_call 33; (with_reducible refine (within33 cm bs _ _ HWC.out _).mono ?_); rintro e w' ⟨rfl, rfl⟩) | go_skip | (first | (refine hA1 ?_; clear hp; intro b w1 hp) | refine hL3 ?_ | (refine hS1 ?_; clear hp; intro w1 hp)))
              go_ret
              exact ⟨by rw [HCK.out]; first | rfl | (rw [decide_eq_true HN.out, Bool.true_and, HWN.out, HWC.out]; rfl) | (rw [decide_eq_false HN.out, Bool.false_and]; rfl), hp.below⟩
          · have e1 : (nu == wrap64 (bs + es.length)) = false := by simpa using hn
            have HN := Lib.hid hn
            go_wp2_with (first | go_skip | (first | (refine hA1 ?_; clear hp; intro b w1 hp) | refine hL3 ?_ | (refine hS1 ?_; clear hp; intro w1 hp)))
            go_ret
            exact ⟨by rw [HCK.out]; first | rfl | (rw [decide_eq_true HN.out, Bool.true_and, HWN.out, HWC.out]; rfl) | (rw [decide_eq_false HN.out, Bool.false_and]; rfl), hp.below⟩
  · have HW1 := Lib.hid h1
    have HW2 := Lib.hid h2
    have HW3 := Lib.hid h3
    have HB0 : RowKit.Hid (bH = false) := Lib.hid h5
    clear h1 h2 h3 h5
    go_wp2_with (first | (go_at_call 33; (with_reducible refine (within33 nd 1 7 _ HW1.out _).mono ?_); rintro e w' ⟨rfl, rfl⟩) | (go_at_call 33; (with_reducible refine (within33 nm 0 900000000 _ HW2.out _).mono ?_); rintro e w' ⟨rfl, rfl⟩) | (go_at_call 33; (with_reducible refine (within33 bs 0 900000000 _ HW3.out _).mono ?_); rintro e w' ⟨rfl, rfl⟩) | go_skip | (first | (refine hA1 ?_; clear hp; intro b w1 hp) | refine hL3 ?_ | (refine hS1 ?_; clear hp; intro w1 hp)))
    obtain ⟨b1, hb1⟩ := hp.id0
    subst hb1
    go_loopg [36, 3, 4] es.length (fun k i o v wr => ∃ q : Nat, k + q = es.length ∧ i = .int .i64 q ∧ o = .bool (bH && entsB nm 0 (es.take q)) ∧ v = .int .i64 (lastV 0 (es.take q)) ∧ Hp w.heap.size w wr [⟨b1, [.int .i64 nd, .int .i64 nm, .int .i64 bs, .int .i64 nu, .int .i64 cm, .slice va es.length vc], 27, 6⟩])
    case atStart => exact ⟨0, by omega, rfl, by simp only [List.take_zero, entsB, Bool.and_true]; try rw [HB0.out], rfl, hp⟩
    case round =>
      clear hp
      obtain ⟨q, hkq, rfl, rfl, rfl, hp⟩ := hrel
      obtain ⟨p, hpp⟩ : ∃ p, (bH && entsB nm 0 (es.take q)) = p := ⟨_, rfl⟩
      obtain ⟨vq, hvq⟩ : ∃ v, lastV 0 (es.take q) = v := ⟨_, rfl⟩
      have HP0 := Lib.hid hpp
      have HVQ := Lib.hid hvq
      rw [hpp, hvq]
      clear hpp hvq
      by_cases hlt : q < es.length
      · obtain ⟨bq, off, rfl, hx⟩ := HA.out.elems 11 envL_len11 (by omega) (by omega)
        have hj := List.getElem?_eq_getElem hlt
        replace hx := hx q _ hj
        have htk : es.take (q + 1) = es.take q ++ [es[q]] := by rw [List.take_add_one, hj]; rfl
        clear hj
        generalize es[q] = en at hx htk
        have hsn : (bH && entsB nm 0 (es.take (q + 1))) = (p && (mayE en && inM en.vi vq nm)) := by rw [htk, entsB_snoc, ← Bool.and_assoc, HP0.out, HVQ.out]
        have hls : lastV 0 (es.take (q + 1)) = en.vi := by rw [htk, lastV_snoc]
        obtain ⟨nu2, vi, cl, sq, ⟨kk, hh, ii, nn, cc, vv, tt⟩⟩ := en
        simp only [envL, opL, List.cons_append, List.nil_append] at hx
        have HX := Lib.hid hx
        have HSN := Lib.hid hsn
        have HLS := Lib.hid hls
        have f1 : (0 : Int) ≤ (q : Int) := by omega
        have f2 : (q : Int) < (es.length : Int) := by omega
        clear hx htk hsn hls
        cases p with
        | false =>
          go_wp2_with (first | go_skip | (first | (refine hA1 ?_; clear hp; intro b w1 hp) | refine hL3 ?_ | (refine hS1 ?_; clear hp; intro w1 hp)))
          go_roundg (gk - 1)
          case measure => omega
          case rel => exact ⟨q + 1, by omega, congrArg (Value.int .i64) (by push_cast; first | omega | (unfold wrap64; omega)), by rw [HSN.out]; rfl, by rw [HLS.out], hp.tail⟩
        | true =>
          cases hm : mayE ⟨nu2, vi, cl, sq, ⟨kk, hh, ii, nn, cc, vv, tt⟩⟩ with
          | false =>
            have HM := Lib.hid hm
            clear hm
            go_wp2_with (first | (go_at_call 35; (with_reducible refine (may_lit nu2 vi cl sq kk hh ii nn cc vv tt _ HM.out _).mono ?_); rintro e w1 ⟨rfl, hb⟩; replace hp := hp.call hb; clear hb) | go_skip | (first | (refine hA1 ?_; clear hp; intro b w1 hp) | refine hL3 ?_ | (refine hS1 ?_; clear hp; intro w1 hp)))
            go_roundg (gk - 1)
            case measure => omega
            case rel => exact ⟨q + 1, by omega, congrArg (Value.int .i64) (by push_cast; first | omega | (unfold wrap64; omega)), by rw [HSN.out, HM.out]; rfl, by rw [HLS.out], hp.tail⟩
          | true =>
            obtain ⟨r, hv⟩ : ∃ r, inM vi vq nm = r := ⟨_, rfl⟩
            have HM := Lib.hid hm
            have HV := Lib.hid hv
            clear hm hv
            go_wp2_with (first | (go_at_call 35; (with_reducible refine (may_lit nu2 vi cl sq kk hh ii nn cc vv tt _ HM.out _).mono ?_); rintro e w1 ⟨rfl, hb⟩; replace hp := hp.call hb; clear hb) | (go_at_call 33; (with_reducible refine (within33 vi vq nm _ HV.out _).mono ?_); rintro e w' ⟨rfl, rfl⟩) | go_skip | (first | (refine hA1 ?_; clear hp; intro b w1 hp) | refine hL3 ?_ | (refine hS1 ?_; clear hp; intro w1 hp)))
            go_roundg (gk - 1)
            case measure => omega
            case rel => exact ⟨q + 1, by omega, congrArg (Value.int .i64) (by push_cast; first | omega | (unfold wrap64; omega)), by rw [HSN.out, HM.out, HV.out]; rfl, by rw [HLS.out], hp.tail⟩
      · obtain rfl : q = es.length := by omega
        have f2 : decide ((es.length : Int) < (es.length : Int)) = false := by simp
        have hp0 := HP0.out
        rw [List.take_length, ← HBH.out] at hp0
        have HP1 := Lib.hid hp0
        clear hkq hlt HP0 hp0
        cases p with
        | false =>
          have hck : checkV nd nm bs nu cm es = false := by unfold checkV; rw [← Bool.and_assoc, HP1.out]; rfl
          have HCK := Lib.hid hck
          clear hck
          go_wp2_with (first | go_skip | (first | (refine hA1 ?_; clear hp; intro b w1 hp) | refine hL3 ?_ | (refine hS1 ?_; clear hp; intro w1 hp)))
          go_ret
          exact ⟨by rw [HCK.out]; first | rfl | (rw [decide_eq_true HN.out, Bool.true_and, HWN.out, HWC.out]; rfl) | (rw [decide_eq_false HN.out, Bool.false_and]; rfl), hp.below⟩
        | true =>
          have hck : checkV nd nm bs nu cm es = (decide (nu = wrap64 (bs + es.length)) && inM cm bs nu) := by unfold checkV; rw [← Bool.and_assoc, HP1.out, Bool.true_and]
          have HCK := Lib.hid hck
          clear hck
          by_cases hn : nu = wrap64 (bs + es.length)
          · have e1 : (nu == wrap64 (bs + es.length)) = true := by simpa using hn
            have HN := Lib.hid hn
            clear hn
            cases hc : inM cm bs (wrap64 (bs + es.length)) with
            | false =>
              have HWC := Lib.hid hc
              have HWN : RowKit.Hid (inM cm bs nu = inM cm bs (wrap64 (bs + es.length))) := Lib.hid (by rw [HN.out])
              clear hc
              go_wp2_with (first | (go_at_call 33; (with_reducible refine (within33 cm bs _ _ HWC.out _).mono ?_); rintro e w' ⟨rfl, rfl⟩) | go_skip | (first | (refine hA1 ?_; clear hp; intro b w1 hp) | refine hL3 ?_ | (refine hS1 ?_; clear hp; intro w1 hp)))
              go_ret
              exact ⟨by rw [HCK.out]; first | rfl | (rw [decide_eq_true HN.out, Bool.true_and, HWN.out, HWC.out]; rfl) | (rw [decide_eq_false HN.out, Bool.false_and]; rfl), hp.below⟩
            | true =>
              have HWC := Lib.hid hc
              have HWN : RowKit.Hid (inM cm bs nu = inM cm bs (wrap64 (bs + es.length))) := Lib.hid (by rw [HN.out])
              clear hc
              go_wp2_with (first | (go_at_call 33; (with_reducible refine (within33 cm bs _ _ HWC.out _).mono ?_); rintro e w' ⟨rfl, rfl⟩) | go_skip | (first | (refine hA1 ?_; clear hp; intro b w1 hp) | refine hL3 ?_ | (refine hS1 ?_; clear hp; intro w1 hp)))
              go_ret
              exact ⟨by rw [HCK.out]; first | rfl | (rw [decide_eq_true HN.out, Bool.true_and, HWN.out, HWC.out]; rfl) | (rw [decide_eq_false HN.out, Bool.false_and]; rfl), hp.below⟩
          · have e1 : (nu == wrap64 (bs + es.length)) = false := by simpa using hn
            have HN := Lib.hid hn
            go_wp2_with (first | go_skip | (first | (refine hA1 ?_; clear hp; intro b w1 hp) | refine hL3 ?_ | (refine hS1 ?_; clear hp; intro w1 hp)))
            go_ret
            exact ⟨by rw [HCK.out]; first | rfl | (rw [decide_eq_true HN.out, Bool.true_and, HWN.out, HWC.out]; rfl) | (rw [decide_eq_false HN.out, Bool.false_and]; rfl), hp.below⟩
  · have HW1 := Lib.hid h1
    have HW2 := Lib.hid h2
    have HW3 := Lib.hid h3
    have HF := Lib.hid h5
    have HB0 : RowKit.Hid (bH = bH) := Lib.hid rfl
    clear h1 h2 h3 h5
    go_wp2_with (first | (go_at_call 33; (with_reducible refine (within33 nd 1 7 _ HW1.out _).mono ?_); rintro e w' ⟨rfl, rfl⟩) | (go_at_call 33; (with_reducible refine (within33 nm 0 900000000 _ HW2.out _).mono ?_); rintro e w' ⟨rfl, rfl⟩) | (go_at_call 33; (with_reducible refine (within33 bs 0 900000000 _ HW3.out _).mono ?_); rintro e w' ⟨rfl, rfl⟩) | (go_at_call 34; (with_reducible refine (row34 es bs va vc _ HF.out HL.out _ (HA.out.below hp.below)).mono ?_); rintro e w1 ⟨rfl, hb⟩; replace hp := hp.call hb; clear hb) | go_skip | (first | (refine hA1 ?_; clear hp; intro b w1 hp) | refine hL3 ?_ | (refine hS1 ?_; clear hp; intro w1 hp)))
    obtain ⟨b1, hb1⟩ := hp.id0
    subst hb1
    go_loopg [36, 3, 4] es.length (fun k i o v wr => ∃ q : Nat, k + q = es.length ∧ i = .int .i64 q ∧ o = .bool (bH && entsB nm 0 (es.take q)) ∧ v = .int .i64 (lastV 0 (es.take q)) ∧ Hp w.heap.size w wr [⟨b1, [.int .i64 nd, .int .i64 nm, .int .i64 bs, .int .i64 nu, .int .i64 cm, .slice va es.length vc], 27, 6⟩])
    case atStart => exact ⟨0, by omega, rfl, by simp only [List.take_zero, entsB, Bool.and_true]; try rw [HB0.out], rfl, hp⟩
    case round =>
      clear hp
      obtain ⟨q, hkq, rfl, rfl, rfl, hp⟩ := hrel
      obtain ⟨p, hpp⟩ : ∃ p, (bH && entsB nm 0 (es.take q)) = p := ⟨_, rfl⟩
      obtain ⟨vq, hvq⟩ : ∃ v, lastV 0 (es.take q) = v := ⟨_, rfl⟩
      have HP0 := Lib.hid hpp
      have HVQ := Lib.hid hvq
      rw [hpp, hvq]
      clear hpp hvq
      by_cases hlt : q < es.length
      · obtain ⟨bq, off, rfl, hx⟩ := HA.out.elems 11 envL_len11 (by omega) (by omega)
        have hj := List.getElem?_eq_getElem hlt
        replace hx := hx q _ hj
        have htk : es.take (q + 1) = es.take q ++ [es[q]] := by rw [List.take_add_one, hj]; rfl
        clear hj
        generalize es[q] = en at hx htk
        have hsn : (bH && entsB nm 0 (es.take (q + 1))) = (p && (mayE en && inM en.vi vq nm)) := by rw [htk, entsB_snoc, ← Bool.and_assoc, HP0.out, HVQ.out]
        have hls : lastV 0 (es.take (q + 1)) = en.vi := by rw [htk, lastV_snoc]
        obtain ⟨nu2, vi, cl, sq, ⟨kk, hh, ii, nn, cc, vv, tt⟩⟩ := en
        simp only [envL, opL, List.cons_append, List.nil_append] at hx
        have HX := Lib.hid hx
        have HSN := Lib.hid hsn
        have HLS := Lib.hid hls
        have f1 : (0 : Int) ≤ (q : Int) := by omega
        have f2 : (q : Int) < (es.length : Int) := by omega
        clear hx htk hsn hls
        cases p with
        | false =>
          go_wp2_with (first | go_skip | (first | (refine hA1 ?_; clear hp; intro b w1 hp) | refine hL3 ?_ | (refine hS1 ?_; clear hp; intro w1 hp)))
          go_roundg (gk - 1)
          case measure => omega
          case rel => exact ⟨q + 1, by omega, congrArg (Value.int .i64) (by push_cast; first | omega | (unfold wrap64; omega)), by rw [HSN.out]; rfl, by rw [HLS.out], hp.tail⟩
        | true =>
          cases hm : mayE ⟨nu2, vi, cl, sq, ⟨kk, hh, ii, nn, cc, vv, tt⟩⟩ with
          | false =>
            have HM := Lib.hid hm
            clear hm
            go_wp2_with (first | (go_at_call 35; (with_reducible refine (may_lit nu2 vi cl sq kk hh ii nn cc vv tt _ HM.out _).mono ?_); rintro e w1 ⟨rfl, hb⟩; replace hp := hp.call hb; clear hb) | go_skip | (first | (refine hA1 ?_; clear hp; intro b w1 hp) | refine hL3 ?_ | (refine hS1 ?_; clear hp; intro w1 hp)))
            go_roundg (gk - 1)
            case measure => omega
            case rel => exact ⟨q + 1, by omega, congrArg (Value.int .i64) (by push_cast; first | omega | (unfold wrap64; omega)), by rw [HSN.out, HM.out]; rfl, by rw [HLS.out], hp.tail⟩
          | true =>
            obtain ⟨r, hv⟩ : ∃ r, inM vi vq nm = r := ⟨_, rfl⟩
            have HM := Lib.hid hm
            have HV := Lib.hid hv
            clear hm hv
            go_wp2_with (first | (go_at_call 35; (with_reducible refine (may_lit nu2 vi cl sq kk hh ii nn cc vv tt _ HM.out _).mono ?_); rintro e w1 ⟨rfl, hb⟩; replace hp := hp.call hb; clear hb) | (go_at_call 33; (with_reducible refine (within33 vi vq nm _ HV.out _).mono ?_); rintro e w' ⟨rfl, rfl⟩) | go_skip | (first | (refine hA1 ?_; clear hp; intro b w1 hp) | refine hL3 ?_ | (refine hS1 ?_; clear hp; intro w1 hp)))
            go_roundg (gk - 1)
            case measure => omega
            case rel => exact ⟨q + 1, by omega, congrArg (Value.int .i64) (by push_cast; first | omega | (unfold wrap64; omega)), by rw [HSN.out, HM.out, HV.out]; rfl, by rw [HLS.out], hp.tail⟩
      · obtain rfl : q = es.length := by omega
        have f2 : decide ((es.length : Int) < (es.length : Int)) = false := by simp
        have hp0 := HP0.out
        rw [List.take_length, ← HBH.out] at hp0
        have HP1 := Lib.hid hp0
        clear hkq hlt HP0 hp0
        cases p with
        | false =>
          have hck : checkV nd nm bs nu cm es = false := by unfold checkV; rw [← Bool.and_assoc, HP1.out]; rfl
          have HCK := Lib.hid hck
          clear hck
          go_wp2_with (first | go_skip | (first | (refine hA1 ?_; clear hp; intro b w1 hp) | refine hL3 ?_ | (refine hS1 ?_; clear hp; intro w1 hp)))
          go_ret
          exact ⟨by rw [HCK.out]; first | rfl | (rw [decide_eq_true HN.out, Bool.true_and, HWN.out, HWC.out]; rfl) | (rw [decide_eq_false HN.out, Bool.false_and]; rfl), hp.below⟩
        | true =>
          have hck : checkV nd nm bs nu cm es = (decide (nu = wrap64 (bs + es.length)) && inM cm bs nu) := by unfold checkV; rw [← Bool.and_assoc, HP1.out, Bool.true_and]
          have HCK := Lib.hid hck
          clear hck
          by_cases hn : nu = wrap64 (bs + es.length)
          · have e1 : (nu == wrap64 (bs + es.length)) = true := by simpa using hn
            have HN := Lib.hid hn
            clear hn
            cases hc : inM cm bs (wrap64 (bs + es.length)) with
            | false =>
              have HWC := Lib.hid hc
              have HWN : RowKit.Hid (inM cm bs nu = inM cm bs (wrap64 (bs + es.length))) := Lib.hid (by rw [HN.out])
              clear hc
              go_wp2_with (first | (go_at_call 33; (with_reducible refine (within33 cm bs _ _ HWC.out _).mono ?_); rintro e w' ⟨rfl, rfl⟩) | go_skip | (first | (refine hA1 ?_; clear hp; intro b w1 hp) | refine hL3 ?_ | (refine hS1 ?_; clear hp; intro w1 hp)))
              go_ret
              exact ⟨by rw [HCK.out]; first | rfl | (rw [decide_eq_true HN.out, Bool.true_and, HWN.out, HWC.out]; rfl) | (rw [decide_eq_false HN.out, Bool.false_and]; rfl), hp.below⟩
            | true =>
              have HWC := Lib.hid hc
              have HWN : RowKit.Hid (inM cm bs nu = inM cm bs (wrap64 (bs + es.length))) := Lib.hid (by rw [HN.out])
              clear hc
              go_wp2_with (first | (go_at_call 33; (with_reducible refine (within33 cm bs _ _ HWC.out _).mono ?_); rintro e w' ⟨rfl, rfl⟩) | go_skip | (first | (refine hA1 ?_; clear hp; intro b w1 hp) | refine hL3 ?_ | (refine hS1 ?_; clear hp; intro w1 hp)))
              go_ret
              exact ⟨by rw [HCK.out]; first | rfl | (rw [decide_eq_true HN.out, Bool.true_and, HWN.out, HWC.out]; rfl) | (rw [decide_eq_false HN.out, Bool.false_and]; rfl), hp.below⟩
          · have e1 : (nu == wrap64 (bs + es.length)) = false := by simpa using hn
            have HN := Lib.hid hn
            go_wp2_with (first | go_skip | (first | (refine hA1 ?_; clear hp; intro b w1 hp) | refine hL3 ?_ | (refine hS1 ?_; clear hp; intro w1 hp)))
            go_ret
            exact ⟨by rw [HCK.out]; first | rfl | (rw [decide_eq_true HN.out, Bool.true_and, HWN.out, HWC.out]; rfl) | (rw [decide_eq_false HN.out, Bool.false_and]; rfl), hp.below⟩
end Go.Proofs.YtcjbepaclbhjaaaGreat
