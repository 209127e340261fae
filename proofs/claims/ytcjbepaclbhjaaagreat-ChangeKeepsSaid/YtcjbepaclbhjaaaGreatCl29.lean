/- Parts of the proof. -/
import Derived.Test.YtcjbepaclbhjaaaGreatCl28
import Derived.Test.YtcjbepaclbhjaaaGreatCl0
import Derived.Test.YtcjbepaclbhjaaaGreatCl27
open List renaming set_cons_zero → zSet, set_cons_succ → sSet
/- The walk of the document's Big of votes. -/
set_option linter.unusedSimpArgs false
set_option linter.unusedVariables false
namespace Go.Proofs.YtcjbepaclbhjaaaGreat
open Go.RowKit
theorem ceCVl0 {ty : TypeId} (h : cellB Tryz.prog ty = true := by with_reducible first | exact cell3 | exact cell4 | exact cell22) : cellB Tryz.prog ty = true := h
theorem big_z (vw nm bs : Int) (im : ByteArray) (ea : Option Addr) (es : List Env) (ec : Nat) (w : World) :
    Calls Tryz.prog 26 #[.agg #[.int .i64 vw, .int .i64 nm, .int .i64 bs, .string im, .slice ea es.length ec], .agg #[.int .i64 0, .int .i64 0, .int .i64 0, .int .i64 0, .string ⟨#[]⟩, .int .i64 0, .int .i64 0, .int .i64 0, .int .i64 0, .int .i64 0, .int .i64 0, .int .i64 0, .int .i64 0, .int .i64 0, .int .i64 0, .int .i64 0, .slice none 0 0]] w (BigP w es.length 0 im.size 0) :=
  big26 vw nm bs im ea es ec 0 0 0 0 ⟨#[]⟩ 0 0 0 0 0 0 0 0 0 0 0 none [] 0 w
def BigVP (w : World) (l : List Vt) (n p : Nat) (e : Ending) (w' : World) : Prop := ∃ bb, e = .returned (.bool bb) ∧ (bb = false → l.length ≤ 50 ∧ n ≤ 300 ∧ p ≤ 100000 ∧ ∀ v ∈ l, v.es.length ≤ 200) ∧ Below w.heap.size w w'
set_option maxRecDepth 100000 in
set_option maxHeartbeats 4000000 in
theorem big7 (l : List Vt) (a : Option Addr) (k : Nat) (vw nm bs : Int) (im : ByteArray) (ea : Option Addr) (es : List Env) (ec : Nat) (w : World) (ha : RowIs w a (l.flatMap vtV)) :
    Calls Tryz.prog 7 #[.slice a l.length k, .agg #[.int .i64 vw, .int .i64 nm, .int .i64 bs, .string im, .slice ea es.length ec]] w (BigVP w l es.length im.size) := by
  have hp := Hp.start w
  have HA := Lib.hid ha
  clear ha
  by_cases hl : l.length ≤ 50
  · have e0 : decide ((50 : Int) < (l.length : Int)) = false := by simp; omega
    go_enter Tryz.func7, Tryz.ntmps7
    go_wp2_with (first | (go_at_call 26; (with_reducible refine (big_z vw nm bs im ea es ec _).mono ?_); rintro e w1 ⟨bb, rfl, hbb, hb⟩; replace hp := hp.call hb; clear hb; cases bb) | go_skip | ((first | ((with_reducible refine pre_box _ _ rfl ?_); refine lB hp rfl (sTm rfl) rfl ?_; clear hp; intro b w1 hp) | ((with_reducible refine pre_load _ _ rfl ?_); first | refine lO hp rfl (sTm rfl) ceCVl0 aa5 ?_ | refine lA hp rfl (sTm rfl) agg24 aa5 ?_) | ((with_reducible refine pre_store _ _ _ rfl ?_); (first | refine sO hp rfl (sTm rfl) ceCVl0 aa5 ?_ | refine sA hp rfl (sTm rfl) (sTm rfl) agg24 aa5 ?_ | refine sG hp rfl (sTm rfl) (sTm rfl) agg24 aa5 ?_); clear hp; intro w1 hp; simp only [spl, zSet, sSet] at hp)); simp only [put_some, put_none, sSet, zSet]))
    · have HBB := Lib.hid (hbb (by first | rfl | trivial))
      clear hbb e0
      go_loopg [5] l.length (fun k i wr => ∃ j : Nat, k + j = l.length ∧ i = .int .i64 j ∧ RowKit.Hid (∀ (i : Nat) y, i < j → l[i]? = some y → y.es.length ≤ 200) ∧ Hp w.heap.size w wr [⟨b, [.int .i64 vw, .int .i64 nm, .int .i64 bs, .string im, .slice ea es.length ec], 24, 5⟩])
      case atStart => exact ⟨0, by omega, rfl, Lib.hid (fun i y h => by omega), hp⟩
      case round =>
        clear hp
        obtain ⟨j, hkj, rfl, HNO, hp⟩ := hrel
        by_cases hlt : j < l.length
        · obtain ⟨bq, off, rfl, hx⟩ := HA.out.elems 6 vtV_len (by omega) (by omega)
          have hj := List.getElem?_eq_getElem hlt
          replace hx := hx j _ hj
          have HJ := Lib.hid hj
          clear hj
          generalize l[j] = y at hx HJ
          obtain ⟨nd, nm2, bs2, nu, cm, va, xs, vc⟩ := y
          simp only [vtV] at hx
          have HX := Lib.hid hx
          clear hx
          have f1 : (0 : Int) ≤ (j : Int) := by omega
          have f2 : (j : Int) < (l.length : Int) := by omega
          by_cases hxs : xs.length ≤ 200
          · have e1 : decide ((200 : Int) < (xs.length : Int)) = false := by simp; omega
            go_wp2_with (first | go_skip | ((first | ((with_reducible refine pre_box _ _ rfl ?_); refine lB hp rfl (sTm rfl) rfl ?_; clear hp; intro b w1 hp) | ((with_reducible refine pre_load _ _ rfl ?_); first | refine lO hp rfl (sTm rfl) ceCVl0 aa5 ?_ | refine lRO hp rfl (sTm rfl) ceCVl0 (by first | exact HX.out 0 _ rfl | exact HX.out 1 _ rfl | exact HX.out 2 _ rfl | exact HX.out 3 _ rfl | exact HX.out 4 _ rfl | exact HX.out 5 _ rfl) ?_ | refine lA hp rfl (sTm rfl) agg24 aa5 ?_ | refine lR hp rfl (sTm rfl) agg24 HX.out ?_) | ((with_reducible refine pre_store _ _ _ rfl ?_); (first | refine sO hp rfl (sTm rfl) ceCVl0 aa5 ?_ | refine sA hp rfl (sTm rfl) (sTm rfl) agg24 aa5 ?_ | refine sG hp rfl (sTm rfl) (sTm rfl) agg24 aa5 ?_); clear hp; intro w1 hp; simp only [spl, zSet, sSet] at hp)); simp only [put_some, put_none, sSet, zSet]))
            go_roundg (gk - 1)
            case measure => omega
            case rel => exact ⟨j + 1, by omega, by go_num, Lib.hid (fun i y hi hy => by
              rcases Nat.lt_or_ge i j with h | h
              · exact HNO.out i y h hy
              · obtain rfl : i = j := by omega
                rw [HJ.out] at hy; injection hy with hy; rw [← hy]; exact hxs), hp⟩
          · have e1 : decide ((200 : Int) < (xs.length : Int)) = true := by simp; omega
            go_wp2_with (first | go_skip | ((first | ((with_reducible refine pre_box _ _ rfl ?_); refine lB hp rfl (sTm rfl) rfl ?_; clear hp; intro b w1 hp) | ((with_reducible refine pre_load _ _ rfl ?_); first | refine lO hp rfl (sTm rfl) ceCVl0 aa5 ?_ | refine lRO hp rfl (sTm rfl) ceCVl0 (by first | exact HX.out 0 _ rfl | exact HX.out 1 _ rfl | exact HX.out 2 _ rfl | exact HX.out 3 _ rfl | exact HX.out 4 _ rfl | exact HX.out 5 _ rfl) ?_ | refine lA hp rfl (sTm rfl) agg24 aa5 ?_ | refine lR hp rfl (sTm rfl) agg24 HX.out ?_) | ((with_reducible refine pre_store _ _ _ rfl ?_); (first | refine sO hp rfl (sTm rfl) ceCVl0 aa5 ?_ | refine sA hp rfl (sTm rfl) (sTm rfl) agg24 aa5 ?_ | refine sG hp rfl (sTm rfl) (sTm rfl) agg24 aa5 ?_); clear hp; intro w1 hp; simp only [spl, zSet, sSet] at hp)); simp only [put_some, put_none, sSet, zSet]))
            go_ret
            exact ⟨true, rfl, fun h => (by cases h), hp.below⟩
        · have f2 : decide ((j : Int) < (l.length : Int)) = false := by simp; omega
          go_wp2_with (first | go_skip | ((first | ((with_reducible refine pre_box _ _ rfl ?_); refine lB hp rfl (sTm rfl) rfl ?_; clear hp; intro b w1 hp) | ((with_reducible refine pre_load _ _ rfl ?_); first | refine lO hp rfl (sTm rfl) ceCVl0 aa5 ?_ | refine lA hp rfl (sTm rfl) agg24 aa5 ?_) | ((with_reducible refine pre_store _ _ _ rfl ?_); (first | refine sO hp rfl (sTm rfl) ceCVl0 aa5 ?_ | refine sA hp rfl (sTm rfl) (sTm rfl) agg24 aa5 ?_ | refine sG hp rfl (sTm rfl) (sTm rfl) agg24 aa5 ?_); clear hp; intro w1 hp; simp only [spl, zSet, sSet] at hp)); simp only [put_some, put_none, sSet, zSet]))
          go_ret
          exact ⟨false, rfl, fun _ => ⟨hl, HBB.out.1, HBB.out.2.2.1, fun v hv => by
            obtain ⟨i, hi, rfl⟩ := List.getElem_of_mem hv
            exact HNO.out i _ (by omega) (List.getElem?_eq_getElem hi)⟩, hp.below⟩
    · go_wp2_with (first | go_skip | ((first | ((with_reducible refine pre_box _ _ rfl ?_); refine lB hp rfl (sTm rfl) rfl ?_; clear hp; intro b w1 hp) | ((with_reducible refine pre_load _ _ rfl ?_); first | refine lO hp rfl (sTm rfl) ceCVl0 aa5 ?_ | refine lA hp rfl (sTm rfl) agg24 aa5 ?_) | ((with_reducible refine pre_store _ _ _ rfl ?_); (first | refine sO hp rfl (sTm rfl) ceCVl0 aa5 ?_ | refine sA hp rfl (sTm rfl) (sTm rfl) agg24 aa5 ?_ | refine sG hp rfl (sTm rfl) (sTm rfl) agg24 aa5 ?_); clear hp; intro w1 hp; simp only [spl, zSet, sSet] at hp)); simp only [put_some, put_none, sSet, zSet]))
      go_ret
      exact ⟨true, rfl, fun h => (by cases h), hp.below⟩
  · have e0 : decide ((50 : Int) < (l.length : Int)) = true := by simp; omega
    go_enter Tryz.func7, Tryz.ntmps7
    go_wp2_with (first | (go_at_call 26; (with_reducible refine (big_z vw nm bs im ea es ec _).mono ?_); rintro e w1 ⟨bb, rfl, hbb, hb⟩; replace hp := hp.call hb; clear hb; cases bb) | go_skip | ((first | ((with_reducible refine pre_box _ _ rfl ?_); refine lB hp rfl (sTm rfl) rfl ?_; clear hp; intro b w1 hp) | ((with_reducible refine pre_load _ _ rfl ?_); first | refine lO hp rfl (sTm rfl) ceCVl0 aa5 ?_ | refine lA hp rfl (sTm rfl) agg24 aa5 ?_) | ((with_reducible refine pre_store _ _ _ rfl ?_); (first | refine sO hp rfl (sTm rfl) ceCVl0 aa5 ?_ | refine sA hp rfl (sTm rfl) (sTm rfl) agg24 aa5 ?_ | refine sG hp rfl (sTm rfl) (sTm rfl) agg24 aa5 ?_); clear hp; intro w1 hp; simp only [spl, zSet, sSet] at hp)); simp only [put_some, put_none, sSet, zSet]))
    go_ret
    exact ⟨true, rfl, fun h => (by cases h), hp.below⟩
end Go.Proofs.YtcjbepaclbhjaaaGreat
