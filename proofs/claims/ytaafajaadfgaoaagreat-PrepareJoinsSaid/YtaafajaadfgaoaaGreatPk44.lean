/- Parts of the proof. -/
import Derived.Test.YtaafajaadfgaoaaGreatPk43
import Derived.Test.YtaafajaadfgaoaaGreatPk42
import Derived.Test.YtaafajaadfgaoaaGreatPk33
open List renaming set_cons_zero → zSet, set_cons_succ → sSet
/- The walks of Known, of the examples' kept, and of the examples of Execute. -/
set_option linter.unusedSimpArgs false
set_option linter.unusedVariables false
namespace Go.Proofs.YtaafajaadfgaoaaGreat
open Go.RowKit
theorem ceUDa0 {ty : TypeId} (h : cellB Tryz.prog ty = true := by with_reducible first | exact cell3 | exact cell4 | exact cell37 | exact cell22) : cellB Tryz.prog ty = true := h
theorem zeUDa1 {ty : TypeId} {l : List Value} {n : Nat} (h : zeroL Tryz.prog ty = some (l, n) := by with_reducible first | exact zero24 | exact zero33 | exact zero31) : zeroL Tryz.prog ty = some (l, n) := h
theorem gaUDa2 {ty : TypeId} {k : Nat} (h : aggB Tryz.prog ty k = true := by with_reducible first | exact agg24 | exact agg33 | exact agg31) : aggB Tryz.prog ty k = true := h
def knE (cm ci si : Int) (e : Env) : Bool := decide (cm < e.nu) && (decide (e.cl = ci) && decide (si ≤ e.sq))
theorem anyE_take {l : List Env} {f : Env → Bool} {j : Nat} {x : Env} (h : l[j]? = some x) : (l.take (j + 1)).any f = ((l.take j).any f || f x) := by
  rw [List.take_add_one, h]; simp [List.any_append]
theorem anyE_yes {l : List Env} {f : Env → Bool} {j : Nat} {x : Env} (h : l[j]? = some x) (hw : f x = true) : l.any f = true := List.any_eq_true.2 ⟨x, List.mem_of_getElem? h, hw⟩
set_option maxRecDepth 100000 in
set_option maxHeartbeats 8000000 in
theorem known1134 (nu vi cl sq kk hh ii nn cc vv tt : Int) (cm ci si : Int) (b1 b2 b3 : Nat) (w : World) (h1 : CellAt w b1 (.int .i64 cm)) (h2 : CellAt w b2 (.int .i64 ci)) (h3 : CellAt w b3 (.int .i64 si)) :
    Calls Tryz.prog 134 #[.agg #[.int .i64 nu, .int .i64 vi, .int .i64 cl, .int .i64 sq, .int .i64 kk, .int .i64 hh, .int .i64 ii, .int .i64 nn, .int .i64 cc, .int .i64 vv, .int .i64 tt], .pointer (some ⟨b1, 0, none⟩), .pointer (some ⟨b2, 0, none⟩), .pointer (some ⟨b3, 0, none⟩)] w fun e w' => e = .returned (.bool (knE cm ci si ⟨nu, vi, cl, sq, ⟨kk, hh, ii, nn, cc, vv, tt⟩⟩)) ∧ Below w.heap.size w w' := by
  have hp := Hp.start w
  have H1 := Lib.hid h1
  have H2 := Lib.hid h2
  have H3 := Lib.hid h3
  clear h1 h2 h3
  by_cases d1 : cm < nu
  · have e1 : decide (cm < nu) = true := by simpa using d1
    by_cases d2 : cl = ci
    · subst d2
      go_enter Tryz.func134, Tryz.ntmps134
      go_wp2_with (first | go_skip | ((first | ((with_reducible refine pre_box _ _ rfl ?_); refine lB hp rfl (sTm rfl) rfl ?_; clear hp; intro b w1 hp) | ((with_reducible refine pre_load _ _ rfl ?_); first | refine lO hp rfl (sTm rfl) (by with_reducible first | exact cell3 | exact cell4) aa5 ?_ | first | refine lRO hp rfl (sTm rfl) (by with_reducible first | exact cell3 | exact cell4) (H1.out 0 _ rfl) ?_ | first | refine lRO hp rfl (sTm rfl) (by with_reducible first | exact cell3 | exact cell4) (H2.out 0 _ rfl) ?_ | first | refine lRO hp rfl (sTm rfl) (by with_reducible first | exact cell3 | exact cell4) (H3.out 0 _ rfl) ?_ | refine lA hp rfl (sTm rfl) agg31 aa5 ?_ | refine lR hp rfl (sTm rfl) agg31 H1.out ?_ | refine lR hp rfl (sTm rfl) agg31 H2.out ?_ | refine lR hp rfl (sTm rfl) agg31 H3.out ?_) | ((with_reducible refine pre_store _ _ _ rfl ?_); (first | refine sO hp rfl (sTm rfl) (by with_reducible first | exact cell3 | exact cell4) aa5 ?_ | refine sA hp rfl (sTm rfl) (sTm rfl) agg31 aa5 ?_ | refine sG hp rfl (sTm rfl) (sTm rfl) agg31 aa5 ?_); clear hp; intro w1 hp; simp only [spl, zSet, sSet] at hp)); simp only [put_some, put_none, sSet, zSet]))
      go_ret
      exact ⟨ret_bool (by unfold knE; simp [d1]), hp.below⟩
    · have e2 : (cl == ci) = false := by simpa using d2
      go_enter Tryz.func134, Tryz.ntmps134
      go_wp2_with (first | go_skip | ((first | ((with_reducible refine pre_box _ _ rfl ?_); refine lB hp rfl (sTm rfl) rfl ?_; clear hp; intro b w1 hp) | ((with_reducible refine pre_load _ _ rfl ?_); first | refine lO hp rfl (sTm rfl) (by with_reducible first | exact cell3 | exact cell4) aa5 ?_ | first | refine lRO hp rfl (sTm rfl) (by with_reducible first | exact cell3 | exact cell4) (H1.out 0 _ rfl) ?_ | first | refine lRO hp rfl (sTm rfl) (by with_reducible first | exact cell3 | exact cell4) (H2.out 0 _ rfl) ?_ | first | refine lRO hp rfl (sTm rfl) (by with_reducible first | exact cell3 | exact cell4) (H3.out 0 _ rfl) ?_ | refine lA hp rfl (sTm rfl) agg31 aa5 ?_ | refine lR hp rfl (sTm rfl) agg31 H1.out ?_ | refine lR hp rfl (sTm rfl) agg31 H2.out ?_ | refine lR hp rfl (sTm rfl) agg31 H3.out ?_) | ((with_reducible refine pre_store _ _ _ rfl ?_); (first | refine sO hp rfl (sTm rfl) (by with_reducible first | exact cell3 | exact cell4) aa5 ?_ | refine sA hp rfl (sTm rfl) (sTm rfl) agg31 aa5 ?_ | refine sG hp rfl (sTm rfl) (sTm rfl) agg31 aa5 ?_); clear hp; intro w1 hp; simp only [spl, zSet, sSet] at hp)); simp only [put_some, put_none, sSet, zSet]))
      go_ret
      exact ⟨ret_bool (by unfold knE; simp [d2]), hp.below⟩
  · have e1 : decide (cm < nu) = false := by simpa using d1
    have HN := Lib.hid d1
    go_enter Tryz.func134, Tryz.ntmps134
    go_wp2_with (first | go_skip | ((first | ((with_reducible refine pre_box _ _ rfl ?_); refine lB hp rfl (sTm rfl) rfl ?_; clear hp; intro b w1 hp) | ((with_reducible refine pre_load _ _ rfl ?_); first | refine lO hp rfl (sTm rfl) (by with_reducible first | exact cell3 | exact cell4) aa5 ?_ | first | refine lRO hp rfl (sTm rfl) (by with_reducible first | exact cell3 | exact cell4) (H1.out 0 _ rfl) ?_ | first | refine lRO hp rfl (sTm rfl) (by with_reducible first | exact cell3 | exact cell4) (H2.out 0 _ rfl) ?_ | first | refine lRO hp rfl (sTm rfl) (by with_reducible first | exact cell3 | exact cell4) (H3.out 0 _ rfl) ?_ | refine lA hp rfl (sTm rfl) agg31 aa5 ?_ | refine lR hp rfl (sTm rfl) agg31 H1.out ?_ | refine lR hp rfl (sTm rfl) agg31 H2.out ?_ | refine lR hp rfl (sTm rfl) agg31 H3.out ?_) | ((with_reducible refine pre_store _ _ _ rfl ?_); (first | refine sO hp rfl (sTm rfl) (by with_reducible first | exact cell3 | exact cell4) aa5 ?_ | refine sA hp rfl (sTm rfl) (sTm rfl) agg31 aa5 ?_ | refine sG hp rfl (sTm rfl) (sTm rfl) agg31 aa5 ?_); clear hp; intro w1 hp; simp only [spl, zSet, sSet] at hp)); simp only [put_some, put_none, sSet, zSet]))
    go_ret
    exact ⟨ret_bool (by unfold knE; rw [decide_eq_false (show ¬ cm < nu from Int.not_lt.2 HN.out)]; rfl), hp.below⟩
theorem idxk194 (cm ci si : Int) (l : List Env) (a : Option Addr) (c : Nat) (hl : l.length ≤ 100000) (b1 b2 b3 : Nat) (w : World) (ha : RowIs w a (l.flatMap envL)) (h1 : CellAt w b1 (.int .i64 cm)) (h2 : CellAt w b2 (.int .i64 ci)) (h3 : CellAt w b3 (.int .i64 si)) :
    Calls Tryz.prog 194 #[.slice a l.length c, .func (.func 134) #[] #[.pointer (some ⟨b1, 0, none⟩), .pointer (some ⟨b2, 0, none⟩), .pointer (some ⟨b3, 0, none⟩)]] w (IdxPostE w (l.any (knE cm ci si))) := by
  have hp := Hp.start w
  have HA := Lib.hid ha
  have H1 := Lib.hid h1
  have H2 := Lib.hid h2
  have H3 := Lib.hid h3
  clear ha h1 h2 h3
  go_enter Tryz.func194, Tryz.ntmps194
  go_wp2_with (first | go_skip | ((first | ((with_reducible refine pre_box _ _ rfl ?_); refine lB hp rfl (sTm rfl) rfl ?_; clear hp; intro b w1 hp) | ((with_reducible refine pre_load _ _ rfl ?_); first | refine lO hp rfl (sTm rfl) (by with_reducible first | exact cell3 | exact cell4) aa5 ?_ | refine lA hp rfl (sTm rfl) agg31 aa5 ?_) | ((with_reducible refine pre_store _ _ _ rfl ?_); (first | refine sO hp rfl (sTm rfl) (by with_reducible first | exact cell3 | exact cell4) aa5 ?_ | refine sA hp rfl (sTm rfl) (sTm rfl) agg31 aa5 ?_ | refine sG hp rfl (sTm rfl) (sTm rfl) agg31 aa5 ?_); clear hp; intro w1 hp; simp only [spl, zSet, sSet] at hp)); simp only [put_some, put_none, sSet, zSet]))
  go_loopg [8] l.length (fun k i wr => ∃ j : Nat, k + j = l.length ∧ i = .int .i64 j ∧ RowKit.Hid ((l.take j).any (knE cm ci si) = false) ∧ Hp w.heap.size w wr [])
  case atStart => exact ⟨0, by omega, rfl, Lib.hid (by simp), hp⟩
  case round =>
    clear hp
    obtain ⟨j, hkj, rfl, HG, hp⟩ := hrel
    by_cases hlt : j < l.length
    · obtain ⟨bq, off, rfl, hx⟩ := HA.out.elems 11 envL_len11 (by omega) (by omega)
      have hj := List.getElem?_eq_getElem hlt
      replace hx := hx j _ hj
      generalize l[j] = x at hx hj
      have HJ := Lib.hid hj
      obtain ⟨r, hr⟩ : ∃ r, knE cm ci si x = r := ⟨_, rfl⟩
      have HR := Lib.hid hr
      obtain ⟨nu, vi, cl, sq, ⟨kk, hh, ii, nn, cc, vv, tt⟩⟩ := x
      simp only [envL, opL, List.cons_append, List.nil_append] at hx
      have HX := Lib.hid hx
      have HK : RowKit.Hid (∀ w1, Below w.heap.size w w1 → Calls Tryz.prog 134 #[.agg #[.int .i64 nu, .int .i64 vi, .int .i64 cl, .int .i64 sq, .int .i64 kk, .int .i64 hh, .int .i64 ii, .int .i64 nn, .int .i64 cc, .int .i64 vv, .int .i64 tt], .pointer (some ⟨b1, 0, none⟩), .pointer (some ⟨b2, 0, none⟩), .pointer (some ⟨b3, 0, none⟩)] w1 fun e w' => e = .returned (.bool r) ∧ Below w1.heap.size w1 w') := Lib.hid (fun w1 hw => by
        have h := known1134 nu vi cl sq kk hh ii nn cc vv tt cm ci si b1 b2 b3 w1 (H1.out.below hw) (H2.out.below hw) (H3.out.below hw)
        rw [HR.out] at h
        exact h)
      clear hx hj hr
      have e1 : (0 : Int) ≤ (j : Int) := by omega
      have e2 : (j : Int) < (l.length : Int) := by omega
      cases r with
      | true =>
        go_wp2_with (first | (go_at_call 134; (with_reducible refine (HK.out _ hp.below).mono ?_); rintro e w1 ⟨rfl, hb⟩; replace hp := hp.call hb; clear hb) | go_skip | ((first | ((with_reducible refine pre_box _ _ rfl ?_); refine lB hp rfl (sTm rfl) rfl ?_; clear hp; intro b w1 hp) | ((with_reducible refine pre_load _ _ rfl ?_); first | refine lO hp rfl (sTm rfl) (by with_reducible first | exact cell3 | exact cell4) aa5 ?_ | refine lA hp rfl (sTm rfl) agg31 aa5 ?_ | refine lR hp rfl (sTm rfl) agg31 HX.out ?_) | ((with_reducible refine pre_store _ _ _ rfl ?_); (first | refine sO hp rfl (sTm rfl) (by with_reducible first | exact cell3 | exact cell4) aa5 ?_ | refine sA hp rfl (sTm rfl) (sTm rfl) agg31 aa5 ?_ | refine sG hp rfl (sTm rfl) (sTm rfl) agg31 aa5 ?_); clear hp; intro w1 hp; simp only [spl, zSet, sSet] at hp)); simp only [put_some, put_none, sSet, zSet]))
        go_ret
        exact ⟨j, rfl, by rw [anyE_yes HJ.out HR.out]; simp, hp.below⟩
      | false =>
        go_wp2_with (first | (go_at_call 134; (with_reducible refine (HK.out _ hp.below).mono ?_); rintro e w1 ⟨rfl, hb⟩; replace hp := hp.call hb; clear hb) | go_skip | ((first | ((with_reducible refine pre_box _ _ rfl ?_); refine lB hp rfl (sTm rfl) rfl ?_; clear hp; intro b w1 hp) | ((with_reducible refine pre_load _ _ rfl ?_); first | refine lO hp rfl (sTm rfl) (by with_reducible first | exact cell3 | exact cell4) aa5 ?_ | refine lA hp rfl (sTm rfl) agg31 aa5 ?_ | refine lR hp rfl (sTm rfl) agg31 HX.out ?_) | ((with_reducible refine pre_store _ _ _ rfl ?_); (first | refine sO hp rfl (sTm rfl) (by with_reducible first | exact cell3 | exact cell4) aa5 ?_ | refine sA hp rfl (sTm rfl) (sTm rfl) agg31 aa5 ?_ | refine sG hp rfl (sTm rfl) (sTm rfl) agg31 aa5 ?_); clear hp; intro w1 hp; simp only [spl, zSet, sSet] at hp)); simp only [put_some, put_none, sSet, zSet]))
        go_roundg (gk - 1)
        case measure => omega
        case rel => exact ⟨j + 1, by omega, by go_num, Lib.hid (by rw [anyE_take HJ.out, HG.out, HR.out]; rfl), hp⟩
    · have e2 : decide ((j : Int) < (l.length : Int)) = false := by simp; omega
      go_wp2_with fail
      go_ret
      exact ⟨-1, rfl, by have := HG.out; rw [List.take_of_length_le (by omega)] at this; rw [this]; decide, hp.below⟩
theorem contk133 (cm ci si : Int) (l : List Env) (a : Option Addr) (c : Nat) (hl : l.length ≤ 100000) (b1 b2 b3 : Nat) (w : World) (ha : RowIs w a (l.flatMap envL)) (h1 : CellAt w b1 (.int .i64 cm)) (h2 : CellAt w b2 (.int .i64 ci)) (h3 : CellAt w b3 (.int .i64 si)) :
    Calls Tryz.prog 133 #[.slice a l.length c, .func (.func 134) #[] #[.pointer (some ⟨b1, 0, none⟩), .pointer (some ⟨b2, 0, none⟩), .pointer (some ⟨b3, 0, none⟩)]] w fun e w' => e = .returned (.bool (l.any (knE cm ci si))) ∧ Below w.heap.size w w' := by
  have hp := Hp.start w
  have K := Lib.hid (idxk194 cm ci si l a c hl b1 b2 b3 w ha h1 h2 h3)
  clear ha h1 h2 h3
  go_enter Tryz.func133, Tryz.ntmps133
  go_wp2_with (go_at_call 194; refine K.out.mono ?_; rintro e w1 ⟨i, rfl, hi, hb⟩; replace hp := hp.call hb; have HI := Lib.hid hi; clear hi hb)
  go_ret
  exact ⟨ret_bool HI.out, hp.below⟩
noncomputable def knownB (x : Kv) (cm ci si : Int) : Bool := okC x && x.es.any (knE cm ci si)
set_option maxRecDepth 100000 in
theorem known59L (vw nm bs : Int) (im : ByteArray) (ea : Option Addr) (es : List Env) (ec : Nat) (cm ci si : Int) (hs : Kv.Small ⟨vw, nm, bs, im, ea, es, ec⟩) (w : World) (ha : RowIs w ea (es.flatMap envL)) :
    Calls Tryz.prog 59 #[.agg #[.int .i64 vw, .int .i64 nm, .int .i64 bs, .string im, .slice ea es.length ec], .int .i64 cm, .int .i64 ci, .int .i64 si] w fun e w' => e = .returned (.bool (knownB ⟨vw, nm, bs, im, ea, es, ec⟩ cm ci si)) ∧ Below w.heap.size w w' := by
  have hp := Hp.start w
  have HSS := Lib.hid hs
  have HA := Lib.hid ha
  have HL : RowKit.Hid (es.length ≤ 100000) := Lib.hid hs.1
  clear hs ha
  obtain ⟨b, hb⟩ : ∃ b, okC ⟨vw, nm, bs, im, ea, es, ec⟩ = b := ⟨_, rfl⟩
  have HB := Lib.hid hb
  clear hb
  cases b
  · go_enter Tryz.func59, Tryz.ntmps59
    go_wp2_with (first | (go_at_call 64; (with_reducible refine (check64L vw nm bs im ea es ec _ HB.out HSS.out _ (HA.out.below hp.below)).mono ?_); rintro e w1 ⟨rfl, hb⟩; replace hp := hp.call hb; clear hb; simp only [if_true, Bool.false_eq_true, if_false]) | go_skip | ((first | ((with_reducible refine pre_box _ _ rfl ?_); refine lB hp rfl (sTm rfl) rfl ?_; clear hp; intro b w1 hp) | ((with_reducible refine pre_load _ _ rfl ?_); first | refine lO hp rfl (sTm rfl) ceUDa0 aa5 ?_ | refine lA hp rfl (sTm rfl) agg24 aa5 ?_) | ((with_reducible refine pre_store _ _ _ rfl ?_); (first | refine sO hp rfl (sTm rfl) ceUDa0 aa5 ?_ | refine sA hp rfl (sTm rfl) (sTm rfl) agg24 aa5 ?_ | refine sG hp rfl (sTm rfl) (sTm rfl) agg24 aa5 ?_); clear hp; intro w1 hp; simp only [spl, zSet, sSet] at hp)); simp only [put_some, put_none, sSet, zSet]))
    go_ret
    exact ⟨ret_bool (by unfold knownB; rw [HB.out]; rfl), hp.below⟩
  · go_enter Tryz.func59, Tryz.ntmps59
    go_wp2_with (first | (go_at_call 64; (with_reducible refine (check64L vw nm bs im ea es ec _ HB.out HSS.out _ (HA.out.below hp.below)).mono ?_); rintro e w1 ⟨rfl, hb⟩; replace hp := hp.call hb; clear hb; simp only [if_true, Bool.false_eq_true, if_false]) | (go_at_call 133; (with_reducible refine (contk133 cm ci si es ea ec HL.out _ _ _ _ (HA.out.below hp.below) (CellAt.of (hp.cell at2 rfl)) (CellAt.of (hp.cell at1 rfl)) (CellAt.of (hp.cell at0 rfl))).mono ?_); rintro e w1 ⟨rfl, hb⟩; replace hp := hp.call hb; clear hb) | go_skip | ((first | ((with_reducible refine pre_box _ _ rfl ?_); refine lB hp rfl (sTm rfl) rfl ?_; clear hp; intro b w1 hp) | ((with_reducible refine pre_load _ _ rfl ?_); first | refine lO hp rfl (sTm rfl) ceUDa0 aa5 ?_ | refine lA hp rfl (sTm rfl) agg24 aa5 ?_) | ((with_reducible refine pre_store _ _ _ rfl ?_); (first | refine sO hp rfl (sTm rfl) ceUDa0 aa5 ?_ | refine sA hp rfl (sTm rfl) (sTm rfl) agg24 aa5 ?_ | refine sG hp rfl (sTm rfl) (sTm rfl) agg24 aa5 ?_); clear hp; intro w1 hp; simp only [spl, zSet, sSet] at hp)); simp only [put_some, put_none, sSet, zSet]))
    go_ret
    exact ⟨ret_bool (by unfold knownB; rw [HB.out]; rfl), hp.below⟩
def kE (n : Nat) : List Env := (List.range n).map fun (j : Nat) => En ((j : Int) + 1)
theorem kE_len (n : Nat) : (kE n).length = n := by simp [kE]
theorem kE_fold (j : Nat) (h : j < 3) (a : Option Addr) (c : Nat) : foldO ⟨0, 0, 0, im3, a, kE j, c⟩ ⟨2, 0, 0, 0, ⟨#[]⟩, ⟨(j : Int) + 1, 0, 0, 0, ⟨0, 0, 0, 0, 0, 0, 0⟩⟩, none, [], 0⟩ = (0, ⟨0, 0, 0, im3, a, kE (j + 1), c⟩) := by
  match j, h with
  | 0, _ => exact foldO_ok (by kernel_rfl) rfl (by kernel_rfl) (by kernel_rfl) rfl
  | 1, _ => exact foldO_ok (by kernel_rfl) rfl (by kernel_rfl) (by kernel_rfl) rfl
  | 2, _ => exact foldO_ok (by kernel_rfl) rfl (by kernel_rfl) (by kernel_rfl) rfl
theorem kE_step (j : Nat) (h : j < 3) (a : Option Addr) (c : Nat) (w : World) (ha : RowIs w a ((kE j).flatMap envL)) : Calls Tryz.prog 16 #[.agg #[.int .i64 0, .int .i64 0, .int .i64 0, .string im3, .slice a j c], .agg #[.int .i64 2, .int .i64 0, .int .i64 0, .int .i64 0, .string ⟨#[]⟩, .int .i64 ((j : Int) + 1), .int .i64 0, .int .i64 0, .int .i64 0, .int .i64 0, .int .i64 0, .int .i64 0, .int .i64 0, .int .i64 0, .int .i64 0, .int .i64 0, .slice none 0 0]] w fun e w' => ∃ a c R, e = .returned (.tuple #[.agg #[.int .i64 0, .int .i64 0, .int .i64 0, .string im3, .slice a (j + 1) c], .int .i64 0]) ∧ j + 1 ≤ c ∧ SubRow 31 11 (.slice a (j + 1) c) (j + 1) ((kE (j + 1)).flatMap envL) R ∧ Hp w.heap.size w w' R :=
  fold_y 0 0 0 im3 a (kE j) j c (kE_len j) 2 0 0 0 ⟨#[]⟩ ((j : Int) + 1) 0 0 0 0 0 0 0 0 0 0 none [] 0 0 rfl 0 0 0 im3 (kE (j + 1)) (j + 1) (kE_len _) _ _ (kE_fold j h a c) (by omega) im3_small (by decide) (by decide) e0_small w ha (RowIs.nil _ _)
def KeptP (w : World) (n : Nat) (e : Ending) (w' : World) : Prop := ∃ a c R, e = .returned (.agg #[.int .i64 0, .int .i64 0, .int .i64 0, .string im3, .slice a n c]) ∧ n ≤ c ∧ Kept R (fun w => RowIs w a ((kE n).flatMap envL)) ∧ Hp w.heap.size w w' R
set_option maxRecDepth 100000 in
set_option maxHeartbeats 8000000 in
theorem kept132 (n : Nat) (hn : n ≤ 3) (w : World) : Calls Tryz.prog 132 #[.int .i64 n] w (KeptP w n) := by
  have hp := Hp.start w
  go_enter Tryz.func132, Tryz.ntmps132
  go_wp2_with (first | (go_at_call 89; (with_reducible refine (newo_3 _).mono ?_); rintro e w1 ⟨rfl, hb⟩; replace hp := hp.call hb; clear hb) | go_skip | ((first | ((with_reducible refine pre_alloc _ rfl ?_); refine lZ hp rfl zeUDa1 ?_; clear hp; intro b w1 hp) | ((with_reducible refine pre_box _ _ rfl ?_); refine lB hp rfl (sTm rfl) rfl ?_; clear hp; intro b w1 hp) | ((with_reducible refine pre_load _ _ rfl ?_); first | refine lO hp rfl (sTm rfl) ceUDa0 aa14 ?_ | refine lA hp rfl (sTm rfl) gaUDa2 aa14 ?_) | ((with_reducible refine pre_store _ _ _ rfl ?_); (first | refine sO hp rfl (sTm rfl) ceUDa0 aa14 ?_ | refine sA hp rfl (sTm rfl) (sTm rfl) gaUDa2 aa14 ?_ | refine sG hp rfl (sTm rfl) (sTm rfl) gaUDa2 aa14 ?_); clear hp; intro w1 hp; simp only [spl, zSet, sSet] at hp)); simp only [put_some, put_none, sSet, zSet]))
  obtain ⟨b3, hb3⟩ := hp.id0
  obtain ⟨b2, hb2⟩ := hp.id1
  subst hb3 hb2
  go_loopg [5] n (fun k i wr => ∃ (j : Nat) (a : Option Addr) (c : Nat) (R : List Blk), k + j = n ∧ i = .int .i64 ((j : Int) + 1) ∧ RowKit.Hid (j ≤ c) ∧ RowKit.Hid (Kept R fun w => RowIs w a ((kE j).flatMap envL)) ∧ Hp w.heap.size w wr (⟨b3, [.int .i64 0, .int .i64 0, .int .i64 0, .string im3, .slice a j c], 24, 5⟩ :: ⟨b2, [.int .i64 0, .int .i64 0, .int .i64 0, .string ⟨#[]⟩, .slice none 0 0], 24, 5⟩ :: R))
  case atStart => exact ⟨0, none, 0, [], by omega, rfl, Lib.hid (Nat.le_refl _), Lib.hid (Kept.none_ (fun w => RowIs.nil _ _) _), hp⟩
  case round =>
    clear hp
    obtain ⟨j, a, c, R, hkj, rfl, HC, HK, hp⟩ := hrel
    by_cases hlt : j < n
    · have HJ3 : RowKit.Hid (j < 3) := Lib.hid (by omega)
      have e1 : decide ((j : Int) + 1 ≤ (n : Int)) = true := by simp; omega
      go_wp2_with (first | (go_at_call 16; (with_reducible refine (kE_step j HJ3.out _ _ _ (HK.out.at hp (fun p hm => by simp [hm]))).mono ?_); rintro e w1 ⟨aN, cN, RN, rfl, hcn, hrn, hpn⟩; replace hp := hp.join hpn; have HKN := Lib.hid hrn.keptS; have HCN := Lib.hid hcn; clear hpn hrn hcn; simp only [List.cons_append, List.nil_append, List.append_assoc] at hp) | go_skip | ((first | ((with_reducible refine pre_alloc _ rfl ?_); refine lZ hp rfl zeUDa1 ?_; clear hp; intro b w1 hp) | ((with_reducible refine pre_box _ _ rfl ?_); refine lB hp rfl (sTm rfl) rfl ?_; clear hp; intro b w1 hp) | ((with_reducible refine pre_load _ _ rfl ?_); first | refine lO hp rfl (sTm rfl) ceUDa0 aa14 ?_ | refine lA hp rfl (sTm rfl) gaUDa2 aa14 ?_) | ((with_reducible refine pre_store _ _ _ rfl ?_); (first | refine sO hp rfl (sTm rfl) ceUDa0 aa14 ?_ | refine sA hp rfl (sTm rfl) (sTm rfl) gaUDa2 aa14 ?_ | refine sG hp rfl (sTm rfl) (sTm rfl) gaUDa2 aa14 ?_); clear hp; intro w1 hp; simp only [spl, zSet, sSet] at hp)); simp only [put_some, put_none, sSet, zSet]))
      go_roundg (gk - 1)
      case measure => omega
      case rel => exact ⟨j + 1, aN, cN, RN, by omega, by go_num, HCN, HKN, hp.kp⟩
    · obtain rfl : j = n := by omega
      have e1 : decide ((j : Int) + 1 ≤ (j : Int)) = false := by simp; omega
      go_wp2_with (first | go_skip | ((first | ((with_reducible refine pre_alloc _ rfl ?_); refine lZ hp rfl zeUDa1 ?_; clear hp; intro b w1 hp) | ((with_reducible refine pre_box _ _ rfl ?_); refine lB hp rfl (sTm rfl) rfl ?_; clear hp; intro b w1 hp) | ((with_reducible refine pre_load _ _ rfl ?_); first | refine lO hp rfl (sTm rfl) ceUDa0 aa14 ?_ | refine lA hp rfl (sTm rfl) gaUDa2 aa14 ?_) | ((with_reducible refine pre_store _ _ _ rfl ?_); (first | refine sO hp rfl (sTm rfl) ceUDa0 aa14 ?_ | refine sA hp rfl (sTm rfl) (sTm rfl) gaUDa2 aa14 ?_ | refine sG hp rfl (sTm rfl) (sTm rfl) gaUDa2 aa14 ?_); clear hp; intro w1 hp; simp only [spl, zSet, sSet] at hp)); simp only [put_some, put_none, sSet, zSet]))
      exact bodyPost_ret (results_one (rs := [.cell 2 24]) Tryz.results132 (.cell rfl (hp.loadAgg agg24 at1 0 _ (by rfl) (by rfl)) .nil)) rfl ⟨a, c, R, rfl, HC.out, HK.out, hp.kp⟩
theorem kE_ok (n : Nat) (h : n ≤ 3) (a : Option Addr) (c : Nat) : okC ⟨0, 0, 0, im3, a, kE n, c⟩ = true := by
  match n, h with
  | 0, _ => exact okC_im3 (by kernel_rfl) rfl
  | 1, _ => exact okC_im3 (by kernel_rfl) rfl
  | 2, _ => exact okC_im3 (by kernel_rfl) rfl
  | 3, _ => exact okC_im3 (by kernel_rfl) rfl
theorem kE_small (n : Nat) (h : n ≤ 3) (a : Option Addr) (c : Nat) : Kv.Small ⟨0, 0, 0, im3, a, kE n, c⟩ := ⟨by simp only [kE_len]; omega, im3_small⟩
end Go.Proofs.YtaafajaadfgaoaaGreat
/- What Join tells and what it makes when it is saved: the plain laws. No program in sight. -/
namespace Go.Proofs.YtaafajaadfgaoaaGreat
open Go.RowKit
def joinF (x : Kv) (l : List Env) : List Env := l.filter fun e => decide (lastK x < e.nu)
noncomputable def joinB (x : Kv) (n : Int) (l : List Env) : Bool := okC x && (decide (0 ≤ n) && (decide (n ≤ lastK x) && folB n 0 l))
theorem joinB_facts {x : Kv} {n : Int} {l : List Env} (h : joinB x n l = true) : okC x = true ∧ 0 ≤ n ∧ n ≤ lastK x ∧ folB n 0 l = true := by
  unfold joinB at h
  simp only [Bool.and_eq_true, decide_eq_true_eq] at h
  exact h
def recE (e : Env) : Rv := ⟨2, 0, 0, 0, ⟨#[]⟩, e, none, [], 0⟩
end Go.Proofs.YtaafajaadfgaoaaGreat
