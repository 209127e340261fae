/- Parts of the proof. -/
import Derived.Test.YtcjbepaclbhjaaaGreatCl30
import Derived.Test.YtcjbepaclbhjaaaGreatCl29
open List renaming set_cons_zero → zSet, set_cons_succ → sSet
/- The walks of Best of views and of its document's twin. -/
set_option linter.unusedSimpArgs false
set_option linter.unusedVariables false
namespace Go.Proofs.YtcjbepaclbhjaaaGreat
open Go.RowKit Go.Lib
def TopVP (w : World) (l : List Vt) (e : Ending) (w' : World) : Prop := ∃ (m : Nat) (y : Vt), e = .returned (.int .i64 (m : Int)) ∧ TopV l m y ∧ Below w.heap.size w w'
set_option maxRecDepth 100000 in
set_option maxHeartbeats 4000000 in
theorem best50 (l : List Vt) (a : Option Addr) (c : Nat) (hl : l.length ≤ 1000) (h0 : 0 < l.length) (w : World) (ha : RowIs w a (l.flatMap vtV)) :
    Calls Tryz.prog 50 #[.slice a l.length c] w (TopVP w l) := by
  have hp := Hp.start w
  have HA := Lib.hid ha
  have HL := Lib.hid hl
  have HPO := Lib.hid h0
  have e0 : ((l.length : Int) == 0) = false := by rw [beq_eq_false_iff_ne]; omega
  have e1 : ¬ l.length = 0 := by omega
  clear ha h0
  go_enter Tryz.func50, Tryz.ntmps50
  go_wp2_with (first | (go_at_call 73; (with_reducible refine (maxf73 l a _ c rfl HL.out HPO.out _ (HA.out.below hp.below)).mono ?_); rintro e w1 ⟨m0, x, rfl, hx, ht, hb⟩; replace hp := hp.call hb; have HX := Lib.hid hx; have HT := Lib.hid ht; clear hb hx ht; obtain ⟨nd, nm, bs, nu, cm, va, es, vc⟩ := x; simp only [vtV]) | (go_at_call 42; (with_reducible refine (idx42_b l a c HL.out nm nu _ _ (HA.out.below hp.below) (hp.ltOf at0) (hp.cell at0 rfl) (hp.cell at0 rfl)).mono ?_); rintro e w1 ⟨r, rfl, hi, hb⟩; replace hp := hp.call hb; clear hb; obtain ⟨mb, yb, rfl, hbe⟩ := TopV.of HX.out HT.out hi; have HBE := Lib.hid hbe; clear hi hbe) | go_skip | ((first | ((with_reducible refine pre_alloc _ rfl ?_); refine lZ hp rfl zero27 ?_; clear hp; intro b w1 hp) | ((with_reducible refine pre_box _ _ rfl ?_); refine lB hp rfl (sTm rfl) rfl ?_; clear hp; intro b w1 hp) | ((with_reducible refine pre_load _ _ rfl ?_); first | refine lO hp rfl (sTm rfl) (by with_reducible first | exact cell3 | exact cell4) aa5 ?_ | refine lA hp rfl (sTm rfl) agg27 aa5 ?_) | ((with_reducible refine pre_store _ _ _ rfl ?_); (first | refine sO hp rfl (sTm rfl) (by with_reducible first | exact cell3 | exact cell4) aa5 ?_ | refine sA hp rfl (sTm rfl) (sTm rfl) agg27 aa5 ?_ | refine sG hp rfl (sTm rfl) (sTm rfl) agg27 aa5 ?_); clear hp; intro w1 hp; simp only [spl, zSet, sSet] at hp)); simp only [put_some, put_none, sSet, zSet]))
  go_ret
  exact ⟨mb, yb, rfl, HBE.out, hp.below⟩
end Go.Proofs.YtcjbepaclbhjaaaGreat
/- The walks of Choose's closures, of each with them, of slices.Max (written by mkcx.py). -/
namespace Go.Proofs.YtcjbepaclbhjaaaGreat
open Go.RowKit Go.Lib
def IntsP (w : World) (xs : List Int) (e : Ending) (w' : World) : Prop := ∃ (a : Option Addr) (k : Nat) (R : List Blk), e = .returned (.slice a xs.length k) ∧ Kept R (fun w => RowIs w a (xs.flatMap iV)) ∧ Hp w.heap.size w w' R
set_option maxRecDepth 100000 in
set_option maxHeartbeats 4000000 in
theorem cl49 (nd nm bs nu cm : Int) (va : Option Addr) (n2 vc : Nat) (w : World) :
    Calls Tryz.prog 49 #[.agg #[.int .i64 nd, .int .i64 nm, .int .i64 bs, .int .i64 nu, .int .i64 cm, .slice va n2 vc]] w fun e w' => e = .returned (.int .i64 nd) ∧ Below w.heap.size w w' := by
  have hp := Hp.start w
  go_enter Tryz.func49, Tryz.ntmps49
  go_wp2_with (first | go_skip | ((first | ((with_reducible refine pre_alloc _ rfl ?_); refine lZ hp rfl zero27 ?_; clear hp; intro b w1 hp) | ((with_reducible refine pre_box _ _ rfl ?_); refine lB hp rfl (sTm rfl) rfl ?_; clear hp; intro b w1 hp) | ((with_reducible refine pre_load _ _ rfl ?_); first | refine lO hp rfl (sTm rfl) (by with_reducible first | exact cell3 | exact cell4) aa5 ?_ | refine lA hp rfl (sTm rfl) agg27 aa5 ?_) | ((with_reducible refine pre_store _ _ _ rfl ?_); (first | refine sO hp rfl (sTm rfl) (by with_reducible first | exact cell3 | exact cell4) aa5 ?_ | refine sA hp rfl (sTm rfl) (sTm rfl) agg27 aa5 ?_ | refine sG hp rfl (sTm rfl) (sTm rfl) agg27 aa5 ?_); clear hp; intro w1 hp; simp only [spl, zSet, sSet] at hp) | ((with_reducible refine pre_build _ _ _ rfl ?_); refine lS hp rfl (by intro w; go_simp; rfl) ?_; clear hp; intro b w1 hp; simp only [List.length_cons, List.length_nil, Nat.reduceAdd] at hp)); simp only [put_some, put_none, sSet, zSet]))
  go_ret
  exact ⟨rfl, hp.below⟩
set_option maxRecDepth 100000 in
set_option maxHeartbeats 4000000 in
theorem each48_n (l : List Vt) (a : Option Addr) (c : Nat) (hl : l.length ≤ 1000) (w : World) (ha : RowIs w a (l.flatMap vtV)) :
    Calls Tryz.prog 48 #[.slice a l.length c, .func (.func 49) #[] #[]] w (IntsP w (l.map Vt.nd)) := by
  obtain ⟨i0, hi0, hz0, hz1, hz2⟩ := info_parts info3
  have hp := Hp.start w
  have HA := Lib.hid ha
  clear ha
  go_enter Tryz.func48, Tryz.ntmps48
  go_wp2_with (first | go_skip | ((first | ((with_reducible refine pre_alloc _ rfl ?_); refine lZ hp rfl zero27 ?_; clear hp; intro b w1 hp) | ((with_reducible refine pre_box _ _ rfl ?_); refine lB hp rfl (sTm rfl) rfl ?_; clear hp; intro b w1 hp) | ((with_reducible refine pre_load _ _ rfl ?_); first | refine lO hp rfl (sTm rfl) (by with_reducible first | exact cell3 | exact cell4) aa5 ?_ | refine lA hp rfl (sTm rfl) agg27 aa5 ?_) | ((with_reducible refine pre_store _ _ _ rfl ?_); (first | refine sO hp rfl (sTm rfl) (by with_reducible first | exact cell3 | exact cell4) aa5 ?_ | refine sA hp rfl (sTm rfl) (sTm rfl) agg27 aa5 ?_ | refine sG hp rfl (sTm rfl) (sTm rfl) agg27 aa5 ?_); clear hp; intro w1 hp; simp only [spl, zSet, sSet] at hp) | ((with_reducible refine pre_build _ _ _ rfl ?_); refine lS hp rfl (by intro w; go_simp; rfl) ?_; clear hp; intro b w1 hp; simp only [List.length_cons, List.length_nil, Nat.reduceAdd] at hp)); simp only [put_some, put_none, sSet, zSet]))
  go_loopg [5, 10] l.length (fun k v i wr => ∃ (q : Nat) (R M : List Blk), k + q = l.length ∧ i = .int .i64 q ∧ RowKit.Hid (OwnRow 3 1 v q (((l.take q).map Vt.nd).flatMap iV) R) ∧ Hp w.heap.size w wr (R ++ M))
  case atStart => exact ⟨0, [], [], by omega, rfl, Lib.hid (OwnRow.nil _ _), hp⟩
  case round =>
    clear hp
    obtain ⟨q, R, M, hkq, rfl, HR, hp⟩ := hrel
    by_cases hlt : q < l.length
    · obtain ⟨bq, off, rfl, hx⟩ := HA.out.elems 6 vtV_len (by omega) (by omega)
      have hj := List.getElem?_eq_getElem hlt
      replace hx := hx q _ hj
      have htk : (l.take (q + 1)).map Vt.nd = (l.take q).map Vt.nd ++ [(l[q]).nd] := by rw [List.take_add_one, hj, List.map_append]; rfl
      clear hj
      generalize l[q] = y at hx htk
      obtain ⟨nd, nm, bs, nu, cm, va, es, vc⟩ := y
      simp only [vtV] at hx
      have HX := Lib.hid hx
      have HTK := Lib.hid htk
      clear hx htk
      have e1 : (0 : Int) ≤ (q : Int) := by omega
      have e2 : (q : Int) < (l.length : Int) := by omega
      have HS5 : RowKit.Hid (q + 1 ≤ maxLen) := Lib.hid (by unfold maxLen; omega)
      have HS6 : RowKit.Hid ((q + 1) * 8 ≤ 140737488355328) := Lib.hid (by omega)
      go_wp2_with (first | (go_at_call 49; (with_reducible refine (cl49 nd nm bs nu cm va _ vc _).mono ?_); rintro e w1 ⟨rfl, hb⟩; replace hp := hp.call hb; clear hb) | ((with_reducible refine pre_append _ _ 72 rfl ?_); refine wpList_appendGrow (K := [_]) (R := R) (M := M) hp _ _ _ rfl wy i0 _ 8 Tryz.underlying72 hi0 hz0 hz1 hz2 rfl (by decide) (sTm rfl) HR.out 1 1 (sTm rfl) (by rfl) (by decide) (by rfl) HS5.out HS6.out ?_; clear hp HR; intro v' R' w1 hR' hp; have HR := Lib.hid hR'; clear hR'; simp only [List.cons_append, List.nil_append] at hp; simp only [put_some, put_none, sSet, zSet]) | go_skip | ((first | ((with_reducible refine pre_alloc _ rfl ?_); refine lZ hp rfl zero27 ?_; clear hp; intro b w1 hp) | ((with_reducible refine pre_box _ _ rfl ?_); refine lB hp rfl (sTm rfl) rfl ?_; clear hp; intro b w1 hp) | ((with_reducible refine pre_load _ _ rfl ?_); first | refine lO hp rfl (sTm rfl) (by with_reducible first | exact cell3 | exact cell4) aa5 ?_ | refine lA hp rfl (sTm rfl) agg27 aa5 ?_ | refine lR hp rfl (sTm rfl) agg27 HX.out ?_) | ((with_reducible refine pre_store _ _ _ rfl ?_); (first | refine sO hp rfl (sTm rfl) (by with_reducible first | exact cell3 | exact cell4) aa5 ?_ | refine sA hp rfl (sTm rfl) (sTm rfl) agg27 aa5 ?_ | refine sG hp rfl (sTm rfl) (sTm rfl) agg27 aa5 ?_); clear hp; intro w1 hp; simp only [spl, zSet, sSet] at hp) | ((with_reducible refine pre_build _ _ _ rfl ?_); refine lS hp rfl (by intro w; go_simp; rfl) ?_; clear hp; intro b w1 hp; simp only [List.length_cons, List.length_nil, Nat.reduceAdd] at hp)); simp only [put_some, put_none, sSet, zSet]))
      go_roundg (gk - 1)
      case measure => omega
      case rel => exact ⟨q + 1, R', M, by omega, by go_num, Lib.hid (by rw [HTK.out, List.flatMap_append]; exact HR.out), hp.kp⟩
    · obtain rfl : q = l.length := by omega
      have f2 : decide ((l.length : Int) < (l.length : Int)) = false := by simp
      obtain ⟨ax, kx, rfl, hk⟩ := HR.out.kept
      rw [List.take_length] at hk
      have HKR := Lib.hid hk
      clear hkq hlt hk
      go_wp2_with (first | go_skip | ((first | ((with_reducible refine pre_alloc _ rfl ?_); refine lZ hp rfl zero27 ?_; clear hp; intro b w1 hp) | ((with_reducible refine pre_box _ _ rfl ?_); refine lB hp rfl (sTm rfl) rfl ?_; clear hp; intro b w1 hp) | ((with_reducible refine pre_load _ _ rfl ?_); first | refine lO hp rfl (sTm rfl) (by with_reducible first | exact cell3 | exact cell4) aa5 ?_ | refine lA hp rfl (sTm rfl) agg27 aa5 ?_) | ((with_reducible refine pre_store _ _ _ rfl ?_); (first | refine sO hp rfl (sTm rfl) (by with_reducible first | exact cell3 | exact cell4) aa5 ?_ | refine sA hp rfl (sTm rfl) (sTm rfl) agg27 aa5 ?_ | refine sG hp rfl (sTm rfl) (sTm rfl) agg27 aa5 ?_); clear hp; intro w1 hp; simp only [spl, zSet, sSet] at hp) | ((with_reducible refine pre_build _ _ _ rfl ?_); refine lS hp rfl (by intro w; go_simp; rfl) ?_; clear hp; intro b w1 hp; simp only [List.length_cons, List.length_nil, Nat.reduceAdd] at hp)); simp only [put_some, put_none, sSet, zSet]))
      go_ret
      exact ⟨ax, kx, R, by rw [List.length_map]; rfl, HKR.out, hp.kp⟩
set_option maxRecDepth 100000 in
set_option maxHeartbeats 4000000 in
theorem cl53 (nd nm bs nu cm : Int) (va : Option Addr) (n2 vc : Nat) (w : World) :
    Calls Tryz.prog 53 #[.agg #[.int .i64 nd, .int .i64 nm, .int .i64 bs, .int .i64 nu, .int .i64 cm, .slice va n2 vc]] w fun e w' => e = .returned (.int .i64 cm) ∧ Below w.heap.size w w' := by
  have hp := Hp.start w
  go_enter Tryz.func53, Tryz.ntmps53
  go_wp2_with (first | go_skip | ((first | ((with_reducible refine pre_alloc _ rfl ?_); refine lZ hp rfl zero27 ?_; clear hp; intro b w1 hp) | ((with_reducible refine pre_box _ _ rfl ?_); refine lB hp rfl (sTm rfl) rfl ?_; clear hp; intro b w1 hp) | ((with_reducible refine pre_load _ _ rfl ?_); first | refine lO hp rfl (sTm rfl) (by with_reducible first | exact cell3 | exact cell4) aa5 ?_ | refine lA hp rfl (sTm rfl) agg27 aa5 ?_) | ((with_reducible refine pre_store _ _ _ rfl ?_); (first | refine sO hp rfl (sTm rfl) (by with_reducible first | exact cell3 | exact cell4) aa5 ?_ | refine sA hp rfl (sTm rfl) (sTm rfl) agg27 aa5 ?_ | refine sG hp rfl (sTm rfl) (sTm rfl) agg27 aa5 ?_); clear hp; intro w1 hp; simp only [spl, zSet, sSet] at hp) | ((with_reducible refine pre_build _ _ _ rfl ?_); refine lS hp rfl (by intro w; go_simp; rfl) ?_; clear hp; intro b w1 hp; simp only [List.length_cons, List.length_nil, Nat.reduceAdd] at hp)); simp only [put_some, put_none, sSet, zSet]))
  go_ret
  exact ⟨rfl, hp.below⟩
set_option maxRecDepth 100000 in
set_option maxHeartbeats 4000000 in
theorem each48_c (l : List Vt) (a : Option Addr) (c : Nat) (hl : l.length ≤ 1000) (w : World) (ha : RowIs w a (l.flatMap vtV)) :
    Calls Tryz.prog 48 #[.slice a l.length c, .func (.func 53) #[] #[]] w (IntsP w (l.map Vt.cm)) := by
  obtain ⟨i0, hi0, hz0, hz1, hz2⟩ := info_parts info3
  have hp := Hp.start w
  have HA := Lib.hid ha
  clear ha
  go_enter Tryz.func48, Tryz.ntmps48
  go_wp2_with (first | go_skip | ((first | ((with_reducible refine pre_alloc _ rfl ?_); refine lZ hp rfl zero27 ?_; clear hp; intro b w1 hp) | ((with_reducible refine pre_box _ _ rfl ?_); refine lB hp rfl (sTm rfl) rfl ?_; clear hp; intro b w1 hp) | ((with_reducible refine pre_load _ _ rfl ?_); first | refine lO hp rfl (sTm rfl) (by with_reducible first | exact cell3 | exact cell4) aa5 ?_ | refine lA hp rfl (sTm rfl) agg27 aa5 ?_) | ((with_reducible refine pre_store _ _ _ rfl ?_); (first | refine sO hp rfl (sTm rfl) (by with_reducible first | exact cell3 | exact cell4) aa5 ?_ | refine sA hp rfl (sTm rfl) (sTm rfl) agg27 aa5 ?_ | refine sG hp rfl (sTm rfl) (sTm rfl) agg27 aa5 ?_); clear hp; intro w1 hp; simp only [spl, zSet, sSet] at hp) | ((with_reducible refine pre_build _ _ _ rfl ?_); refine lS hp rfl (by intro w; go_simp; rfl) ?_; clear hp; intro b w1 hp; simp only [List.length_cons, List.length_nil, Nat.reduceAdd] at hp)); simp only [put_some, put_none, sSet, zSet]))
  go_loopg [5, 10] l.length (fun k v i wr => ∃ (q : Nat) (R M : List Blk), k + q = l.length ∧ i = .int .i64 q ∧ RowKit.Hid (OwnRow 3 1 v q (((l.take q).map Vt.cm).flatMap iV) R) ∧ Hp w.heap.size w wr (R ++ M))
  case atStart => exact ⟨0, [], [], by omega, rfl, Lib.hid (OwnRow.nil _ _), hp⟩
  case round =>
    clear hp
    obtain ⟨q, R, M, hkq, rfl, HR, hp⟩ := hrel
    by_cases hlt : q < l.length
    · obtain ⟨bq, off, rfl, hx⟩ := HA.out.elems 6 vtV_len (by omega) (by omega)
      have hj := List.getElem?_eq_getElem hlt
      replace hx := hx q _ hj
      have htk : (l.take (q + 1)).map Vt.cm = (l.take q).map Vt.cm ++ [(l[q]).cm] := by rw [List.take_add_one, hj, List.map_append]; rfl
      clear hj
      generalize l[q] = y at hx htk
      obtain ⟨nd, nm, bs, nu, cm, va, es, vc⟩ := y
      simp only [vtV] at hx
      have HX := Lib.hid hx
      have HTK := Lib.hid htk
      clear hx htk
      have e1 : (0 : Int) ≤ (q : Int) := by omega
      have e2 : (q : Int) < (l.length : Int) := by omega
      have HS5 : RowKit.Hid (q + 1 ≤ maxLen) := Lib.hid (by unfold maxLen; omega)
      have HS6 : RowKit.Hid ((q + 1) * 8 ≤ 140737488355328) := Lib.hid (by omega)
      go_wp2_with (first | (go_at_call 53; (with_reducible refine (cl53 nd nm bs nu cm va _ vc _).mono ?_); rintro e w1 ⟨rfl, hb⟩; replace hp := hp.call hb; clear hb) | ((with_reducible refine pre_append _ _ 72 rfl ?_); refine wpList_appendGrow (K := [_]) (R := R) (M := M) hp _ _ _ rfl wy i0 _ 8 Tryz.underlying72 hi0 hz0 hz1 hz2 rfl (by decide) (sTm rfl) HR.out 1 1 (sTm rfl) (by rfl) (by decide) (by rfl) HS5.out HS6.out ?_; clear hp HR; intro v' R' w1 hR' hp; have HR := Lib.hid hR'; clear hR'; simp only [List.cons_append, List.nil_append] at hp; simp only [put_some, put_none, sSet, zSet]) | go_skip | ((first | ((with_reducible refine pre_alloc _ rfl ?_); refine lZ hp rfl zero27 ?_; clear hp; intro b w1 hp) | ((with_reducible refine pre_box _ _ rfl ?_); refine lB hp rfl (sTm rfl) rfl ?_; clear hp; intro b w1 hp) | ((with_reducible refine pre_load _ _ rfl ?_); first | refine lO hp rfl (sTm rfl) (by with_reducible first | exact cell3 | exact cell4) aa5 ?_ | refine lA hp rfl (sTm rfl) agg27 aa5 ?_ | refine lR hp rfl (sTm rfl) agg27 HX.out ?_) | ((with_reducible refine pre_store _ _ _ rfl ?_); (first | refine sO hp rfl (sTm rfl) (by with_reducible first | exact cell3 | exact cell4) aa5 ?_ | refine sA hp rfl (sTm rfl) (sTm rfl) agg27 aa5 ?_ | refine sG hp rfl (sTm rfl) (sTm rfl) agg27 aa5 ?_); clear hp; intro w1 hp; simp only [spl, zSet, sSet] at hp) | ((with_reducible refine pre_build _ _ _ rfl ?_); refine lS hp rfl (by intro w; go_simp; rfl) ?_; clear hp; intro b w1 hp; simp only [List.length_cons, List.length_nil, Nat.reduceAdd] at hp)); simp only [put_some, put_none, sSet, zSet]))
      go_roundg (gk - 1)
      case measure => omega
      case rel => exact ⟨q + 1, R', M, by omega, by go_num, Lib.hid (by rw [HTK.out, List.flatMap_append]; exact HR.out), hp.kp⟩
    · obtain rfl : q = l.length := by omega
      have f2 : decide ((l.length : Int) < (l.length : Int)) = false := by simp
      obtain ⟨ax, kx, rfl, hk⟩ := HR.out.kept
      rw [List.take_length] at hk
      have HKR := Lib.hid hk
      clear hkq hlt hk
      go_wp2_with (first | go_skip | ((first | ((with_reducible refine pre_alloc _ rfl ?_); refine lZ hp rfl zero27 ?_; clear hp; intro b w1 hp) | ((with_reducible refine pre_box _ _ rfl ?_); refine lB hp rfl (sTm rfl) rfl ?_; clear hp; intro b w1 hp) | ((with_reducible refine pre_load _ _ rfl ?_); first | refine lO hp rfl (sTm rfl) (by with_reducible first | exact cell3 | exact cell4) aa5 ?_ | refine lA hp rfl (sTm rfl) agg27 aa5 ?_) | ((with_reducible refine pre_store _ _ _ rfl ?_); (first | refine sO hp rfl (sTm rfl) (by with_reducible first | exact cell3 | exact cell4) aa5 ?_ | refine sA hp rfl (sTm rfl) (sTm rfl) agg27 aa5 ?_ | refine sG hp rfl (sTm rfl) (sTm rfl) agg27 aa5 ?_); clear hp; intro w1 hp; simp only [spl, zSet, sSet] at hp) | ((with_reducible refine pre_build _ _ _ rfl ?_); refine lS hp rfl (by intro w; go_simp; rfl) ?_; clear hp; intro b w1 hp; simp only [List.length_cons, List.length_nil, Nat.reduceAdd] at hp)); simp only [put_some, put_none, sSet, zSet]))
      go_ret
      exact ⟨ax, kx, R, by rw [List.length_map]; rfl, HKR.out, hp.kp⟩
def IsMax (xs : List Int) (m : Int) : Prop := m ∈ xs ∧ ∀ x ∈ xs, x ≤ m
def MaxIP (w : World) (xs : List Int) (e : Ending) (w' : World) : Prop := ∃ m : Int, e = .returned (.int .i64 m) ∧ IsMax xs m ∧ Below w.heap.size w w'
theorem IsMax.snoc {xs : List Int} {m y z : Int} (h : IsMax xs m) (hz : z = max m y) : IsMax (xs ++ [y]) z := by
  refine ⟨?_, fun x hx => ?_⟩
  · rw [List.mem_append, List.mem_singleton]
    by_cases e : m < y
    · right; omega
    · left; have : z = m := by omega
      rw [this]; exact h.1
  · rw [List.mem_append, List.mem_singleton] at hx
    rcases hx with hx | hx
    · have := h.2 x hx; omega
    · omega
set_option maxRecDepth 100000 in
set_option maxHeartbeats 4000000 in
theorem max52 (l : List Int) (a : Option Addr) (q c : Nat) (hq : l.length = q) (hl : q ≤ 1000) (h0 : 0 < q) (w : World) (ha : RowIs w a (l.flatMap iV)) :
    Calls Tryz.prog 52 #[.slice a q c] w (MaxIP w l) := by
  subst hq
  have hp := Hp.start w
  obtain ⟨b0, off, rfl, hx0⟩ := ha.elems 1 iV_len h0 (by omega)
  have HA := Lib.hid hx0
  have hj0 := List.getElem?_eq_getElem h0
  have hx := hx0 0 _ hj0
  have htk : l.take 1 = [] ++ [l[0]] := by rw [List.take_add_one, hj0]; rfl
  generalize l[0] = y at hx htk
  simp only [iV, Nat.mul_one] at hx
  have HX := Lib.hid hx
  have HB : RowKit.Hid (IsMax (l.take (0 + 1)) y) := Lib.hid (by rw [htk]; exact ⟨by simp, fun x hx => by simp at hx; omega⟩)
  have e0 : decide ((l.length : Int) < 1) = false := by simp; omega
  have f1 : (0 : Int) < (l.length : Int) := by omega
  clear ha hx0 hx hj0 htk
  go_enter Tryz.func52, Tryz.ntmps52
  go_wp2_with (first | go_skip | ((first | ((with_reducible refine pre_box _ _ rfl ?_); refine lB hp rfl (sTm rfl) rfl ?_; clear hp; intro b w1 hp) | ((with_reducible refine pre_load _ _ rfl ?_); first | refine lO hp rfl (sTm rfl) (by with_reducible first | exact cell3 | exact cell4) aa5 ?_ | first | refine lRO hp rfl (sTm rfl) (by with_reducible first | exact cell3 | exact cell4) (HX.out 0 _ rfl) ?_) | ((with_reducible refine pre_store _ _ _ rfl ?_); (refine sO hp rfl (sTm rfl) (by with_reducible first | exact cell3 | exact cell4) aa5 ?_); clear hp; intro w1 hp; simp only [spl, zSet, sSet] at hp)); simp only [put_some, put_none, sSet, zSet]))
  clear HX e0
  go_loopg [3, 4] (l.length + 1) (fun k v i wr => ∃ (j : Nat) (m : Int), k + j = l.length + 1 ∧ j < l.length ∧ v = .int .i64 m ∧ i = .int .i64 ((j : Int) + 1) ∧ RowKit.Hid (IsMax (l.take (j + 1)) m) ∧ Hp w.heap.size w wr [])
  case atStart => exact ⟨0, y, by omega, h0, rfl, rfl, HB, hp⟩
  case round =>
    clear hp HB
    obtain ⟨j, m, hkj, hjl, rfl, rfl, HB, hp⟩ := hrel
    have f2 : (0 : Int) ≤ (j : Int) := by omega
    by_cases hlt : j + 1 < l.length
    · have hj := List.getElem?_eq_getElem hlt
      have hx := HA.out (j + 1) _ hj
      have htk : l.take (j + 1 + 1) = l.take (j + 1) ++ [l[j + 1]] := by rw [List.take_add_one, hj]; rfl
      clear hj
      generalize l[j + 1] = z at hx htk
      simp only [iV, Nat.mul_one] at hx
      have HX := Lib.hid hx
      have HTK := Lib.hid htk
      have f3 : (j : Int) + 1 < (l.length : Int) := by omega
      have e6 : wrap64 ((j : Int) + 1 + 1) = (j : Int) + 1 + 1 := by unfold wrap64; omega
      clear hx htk
      by_cases hm : m < z
      · have e1 : decide (m < z) = true := by simpa using hm
        have e2 : max m z = z := by omega
        have HNX : RowKit.Hid (IsMax (l.take (j + 1 + 1)) z) := Lib.hid (by rw [HTK.out]; exact HB.out.snoc e2.symm)
        clear hm
        go_wp2_with (first | go_skip | ((first | ((with_reducible refine pre_box _ _ rfl ?_); refine lB hp rfl (sTm rfl) rfl ?_; clear hp; intro b w1 hp) | ((with_reducible refine pre_load _ _ rfl ?_); first | refine lO hp rfl (sTm rfl) (by with_reducible first | exact cell3 | exact cell4) aa5 ?_ | first | refine lRO hp rfl (sTm rfl) (by with_reducible first | exact cell3 | exact cell4) (HX.out 0 _ rfl) ?_) | ((with_reducible refine pre_store _ _ _ rfl ?_); (refine sO hp rfl (sTm rfl) (by with_reducible first | exact cell3 | exact cell4) aa5 ?_); clear hp; intro w1 hp; simp only [spl, zSet, sSet] at hp)); simp only [put_some, put_none, sSet, zSet]))
        go_roundg (gk - 1)
        case measure => omega
        case rel => exact ⟨j + 1, z, by omega, hlt, rfl, by go_num, HNX, hp⟩
      · have e1 : decide (m < z) = false := by simpa using hm
        have e2 : max m z = m := by omega
        have HNX : RowKit.Hid (IsMax (l.take (j + 1 + 1)) m) := Lib.hid (by rw [HTK.out]; exact HB.out.snoc e2.symm)
        clear hm
        go_wp2_with (first | go_skip | ((first | ((with_reducible refine pre_box _ _ rfl ?_); refine lB hp rfl (sTm rfl) rfl ?_; clear hp; intro b w1 hp) | ((with_reducible refine pre_load _ _ rfl ?_); first | refine lO hp rfl (sTm rfl) (by with_reducible first | exact cell3 | exact cell4) aa5 ?_ | first | refine lRO hp rfl (sTm rfl) (by with_reducible first | exact cell3 | exact cell4) (HX.out 0 _ rfl) ?_) | ((with_reducible refine pre_store _ _ _ rfl ?_); (refine sO hp rfl (sTm rfl) (by with_reducible first | exact cell3 | exact cell4) aa5 ?_); clear hp; intro w1 hp; simp only [spl, zSet, sSet] at hp)); simp only [put_some, put_none, sSet, zSet]))
        go_roundg (gk - 1)
        case measure => omega
        case rel => exact ⟨j + 1, m, by omega, hlt, rfl, by go_num, HNX, hp⟩
    · have f3 : decide ((j : Int) + 1 < (l.length : Int)) = false := by simp; omega
      have hb := HB.out
      rw [List.take_of_length_le (by omega)] at hb
      have HEND := Lib.hid hb
      clear hlt hb
      go_wp2_with (first | go_skip | ((first | ((with_reducible refine pre_box _ _ rfl ?_); refine lB hp rfl (sTm rfl) rfl ?_; clear hp; intro b w1 hp) | ((with_reducible refine pre_load _ _ rfl ?_); refine lO hp rfl (sTm rfl) (by with_reducible first | exact cell3 | exact cell4) aa5 ?_) | ((with_reducible refine pre_store _ _ _ rfl ?_); (refine sO hp rfl (sTm rfl) (by with_reducible first | exact cell3 | exact cell4) aa5 ?_); clear hp; intro w1 hp; simp only [spl, zSet, sSet] at hp)); simp only [put_some, put_none, sSet, zSet]))
      go_ret
      exact ⟨m, rfl, HEND.out, hp.below⟩
end Go.Proofs.YtcjbepaclbhjaaaGreat
/- The walks of Enough of views and of its document's twin. -/
namespace Go.Proofs.YtcjbepaclbhjaaaGreat
open Go.RowKit Go.Lib
def nodesB (n : Int) : Bool := n == 3 || n == 5 || n == 7
def inNodes (k n : Int) : Bool := decide (1 ≤ k) && decide (k ≤ n)
def maskN (n : Int) (l : List Int) : Nat := l.foldl (fun m k => if inNodes k n = true then m ||| 2 ^ k.toNat else m) 0
def popN (m : Nat) : Nat := (List.range 8).foldl (fun c k => c + (m.testBit k).toNat) 0
def cntN (n : Int) (l : List Int) (j : Nat) : Nat := (List.range j).foldl (fun (c k : Nat) => c + (decide ((k : Int) + 1 ≤ n) && l.contains ((k : Int) + 1)).toNat) 0
def enoughB (n : Int) (l : List Int) : Bool := nodesB n && decide (n < 2 * (popN (maskN n l) : Int))
theorem fin_or : ∀ (m : Fin 256) (k : Fin 8), bits .or .u16 ((m.val : Nat) : Int) (IntKind.u16.wrap (1 * 2 ^ k.val)) = ((m.val ||| 2 ^ k.val : Nat) : Int) ∧ m.val ||| 2 ^ k.val < 256 := by decide +kernel
theorem fin_and : ∀ (m : Fin 256), m.val ≠ 0 → bits .and .u16 ((m.val : Nat) : Int) (IntKind.u16.wrap (((m.val : Nat) : Int) - 1)) = ((m.val &&& (m.val - 1) : Nat) : Int) ∧ popN m.val = popN (m.val &&& (m.val - 1)) + 1 ∧ m.val &&& (m.val - 1) < m.val := by decide +kernel
theorem or_bits {m k : Nat} (hm : m < 256) (hk : k < 8) : bits .or .u16 (m : Int) (IntKind.u16.wrap (1 * 2 ^ k)) = ((m ||| 2 ^ k : Nat) : Int) ∧ m ||| 2 ^ k < 256 := fin_or ⟨m, hm⟩ ⟨k, hk⟩
theorem and_bits {m : Nat} (hm : m < 256) (h0 : m ≠ 0) : bits .and .u16 (m : Int) (IntKind.u16.wrap ((m : Int) - 1)) = ((m &&& (m - 1) : Nat) : Int) ∧ popN m = popN (m &&& (m - 1)) + 1 ∧ m &&& (m - 1) < m := fin_and ⟨m, hm⟩ h0
theorem maskN_snoc (n : Int) (l : List Int) (k : Int) : maskN n (l ++ [k]) = if inNodes k n = true then maskN n l ||| 2 ^ k.toNat else maskN n l := by
  unfold maskN
  rw [List.foldl_append]; rfl
theorem maskN_bits {n : Int} (hn : n ≤ 7) (l : List Int) : maskN n l < 256 ∧ ∀ j : Nat, (maskN n l).testBit j = (inNodes (j : Int) n && l.contains (j : Int)) := by
  have key : ∀ r : List Int, maskN n r.reverse < 256 ∧ ∀ j : Nat, (maskN n r.reverse).testBit j = (inNodes (j : Int) n && r.contains (j : Int)) := fun r => by
    induction r with
    | nil => exact ⟨by show 0 < 256; decide, fun j => by simp [maskN]⟩
    | cons k r ih =>
      rw [List.reverse_cons, maskN_snoc]
      by_cases hk : inNodes k n = true
      · rw [if_pos hk]
        have h2 : 1 ≤ k ∧ k ≤ n := by simpa [inNodes] using hk
        refine ⟨(or_bits ih.1 (show k.toNat < 8 by omega)).2, fun j => ?_⟩
        rw [Nat.testBit_or, ih.2 j, Nat.testBit_two_pow, List.contains_cons]
        by_cases hj : (j : Int) = k
        · have h3 : k.toNat = j := by omega
          subst hj
          simp [hk, h3]
        · have h3 : ¬ k.toNat = j := by omega
          have h4 : ((j : Int) == k) = false := by simpa using hj
          simp [h3, h4]
      · rw [if_neg hk]
        refine ⟨ih.1, fun j => ?_⟩
        rw [ih.2 j, List.contains_cons]
        by_cases hj : (j : Int) = k
        · rw [hj]; simp [hk]
        · have h4 : ((j : Int) == k) = false := by simpa using hj
          simp [h4]
  have h := key l.reverse
  rw [List.reverse_reverse] at h
  refine ⟨h.1, fun j => ?_⟩
  rw [h.2 j]
  congr 1
  rw [Bool.eq_iff_iff]
  simp
theorem pop_cnt {n : Int} (hn : n ≤ 7) (l : List Int) : popN (maskN n l) = cntN n l 7 := by
  have h := (maskN_bits hn l).2
  unfold popN cntN
  simp only [show List.range 8 = [0, 1, 2, 3, 4, 5, 6, 7] from rfl, show List.range 7 = [0, 1, 2, 3, 4, 5, 6] from rfl, List.foldl_cons, List.foldl_nil, h]
  simp [inNodes]
theorem cntN_succ (n : Int) (l : List Int) (j : Nat) : cntN n l (j + 1) = cntN n l j + (decide ((j : Int) + 1 ≤ n) && l.contains ((j : Int) + 1)).toNat := by
  unfold cntN
  rw [List.range_succ, List.foldl_append]; rfl
theorem cntN_le (n : Int) (l : List Int) : ∀ j, cntN n l j ≤ j
  | 0 => Nat.le_refl 0
  | j + 1 => by
    rw [cntN_succ]
    have := cntN_le n l j
    have h : (decide ((j : Int) + 1 ≤ n) && l.contains ((j : Int) + 1)).toNat ≤ 1 := Bool.toNat_le _
    omega
theorem nodes_rem (n : Int) : nodesB n = ((n.tmod 2 == 1) && (decide (3 ≤ n) && decide (n ≤ 7))) := by
  by_cases h : 3 ≤ n ∧ n ≤ 7
  · rcases (by omega : n = 3 ∨ n = 4 ∨ n = 5 ∨ n = 6 ∨ n = 7) with rfl | rfl | rfl | rfl | rfl <;> rfl
  · have h1 : nodesB n = false := by
      unfold nodesB
      have a1 : (n == 3) = false := by simp; omega
      have a2 : (n == 5) = false := by simp; omega
      have a3 : (n == 7) = false := by simp; omega
      rw [a1, a2, a3]; rfl
    have h2 : (decide (3 ≤ n) && decide (n ≤ 7)) = false := by
      rw [Bool.and_eq_false_iff]; simp only [decide_eq_false_iff_not]; omega
    rw [h1, h2, Bool.and_false]
theorem nodes70 (n : Int) (w : World) : Calls Tryz.prog 70 #[.int .i64 n] w fun e w' => e = .returned (.bool (nodesB n)) ∧ w = w' := by
  rw [nodes_rem]
  go_enter Tryz.func70, Tryz.ntmps70
  go_wp2
  all_goals go_ret
  all_goals refine ⟨ret_bool ?_, rfl⟩
  all_goals (simp [*]; try omega)
theorem with71 (m : Nat) (hm : m < 256) (k n : Int) (hn : n ≤ 7) (w : World) : Calls Tryz.prog 71 #[.int .u16 (m : Int), .int .i64 k, .int .i64 n] w fun e w' => e = .returned (.int .u16 ((if inNodes k n = true then m ||| 2 ^ k.toNat else m : Nat) : Int)) ∧ w = w' := by
  by_cases h1 : k < 1
  · have e1 : decide (k < 1) = true := by simpa using h1
    have e2 : inNodes k n = false := by simp [inNodes]; omega
    rw [e2, if_neg (by decide)]
    go_enter Tryz.func71, Tryz.ntmps71
    go_wp2
    all_goals go_ret
    exact ⟨rfl, rfl⟩
  · have e1 : decide (k < 1) = false := by simpa using h1
    by_cases h2 : n < k
    · have e2 : decide (n < k) = true := by simpa using h2
      have e3 : inNodes k n = false := by simp [inNodes]; omega
      rw [e3, if_neg (by decide)]
      go_enter Tryz.func71, Tryz.ntmps71
      go_wp2
      all_goals go_ret
      exact ⟨rfl, rfl⟩
    · have e2 : decide (n < k) = false := by simpa using h2
      have e3 : inNodes k n = true := by simp [inNodes]; omega
      rw [e3, if_pos rfl]
      have hor := (or_bits hm (show k.toNat < 8 by omega)).1
      have HOR := Lib.hid hor
      have f1 : (0 : Int) ≤ k := by omega
      have f2 : k < 16 := by omega
      clear hor
      go_enter Tryz.func71, Tryz.ntmps71
      go_wp2
      all_goals go_ret
      refine ⟨?_, rfl⟩
      rw [← HOR.out, Int.one_mul]; rfl
end Go.Proofs.YtcjbepaclbhjaaaGreat
