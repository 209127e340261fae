/- Parts of the proof. -/
import Derived.Test.YtaafajaadfgaoaaGreatAk39
import Derived.Test.YtaafajaadfgaoaaGreatAk27
open List renaming set_cons_zero → zSet, set_cons_succ → sSet
/- The walks of the document: rows that are the same, copies, a row behind a number. -/
set_option linter.unusedSimpArgs false
set_option linter.unusedVariables false
namespace Go.Proofs.YtaafajaadfgaoaaGreat
open Go.RowKit
theorem gaQRb0 {ty : TypeId} {k : Nat} (h : aggB Tryz.prog ty k = true := by with_reducible first | exact agg24 | exact agg31 | exact agg33) : aggB Tryz.prog ty k = true := h
theorem ceQRb1 {ty : TypeId} (h : cellB Tryz.prog ty = true := by with_reducible first | exact cell3 | exact cell4 | exact cell22 | exact cell9 | exact cell26) : cellB Tryz.prog ty = true := h
theorem ceQRb2 {ty : TypeId} (h : cellB Tryz.prog ty = true := by with_reducible first | exact cell3 | exact cell4 | exact cell22) : cellB Tryz.prog ty = true := h
set_option maxRecDepth 100000 in
set_option maxHeartbeats 4000000 in
theorem entries12S (l : List Env) (a a' : Option Addr) (n n' c c' : Nat) (hn : l.length = n) (hn' : l.length = n') (hl : l.length ≤ 100000) (w : World) (ha : RowIs w a (l.flatMap envL)) (ha' : RowIs w a' (l.flatMap envL)) :
    Calls Tryz.prog 61 #[.slice a n c, .slice a' n' c'] w fun e w' => e = .returned (.bool true) ∧ Below w.heap.size w w' := by
  subst hn hn'
  have HA := Lib.hid ha
  have HB := Lib.hid ha'
  clear ha ha'
  have hp := Hp.start w
  go_enter Tryz.func61, Tryz.ntmps61
  go_wp2_with (first | go_skip | ((first | ((with_reducible refine pre_alloc _ rfl ?_); refine lZ hp rfl (by with_reducible first | exact zero24 | exact zero33) ?_; clear hp; intro b w1 hp) | ((with_reducible refine pre_box _ _ rfl ?_); refine lB hp rfl (sTm rfl) rfl ?_; clear hp; intro b w1 hp) | ((with_reducible refine pre_load _ _ rfl ?_); first | refine lO hp rfl (sTm rfl) ceQRb1 aa5 ?_ | refine lA hp rfl (sTm rfl) gaQRb0 aa5 ?_) | ((with_reducible refine pre_store _ _ _ rfl ?_); (first | refine sO hp rfl (sTm rfl) ceQRb1 aa5 ?_ | refine sA hp rfl (sTm rfl) (sTm rfl) gaQRb0 aa5 ?_ | refine sG hp rfl (sTm rfl) (sTm rfl) gaQRb0 aa5 ?_); clear hp; intro w1 hp; simp only [spl, zSet, sSet] at hp)); simp only [put_some, put_none, sSet, zSet]))
  go_loopg [5] l.length (fun k i wr => ∃ q : Nat, k + q = l.length ∧ i = .int .i64 q ∧ Hp w.heap.size w wr [])
  case atStart => exact ⟨0, by omega, rfl, hp⟩
  case round =>
    clear hp
    obtain ⟨q, hkq, rfl, hp⟩ := hrel
    by_cases hlt : q < l.length
    · obtain ⟨bq, off, rfl, hx⟩ := HA.out.elems 11 envL_len11 (by omega) (by omega)
      obtain ⟨br, ofr, rfl, hy⟩ := HB.out.elems 11 envL_len11 (by omega) (by omega)
      have hj := List.getElem?_eq_getElem hlt
      replace hx := hx q _ hj
      replace hy := hy q _ hj
      clear hj
      generalize l[q] = en at hx hy
      obtain ⟨nu, vi, cl, sq, ⟨kk, hh, ii, nn, cc, vv, tt⟩⟩ := en
      simp only [envL, opL, List.cons_append, List.nil_append] at hx hy
      have HX := Lib.hid hx
      have HY := Lib.hid hy
      have f1 : (0 : Int) ≤ (q : Int) := by omega
      have f2 : (q : Int) < (l.length : Int) := by omega
      clear hx hy
      go_wp2_with (first | go_skip | ((first | ((with_reducible refine pre_box _ _ rfl ?_); refine lB hp rfl (sTm rfl) rfl ?_; clear hp; intro b w1 hp) | ((with_reducible refine pre_load _ _ rfl ?_); first | refine lO hp rfl (sTm rfl) ceQRb2 aa5 ?_ | refine lA hp rfl (sTm rfl) agg31 aa5 ?_ | refine lR hp rfl (sTm rfl) agg31 HX.out ?_ | refine lR hp rfl (sTm rfl) agg31 HY.out ?_) | ((with_reducible refine pre_store _ _ _ rfl ?_); (first | refine sO hp rfl (sTm rfl) ceQRb2 aa5 ?_ | refine sA hp rfl (sTm rfl) (sTm rfl) agg31 aa5 ?_ | refine sG hp rfl (sTm rfl) (sTm rfl) agg31 aa5 ?_); clear hp; intro w1 hp; simp only [spl, zSet, sSet] at hp)); simp only [put_some, put_none, sSet, zSet]))
      refine wp_region_keeps _ (Keeps.all hp.drew) [] [(0, true), (1, true), (2, true), (3, true), (4, true), (5, true), (6, true), (7, true), (8, true)] (by kernel_rfl) (by kernel_rfl) rfl (by kernel_rfl) (fun _ _ d _ _ h => by cases d <;> exact h) ?_
      replace hp := hp.drew
      repeat' (with_reducible refine plan_is ?_); first | (with_reducible refine plan_nil ?_) | ((with_reducible refine plan_t ?_); refine plan_tk rfl ?_; (first | ((with_reducible refine tk_mv _ rfl ?_); refine tM rfl ?_) | ((with_reducible refine tk_ld _ _ rfl ?_); first | refine tA rfl (sTm rfl) agg31 aa5 ?_ | refine tR rfl (sTm rfl) agg31 HX.out ?_ | refine tR rfl (sTm rfl) agg31 HY.out ?_) | refine tG (fun w _ => (by go_simp; try rfl)) ?_); try simp only [put_some, put_none, eval_tmp, eval_const, sSet, zSet, List.getD_cons_succ, List.getD_cons_zero, wrap_eq])
      go_wp2_with (first | go_skip | ((first | ((with_reducible refine pre_box _ _ rfl ?_); refine lB hp rfl (sTm rfl) rfl ?_; clear hp; intro b w1 hp) | ((with_reducible refine pre_load _ _ rfl ?_); first | refine lO hp rfl (sTm rfl) ceQRb2 aa5 ?_ | refine lA hp rfl (sTm rfl) agg31 aa5 ?_ | refine lR hp rfl (sTm rfl) agg31 HX.out ?_ | refine lR hp rfl (sTm rfl) agg31 HY.out ?_) | ((with_reducible refine pre_store _ _ _ rfl ?_); (first | refine sO hp rfl (sTm rfl) ceQRb2 aa5 ?_ | refine sA hp rfl (sTm rfl) (sTm rfl) agg31 aa5 ?_ | refine sG hp rfl (sTm rfl) (sTm rfl) agg31 aa5 ?_); clear hp; intro w1 hp; simp only [spl, zSet, sSet] at hp)); simp only [put_some, put_none, sSet, zSet]))
      go_roundg (gk - 1)
      case measure => omega
      case rel => exact ⟨q + 1, by omega, by go_num, hp⟩
    · obtain rfl : q = l.length := by omega
      have e2 : decide ((l.length : Int) < (l.length : Int)) = false := by simp
      go_wp2_with (first | go_skip | ((first | ((with_reducible refine pre_alloc _ rfl ?_); refine lZ hp rfl (by with_reducible first | exact zero24 | exact zero33) ?_; clear hp; intro b w1 hp) | ((with_reducible refine pre_box _ _ rfl ?_); refine lB hp rfl (sTm rfl) rfl ?_; clear hp; intro b w1 hp) | ((with_reducible refine pre_load _ _ rfl ?_); first | refine lO hp rfl (sTm rfl) ceQRb1 aa5 ?_ | refine lA hp rfl (sTm rfl) gaQRb0 aa5 ?_) | ((with_reducible refine pre_store _ _ _ rfl ?_); (first | refine sO hp rfl (sTm rfl) ceQRb1 aa5 ?_ | refine sA hp rfl (sTm rfl) (sTm rfl) gaQRb0 aa5 ?_ | refine sG hp rfl (sTm rfl) (sTm rfl) gaQRb0 aa5 ?_); clear hp; intro w1 hp; simp only [spl, zSet, sSet] at hp)); simp only [put_some, put_none, sSet, zSet]))
      go_ret
      exact ⟨rfl, hp.below⟩
def OwnKv (w : World) (vw nm bs : Int) (im : ByteArray) (es : List Env) (e : Ending) (w' : World) : Prop := ∃ (a : Option Addr) (c : Nat) (R : List Blk), e = .returned (.agg #[.int .i64 vw, .int .i64 nm, .int .i64 bs, .string im, .slice a es.length c]) ∧ SubRow 31 11 (.slice a es.length c) es.length (es.flatMap envL) R ∧ Hp w.heap.size w w' R
theorem env_one (l : List Env) : (l.flatMap envL).all (·.oneCell') = true := by
  induction l with
  | nil => rfl
  | cons x l ih => rw [List.flatMap_cons, List.all_append, ih]; rfl
set_option maxRecDepth 100000 in
set_option maxHeartbeats 4000000 in
theorem own1532L (vw nm bs : Int) (im : ByteArray) (ea : Option Addr) (es : List Env) (ec : Nat) (hl : es.length ≤ 100000) (w : World) (ha : RowIs w ea (es.flatMap envL)) :
    Calls Tryz.prog 32 #[.agg #[.int .i64 vw, .int .i64 nm, .int .i64 bs, .string im, .slice ea es.length ec]] w (OwnKv w vw nm bs im es) := by
  obtain ⟨i0, hi0, hz0, hz1, hz2⟩ := info_parts info31
  have hp := Hp.start w
  have HA := Lib.hid ha
  have HS1 : RowKit.Hid (0 + es.length ≤ maxLen) := Lib.hid (by unfold maxLen; omega)
  have HS2 : RowKit.Hid ((0 + es.length) * 88 ≤ 140737488355328) := Lib.hid (by omega)
  clear ha
  go_enter Tryz.func32, Tryz.ntmps32
  go_wp2_with (first | ((with_reducible refine pre_append2 _ _ 22 22 rfl ?_); refine wpList_appendSub (K := [_, _]) (R := []) (M := []) hp _ _ _ _ rfl wy 31 i0 _ 11 88 Tryz.underlying22 hi0 hz0 hz1 hz2 rfl _ _ _ (sTm rfl) (SubRow.nil _ _ _) _ (sTm rfl) es.length _ (Src.ofRow Tryz.underlying22 (by decide) ea es.length ec _ (by rw [flat_len envL 11 envL_len11]) (HA.out.below hp.below) (env_one _)) HS1.out HS2.out ?_; clear hp; intro v' R' w1 hR' hp; rw [Nat.zero_add, List.nil_append] at hR'; obtain ⟨a', c', rfl, _⟩ := hR'.kept; have HR' := Lib.hid hR'; clear hR'; simp only [List.cons_append, List.nil_append, List.append_nil] at hp; simp only [put_some, put_none, sSet, zSet]) | go_skip | ((first | ((with_reducible refine pre_alloc _ rfl ?_); refine lZ hp rfl (by with_reducible first | exact zero24 | exact zero33) ?_; clear hp; intro b w1 hp) | ((with_reducible refine pre_box _ _ rfl ?_); refine lB hp rfl (sTm rfl) rfl ?_; clear hp; intro b w1 hp) | ((with_reducible refine pre_load _ _ rfl ?_); first | refine lO hp rfl (sTm rfl) ceQRb1 aa5 ?_ | refine lA hp rfl (sTm rfl) gaQRb0 aa5 ?_) | ((with_reducible refine pre_store _ _ _ rfl ?_); (first | refine sO hp rfl (sTm rfl) ceQRb1 aa5 ?_ | refine sA hp rfl (sTm rfl) (sTm rfl) gaQRb0 aa5 ?_ | refine sG hp rfl (sTm rfl) (sTm rfl) gaQRb0 aa5 ?_); clear hp; intro w1 hp; simp only [spl, zSet, sSet] at hp)); simp only [put_some, put_none, sSet, zSet]))
  exact bodyPost_ret (results_one (rs := [.cell 2 24]) Tryz.results32 (.cell rfl (hp.loadAgg agg24 at0 0 _ (by rfl) (by rfl)) .nil)) rfl ⟨a', c', R', rfl, HR'.out, hp.tail.tail⟩
set_option maxRecDepth 100000 in
set_option maxHeartbeats 4000000 in
theorem same15S (vw nm bs : Int) (im : ByteArray) (ea ea2 : Option Addr) (es : List Env) (ec ec2 : Nat) (hl : es.length ≤ 100000) (w : World) (ha : RowIs w ea (es.flatMap envL)) (hb : RowIs w ea2 (es.flatMap envL)) :
    Calls Tryz.prog 34 #[.agg #[.int .i64 vw, .int .i64 nm, .int .i64 bs, .string im, .slice ea es.length ec], .agg #[.int .i64 vw, .int .i64 nm, .int .i64 bs, .string im, .slice ea2 es.length ec2]] w fun e w' => e = .returned (.bool true) ∧ Below w.heap.size w w' := by
  have hp := Hp.start w
  have HA := Lib.hid ha
  have HB := Lib.hid hb
  clear ha hb
  go_enter Tryz.func34, Tryz.ntmps34
  go_wp2_with (first | (go_at_call 61; (with_reducible refine (entries12S es ea ea2 _ _ ec ec2 rfl rfl hl _ (HA.out.below hp.below) (HB.out.below hp.below)).mono ?_); rintro e w1 ⟨rfl, hb⟩; replace hp := hp.call hb; clear hb) | go_skip | ((first | ((with_reducible refine pre_alloc _ rfl ?_); refine lZ hp rfl (by with_reducible first | exact zero24 | exact zero33) ?_; clear hp; intro b w1 hp) | ((with_reducible refine pre_box _ _ rfl ?_); refine lB hp rfl (sTm rfl) rfl ?_; clear hp; intro b w1 hp) | ((with_reducible refine pre_load _ _ rfl ?_); first | refine lO hp rfl (sTm rfl) ceQRb1 aa5 ?_ | refine lA hp rfl (sTm rfl) gaQRb0 aa5 ?_) | ((with_reducible refine pre_store _ _ _ rfl ?_); (first | refine sO hp rfl (sTm rfl) ceQRb1 aa5 ?_ | refine sA hp rfl (sTm rfl) (sTm rfl) gaQRb0 aa5 ?_ | refine sG hp rfl (sTm rfl) (sTm rfl) gaQRb0 aa5 ?_); clear hp; intro w1 hp; simp only [spl, zSet, sSet] at hp)); simp only [put_some, put_none, sSet, zSet]))
  go_ret
  exact ⟨rfl, hp.below⟩
set_option maxRecDepth 100000 in
set_option maxHeartbeats 4000000 in
theorem sameRec15S (kd rv rf rn : Int) (rim : ByteArray) (nu vi cl sq kk hh ii nn cc vv tt : Int) (ea ea2 : Option Addr) (es : List Env) (ec ec2 : Nat) (hl : es.length ≤ 100000) (w : World) (ha : RowIs w ea (es.flatMap envL)) (hb : RowIs w ea2 (es.flatMap envL)) :
    Calls Tryz.prog 54 #[.agg (#[.int .i64 kd, .int .i64 rv, .int .i64 rf, .int .i64 rn, .string rim, .int .i64 nu, .int .i64 vi, .int .i64 cl, .int .i64 sq, .int .i64 kk, .int .i64 hh, .int .i64 ii, .int .i64 nn, .int .i64 cc, .int .i64 vv, .int .i64 tt] ++ #[.slice ea es.length ec]), .agg (#[.int .i64 kd, .int .i64 rv, .int .i64 rf, .int .i64 rn, .string rim, .int .i64 nu, .int .i64 vi, .int .i64 cl, .int .i64 sq, .int .i64 kk, .int .i64 hh, .int .i64 ii, .int .i64 nn, .int .i64 cc, .int .i64 vv, .int .i64 tt] ++ #[.slice ea2 es.length ec2])] w fun e w' => e = .returned (.bool true) ∧ Below w.heap.size w w' := by
  have hp := Hp.start w
  have HA := Lib.hid ha
  have HB := Lib.hid hb
  clear ha hb
  simp only [List.append_toArray, List.cons_append, List.nil_append]
  go_enter Tryz.func54, Tryz.ntmps54
  go_wp2_with (first | (go_at_call 61; (with_reducible refine (entries12S es ea ea2 _ _ ec ec2 rfl rfl hl _ (HA.out.below hp.below) (HB.out.below hp.below)).mono ?_); rintro e w1 ⟨rfl, hb⟩; replace hp := hp.call hb; clear hb) | go_skip | ((first | ((with_reducible refine pre_alloc _ rfl ?_); refine lZ hp rfl (by with_reducible first | exact zero24 | exact zero33) ?_; clear hp; intro b w1 hp) | ((with_reducible refine pre_box _ _ rfl ?_); refine lB hp rfl (sTm rfl) rfl ?_; clear hp; intro b w1 hp) | ((with_reducible refine pre_load _ _ rfl ?_); first | refine lO hp rfl (sTm rfl) ceQRb1 aa5 ?_ | refine lA hp rfl (sTm rfl) gaQRb0 aa5 ?_) | ((with_reducible refine pre_store _ _ _ rfl ?_); (first | refine sO hp rfl (sTm rfl) ceQRb1 aa5 ?_ | refine sA hp rfl (sTm rfl) (sTm rfl) gaQRb0 aa5 ?_ | refine sG hp rfl (sTm rfl) (sTm rfl) gaQRb0 aa5 ?_); clear hp; intro w1 hp; simp only [spl, zSet, sSet] at hp)); simp only [put_some, put_none, sSet, zSet]))
  go_ret
  exact ⟨rfl, hp.below⟩
theorem rrow16131 (l : List Env) (fr : Int) (a : Option Addr) (c : Nat) (b : Bool) (hb : folB fr 0 l = b) (hl : l.length ≤ 100000) (w : World) (ha : RowIs w a (l.flatMap envL)) :
    Calls Tryz.prog 131 #[.slice a l.length c, .int .i64 fr] w fun e w' => e = .returned (.bool b) ∧ Below w.heap.size w w' := by
  subst hb
  have HA := Lib.hid ha
  clear ha
  have hp := Hp.start w
  go_enter Tryz.func131, Tryz.ntmps131
  go_wp2_with (first | go_skip | ((first | ((with_reducible refine pre_alloc _ rfl ?_); refine lZ hp rfl (by with_reducible first | exact zero24 | exact zero33) ?_; clear hp; intro b w1 hp) | ((with_reducible refine pre_box _ _ rfl ?_); refine lB hp rfl (sTm rfl) rfl ?_; clear hp; intro b w1 hp) | ((with_reducible refine pre_load _ _ rfl ?_); first | refine lO hp rfl (sTm rfl) ceQRb1 aa5 ?_ | refine lA hp rfl (sTm rfl) gaQRb0 aa5 ?_) | ((with_reducible refine pre_store _ _ _ rfl ?_); (first | refine sO hp rfl (sTm rfl) ceQRb1 aa5 ?_ | refine sA hp rfl (sTm rfl) (sTm rfl) gaQRb0 aa5 ?_ | refine sG hp rfl (sTm rfl) (sTm rfl) gaQRb0 aa5 ?_); clear hp; intro w1 hp; simp only [spl, zSet, sSet] at hp)); simp only [put_some, put_none, sSet, zSet]))
  go_loopg [5] l.length (fun k i wr => ∃ q : Nat, k + q = l.length ∧ i = .int .i64 q ∧ RowKit.Hid (folB fr 0 l = folB fr q (l.drop q)) ∧ Hp w.heap.size w wr [])
  case atStart => exact ⟨0, by omega, rfl, Lib.hid rfl, hp⟩
  case round =>
    clear hp
    obtain ⟨q, hkq, rfl, HF, hp⟩ := hrel
    by_cases hlt : q < l.length
    · obtain ⟨bq, off, rfl, hx⟩ := HA.out.elems 11 envL_len11 (by omega) (by omega)
      have hj := List.getElem?_eq_getElem hlt
      replace hx := hx q _ hj
      have hd := List.drop_eq_getElem_cons hlt
      clear hj
      generalize l[q] = en at hx hd
      obtain ⟨nu, vi, cl, sq, ⟨kk, hh, ii, nn, cc, vv, tt⟩⟩ := en
      simp only [envL, opL, List.cons_append, List.nil_append] at hx
      have HX := Lib.hid hx
      have HF2 : RowKit.Hid (folB fr 0 l = (decide (wrap64 (wrap64 (nu - 1) - (q : Int)) = fr) && folB fr (q + 1) (l.drop (q + 1)))) := Lib.hid (by rw [HF.out, hd]; rfl)
      have f1 : (0 : Int) ≤ (q : Int) := by omega
      have f2 : (q : Int) < (l.length : Int) := by omega
      clear hx hd HF
      by_cases heq : wrap64 (wrap64 (nu - 1) - (q : Int)) = fr
      · have e3 : (wrap64 (wrap64 (nu - 1) - (q : Int)) == fr) = true := by simpa using heq
        have HE := Lib.hid heq
        clear heq
        go_wp2_with (first | go_skip | ((first | ((with_reducible refine pre_box _ _ rfl ?_); refine lB hp rfl (sTm rfl) rfl ?_; clear hp; intro b w1 hp) | ((with_reducible refine pre_load _ _ rfl ?_); first | refine lO hp rfl (sTm rfl) ceQRb2 aa5 ?_ | first | refine lRO hp rfl (sTm rfl) ceQRb2 (HX.out 0 _ rfl) ?_ | refine lA hp rfl (sTm rfl) agg31 aa5 ?_ | refine lR hp rfl (sTm rfl) agg31 HX.out ?_) | ((with_reducible refine pre_store _ _ _ rfl ?_); (first | refine sO hp rfl (sTm rfl) ceQRb2 aa5 ?_ | refine sA hp rfl (sTm rfl) (sTm rfl) agg31 aa5 ?_ | refine sG hp rfl (sTm rfl) (sTm rfl) agg31 aa5 ?_); clear hp; intro w1 hp; simp only [spl, zSet, sSet] at hp)); simp only [put_some, put_none, sSet, zSet]))
        go_roundg (gk - 1)
        case measure => omega
        case rel => exact ⟨q + 1, by omega, by go_num, Lib.hid (by rw [HF2.out, HE.out]; simp), hp⟩
      · have e3 : (wrap64 (wrap64 (nu - 1) - (q : Int)) == fr) = false := by simpa using heq
        have HE := Lib.hid heq
        clear heq
        go_wp2_with (first | go_skip | ((first | ((with_reducible refine pre_box _ _ rfl ?_); refine lB hp rfl (sTm rfl) rfl ?_; clear hp; intro b w1 hp) | ((with_reducible refine pre_load _ _ rfl ?_); first | refine lO hp rfl (sTm rfl) ceQRb2 aa5 ?_ | first | refine lRO hp rfl (sTm rfl) ceQRb2 (HX.out 0 _ rfl) ?_ | refine lA hp rfl (sTm rfl) agg31 aa5 ?_ | refine lR hp rfl (sTm rfl) agg31 HX.out ?_) | ((with_reducible refine pre_store _ _ _ rfl ?_); (first | refine sO hp rfl (sTm rfl) ceQRb2 aa5 ?_ | refine sA hp rfl (sTm rfl) (sTm rfl) agg31 aa5 ?_ | refine sG hp rfl (sTm rfl) (sTm rfl) agg31 aa5 ?_); clear hp; intro w1 hp; simp only [spl, zSet, sSet] at hp)); simp only [put_some, put_none, sSet, zSet]))
        go_ret
        refine ⟨?_, hp.below⟩
        rw [HF2.out, decide_eq_false HE.out]; rfl
    · obtain rfl : q = l.length := by omega
      have e2 : decide ((l.length : Int) < (l.length : Int)) = false := by simp
      clear hkq hlt
      go_wp2_with (first | go_skip | ((first | ((with_reducible refine pre_alloc _ rfl ?_); refine lZ hp rfl (by with_reducible first | exact zero24 | exact zero33) ?_; clear hp; intro b w1 hp) | ((with_reducible refine pre_box _ _ rfl ?_); refine lB hp rfl (sTm rfl) rfl ?_; clear hp; intro b w1 hp) | ((with_reducible refine pre_load _ _ rfl ?_); first | refine lO hp rfl (sTm rfl) ceQRb1 aa5 ?_ | refine lA hp rfl (sTm rfl) gaQRb0 aa5 ?_) | ((with_reducible refine pre_store _ _ _ rfl ?_); (first | refine sO hp rfl (sTm rfl) ceQRb1 aa5 ?_ | refine sA hp rfl (sTm rfl) (sTm rfl) gaQRb0 aa5 ?_ | refine sG hp rfl (sTm rfl) (sTm rfl) gaQRb0 aa5 ?_); clear hp; intro w1 hp; simp only [spl, zSet, sSet] at hp)); simp only [put_some, put_none, sSet, zSet]))
      go_ret
      refine ⟨?_, hp.below⟩
      rw [HF.out, List.drop_length]; rfl
theorem last15_lit (vw nm bs : Int) (im : ByteArray) (ea : Option Addr) (n ec : Nat) (x : Int) (hx : wrap64 (bs + (n : Int)) = x) (w : World) : Calls Tryz.prog 93 #[.agg #[.int .i64 vw, .int .i64 nm, .int .i64 bs, .string im, .slice ea n ec]] w fun e w' => e = .returned (.int .i64 x) ∧ Below w.heap.size w w' := hx ▸ last1593 vw nm bs im ea n ec w
end Go.Proofs.YtaafajaadfgaoaaGreat
