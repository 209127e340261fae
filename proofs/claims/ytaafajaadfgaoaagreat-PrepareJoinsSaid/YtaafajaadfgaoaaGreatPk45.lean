/- Parts of the proof. -/
import Derived.Test.YtaafajaadfgaoaaGreatPk44
open List renaming set_cons_zero → zSet, set_cons_succ → sSet
/- The walks of prepare's row and Join. -/
set_option linter.unusedSimpArgs false
set_option linter.unusedVariables false
namespace Go.Proofs.YtaafajaadfgaoaaGreat
open Go.RowKit
theorem ceVAa0 {ty : TypeId} (h : cellB Tryz.prog ty = true := by with_reducible first | exact cell3 | exact cell4 | exact cell22) : cellB Tryz.prog ty = true := h
theorem info33 : (Tryz.prog.info? 33).map (fun i => (i.zero, i.size, i.bytes)) = some (some (.agg #[.int .i64 0, .int .i64 0, .int .i64 0, .int .i64 0, .string ⟨#[]⟩, .int .i64 0, .int .i64 0, .int .i64 0, .int .i64 0, .int .i64 0, .int .i64 0, .int .i64 0, .int .i64 0, .int .i64 0, .int .i64 0, .int .i64 0, .slice none 0 0]), 17, 160) := by kernel_rfl
theorem cell87 : cellB Tryz.prog 87 = true := by kernel_rfl
def recL (e : Env) : List Value := rvL (recE e)
theorem recL_len (e : Env) : (recL e).length = 17 := rfl
theorem row130 (l : List Env) (fr : Int) (a : Option Addr) (c : Nat) (b : Bool) (hb : folB fr 0 l = b) (hl : l.length ≤ 100000) (w : World) (ha : RowIs w a (l.flatMap envL)) :
    Calls Tryz.prog 130 #[.slice a l.length c, .int .i64 fr] w fun e w' => e = .returned (.bool b) ∧ Below w.heap.size w w' := by
  subst hb
  have hp := Hp.start w
  have HA := Lib.hid ha
  clear ha
  go_enter Tryz.func130, Tryz.ntmps130
  go_wp2_with (first | go_skip | ((first | ((with_reducible refine pre_alloc _ rfl ?_); refine lZ hp rfl zero31 ?_; clear hp; intro b w1 hp) | ((with_reducible refine pre_box _ _ rfl ?_); refine lB hp rfl (sTm rfl) rfl ?_; clear hp; intro b w1 hp) | ((with_reducible refine pre_load _ _ rfl ?_); first | refine lO hp rfl (sTm rfl) ceVAa0 aa5 ?_ | refine lA hp rfl (sTm rfl) (by with_reducible first | exact agg31 | exact agg24) aa5 ?_ | refine lR hp rfl (sTm rfl) (by with_reducible first | exact agg31 | exact agg24) HX.out ?_) | ((with_reducible refine pre_store _ _ _ rfl ?_); (first | refine sO hp rfl (sTm rfl) ceVAa0 aa5 ?_ | refine sA hp rfl (sTm rfl) (sTm rfl) (by with_reducible first | exact agg31 | exact agg24) aa5 ?_ | refine sG hp rfl (sTm rfl) (sTm rfl) (by with_reducible first | exact agg31 | exact agg24) aa5 ?_); clear hp; intro w1 hp; simp only [spl, zSet, sSet] at hp)); simp only [put_some, put_none, sSet, zSet]))
  go_loopg [9] l.length (fun k i wr => ∃ q : Nat, k + q = l.length ∧ i = .int .i64 q ∧ RowKit.Hid (folB fr 0 l = folB fr q (l.drop q)) ∧ Hp w.heap.size w wr [])
  case atStart => exact ⟨0, by omega, rfl, Lib.hid rfl, hp⟩
  case round =>
    clear hp
    obtain ⟨q, hkq, rfl, HF, hp⟩ := hrel
    by_cases hlt : q < l.length
    · obtain ⟨bq, off, rfl, hx⟩ := HA.out.elems 11 envL_len11 (by omega) (by omega)
      have hj := List.getElem?_eq_getElem hlt
      replace hx := hx q _ hj
      have hd := List.drop_eq_getElem_cons hlt
      clear hj
      generalize l[q] = en at hx hd
      obtain ⟨nu, vi, cl, sq, ⟨kk, hh, ii, nn, cc, vv, tt⟩⟩ := en
      simp only [envL, opL, List.cons_append, List.nil_append] at hx
      have HX := Lib.hid hx
      have HF2 : RowKit.Hid (folB fr 0 l = (decide (wrap64 (wrap64 (nu - 1) - (q : Int)) = fr) && folB fr (q + 1) (l.drop (q + 1)))) := Lib.hid (by rw [HF.out, hd]; rfl)
      have f1 : (0 : Int) ≤ (q : Int) := by omega
      have f2 : (q : Int) < (l.length : Int) := by omega
      clear hx hd HF
      by_cases heq : wrap64 (wrap64 (nu - 1) - (q : Int)) = fr
      · have e3 : (wrap64 (wrap64 (nu - 1) - (q : Int)) == fr) = true := by simpa using heq
        have HE := Lib.hid heq
        clear heq
        go_wp2_with (first | go_skip | ((first | ((with_reducible refine pre_alloc _ rfl ?_); refine lZ hp rfl zero31 ?_; clear hp; intro b w1 hp) | ((with_reducible refine pre_box _ _ rfl ?_); refine lB hp rfl (sTm rfl) rfl ?_; clear hp; intro b w1 hp) | ((with_reducible refine pre_load _ _ rfl ?_); first | refine lO hp rfl (sTm rfl) ceVAa0 aa5 ?_ | refine lA hp rfl (sTm rfl) (by with_reducible first | exact agg31 | exact agg24) aa5 ?_ | refine lR hp rfl (sTm rfl) (by with_reducible first | exact agg31 | exact agg24) HX.out ?_) | ((with_reducible refine pre_store _ _ _ rfl ?_); (first | refine sO hp rfl (sTm rfl) ceVAa0 aa5 ?_ | refine sA hp rfl (sTm rfl) (sTm rfl) (by with_reducible first | exact agg31 | exact agg24) aa5 ?_ | refine sG hp rfl (sTm rfl) (sTm rfl) (by with_reducible first | exact agg31 | exact agg24) aa5 ?_); clear hp; intro w1 hp; simp only [spl, zSet, sSet] at hp)); simp only [put_some, put_none, sSet, zSet]))
        go_roundg (gk - 1)
        case measure => omega
        case rel => exact ⟨q + 1, by omega, by go_num, Lib.hid (by rw [HF2.out, HE.out]; simp), hp.tail⟩
      · have e3 : (wrap64 (wrap64 (nu - 1) - (q : Int)) == fr) = false := by simpa using heq
        have HE := Lib.hid heq
        clear heq
        go_wp2_with (first | go_skip | ((first | ((with_reducible refine pre_alloc _ rfl ?_); refine lZ hp rfl zero31 ?_; clear hp; intro b w1 hp) | ((with_reducible refine pre_box _ _ rfl ?_); refine lB hp rfl (sTm rfl) rfl ?_; clear hp; intro b w1 hp) | ((with_reducible refine pre_load _ _ rfl ?_); first | refine lO hp rfl (sTm rfl) ceVAa0 aa5 ?_ | refine lA hp rfl (sTm rfl) (by with_reducible first | exact agg31 | exact agg24) aa5 ?_ | refine lR hp rfl (sTm rfl) (by with_reducible first | exact agg31 | exact agg24) HX.out ?_) | ((with_reducible refine pre_store _ _ _ rfl ?_); (first | refine sO hp rfl (sTm rfl) ceVAa0 aa5 ?_ | refine sA hp rfl (sTm rfl) (sTm rfl) (by with_reducible first | exact agg31 | exact agg24) aa5 ?_ | refine sG hp rfl (sTm rfl) (sTm rfl) (by with_reducible first | exact agg31 | exact agg24) aa5 ?_); clear hp; intro w1 hp; simp only [spl, zSet, sSet] at hp)); simp only [put_some, put_none, sSet, zSet]))
        go_ret
        refine ⟨?_, hp.below⟩
        rw [HF2.out, decide_eq_false HE.out]; rfl
    · obtain rfl : q = l.length := by omega
      have e2 : decide ((l.length : Int) < (l.length : Int)) = false := by simp
      clear hkq hlt
      go_wp2_with (first | go_skip | ((first | ((with_reducible refine pre_alloc _ rfl ?_); refine lZ hp rfl zero31 ?_; clear hp; intro b w1 hp) | ((with_reducible refine pre_box _ _ rfl ?_); refine lB hp rfl (sTm rfl) rfl ?_; clear hp; intro b w1 hp) | ((with_reducible refine pre_load _ _ rfl ?_); first | refine lO hp rfl (sTm rfl) ceVAa0 aa5 ?_ | refine lA hp rfl (sTm rfl) (by with_reducible first | exact agg31 | exact agg24) aa5 ?_ | refine lR hp rfl (sTm rfl) (by with_reducible first | exact agg31 | exact agg24) HX.out ?_) | ((with_reducible refine pre_store _ _ _ rfl ?_); (first | refine sO hp rfl (sTm rfl) ceVAa0 aa5 ?_ | refine sA hp rfl (sTm rfl) (sTm rfl) (by with_reducible first | exact agg31 | exact agg24) aa5 ?_ | refine sG hp rfl (sTm rfl) (sTm rfl) (by with_reducible first | exact agg31 | exact agg24) aa5 ?_); clear hp; intro w1 hp; simp only [spl, zSet, sSet] at hp)); simp only [put_some, put_none, sSet, zSet]))
      go_ret
      refine ⟨?_, hp.below⟩
      rw [HF.out, List.drop_length]; rfl
def JoinPost (w : World) (b : Bool) (l : List Env) (e : Ending) (w' : World) : Prop := ∃ (v : Value) (R : List Blk), e = .returned (.tuple #[v, .bool b]) ∧ OwnRow 33 17 v l.length (l.flatMap recL) R ∧ Hp w.heap.size w w' R
theorem join_none {w w' : World} (hb : Below w.heap.size w w') : JoinPost w false [] (.returned (.tuple #[.slice none 0 0, .bool false])) w' := ⟨_, [], rfl, OwnRow.nil _ _, (Hp.start w).call hb⟩
set_option maxRecDepth 100000 in
set_option maxHeartbeats 8000000 in
theorem join55_no (vw nm bs : Int) (im : ByteArray) (ea : Option Addr) (es : List Env) (ec : Nat) (n : Int) (la : Option Addr) (l : List Env) (lc : Nat) (hs : Kv.Small ⟨vw, nm, bs, im, ea, es, ec⟩) (hl : l.length ≤ 100000) (w : World) (ha : RowIs w ea (es.flatMap envL)) (hla : RowIs w la (l.flatMap envL)) (h : joinB ⟨vw, nm, bs, im, ea, es, ec⟩ n l = false) : Calls Tryz.prog 55 #[.agg #[.int .i64 vw, .int .i64 nm, .int .i64 bs, .string im, .slice ea es.length ec], .int .i64 n, .slice la l.length lc] w (JoinPost w false []) := by
  have hp := Hp.start w; have HSS := Lib.hid hs; have HA := Lib.hid ha; have HLA := Lib.hid hla; have HL := Lib.hid hl; clear hs ha hla
  cases hb : okC ⟨vw, nm, bs, im, ea, es, ec⟩ with
  | false =>
    have HB := Lib.hid hb
    clear h hb hl
    go_enter Tryz.func55, Tryz.ntmps55
    go_wp2_with (first | (go_at_call 64; (with_reducible refine (check64L vw nm bs im ea es ec _ HB.out HSS.out _ (HA.out.below hp.below)).mono ?_); rintro e w1 ⟨rfl, hb⟩; replace hp := hp.call hb; clear hb; simp only [if_true, Bool.false_eq_true, if_false]) | (go_at_call 18; (with_reducible refine (last18L vw nm bs im ea es ec _ HB.out HSS.out _ (HA.out.below hp.below)).mono ?_); rintro e w1 ⟨rfl, hb⟩; replace hp := hp.call hb; clear hb; simp only [if_true, Bool.false_eq_true, if_false]) | go_skip | ((first | ((with_reducible refine pre_alloc _ rfl ?_); refine lZ hp rfl zero31 ?_; clear hp; intro b w1 hp) | ((with_reducible refine pre_box _ _ rfl ?_); refine lB hp rfl (sTm rfl) rfl ?_; clear hp; intro b w1 hp) | ((with_reducible refine pre_load _ _ rfl ?_); first | refine lO hp rfl (sTm rfl) (by with_reducible first | exact cell3 | exact cell4 | exact cell22 | exact cell87 | exact cell37 | exact cell26) aa5 ?_ | refine lA hp rfl (sTm rfl) (by with_reducible first | exact agg31 | exact agg24) aa5 ?_ | refine lR hp rfl (sTm rfl) (by with_reducible first | exact agg31 | exact agg24) HX.out ?_) | ((with_reducible refine pre_store _ _ _ rfl ?_); (first | refine sO hp rfl (sTm rfl) (by with_reducible first | exact cell3 | exact cell4 | exact cell22 | exact cell87 | exact cell37 | exact cell26) aa5 ?_ | refine sA hp rfl (sTm rfl) (sTm rfl) (by with_reducible first | exact agg31 | exact agg24) aa5 ?_ | refine sG hp rfl (sTm rfl) (sTm rfl) (by with_reducible first | exact agg31 | exact agg24) aa5 ?_); clear hp; intro w1 hp; simp only [spl, zSet, sSet] at hp) | ((with_reducible refine pre_build _ _ _ rfl ?_); refine lS hp rfl (by intro w; go_simp; rfl) ?_; clear hp; intro b w1 hp; simp only [List.length_cons, List.length_nil, Nat.reduceAdd] at hp)); simp only [put_some, put_none, sSet, zSet]))
    exact bodyPost_ret (results_many (rs := [.tmp 6, .tmp 7]) Tryz.results55 (.tmp rfl (.tmp rfl .nil))) rfl (join_none hp.below)
  | true =>
    have hf := ok_facts hb
    simp only at hf
    have HB := Lib.hid hb
    have e1 : wrap64 (bs + es.length) = bs + es.length := by unfold wrap64; omega
    have h0 : (decide (0 ≤ n) && (decide (n ≤ lastK ⟨vw, nm, bs, im, ea, es, ec⟩) && folB n 0 l)) = false := by unfold joinB at h; rw [hb, Bool.true_and] at h; exact h
    have e4 : lastK ⟨vw, nm, bs, im, ea, es, ec⟩ = bs + es.length := rfl
    rw [e4] at h0
    clear h hb hl hf e4
    by_cases h1 : n < 0
    · have e2 : decide (n < 0) = true := by simpa using h1
      clear h0
      go_enter Tryz.func55, Tryz.ntmps55
      go_wp2_with (first | (go_at_call 64; (with_reducible refine (check64L vw nm bs im ea es ec _ HB.out HSS.out _ (HA.out.below hp.below)).mono ?_); rintro e w1 ⟨rfl, hb⟩; replace hp := hp.call hb; clear hb; simp only [if_true, Bool.false_eq_true, if_false]) | (go_at_call 18; (with_reducible refine (last18L vw nm bs im ea es ec _ HB.out HSS.out _ (HA.out.below hp.below)).mono ?_); rintro e w1 ⟨rfl, hb⟩; replace hp := hp.call hb; clear hb; simp only [if_true, Bool.false_eq_true, if_false]) | go_skip | ((first | ((with_reducible refine pre_alloc _ rfl ?_); refine lZ hp rfl zero31 ?_; clear hp; intro b w1 hp) | ((with_reducible refine pre_box _ _ rfl ?_); refine lB hp rfl (sTm rfl) rfl ?_; clear hp; intro b w1 hp) | ((with_reducible refine pre_load _ _ rfl ?_); first | refine lO hp rfl (sTm rfl) (by with_reducible first | exact cell3 | exact cell4 | exact cell22 | exact cell87 | exact cell37 | exact cell26) aa5 ?_ | refine lA hp rfl (sTm rfl) (by with_reducible first | exact agg31 | exact agg24) aa5 ?_ | refine lR hp rfl (sTm rfl) (by with_reducible first | exact agg31 | exact agg24) HX.out ?_) | ((with_reducible refine pre_store _ _ _ rfl ?_); (first | refine sO hp rfl (sTm rfl) (by with_reducible first | exact cell3 | exact cell4 | exact cell22 | exact cell87 | exact cell37 | exact cell26) aa5 ?_ | refine sA hp rfl (sTm rfl) (sTm rfl) (by with_reducible first | exact agg31 | exact agg24) aa5 ?_ | refine sG hp rfl (sTm rfl) (sTm rfl) (by with_reducible first | exact agg31 | exact agg24) aa5 ?_); clear hp; intro w1 hp; simp only [spl, zSet, sSet] at hp) | ((with_reducible refine pre_build _ _ _ rfl ?_); refine lS hp rfl (by intro w; go_simp; rfl) ?_; clear hp; intro b w1 hp; simp only [List.length_cons, List.length_nil, Nat.reduceAdd] at hp)); simp only [put_some, put_none, sSet, zSet]))
      exact bodyPost_ret (results_many (rs := [.tmp 6, .tmp 7]) Tryz.results55 (.tmp rfl (.tmp rfl .nil))) rfl (join_none hp.below)
    · have e2 : decide (n < 0) = false := by simpa using h1
      by_cases h2 : bs + es.length < n
      · have e3 : decide (bs + (es.length : Int) < n) = true := by simpa using h2
        clear h0
        go_enter Tryz.func55, Tryz.ntmps55
        go_wp2_with (first | (go_at_call 64; (with_reducible refine (check64L vw nm bs im ea es ec _ HB.out HSS.out _ (HA.out.below hp.below)).mono ?_); rintro e w1 ⟨rfl, hb⟩; replace hp := hp.call hb; clear hb; simp only [if_true, Bool.false_eq_true, if_false]) | (go_at_call 18; (with_reducible refine (last18L vw nm bs im ea es ec _ HB.out HSS.out _ (HA.out.below hp.below)).mono ?_); rintro e w1 ⟨rfl, hb⟩; replace hp := hp.call hb; clear hb; simp only [if_true, Bool.false_eq_true, if_false]) | go_skip | ((first | ((with_reducible refine pre_alloc _ rfl ?_); refine lZ hp rfl zero31 ?_; clear hp; intro b w1 hp) | ((with_reducible refine pre_box _ _ rfl ?_); refine lB hp rfl (sTm rfl) rfl ?_; clear hp; intro b w1 hp) | ((with_reducible refine pre_load _ _ rfl ?_); first | refine lO hp rfl (sTm rfl) (by with_reducible first | exact cell3 | exact cell4 | exact cell22 | exact cell87 | exact cell37 | exact cell26) aa5 ?_ | refine lA hp rfl (sTm rfl) (by with_reducible first | exact agg31 | exact agg24) aa5 ?_ | refine lR hp rfl (sTm rfl) (by with_reducible first | exact agg31 | exact agg24) HX.out ?_) | ((with_reducible refine pre_store _ _ _ rfl ?_); (first | refine sO hp rfl (sTm rfl) (by with_reducible first | exact cell3 | exact cell4 | exact cell22 | exact cell87 | exact cell37 | exact cell26) aa5 ?_ | refine sA hp rfl (sTm rfl) (sTm rfl) (by with_reducible first | exact agg31 | exact agg24) aa5 ?_ | refine sG hp rfl (sTm rfl) (sTm rfl) (by with_reducible first | exact agg31 | exact agg24) aa5 ?_); clear hp; intro w1 hp; simp only [spl, zSet, sSet] at hp) | ((with_reducible refine pre_build _ _ _ rfl ?_); refine lS hp rfl (by intro w; go_simp; rfl) ?_; clear hp; intro b w1 hp; simp only [List.length_cons, List.length_nil, Nat.reduceAdd] at hp)); simp only [put_some, put_none, sSet, zSet]))
        exact bodyPost_ret (results_many (rs := [.tmp 6, .tmp 7]) Tryz.results55 (.tmp rfl (.tmp rfl .nil))) rfl (join_none hp.below)
      · have e3 : decide (bs + (es.length : Int) < n) = false := by simpa using h2
        have HF : RowKit.Hid (folB n 0 l = false) := Lib.hid (by rw [decide_eq_true (show 0 ≤ n by omega), decide_eq_true (show n ≤ bs + (es.length : Int) by omega)] at h0; exact h0)
        clear h0
        go_enter Tryz.func55, Tryz.ntmps55
        go_wp2_with (first | (go_at_call 64; (with_reducible refine (check64L vw nm bs im ea es ec _ HB.out HSS.out _ (HA.out.below hp.below)).mono ?_); rintro e w1 ⟨rfl, hb⟩; replace hp := hp.call hb; clear hb; simp only [if_true, Bool.false_eq_true, if_false]) | (go_at_call 18; (with_reducible refine (last18L vw nm bs im ea es ec _ HB.out HSS.out _ (HA.out.below hp.below)).mono ?_); rintro e w1 ⟨rfl, hb⟩; replace hp := hp.call hb; clear hb; simp only [if_true, Bool.false_eq_true, if_false]) | (go_at_call 130; (with_reducible refine (row130 l n la lc _ HF.out HL.out _ (HLA.out.below hp.below)).mono ?_); rintro e w1 ⟨rfl, hb⟩; replace hp := hp.call hb; clear hb) | go_skip | ((first | ((with_reducible refine pre_alloc _ rfl ?_); refine lZ hp rfl zero31 ?_; clear hp; intro b w1 hp) | ((with_reducible refine pre_box _ _ rfl ?_); refine lB hp rfl (sTm rfl) rfl ?_; clear hp; intro b w1 hp) | ((with_reducible refine pre_load _ _ rfl ?_); first | refine lO hp rfl (sTm rfl) (by with_reducible first | exact cell3 | exact cell4 | exact cell22 | exact cell87 | exact cell37 | exact cell26) aa5 ?_ | refine lA hp rfl (sTm rfl) (by with_reducible first | exact agg31 | exact agg24) aa5 ?_ | refine lR hp rfl (sTm rfl) (by with_reducible first | exact agg31 | exact agg24) HX.out ?_) | ((with_reducible refine pre_store _ _ _ rfl ?_); (first | refine sO hp rfl (sTm rfl) (by with_reducible first | exact cell3 | exact cell4 | exact cell22 | exact cell87 | exact cell37 | exact cell26) aa5 ?_ | refine sA hp rfl (sTm rfl) (sTm rfl) (by with_reducible first | exact agg31 | exact agg24) aa5 ?_ | refine sG hp rfl (sTm rfl) (sTm rfl) (by with_reducible first | exact agg31 | exact agg24) aa5 ?_); clear hp; intro w1 hp; simp only [spl, zSet, sSet] at hp) | ((with_reducible refine pre_build _ _ _ rfl ?_); refine lS hp rfl (by intro w; go_simp; rfl) ?_; clear hp; intro b w1 hp; simp only [List.length_cons, List.length_nil, Nat.reduceAdd] at hp)); simp only [put_some, put_none, sSet, zSet]))
        exact bodyPost_ret (results_many (rs := [.tmp 6, .tmp 7]) Tryz.results55 (.tmp rfl (.tmp rfl .nil))) rfl (join_none hp.below)
theorem grow_permJ {B : Nat} {w0 w : World} {x a : Blk} {b : Blk} {RO : List Blk} (hp : Hp B w0 w (x :: a :: b :: RO)) : Hp B w0 w (x :: ([a, b] ++ (RO ++ []))) := hp.kp
theorem joinF_snoc (x : Kv) (l : List Env) (q : Nat) (e : Env) (h : l[q]? = some e) : joinF x (l.take (q + 1)) = joinF x (l.take q) ++ (if lastK x < e.nu then [e] else []) := by
  rw [List.take_add_one, h]
  unfold joinF
  rw [List.filter_append]
  congr 1
  by_cases h1 : lastK x < e.nu
  · simp [h1]
  · simp [h1]
set_option maxRecDepth 100000 in
set_option maxHeartbeats 8000000 in
theorem join55_yes (vw nm bs : Int) (im : ByteArray) (ea : Option Addr) (es : List Env) (ec : Nat) (n : Int) (la : Option Addr) (l : List Env) (lc : Nat) (hs : Kv.Small ⟨vw, nm, bs, im, ea, es, ec⟩) (hl : l.length ≤ 100000) (w : World) (ha : RowIs w ea (es.flatMap envL)) (hla : RowIs w la (l.flatMap envL)) (h : joinB ⟨vw, nm, bs, im, ea, es, ec⟩ n l = true) : Calls Tryz.prog 55 #[.agg #[.int .i64 vw, .int .i64 nm, .int .i64 bs, .string im, .slice ea es.length ec], .int .i64 n, .slice la l.length lc] w (JoinPost w true (joinF ⟨vw, nm, bs, im, ea, es, ec⟩ l)) := by
  have hp := Hp.start w; have HSS := Lib.hid hs; have HA := Lib.hid ha; have HLA := Lib.hid hla; have HL := Lib.hid hl; clear hs ha hla
  obtain ⟨i0, hi0, hz0, hz1, hz2⟩ := info_parts info33
  obtain ⟨hb, h0, h1, h2⟩ := joinB_facts h
  have hf := ok_facts hb
  simp only at hf
  have HB := Lib.hid hb
  have e1 : wrap64 (bs + es.length) = bs + es.length := by unfold wrap64; omega
  have e4 : lastK ⟨vw, nm, bs, im, ea, es, ec⟩ = bs + es.length := rfl
  rw [e4] at h1
  have HF := Lib.hid h2
  have e2 : decide (n < 0) = false := by simp; omega
  have e3 : decide (bs + (es.length : Int) < n) = false := by simp; omega
  clear h hb hf h0 h1 h2
  go_enter Tryz.func55, Tryz.ntmps55
  go_wp2_with (first | (go_at_call 64; (with_reducible refine (check64L vw nm bs im ea es ec _ HB.out HSS.out _ (HA.out.below hp.below)).mono ?_); rintro e w1 ⟨rfl, hb⟩; replace hp := hp.call hb; clear hb; simp only [if_true, Bool.false_eq_true, if_false]) | (go_at_call 18; (with_reducible refine (last18L vw nm bs im ea es ec _ HB.out HSS.out _ (HA.out.below hp.below)).mono ?_); rintro e w1 ⟨rfl, hb⟩; replace hp := hp.call hb; clear hb; simp only [if_true, Bool.false_eq_true, if_false]) | (go_at_call 130; (with_reducible refine (row130 l n la lc _ HF.out HL.out _ (HLA.out.below hp.below)).mono ?_); rintro e w1 ⟨rfl, hb⟩; replace hp := hp.call hb; clear hb) | go_skip | ((first | ((with_reducible refine pre_alloc _ rfl ?_); refine lZ hp rfl zero31 ?_; clear hp; intro b w1 hp) | ((with_reducible refine pre_box _ _ rfl ?_); refine lB hp rfl (sTm rfl) rfl ?_; clear hp; intro b w1 hp) | ((with_reducible refine pre_load _ _ rfl ?_); first | refine lO hp rfl (sTm rfl) (by with_reducible first | exact cell3 | exact cell4 | exact cell22 | exact cell87 | exact cell37 | exact cell26) aa5 ?_ | refine lA hp rfl (sTm rfl) (by with_reducible first | exact agg31 | exact agg24) aa5 ?_ | refine lR hp rfl (sTm rfl) (by with_reducible first | exact agg31 | exact agg24) HX.out ?_) | ((with_reducible refine pre_store _ _ _ rfl ?_); (first | refine sO hp rfl (sTm rfl) (by with_reducible first | exact cell3 | exact cell4 | exact cell22 | exact cell87 | exact cell37 | exact cell26) aa5 ?_ | refine sA hp rfl (sTm rfl) (sTm rfl) (by with_reducible first | exact agg31 | exact agg24) aa5 ?_ | refine sG hp rfl (sTm rfl) (sTm rfl) (by with_reducible first | exact agg31 | exact agg24) aa5 ?_); clear hp; intro w1 hp; simp only [spl, zSet, sSet] at hp) | ((with_reducible refine pre_build _ _ _ rfl ?_); refine lS hp rfl (by intro w; go_simp; rfl) ?_; clear hp; intro b w1 hp; simp only [List.length_cons, List.length_nil, Nat.reduceAdd] at hp)); simp only [put_some, put_none, sSet, zSet]))
  obtain ⟨b3, hb3⟩ := hp.id0
  subst hb3
  clear e2 e3
  go_loopg [34, 9] l.length (fun k i v wr => ∃ (q : Nat) (RO : List Blk), k + q = l.length ∧ i = .int .i64 q ∧ RowKit.Hid (OwnRow 33 17 v (joinF ⟨vw, nm, bs, im, ea, es, ec⟩ (l.take q)).length ((joinF ⟨vw, nm, bs, im, ea, es, ec⟩ (l.take q)).flatMap recL) RO) ∧ Hp w.heap.size w wr (⟨b3, [.int .i64 vw, .int .i64 nm, .int .i64 bs, .string im, .slice ea es.length ec], 24, 5⟩ :: RO))
  case atStart => exact ⟨0, [], by omega, rfl, Lib.hid (OwnRow.nil _ _), hp⟩
  case round =>
    clear hp
    obtain ⟨q, RO, hkq, rfl, HRO, hp⟩ := hrel
    by_cases hlt : q < l.length
    · obtain ⟨bq, off, rfl, hx⟩ := HLA.out.elems 11 envL_len11 (by omega) (by omega)
      have hj := List.getElem?_eq_getElem hlt
      have hsn := joinF_snoc ⟨vw, nm, bs, im, ea, es, ec⟩ l q _ hj
      replace hx := hx q _ hj
      clear hj
      generalize l[q] = en at hx hsn
      obtain ⟨nu, vi, cl, sq, ⟨kk, hh, ii, nn, cc, vv, tt⟩⟩ := en
      simp only [envL, opL, List.cons_append, List.nil_append] at hx
      have HX := Lib.hid hx
      rw [e4] at hsn
      have hlen : (joinF ⟨vw, nm, bs, im, ea, es, ec⟩ (l.take q)).length ≤ q := by
        have := List.length_filter_le (fun e : Env => decide (lastK ⟨vw, nm, bs, im, ea, es, ec⟩ < e.nu)) (l.take q)
        rw [List.length_take] at this
        unfold joinF; omega
      have HL1 : RowKit.Hid ((joinF ⟨vw, nm, bs, im, ea, es, ec⟩ (l.take q)).length + 1 ≤ maxLen) := Lib.hid (by unfold maxLen; omega)
      have HL2 : RowKit.Hid (((joinF ⟨vw, nm, bs, im, ea, es, ec⟩ (l.take q)).length + 1) * 160 ≤ 140737488355328) := Lib.hid (by omega)
      have f1 : (0 : Int) ≤ (q : Int) := by omega
      have f2 : (q : Int) < (l.length : Int) := by omega
      clear hx hlen
      by_cases hg : bs + (es.length : Int) < nu
      · have e5 : decide (bs + (es.length : Int) < nu) = true := by simpa using hg
        have HSN : RowKit.Hid (joinF ⟨vw, nm, bs, im, ea, es, ec⟩ (l.take (q + 1)) = joinF ⟨vw, nm, bs, im, ea, es, ec⟩ (l.take q) ++ [⟨nu, vi, cl, sq, ⟨kk, hh, ii, nn, cc, vv, tt⟩⟩]) := Lib.hid (by rw [hsn]; simp only; rw [if_pos hg])
        clear hg hsn
        go_wp2_with (first | ((with_reducible refine pre_append _ _ 87 rfl ?_); refine wpList_appendGrow (K := [_, _]) (R := RO) (M := []) (grow_permJ hp) _ _ _ rfl wy i0 _ 160 Tryz.underlying87 hi0 hz0 hz1 hz2 rfl (by decide) (sTm rfl) HRO.out 1 1 (sTm rfl) (by rfl) (by decide) (by rfl) HL1.out HL2.out ?_; clear hp HRO; intro v' R' w1 hR' hp; obtain ⟨av, kv, rfl, _⟩ := hR'.kept; have HR' := Lib.hid hR'; clear hR'; simp only [List.cons_append, List.nil_append, List.append_nil] at hp; simp only [put_some, put_none, sSet, zSet]) | go_skip | ((first | ((with_reducible refine pre_alloc _ rfl ?_); refine lZ hp rfl zero31 ?_; clear hp; intro b w1 hp) | ((with_reducible refine pre_box _ _ rfl ?_); refine lB hp rfl (sTm rfl) rfl ?_; clear hp; intro b w1 hp) | ((with_reducible refine pre_load _ _ rfl ?_); first | refine lO hp rfl (sTm rfl) (by with_reducible first | exact cell3 | exact cell4 | exact cell22 | exact cell87 | exact cell37 | exact cell26) aa5 ?_ | refine lA hp rfl (sTm rfl) (by with_reducible first | exact agg31 | exact agg24) aa5 ?_ | refine lR hp rfl (sTm rfl) (by with_reducible first | exact agg31 | exact agg24) HX.out ?_) | ((with_reducible refine pre_store _ _ _ rfl ?_); (first | refine sO hp rfl (sTm rfl) (by with_reducible first | exact cell3 | exact cell4 | exact cell22 | exact cell87 | exact cell37 | exact cell26) aa5 ?_ | refine sA hp rfl (sTm rfl) (sTm rfl) (by with_reducible first | exact agg31 | exact agg24) aa5 ?_ | refine sG hp rfl (sTm rfl) (sTm rfl) (by with_reducible first | exact agg31 | exact agg24) aa5 ?_); clear hp; intro w1 hp; simp only [spl, zSet, sSet] at hp) | ((with_reducible refine pre_build _ _ _ rfl ?_); refine lS hp rfl (by intro w; go_simp; rfl) ?_; clear hp; intro b w1 hp; simp only [List.length_cons, List.length_nil, Nat.reduceAdd] at hp)); simp only [put_some, put_none, sSet, zSet]))
        go_roundg (gk - 1)
        case measure => omega
        case rel => exact ⟨q + 1, R', by omega, by go_num, Lib.hid (by rw [HSN.out, List.length_append, List.flatMap_append]; exact HR'.out), by skip; exact hp.tail.kp⟩
      · have e5 : decide (bs + (es.length : Int) < nu) = false := by simpa using hg
        have HSN : RowKit.Hid (joinF ⟨vw, nm, bs, im, ea, es, ec⟩ (l.take (q + 1)) = joinF ⟨vw, nm, bs, im, ea, es, ec⟩ (l.take q)) := Lib.hid (by rw [hsn]; simp only; rw [if_neg hg, List.append_nil])
        clear hg hsn
        go_wp2_with (first | go_skip | ((first | ((with_reducible refine pre_alloc _ rfl ?_); refine lZ hp rfl zero31 ?_; clear hp; intro b w1 hp) | ((with_reducible refine pre_box _ _ rfl ?_); refine lB hp rfl (sTm rfl) rfl ?_; clear hp; intro b w1 hp) | ((with_reducible refine pre_load _ _ rfl ?_); first | refine lO hp rfl (sTm rfl) (by with_reducible first | exact cell3 | exact cell4 | exact cell22 | exact cell87 | exact cell37 | exact cell26) aa5 ?_ | refine lA hp rfl (sTm rfl) (by with_reducible first | exact agg31 | exact agg24) aa5 ?_ | refine lR hp rfl (sTm rfl) (by with_reducible first | exact agg31 | exact agg24) HX.out ?_) | ((with_reducible refine pre_store _ _ _ rfl ?_); (first | refine sO hp rfl (sTm rfl) (by with_reducible first | exact cell3 | exact cell4 | exact cell22 | exact cell87 | exact cell37 | exact cell26) aa5 ?_ | refine sA hp rfl (sTm rfl) (sTm rfl) (by with_reducible first | exact agg31 | exact agg24) aa5 ?_ | refine sG hp rfl (sTm rfl) (sTm rfl) (by with_reducible first | exact agg31 | exact agg24) aa5 ?_); clear hp; intro w1 hp; simp only [spl, zSet, sSet] at hp) | ((with_reducible refine pre_build _ _ _ rfl ?_); refine lS hp rfl (by intro w; go_simp; rfl) ?_; clear hp; intro b w1 hp; simp only [List.length_cons, List.length_nil, Nat.reduceAdd] at hp)); simp only [put_some, put_none, sSet, zSet]))
        go_roundg (gk - 1)
        case measure => omega
        case rel => exact ⟨q + 1, RO, by omega, by go_num, Lib.hid (by rw [HSN.out]; exact HRO.out), hp.tail⟩
    · obtain rfl : q = l.length := by omega
      have e5 : decide ((l.length : Int) < (l.length : Int)) = false := by simp
      have hro := HRO.out
      rw [List.take_length] at hro
      have HRO2 := Lib.hid hro
      clear hkq hlt HRO hro
      go_wp2_with (first | go_skip | ((first | ((with_reducible refine pre_alloc _ rfl ?_); refine lZ hp rfl zero31 ?_; clear hp; intro b w1 hp) | ((with_reducible refine pre_box _ _ rfl ?_); refine lB hp rfl (sTm rfl) rfl ?_; clear hp; intro b w1 hp) | ((with_reducible refine pre_load _ _ rfl ?_); first | refine lO hp rfl (sTm rfl) (by with_reducible first | exact cell3 | exact cell4 | exact cell22 | exact cell87 | exact cell37 | exact cell26) aa5 ?_ | refine lA hp rfl (sTm rfl) (by with_reducible first | exact agg31 | exact agg24) aa5 ?_ | refine lR hp rfl (sTm rfl) (by with_reducible first | exact agg31 | exact agg24) HX.out ?_) | ((with_reducible refine pre_store _ _ _ rfl ?_); (first | refine sO hp rfl (sTm rfl) (by with_reducible first | exact cell3 | exact cell4 | exact cell22 | exact cell87 | exact cell37 | exact cell26) aa5 ?_ | refine sA hp rfl (sTm rfl) (sTm rfl) (by with_reducible first | exact agg31 | exact agg24) aa5 ?_ | refine sG hp rfl (sTm rfl) (sTm rfl) (by with_reducible first | exact agg31 | exact agg24) aa5 ?_); clear hp; intro w1 hp; simp only [spl, zSet, sSet] at hp) | ((with_reducible refine pre_build _ _ _ rfl ?_); refine lS hp rfl (by intro w; go_simp; rfl) ?_; clear hp; intro b w1 hp; simp only [List.length_cons, List.length_nil, Nat.reduceAdd] at hp)); simp only [put_some, put_none, sSet, zSet]))
      exact bodyPost_ret (results_many (rs := [.tmp 6, .tmp 7]) Tryz.results55 (.tmp rfl (.tmp rfl .nil))) rfl ⟨_, RO, rfl, HRO2.out, hp.tail⟩
theorem join55L (vw nm bs : Int) (im : ByteArray) (ea : Option Addr) (es : List Env) (ec : Nat) (n : Int) (la : Option Addr) (l : List Env) (lc : Nat) (hs : Kv.Small ⟨vw, nm, bs, im, ea, es, ec⟩) (hl : l.length ≤ 100000) (w : World) (ha : RowIs w ea (es.flatMap envL)) (hla : RowIs w la (l.flatMap envL)) (b : Bool) (f : List Env) (hb : joinB ⟨vw, nm, bs, im, ea, es, ec⟩ n l = b) (hf : (if b = true then joinF ⟨vw, nm, bs, im, ea, es, ec⟩ l else []) = f) : Calls Tryz.prog 55 #[.agg #[.int .i64 vw, .int .i64 nm, .int .i64 bs, .string im, .slice ea es.length ec], .int .i64 n, .slice la l.length lc] w (JoinPost w b f) := by
  subst hf
  cases b
  · exact join55_no vw nm bs im ea es ec n la l lc hs hl w ha hla hb
  · exact join55_yes vw nm bs im ea es ec n la l lc hs hl w ha hla hb
end Go.Proofs.YtaafajaadfgaoaaGreat
/- The walk of the examples of Execute. -/
namespace Go.Proofs.YtaafajaadfgaoaaGreat
open Go.RowKit
theorem kept_3 (w : World) : Calls Tryz.prog 132 #[.int .i64 3] w (KeptP w 3) := kept132 3 (by decide) w
end Go.Proofs.YtaafajaadfgaoaaGreat
