/- Parts of the proof. -/
import Derived.Test.YtaafajaadfgaoaaGreatPk43
import Derived.Test.YtaafajaadfgaoaaGreatPk46
open List renaming set_cons_zero → zSet, set_cons_succ → sSet
/- The walks of the document's Join and Known; the walk of the law PrepareJoins. -/
set_option linter.unusedSimpArgs false
set_option linter.unusedVariables false
namespace Go.Proofs.YtaafajaadfgaoaaGreat
open Go.RowKit
theorem ceQRc0 {ty : TypeId} (h : cellB Tryz.prog ty = true := by with_reducible first | exact cell3 | exact cell4 | exact cell22 | exact cell87 | exact cell37 | exact cell26) : cellB Tryz.prog ty = true := h
theorem ceQRc1 {ty : TypeId} (h : cellB Tryz.prog ty = true := by with_reducible first | exact cell3 | exact cell4 | exact cell22) : cellB Tryz.prog ty = true := h
theorem ceQRc2 {ty : TypeId} (h : cellB Tryz.prog ty = true := by with_reducible first | exact cell3 | exact cell4 | exact cell87) : cellB Tryz.prog ty = true := h
set_option maxRecDepth 100000 in
set_option maxHeartbeats 8000000 in
theorem rjoin56_no (vw nm bs : Int) (im : ByteArray) (ea : Option Addr) (es : List Env) (ec : Nat) (n : Int) (la : Option Addr) (l : List Env) (lc : Nat) (hs : Kv.Small ⟨vw, nm, bs, im, ea, es, ec⟩) (hl : l.length ≤ 100000) (w : World) (ha : RowIs w ea (es.flatMap envL)) (hla : RowIs w la (l.flatMap envL)) (h : joinB ⟨vw, nm, bs, im, ea, es, ec⟩ n l = false) : Calls Tryz.prog 56 #[.agg #[.int .i64 vw, .int .i64 nm, .int .i64 bs, .string im, .slice ea es.length ec], .int .i64 n, .slice la l.length lc] w (JoinPost w false []) := by
  have hp := Hp.start w; have HSS := Lib.hid hs; have HA := Lib.hid ha; have HLA := Lib.hid hla; have HL := Lib.hid hl; clear hs ha hla
  cases hb : okC ⟨vw, nm, bs, im, ea, es, ec⟩ with
  | false =>
    have HB := Lib.hid hb
    clear hb h
    go_enter Tryz.func56, Tryz.ntmps56
    go_wp2_with (first | (go_at_call 92; (with_reducible refine (right1592L vw nm bs im _ es ec _ HB.out HSS.out _ (HA.out.below hp.below)).mono ?_); rintro e w1 ⟨rfl, hb⟩; replace hp := hp.call hb; clear hb) | go_skip | ((first | ((with_reducible refine pre_alloc _ rfl ?_); refine lZ hp rfl zero31 ?_; clear hp; intro b w1 hp) | ((with_reducible refine pre_box _ _ rfl ?_); refine lB hp rfl (sTm rfl) rfl ?_; clear hp; intro b w1 hp) | ((with_reducible refine pre_load _ _ rfl ?_); first | refine lO hp rfl (sTm rfl) ceQRc0 aa5 ?_ | refine lA hp rfl (sTm rfl) (by with_reducible first | exact agg31 | exact agg24) aa5 ?_) | ((with_reducible refine pre_store _ _ _ rfl ?_); (first | refine sO hp rfl (sTm rfl) ceQRc0 aa5 ?_ | refine sA hp rfl (sTm rfl) (sTm rfl) (by with_reducible first | exact agg31 | exact agg24) aa5 ?_ | refine sG hp rfl (sTm rfl) (sTm rfl) (by with_reducible first | exact agg31 | exact agg24) aa5 ?_); clear hp; intro w1 hp; simp only [spl, zSet, sSet] at hp) | ((with_reducible refine pre_build _ _ _ rfl ?_); refine lS hp rfl (by intro w; go_simp; rfl) ?_; clear hp; intro b w1 hp; simp only [List.length_cons, List.length_nil, Nat.reduceAdd] at hp)); simp only [put_some, put_none, sSet, zSet]))
    exact bodyPost_ret (results_many (rs := [.tmp 6, .tmp 7]) Tryz.results56 (.tmp rfl (.tmp rfl .nil))) rfl (join_none hp.below)
  | true =>
    have HB := Lib.hid hb
    have hf := ok_facts hb
    simp only at hf
    have HW : RowKit.Hid (wrap64 (bs + (es.length : Int)) = bs + es.length) := Lib.hid (by unfold wrap64; omega)
    by_cases h1 : n < 0
    · have e1 : decide (n < 0) = true := decide_eq_true h1
      clear hb h hf
      go_enter Tryz.func56, Tryz.ntmps56
      go_wp2_with (first | (go_at_call 92; (with_reducible refine (right1592L vw nm bs im _ es ec _ HB.out HSS.out _ (HA.out.below hp.below)).mono ?_); rintro e w1 ⟨rfl, hb⟩; replace hp := hp.call hb; clear hb) | go_skip | ((first | ((with_reducible refine pre_alloc _ rfl ?_); refine lZ hp rfl zero31 ?_; clear hp; intro b w1 hp) | ((with_reducible refine pre_box _ _ rfl ?_); refine lB hp rfl (sTm rfl) rfl ?_; clear hp; intro b w1 hp) | ((with_reducible refine pre_load _ _ rfl ?_); first | refine lO hp rfl (sTm rfl) ceQRc0 aa5 ?_ | refine lA hp rfl (sTm rfl) (by with_reducible first | exact agg31 | exact agg24) aa5 ?_) | ((with_reducible refine pre_store _ _ _ rfl ?_); (first | refine sO hp rfl (sTm rfl) ceQRc0 aa5 ?_ | refine sA hp rfl (sTm rfl) (sTm rfl) (by with_reducible first | exact agg31 | exact agg24) aa5 ?_ | refine sG hp rfl (sTm rfl) (sTm rfl) (by with_reducible first | exact agg31 | exact agg24) aa5 ?_); clear hp; intro w1 hp; simp only [spl, zSet, sSet] at hp) | ((with_reducible refine pre_build _ _ _ rfl ?_); refine lS hp rfl (by intro w; go_simp; rfl) ?_; clear hp; intro b w1 hp; simp only [List.length_cons, List.length_nil, Nat.reduceAdd] at hp)); simp only [put_some, put_none, sSet, zSet]))
      exact bodyPost_ret (results_many (rs := [.tmp 6, .tmp 7]) Tryz.results56 (.tmp rfl (.tmp rfl .nil))) rfl (join_none hp.below)
    · have e1 : decide (n < 0) = false := decide_eq_false h1
      by_cases h2 : bs + (es.length : Int) < n
      · have e2 : decide (bs + (es.length : Int) < n) = true := decide_eq_true h2
        clear hb h hf
        go_enter Tryz.func56, Tryz.ntmps56
        go_wp2_with (first | (go_at_call 92; (with_reducible refine (right1592L vw nm bs im _ es ec _ HB.out HSS.out _ (HA.out.below hp.below)).mono ?_); rintro e w1 ⟨rfl, hb⟩; replace hp := hp.call hb; clear hb) | (go_at_call 93; (with_reducible refine (last15_lit vw nm bs im _ _ _ _ HW.out _).mono ?_); rintro e w1 ⟨rfl, hb⟩; replace hp := hp.call hb; clear hb) | go_skip | ((first | ((with_reducible refine pre_alloc _ rfl ?_); refine lZ hp rfl zero31 ?_; clear hp; intro b w1 hp) | ((with_reducible refine pre_box _ _ rfl ?_); refine lB hp rfl (sTm rfl) rfl ?_; clear hp; intro b w1 hp) | ((with_reducible refine pre_load _ _ rfl ?_); first | refine lO hp rfl (sTm rfl) ceQRc0 aa5 ?_ | refine lA hp rfl (sTm rfl) (by with_reducible first | exact agg31 | exact agg24) aa5 ?_) | ((with_reducible refine pre_store _ _ _ rfl ?_); (first | refine sO hp rfl (sTm rfl) ceQRc0 aa5 ?_ | refine sA hp rfl (sTm rfl) (sTm rfl) (by with_reducible first | exact agg31 | exact agg24) aa5 ?_ | refine sG hp rfl (sTm rfl) (sTm rfl) (by with_reducible first | exact agg31 | exact agg24) aa5 ?_); clear hp; intro w1 hp; simp only [spl, zSet, sSet] at hp) | ((with_reducible refine pre_build _ _ _ rfl ?_); refine lS hp rfl (by intro w; go_simp; rfl) ?_; clear hp; intro b w1 hp; simp only [List.length_cons, List.length_nil, Nat.reduceAdd] at hp)); simp only [put_some, put_none, sSet, zSet]))
        exact bodyPost_ret (results_many (rs := [.tmp 6, .tmp 7]) Tryz.results56 (.tmp rfl (.tmp rfl .nil))) rfl (join_none hp.below)
      · have e2 : decide (bs + (es.length : Int) < n) = false := decide_eq_false h2
        have h3 : folB n 0 l = false := by
          unfold joinB at h
          rw [hb] at h
          have g1 : decide (0 ≤ n) = true := by simp; omega
          have g2 : decide (n ≤ lastK ⟨vw, nm, bs, im, ea, es, ec⟩) = true := by unfold lastK; simp; omega
          rw [g1, g2] at h
          simpa using h
        have HF := Lib.hid h3
        clear hb h hf h3
        go_enter Tryz.func56, Tryz.ntmps56
        go_wp2_with (first | (go_at_call 92; (with_reducible refine (right1592L vw nm bs im _ es ec _ HB.out HSS.out _ (HA.out.below hp.below)).mono ?_); rintro e w1 ⟨rfl, hb⟩; replace hp := hp.call hb; clear hb) | (go_at_call 93; (with_reducible refine (last15_lit vw nm bs im _ _ _ _ HW.out _).mono ?_); rintro e w1 ⟨rfl, hb⟩; replace hp := hp.call hb; clear hb) | (go_at_call 131; (with_reducible refine (rrow16131 l n la lc _ HF.out HL.out _ (HLA.out.below hp.below)).mono ?_); rintro e w1 ⟨rfl, hb⟩; replace hp := hp.call hb; clear hb) | go_skip | ((first | ((with_reducible refine pre_alloc _ rfl ?_); refine lZ hp rfl zero31 ?_; clear hp; intro b w1 hp) | ((with_reducible refine pre_box _ _ rfl ?_); refine lB hp rfl (sTm rfl) rfl ?_; clear hp; intro b w1 hp) | ((with_reducible refine pre_load _ _ rfl ?_); first | refine lO hp rfl (sTm rfl) ceQRc0 aa5 ?_ | refine lA hp rfl (sTm rfl) (by with_reducible first | exact agg31 | exact agg24) aa5 ?_) | ((with_reducible refine pre_store _ _ _ rfl ?_); (first | refine sO hp rfl (sTm rfl) ceQRc0 aa5 ?_ | refine sA hp rfl (sTm rfl) (sTm rfl) (by with_reducible first | exact agg31 | exact agg24) aa5 ?_ | refine sG hp rfl (sTm rfl) (sTm rfl) (by with_reducible first | exact agg31 | exact agg24) aa5 ?_); clear hp; intro w1 hp; simp only [spl, zSet, sSet] at hp) | ((with_reducible refine pre_build _ _ _ rfl ?_); refine lS hp rfl (by intro w; go_simp; rfl) ?_; clear hp; intro b w1 hp; simp only [List.length_cons, List.length_nil, Nat.reduceAdd] at hp)); simp only [put_some, put_none, sSet, zSet]))
        exact bodyPost_ret (results_many (rs := [.tmp 6, .tmp 7]) Tryz.results56 (.tmp rfl (.tmp rfl .nil))) rfl (join_none hp.below)
set_option maxRecDepth 100000 in
set_option maxHeartbeats 8000000 in
theorem rjoin56_yes (vw nm bs : Int) (im : ByteArray) (ea : Option Addr) (es : List Env) (ec : Nat) (n : Int) (la : Option Addr) (l : List Env) (lc : Nat) (hs : Kv.Small ⟨vw, nm, bs, im, ea, es, ec⟩) (hl : l.length ≤ 100000) (w : World) (ha : RowIs w ea (es.flatMap envL)) (hla : RowIs w la (l.flatMap envL)) (h : joinB ⟨vw, nm, bs, im, ea, es, ec⟩ n l = true) : Calls Tryz.prog 56 #[.agg #[.int .i64 vw, .int .i64 nm, .int .i64 bs, .string im, .slice ea es.length ec], .int .i64 n, .slice la l.length lc] w (JoinPost w true (joinF ⟨vw, nm, bs, im, ea, es, ec⟩ l)) := by
  have hp := Hp.start w; have HSS := Lib.hid hs; have HA := Lib.hid ha; have HLA := Lib.hid hla; have HL := Lib.hid hl; clear hs ha hla
  obtain ⟨i0, hi0, hz0, hz1, hz2⟩ := info_parts info33
  obtain ⟨hb, h0, h1, h2⟩ := joinB_facts h
  have hf := ok_facts hb
  simp only at hf
  have HB := Lib.hid hb
  have HW : RowKit.Hid (wrap64 (bs + (es.length : Int)) = bs + es.length) := Lib.hid (by unfold wrap64; omega)
  have e4 : lastK ⟨vw, nm, bs, im, ea, es, ec⟩ = bs + es.length := rfl
  rw [e4] at h1
  have HF := Lib.hid h2
  have e2 : decide (n < 0) = false := by simp; omega
  have e3 : decide (bs + (es.length : Int) < n) = false := by simp; omega
  obtain ⟨M0, hM0⟩ : ∃ M0 : List Blk, M0 = [] := ⟨_, rfl⟩
  clear h hb hf h0 h1 h2
  go_enter Tryz.func56, Tryz.ntmps56
  go_wp2_with (first | (go_at_call 92; (with_reducible refine (right1592L vw nm bs im _ es ec _ HB.out HSS.out _ (HA.out.below hp.below)).mono ?_); rintro e w1 ⟨rfl, hb⟩; replace hp := hp.call hb; clear hb) | (go_at_call 93; (with_reducible refine (last15_lit vw nm bs im _ _ _ _ HW.out _).mono ?_); rintro e w1 ⟨rfl, hb⟩; replace hp := hp.call hb; clear hb) | (go_at_call 131; (with_reducible refine (rrow16131 l n la lc _ HF.out HL.out _ (HLA.out.below hp.below)).mono ?_); rintro e w1 ⟨rfl, hb⟩; replace hp := hp.call hb; clear hb) | go_skip | ((first | ((with_reducible refine pre_alloc _ rfl ?_); refine lZ hp rfl zero31 ?_; clear hp; intro b w1 hp) | ((with_reducible refine pre_box _ _ rfl ?_); refine lB hp rfl (sTm rfl) rfl ?_; clear hp; intro b w1 hp) | ((with_reducible refine pre_load _ _ rfl ?_); first | refine lO hp rfl (sTm rfl) ceQRc0 aa5 ?_ | refine lA hp rfl (sTm rfl) (by with_reducible first | exact agg31 | exact agg24) aa5 ?_) | ((with_reducible refine pre_store _ _ _ rfl ?_); (first | refine sO hp rfl (sTm rfl) ceQRc0 aa5 ?_ | refine sA hp rfl (sTm rfl) (sTm rfl) (by with_reducible first | exact agg31 | exact agg24) aa5 ?_ | refine sG hp rfl (sTm rfl) (sTm rfl) (by with_reducible first | exact agg31 | exact agg24) aa5 ?_); clear hp; intro w1 hp; simp only [spl, zSet, sSet] at hp) | ((with_reducible refine pre_build _ _ _ rfl ?_); refine lS hp rfl (by intro w; go_simp; rfl) ?_; clear hp; intro b w1 hp; simp only [List.length_cons, List.length_nil, Nat.reduceAdd] at hp)); simp only [put_some, put_none, sSet, zSet]))
  obtain ⟨b3, rfl⟩ := hp.id0
  clear e2 e3
  go_loopg [8, 9] l.length (fun k v i wr => ∃ (q : Nat) (RO : List Blk), k + q = l.length ∧ i = .int .i64 q ∧ RowKit.Hid (OwnRow 33 17 v (joinF ⟨vw, nm, bs, im, ea, es, ec⟩ (l.take q)).length ((joinF ⟨vw, nm, bs, im, ea, es, ec⟩ (l.take q)).flatMap recL) RO) ∧ Hp w.heap.size w wr (⟨b3, [.int .i64 vw, .int .i64 nm, .int .i64 bs, .string im, .slice ea es.length ec], 24, 5⟩ :: (RO ++ M0)))
  case atStart => exact ⟨0, [], by omega, rfl, Lib.hid (OwnRow.nil _ _), by rw [hM0]; exact hp⟩
  case round =>
    clear hp
    obtain ⟨q, RO, hkq, rfl, HRO, hp⟩ := hrel
    by_cases hlt : q < l.length
    · obtain ⟨bq, off, rfl, hx⟩ := HLA.out.elems 11 envL_len11 (by omega) (by omega)
      have hj := List.getElem?_eq_getElem hlt
      have hsn := joinF_snoc ⟨vw, nm, bs, im, ea, es, ec⟩ l q _ hj
      replace hx := hx q _ hj
      clear hj
      generalize l[q] = en at hx hsn
      obtain ⟨nu, vi, cl, sq, ⟨kk, hh, ii, nn, cc, vv, tt⟩⟩ := en
      simp only [envL, opL, List.cons_append, List.nil_append] at hx
      have HX := Lib.hid hx
      rw [e4] at hsn
      have hlen : (joinF ⟨vw, nm, bs, im, ea, es, ec⟩ (l.take q)).length ≤ q := by
        have := List.length_filter_le (fun e : Env => decide (lastK ⟨vw, nm, bs, im, ea, es, ec⟩ < e.nu)) (l.take q)
        rw [List.length_take] at this
        unfold joinF; omega
      have HL1 : RowKit.Hid ((joinF ⟨vw, nm, bs, im, ea, es, ec⟩ (l.take q)).length + 1 ≤ maxLen) := Lib.hid (by unfold maxLen; omega)
      have HL2 : RowKit.Hid (((joinF ⟨vw, nm, bs, im, ea, es, ec⟩ (l.take q)).length + 1) * 160 ≤ 140737488355328) := Lib.hid (by omega)
      have f1 : (0 : Int) ≤ (q : Int) := by omega
      have f2 : (q : Int) < (l.length : Int) := by omega
      clear hx hlen
      by_cases hg : bs + (es.length : Int) < nu
      · have e5 : decide (bs + (es.length : Int) < nu) = true := by simpa using hg
        have HSN : RowKit.Hid (joinF ⟨vw, nm, bs, im, ea, es, ec⟩ (l.take (q + 1)) = joinF ⟨vw, nm, bs, im, ea, es, ec⟩ (l.take q) ++ [⟨nu, vi, cl, sq, ⟨kk, hh, ii, nn, cc, vv, tt⟩⟩]) := Lib.hid (by rw [hsn]; simp only; rw [if_pos hg])
        clear hg hsn
        go_wp2_with (first | go_skip | ((first | ((with_reducible refine pre_alloc _ rfl ?_); refine lZ hp rfl zero31 ?_; clear hp; intro b w1 hp) | ((with_reducible refine pre_box _ _ rfl ?_); refine lB hp rfl (sTm rfl) rfl ?_; clear hp; intro b w1 hp) | ((with_reducible refine pre_load _ _ rfl ?_); first | refine lO hp rfl (sTm rfl) ceQRc0 aa5 ?_ | first | refine lRO hp rfl (sTm rfl) ceQRc0 (HX.out 0 _ rfl) ?_ | refine lA hp rfl (sTm rfl) (by with_reducible first | exact agg31 | exact agg24) aa5 ?_ | refine lR hp rfl (sTm rfl) (by with_reducible first | exact agg31 | exact agg24) HX.out ?_) | ((with_reducible refine pre_store _ _ _ rfl ?_); (first | refine sO hp rfl (sTm rfl) ceQRc0 aa5 ?_ | refine sA hp rfl (sTm rfl) (sTm rfl) (by with_reducible first | exact agg31 | exact agg24) aa5 ?_ | refine sG hp rfl (sTm rfl) (sTm rfl) (by with_reducible first | exact agg31 | exact agg24) aa5 ?_); clear hp; intro w1 hp; simp only [spl, zSet, sSet] at hp) | ((with_reducible refine pre_build _ _ _ rfl ?_); refine lS hp rfl (by intro w; go_simp; rfl) ?_; clear hp; intro b w1 hp; simp only [List.length_cons, List.length_nil, Nat.reduceAdd] at hp)); simp only [put_some, put_none, sSet, zSet]))
        refine wp_region_keeps _ (Keeps.all hp.drew) [] [(0, true), (1, true), (2, true), (3, true), (4, true), (5, true), (6, false), (7, true)] (by kernel_rfl) (by kernel_rfl) rfl (by kernel_rfl) (fun _ _ d _ _ h => by cases d <;> exact h) ?_
        replace hp := hp.drew
        repeat' (with_reducible refine plan_is ?_); first | (with_reducible refine plan_nil ?_) | ((with_reducible refine plan_t ?_); refine plan_tk rfl ?_; (first | ((with_reducible refine tk_mv _ rfl ?_); refine tM rfl ?_) | ((with_reducible refine tk_ld _ _ rfl ?_); first | refine tA rfl (sTm rfl) agg24 aa5 ?_ | refine tO rfl (sTm rfl) cell3 aa5 ?_ | refine tR rfl (sTm rfl) agg24 HX.out ?_ | refine tRO rfl (sTm rfl) cell3 (HX.out 0 _ rfl) ?_) | refine tG (fun w _ => (by go_simp; try rfl)) ?_); try simp only [put_some, put_none, eval_tmp, eval_const, sSet, zSet, List.getD_cons_succ, List.getD_cons_zero, wrap_eq]) | (refine plan_do rfl (fun K hK => ?_); go_wp2_with (first | (go_at_call 93; (with_reducible refine (last15_lit vw nm bs im _ _ _ _ HW.out _).mono ?_); rintro e w1 ⟨rfl, hb⟩; replace hp := hp.call hb; clear hb) | go_skip); (refine hK.out _ _ (.inr (kall hp)) ?_); clear hK K; try simp only [put_some, put_none, eval_tmp, eval_const, sSet, zSet, List.getD_cons_succ, List.getD_cons_zero, wrap_eq])
        go_wp2_with (first | ((with_reducible refine pre_append _ _ 87 rfl ?_); refine wpList_appendGrow (K := [_]) (R := RO) (M := M0) hp _ _ _ rfl wy i0 _ 160 Tryz.underlying87 hi0 hz0 hz1 hz2 rfl (by decide) (sTm rfl) HRO.out 1 1 (sTm rfl) (by rfl) (by decide) (by rfl) HL1.out HL2.out ?_; clear hp HRO; intro v' R' w1 hR' hp; obtain ⟨av, kv, rfl, _⟩ := hR'.kept; have HR' := Lib.hid hR'; clear hR'; simp only [List.cons_append, List.nil_append, List.append_nil] at hp; simp only [put_some, put_none, sSet, zSet]) | go_skip | ((first | ((with_reducible refine pre_alloc _ rfl ?_); refine lZ hp rfl zero31 ?_; clear hp; intro b w1 hp) | ((with_reducible refine pre_box _ _ rfl ?_); refine lB hp rfl (sTm rfl) rfl ?_; clear hp; intro b w1 hp) | ((with_reducible refine pre_load _ _ rfl ?_); first | refine lO hp rfl (sTm rfl) ceQRc0 aa5 ?_ | first | refine lRO hp rfl (sTm rfl) ceQRc0 (HX.out 0 _ rfl) ?_ | refine lA hp rfl (sTm rfl) (by with_reducible first | exact agg31 | exact agg24) aa5 ?_ | refine lR hp rfl (sTm rfl) (by with_reducible first | exact agg31 | exact agg24) HX.out ?_) | ((with_reducible refine pre_store _ _ _ rfl ?_); (first | refine sO hp rfl (sTm rfl) ceQRc0 aa5 ?_ | refine sA hp rfl (sTm rfl) (sTm rfl) (by with_reducible first | exact agg31 | exact agg24) aa5 ?_ | refine sG hp rfl (sTm rfl) (sTm rfl) (by with_reducible first | exact agg31 | exact agg24) aa5 ?_); clear hp; intro w1 hp; simp only [spl, zSet, sSet] at hp) | ((with_reducible refine pre_build _ _ _ rfl ?_); refine lS hp rfl (by intro w; go_simp; rfl) ?_; clear hp; intro b w1 hp; simp only [List.length_cons, List.length_nil, Nat.reduceAdd] at hp)); simp only [put_some, put_none, sSet, zSet]))
        go_roundg (gk - 1)
        case measure => omega
        case rel => exact ⟨q + 1, R', by omega, by go_num, Lib.hid (by rw [HSN.out, List.length_append, List.flatMap_append]; exact HR'.out), hp⟩
      · have e5 : decide (bs + (es.length : Int) < nu) = false := by simpa using hg
        have HSN : RowKit.Hid (joinF ⟨vw, nm, bs, im, ea, es, ec⟩ (l.take (q + 1)) = joinF ⟨vw, nm, bs, im, ea, es, ec⟩ (l.take q)) := Lib.hid (by rw [hsn]; simp only; rw [if_neg hg, List.append_nil])
        clear hg hsn
        go_wp2_with (first | go_skip | ((first | ((with_reducible refine pre_alloc _ rfl ?_); refine lZ hp rfl zero31 ?_; clear hp; intro b w1 hp) | ((with_reducible refine pre_box _ _ rfl ?_); refine lB hp rfl (sTm rfl) rfl ?_; clear hp; intro b w1 hp) | ((with_reducible refine pre_load _ _ rfl ?_); first | refine lO hp rfl (sTm rfl) ceQRc0 aa5 ?_ | first | refine lRO hp rfl (sTm rfl) ceQRc0 (HX.out 0 _ rfl) ?_ | refine lA hp rfl (sTm rfl) (by with_reducible first | exact agg31 | exact agg24) aa5 ?_ | refine lR hp rfl (sTm rfl) (by with_reducible first | exact agg31 | exact agg24) HX.out ?_) | ((with_reducible refine pre_store _ _ _ rfl ?_); (first | refine sO hp rfl (sTm rfl) ceQRc0 aa5 ?_ | refine sA hp rfl (sTm rfl) (sTm rfl) (by with_reducible first | exact agg31 | exact agg24) aa5 ?_ | refine sG hp rfl (sTm rfl) (sTm rfl) (by with_reducible first | exact agg31 | exact agg24) aa5 ?_); clear hp; intro w1 hp; simp only [spl, zSet, sSet] at hp) | ((with_reducible refine pre_build _ _ _ rfl ?_); refine lS hp rfl (by intro w; go_simp; rfl) ?_; clear hp; intro b w1 hp; simp only [List.length_cons, List.length_nil, Nat.reduceAdd] at hp)); simp only [put_some, put_none, sSet, zSet]))
        refine wp_region_keeps _ (Keeps.all hp.drew) [] [(0, true), (1, true), (2, true), (3, true), (4, true), (5, true), (6, false), (7, true)] (by kernel_rfl) (by kernel_rfl) rfl (by kernel_rfl) (fun _ _ d _ _ h => by cases d <;> exact h) ?_
        replace hp := hp.drew
        repeat' (with_reducible refine plan_is ?_); first | (with_reducible refine plan_nil ?_) | ((with_reducible refine plan_t ?_); refine plan_tk rfl ?_; (first | ((with_reducible refine tk_mv _ rfl ?_); refine tM rfl ?_) | ((with_reducible refine tk_ld _ _ rfl ?_); first | refine tA rfl (sTm rfl) agg24 aa5 ?_ | refine tO rfl (sTm rfl) cell3 aa5 ?_ | refine tR rfl (sTm rfl) agg24 HX.out ?_ | refine tRO rfl (sTm rfl) cell3 (HX.out 0 _ rfl) ?_) | refine tG (fun w _ => (by go_simp; try rfl)) ?_); try simp only [put_some, put_none, eval_tmp, eval_const, sSet, zSet, List.getD_cons_succ, List.getD_cons_zero, wrap_eq]) | (refine plan_do rfl (fun K hK => ?_); go_wp2_with (first | (go_at_call 93; (with_reducible refine (last15_lit vw nm bs im _ _ _ _ HW.out _).mono ?_); rintro e w1 ⟨rfl, hb⟩; replace hp := hp.call hb; clear hb) | go_skip); (refine hK.out _ _ (.inr (kall hp)) ?_); clear hK K; try simp only [put_some, put_none, eval_tmp, eval_const, sSet, zSet, List.getD_cons_succ, List.getD_cons_zero, wrap_eq])
        go_wp2_with (first | go_skip | ((first | ((with_reducible refine pre_alloc _ rfl ?_); refine lZ hp rfl zero31 ?_; clear hp; intro b w1 hp) | ((with_reducible refine pre_box _ _ rfl ?_); refine lB hp rfl (sTm rfl) rfl ?_; clear hp; intro b w1 hp) | ((with_reducible refine pre_load _ _ rfl ?_); first | refine lO hp rfl (sTm rfl) ceQRc0 aa5 ?_ | first | refine lRO hp rfl (sTm rfl) ceQRc0 (HX.out 0 _ rfl) ?_ | refine lA hp rfl (sTm rfl) (by with_reducible first | exact agg31 | exact agg24) aa5 ?_ | refine lR hp rfl (sTm rfl) (by with_reducible first | exact agg31 | exact agg24) HX.out ?_) | ((with_reducible refine pre_store _ _ _ rfl ?_); (first | refine sO hp rfl (sTm rfl) ceQRc0 aa5 ?_ | refine sA hp rfl (sTm rfl) (sTm rfl) (by with_reducible first | exact agg31 | exact agg24) aa5 ?_ | refine sG hp rfl (sTm rfl) (sTm rfl) (by with_reducible first | exact agg31 | exact agg24) aa5 ?_); clear hp; intro w1 hp; simp only [spl, zSet, sSet] at hp) | ((with_reducible refine pre_build _ _ _ rfl ?_); refine lS hp rfl (by intro w; go_simp; rfl) ?_; clear hp; intro b w1 hp; simp only [List.length_cons, List.length_nil, Nat.reduceAdd] at hp)); simp only [put_some, put_none, sSet, zSet]))
        go_roundg (gk - 1)
        case measure => omega
        case rel => exact ⟨q + 1, RO, by omega, by go_num, Lib.hid (by rw [HSN.out]; exact HRO.out), hp⟩
    · obtain rfl : q = l.length := by omega
      have e5 : decide ((l.length : Int) < (l.length : Int)) = false := by simp
      have hro := HRO.out
      rw [List.take_length] at hro
      have HRO2 := Lib.hid hro
      clear hkq hlt HRO hro
      go_wp2_with (first | go_skip | ((first | ((with_reducible refine pre_alloc _ rfl ?_); refine lZ hp rfl zero31 ?_; clear hp; intro b w1 hp) | ((with_reducible refine pre_box _ _ rfl ?_); refine lB hp rfl (sTm rfl) rfl ?_; clear hp; intro b w1 hp) | ((with_reducible refine pre_load _ _ rfl ?_); first | refine lO hp rfl (sTm rfl) ceQRc0 aa5 ?_ | refine lA hp rfl (sTm rfl) (by with_reducible first | exact agg31 | exact agg24) aa5 ?_) | ((with_reducible refine pre_store _ _ _ rfl ?_); (first | refine sO hp rfl (sTm rfl) ceQRc0 aa5 ?_ | refine sA hp rfl (sTm rfl) (sTm rfl) (by with_reducible first | exact agg31 | exact agg24) aa5 ?_ | refine sG hp rfl (sTm rfl) (sTm rfl) (by with_reducible first | exact agg31 | exact agg24) aa5 ?_); clear hp; intro w1 hp; simp only [spl, zSet, sSet] at hp) | ((with_reducible refine pre_build _ _ _ rfl ?_); refine lS hp rfl (by intro w; go_simp; rfl) ?_; clear hp; intro b w1 hp; simp only [List.length_cons, List.length_nil, Nat.reduceAdd] at hp)); simp only [put_some, put_none, sSet, zSet]))
      exact bodyPost_ret (results_many (rs := [.tmp 6, .tmp 7]) Tryz.results56 (.tmp rfl (.tmp rfl .nil))) rfl ⟨_, RO, rfl, HRO2.out, hp.tail.sub (List.sublist_append_left _ _)⟩
theorem rjoin_lit (vw nm bs : Int) (im : ByteArray) (ea : Option Addr) (es : List Env) (s ec : Nat) (hsl : es.length = s) (n : Int) (la : Option Addr) (l : List Env) (m lc : Nat) (hlm : l.length = m) (hs : Kv.Small ⟨vw, nm, bs, im, ea, es, ec⟩) (hl : m ≤ 100000) (w : World) (ha : RowIs w ea (es.flatMap envL)) (hla : RowIs w la (l.flatMap envL)) (b : Bool) (f : List Env) (q : Nat) (hb : joinB ⟨vw, nm, bs, im, ea, es, ec⟩ n l = b) (hf : (if b = true then joinF ⟨vw, nm, bs, im, ea, es, ec⟩ l else []) = f) (hq : f.length = q) :
    Calls Tryz.prog 56 #[.agg #[.int .i64 vw, .int .i64 nm, .int .i64 bs, .string im, .slice ea s ec], .int .i64 n, .slice la m lc] w (JoinL w b f q) := by
  subst hsl hlm hq hf
  have key : Calls Tryz.prog 56 #[.agg #[.int .i64 vw, .int .i64 nm, .int .i64 bs, .string im, .slice ea es.length ec], .int .i64 n, .slice la l.length lc] w (JoinPost w b (if b = true then joinF ⟨vw, nm, bs, im, ea, es, ec⟩ l else [])) := by
    cases b
    · exact rjoin56_no vw nm bs im ea es ec n la l lc hs hl w ha hla hb
    · exact rjoin56_yes vw nm bs im ea es ec n la l lc hs hl w ha hla hb
  refine key.mono fun e w' h => ?_
  obtain ⟨v, R, h1, h2, h3⟩ := h
  obtain ⟨a, k, rfl, h4⟩ := h2.kept
  exact ⟨a, k, R, h1, h4, h3⟩
set_option maxRecDepth 100000 in
set_option maxHeartbeats 8000000 in
theorem rknown60L (vw nm bs : Int) (im : ByteArray) (ea : Option Addr) (es : List Env) (ec : Nat) (cm ci si : Int) (b : Bool) (hb : knownB ⟨vw, nm, bs, im, ea, es, ec⟩ cm ci si = b) (hs : Kv.Small ⟨vw, nm, bs, im, ea, es, ec⟩) (w : World) (ha : RowIs w ea (es.flatMap envL)) :
    Calls Tryz.prog 60 #[.agg #[.int .i64 vw, .int .i64 nm, .int .i64 bs, .string im, .slice ea es.length ec], .int .i64 cm, .int .i64 ci, .int .i64 si] w fun e w' => e = .returned (.bool b) ∧ Below w.heap.size w w' := by
  subst hb
  have hp := Hp.start w
  have HSS := Lib.hid hs
  have HA := Lib.hid ha
  have hel : es.length ≤ 100000 := hs.1
  obtain ⟨ob, hob⟩ : ∃ ob, okC ⟨vw, nm, bs, im, ea, es, ec⟩ = ob := ⟨_, rfl⟩
  have HB := Lib.hid hob
  clear hs ha hob
  go_enter Tryz.func60, Tryz.ntmps60
  go_wp2_with (first | go_skip | ((first | ((with_reducible refine pre_alloc _ rfl ?_); refine lZ hp rfl zero31 ?_; clear hp; intro b w1 hp) | ((with_reducible refine pre_box _ _ rfl ?_); refine lB hp rfl (sTm rfl) rfl ?_; clear hp; intro b w1 hp) | ((with_reducible refine pre_load _ _ rfl ?_); first | refine lO hp rfl (sTm rfl) ceQRc0 aa5 ?_ | refine lA hp rfl (sTm rfl) (by with_reducible first | exact agg31 | exact agg24) aa5 ?_) | ((with_reducible refine pre_store _ _ _ rfl ?_); (first | refine sO hp rfl (sTm rfl) ceQRc0 aa5 ?_ | refine sA hp rfl (sTm rfl) (sTm rfl) (by with_reducible first | exact agg31 | exact agg24) aa5 ?_ | refine sG hp rfl (sTm rfl) (sTm rfl) (by with_reducible first | exact agg31 | exact agg24) aa5 ?_); clear hp; intro w1 hp; simp only [spl, zSet, sSet] at hp) | ((with_reducible refine pre_build _ _ _ rfl ?_); refine lS hp rfl (by intro w; go_simp; rfl) ?_; clear hp; intro b w1 hp; simp only [List.length_cons, List.length_nil, Nat.reduceAdd] at hp)); simp only [put_some, put_none, sSet, zSet]))
  obtain ⟨b4, rfl⟩ := hp.id0
  go_loopg [9] es.length (fun k i wr => ∃ q : Nat, k + q = es.length ∧ i = .int .i64 q ∧ RowKit.Hid ((es.take q).any (knE cm ci si) = false) ∧ Hp w.heap.size w wr [⟨b4, [.int .i64 vw, .int .i64 nm, .int .i64 bs, .string im, .slice ea es.length ec], 24, 5⟩])
  case atStart => exact ⟨0, by omega, rfl, Lib.hid rfl, hp⟩
  case round =>
    clear hp
    obtain ⟨q, hkq, rfl, HQ, hp⟩ := hrel
    by_cases hlt : q < es.length
    · obtain ⟨bq, off, rfl, hx⟩ := HA.out.elems 11 envL_len11 (by omega) (by omega)
      have hj := List.getElem?_eq_getElem hlt
      have hst := anyE_take (f := knE cm ci si) hj
      have hyes := fun hw => anyE_yes (f := knE cm ci si) hj hw
      replace hx := hx q _ hj
      clear hj
      generalize es[q] = en at hx hst hyes
      obtain ⟨nu, vi, cl, sq, ⟨kk, hh, ii, nn, cc, vv, tt⟩⟩ := en
      simp only [envL, opL, List.cons_append, List.nil_append] at hx
      have HX := Lib.hid hx
      have HST := Lib.hid hst
      have HYE := Lib.hid hyes
      have f1 : (0 : Int) ≤ (q : Int) := by omega
      have f2 : (q : Int) < (es.length : Int) := by omega
      clear hx hst hyes
      by_cases h1 : cm < nu
      · have d1 : decide (cm < nu) = true := decide_eq_true h1
        by_cases h2 : cl = ci
        · have d2 : (cl == ci) = true := by simp [h2]
          by_cases h3 : si ≤ sq
          · have d3 : decide (si ≤ sq) = true := decide_eq_true h3
            have HK : RowKit.Hid (knE cm ci si ⟨nu, vi, cl, sq, ⟨kk, hh, ii, nn, cc, vv, tt⟩⟩ = true) := Lib.hid (by unfold knE; simp [h1, h2, h3])
            clear h1 h2 h3
            go_wp2_with (first | (go_at_call 92; (with_reducible refine (right1592L vw nm bs im _ es ec _ HB.out HSS.out _ (HA.out.below hp.below)).mono ?_); rintro e w1 ⟨rfl, hb⟩; replace hp := hp.call hb; clear hb) | go_skip | ((first | ((with_reducible refine pre_alloc _ rfl ?_); refine lZ hp rfl zero31 ?_; clear hp; intro b w1 hp) | ((with_reducible refine pre_box _ _ rfl ?_); refine lB hp rfl (sTm rfl) rfl ?_; clear hp; intro b w1 hp) | ((with_reducible refine pre_load _ _ rfl ?_); first | refine lO hp rfl (sTm rfl) ceQRc1 aa5 ?_ | refine lA hp rfl (sTm rfl) (by with_reducible first | exact agg31 | exact agg24) aa5 ?_ | refine lR hp rfl (sTm rfl) (by with_reducible first | exact agg31 | exact agg24) HX.out ?_) | ((with_reducible refine pre_store _ _ _ rfl ?_); (first | refine sO hp rfl (sTm rfl) ceQRc1 aa5 ?_ | refine sA hp rfl (sTm rfl) (sTm rfl) (by with_reducible first | exact agg31 | exact agg24) aa5 ?_ | refine sG hp rfl (sTm rfl) (sTm rfl) (by with_reducible first | exact agg31 | exact agg24) aa5 ?_); clear hp; intro w1 hp; simp only [spl, zSet, sSet] at hp)); simp only [put_some, put_none, sSet, zSet]))
            go_ret
            refine ⟨ret_bool ?_, hp.below⟩
            unfold knownB
            simp only
            rw [HB.out, HYE.out HK.out, Bool.and_true]
          · have d3 : decide (si ≤ sq) = false := decide_eq_false h3
            have HK : RowKit.Hid (knE cm ci si ⟨nu, vi, cl, sq, ⟨kk, hh, ii, nn, cc, vv, tt⟩⟩ = false) := Lib.hid (by unfold knE; simp [h3])
            clear h1 h2 h3
            go_wp2_with (first | go_skip | ((first | ((with_reducible refine pre_alloc _ rfl ?_); refine lZ hp rfl zero31 ?_; clear hp; intro b w1 hp) | ((with_reducible refine pre_box _ _ rfl ?_); refine lB hp rfl (sTm rfl) rfl ?_; clear hp; intro b w1 hp) | ((with_reducible refine pre_load _ _ rfl ?_); first | refine lO hp rfl (sTm rfl) ceQRc1 aa5 ?_ | refine lA hp rfl (sTm rfl) (by with_reducible first | exact agg31 | exact agg24) aa5 ?_ | refine lR hp rfl (sTm rfl) (by with_reducible first | exact agg31 | exact agg24) HX.out ?_) | ((with_reducible refine pre_store _ _ _ rfl ?_); (first | refine sO hp rfl (sTm rfl) ceQRc1 aa5 ?_ | refine sA hp rfl (sTm rfl) (sTm rfl) (by with_reducible first | exact agg31 | exact agg24) aa5 ?_ | refine sG hp rfl (sTm rfl) (sTm rfl) (by with_reducible first | exact agg31 | exact agg24) aa5 ?_); clear hp; intro w1 hp; simp only [spl, zSet, sSet] at hp)); simp only [put_some, put_none, sSet, zSet]))
            go_roundg (gk - 1)
            case measure => omega
            case rel => exact ⟨q + 1, by omega, by go_num, Lib.hid (by rw [HST.out, HQ.out, HK.out]; rfl), hp.tail⟩
        · have d2 : (cl == ci) = false := by simp [h2]
          have HK : RowKit.Hid (knE cm ci si ⟨nu, vi, cl, sq, ⟨kk, hh, ii, nn, cc, vv, tt⟩⟩ = false) := Lib.hid (by unfold knE; simp [h2])
          clear h1
          go_wp2_with (first | go_skip | ((first | ((with_reducible refine pre_alloc _ rfl ?_); refine lZ hp rfl zero31 ?_; clear hp; intro b w1 hp) | ((with_reducible refine pre_box _ _ rfl ?_); refine lB hp rfl (sTm rfl) rfl ?_; clear hp; intro b w1 hp) | ((with_reducible refine pre_load _ _ rfl ?_); first | refine lO hp rfl (sTm rfl) ceQRc1 aa5 ?_ | refine lA hp rfl (sTm rfl) (by with_reducible first | exact agg31 | exact agg24) aa5 ?_ | refine lR hp rfl (sTm rfl) (by with_reducible first | exact agg31 | exact agg24) HX.out ?_) | ((with_reducible refine pre_store _ _ _ rfl ?_); (first | refine sO hp rfl (sTm rfl) ceQRc1 aa5 ?_ | refine sA hp rfl (sTm rfl) (sTm rfl) (by with_reducible first | exact agg31 | exact agg24) aa5 ?_ | refine sG hp rfl (sTm rfl) (sTm rfl) (by with_reducible first | exact agg31 | exact agg24) aa5 ?_); clear hp; intro w1 hp; simp only [spl, zSet, sSet] at hp)); simp only [put_some, put_none, sSet, zSet]))
          go_roundg (gk - 1)
          case measure => omega
          case rel => exact ⟨q + 1, by omega, by go_num, Lib.hid (by rw [HST.out, HQ.out, HK.out]; rfl), hp.tail⟩
      · have d1 : decide (cm < nu) = false := decide_eq_false h1
        have HK : RowKit.Hid (knE cm ci si ⟨nu, vi, cl, sq, ⟨kk, hh, ii, nn, cc, vv, tt⟩⟩ = false) := Lib.hid (by unfold knE; simp [h1])
        clear h1
        go_wp2_with (first | go_skip | ((first | ((with_reducible refine pre_alloc _ rfl ?_); refine lZ hp rfl zero31 ?_; clear hp; intro b w1 hp) | ((with_reducible refine pre_box _ _ rfl ?_); refine lB hp rfl (sTm rfl) rfl ?_; clear hp; intro b w1 hp) | ((with_reducible refine pre_load _ _ rfl ?_); first | refine lO hp rfl (sTm rfl) ceQRc1 aa5 ?_ | refine lA hp rfl (sTm rfl) (by with_reducible first | exact agg31 | exact agg24) aa5 ?_ | refine lR hp rfl (sTm rfl) (by with_reducible first | exact agg31 | exact agg24) HX.out ?_) | ((with_reducible refine pre_store _ _ _ rfl ?_); (first | refine sO hp rfl (sTm rfl) ceQRc1 aa5 ?_ | refine sA hp rfl (sTm rfl) (sTm rfl) (by with_reducible first | exact agg31 | exact agg24) aa5 ?_ | refine sG hp rfl (sTm rfl) (sTm rfl) (by with_reducible first | exact agg31 | exact agg24) aa5 ?_); clear hp; intro w1 hp; simp only [spl, zSet, sSet] at hp)); simp only [put_some, put_none, sSet, zSet]))
        go_roundg (gk - 1)
        case measure => omega
        case rel => exact ⟨q + 1, by omega, by go_num, Lib.hid (by rw [HST.out, HQ.out, HK.out]; rfl), hp.tail⟩
    · obtain rfl : q = es.length := by omega
      have e2 : decide ((es.length : Int) < (es.length : Int)) = false := by simp
      have HN : RowKit.Hid (es.any (knE cm ci si) = false) := Lib.hid (by have := HQ.out; rw [List.take_length] at this; exact this)
      clear hkq hlt HQ
      go_wp2_with (first | go_skip | ((first | ((with_reducible refine pre_alloc _ rfl ?_); refine lZ hp rfl zero31 ?_; clear hp; intro b w1 hp) | ((with_reducible refine pre_box _ _ rfl ?_); refine lB hp rfl (sTm rfl) rfl ?_; clear hp; intro b w1 hp) | ((with_reducible refine pre_load _ _ rfl ?_); first | refine lO hp rfl (sTm rfl) ceQRc0 aa5 ?_ | refine lA hp rfl (sTm rfl) (by with_reducible first | exact agg31 | exact agg24) aa5 ?_) | ((with_reducible refine pre_store _ _ _ rfl ?_); (first | refine sO hp rfl (sTm rfl) ceQRc0 aa5 ?_ | refine sA hp rfl (sTm rfl) (sTm rfl) (by with_reducible first | exact agg31 | exact agg24) aa5 ?_ | refine sG hp rfl (sTm rfl) (sTm rfl) (by with_reducible first | exact agg31 | exact agg24) aa5 ?_); clear hp; intro w1 hp; simp only [spl, zSet, sSet] at hp) | ((with_reducible refine pre_build _ _ _ rfl ?_); refine lS hp rfl (by intro w; go_simp; rfl) ?_; clear hp; intro b w1 hp; simp only [List.length_cons, List.length_nil, Nat.reduceAdd] at hp)); simp only [put_some, put_none, sSet, zSet]))
      go_ret
      refine ⟨ret_bool ?_, hp.below⟩
      unfold knownB
      simp only
      rw [HN.out, Bool.and_false]
theorem sameRec_lit (nu vi cl sq kk hh ii nn cc vv tt : Int) (w : World) : Calls Tryz.prog 54 #[.agg #[.int .i64 2, .int .i64 0, .int .i64 0, .int .i64 0, .string ⟨#[]⟩, .int .i64 nu, .int .i64 vi, .int .i64 cl, .int .i64 sq, .int .i64 kk, .int .i64 hh, .int .i64 ii, .int .i64 nn, .int .i64 cc, .int .i64 vv, .int .i64 tt, .slice none 0 0], .agg #[.int .i64 2, .int .i64 0, .int .i64 0, .int .i64 0, .string ⟨#[]⟩, .int .i64 nu, .int .i64 vi, .int .i64 cl, .int .i64 sq, .int .i64 kk, .int .i64 hh, .int .i64 ii, .int .i64 nn, .int .i64 cc, .int .i64 vv, .int .i64 tt, .slice none 0 0]] w fun e w' => e = .returned (.bool true) ∧ Below w.heap.size w w' :=
  sameRec15S 2 0 0 0 ⟨#[]⟩ nu vi cl sq kk hh ii nn cc vv tt none none [] 0 0 (by simp) w (RowIs.nil _ _) (RowIs.nil _ _)
set_option maxRecDepth 100000 in
set_option maxHeartbeats 8000000 in
theorem records15S (f : List Env) (a a' : Option Addr) (q c c' : Nat) (hq : f.length = q) (hl : q ≤ 100000) (w : World) (ha : RowIs w a (f.flatMap recL)) (ha' : RowIs w a' (f.flatMap recL)) :
    Calls Tryz.prog 58 #[.slice a q c, .slice a' q c'] w fun e w' => e = .returned (.bool true) ∧ Below w.heap.size w w' := by
  subst hq
  have HA := Lib.hid ha
  have HB := Lib.hid ha'
  clear ha ha'
  have hp := Hp.start w
  go_enter Tryz.func58, Tryz.ntmps58
  go_wp2_with (first | go_skip | ((first | ((with_reducible refine pre_alloc _ rfl ?_); refine lZ hp rfl zero31 ?_; clear hp; intro b w1 hp) | ((with_reducible refine pre_box _ _ rfl ?_); refine lB hp rfl (sTm rfl) rfl ?_; clear hp; intro b w1 hp) | ((with_reducible refine pre_load _ _ rfl ?_); first | refine lO hp rfl (sTm rfl) ceQRc0 aa5 ?_ | refine lA hp rfl (sTm rfl) (by with_reducible first | exact agg31 | exact agg24) aa5 ?_) | ((with_reducible refine pre_store _ _ _ rfl ?_); (first | refine sO hp rfl (sTm rfl) ceQRc0 aa5 ?_ | refine sA hp rfl (sTm rfl) (sTm rfl) (by with_reducible first | exact agg31 | exact agg24) aa5 ?_ | refine sG hp rfl (sTm rfl) (sTm rfl) (by with_reducible first | exact agg31 | exact agg24) aa5 ?_); clear hp; intro w1 hp; simp only [spl, zSet, sSet] at hp) | ((with_reducible refine pre_build _ _ _ rfl ?_); refine lS hp rfl (by intro w; go_simp; rfl) ?_; clear hp; intro b w1 hp; simp only [List.length_cons, List.length_nil, Nat.reduceAdd] at hp)); simp only [put_some, put_none, sSet, zSet]))
  go_loopg [5] f.length (fun k i wr => ∃ q : Nat, k + q = f.length ∧ i = .int .i64 q ∧ Hp w.heap.size w wr [])
  case atStart => exact ⟨0, by omega, rfl, hp⟩
  case round =>
    clear hp
    obtain ⟨q, hkq, rfl, hp⟩ := hrel
    by_cases hlt : q < f.length
    · obtain ⟨bq, off, rfl, hx⟩ := HA.out.elems 17 recL_len (by omega) (by omega)
      obtain ⟨br, ofr, rfl, hy⟩ := HB.out.elems 17 recL_len (by omega) (by omega)
      have hj := List.getElem?_eq_getElem hlt
      replace hx := hx q _ hj
      replace hy := hy q _ hj
      clear hj
      generalize f[q] = en at hx hy
      obtain ⟨nu, vi, cl, sq, ⟨kk, hh, ii, nn, cc, vv, tt⟩⟩ := en
      simp only [recL, recE, rvL, envL, opL, List.cons_append, List.nil_append, List.length_nil] at hx hy
      have HX := Lib.hid hx
      have HY := Lib.hid hy
      have f1 : (0 : Int) ≤ (q : Int) := by omega
      have f2 : (q : Int) < (f.length : Int) := by omega
      clear hx hy
      go_wp2_with (first | go_skip | ((first | ((with_reducible refine pre_box _ _ rfl ?_); refine lB hp rfl (sTm rfl) rfl ?_; clear hp; intro b w1 hp) | ((with_reducible refine pre_load _ _ rfl ?_); first | refine lO hp rfl (sTm rfl) ceQRc2 aa5 ?_ | refine lA hp rfl (sTm rfl) agg33 aa5 ?_ | refine lR hp rfl (sTm rfl) agg33 HX.out ?_ | refine lR hp rfl (sTm rfl) agg33 HY.out ?_) | ((with_reducible refine pre_store _ _ _ rfl ?_); (first | refine sO hp rfl (sTm rfl) ceQRc2 aa5 ?_ | refine sA hp rfl (sTm rfl) (sTm rfl) agg33 aa5 ?_ | refine sG hp rfl (sTm rfl) (sTm rfl) agg33 aa5 ?_); clear hp; intro w1 hp; simp only [spl, zSet, sSet] at hp)); simp only [put_some, put_none, sSet, zSet]))
      refine wp_region_keeps _ (Keeps.all hp.drew) [] [(0, true), (1, true), (2, true), (3, true), (4, true), (5, true), (6, true), (7, true), (8, false), (9, true)] (by kernel_rfl) (by kernel_rfl) rfl (by kernel_rfl) (fun _ _ d _ _ h => by cases d <;> exact h) ?_
      replace hp := hp.drew
      repeat' (with_reducible refine plan_is ?_); first | (with_reducible refine plan_nil ?_) | ((with_reducible refine plan_t ?_); refine plan_tk rfl ?_; (first | ((with_reducible refine tk_mv _ rfl ?_); refine tM rfl ?_) | ((with_reducible refine tk_ld _ _ rfl ?_); first | refine tA rfl (sTm rfl) agg33 aa5 ?_ | refine tR rfl (sTm rfl) agg33 HX.out ?_ | refine tR rfl (sTm rfl) agg33 HY.out ?_) | refine tG (fun w _ => (by go_simp; try rfl)) ?_); try simp only [put_some, put_none, eval_tmp, eval_const, sSet, zSet, List.getD_cons_succ, List.getD_cons_zero, wrap_eq]) | (refine plan_do rfl (fun K hK => ?_); go_wp2_with (first | (go_at_call 54; (with_reducible refine (sameRec_lit nu vi cl sq kk hh ii nn cc vv tt _).mono ?_); rintro e w1 ⟨rfl, hb⟩; replace hp := hp.call hb; clear hb) | go_skip); (refine hK.out _ _ (.inr (kall hp)) ?_); clear hK K; try simp only [put_some, put_none, eval_tmp, eval_const, sSet, zSet, List.getD_cons_succ, List.getD_cons_zero, wrap_eq])
      go_wp2_with (first | go_skip | ((first | ((with_reducible refine pre_box _ _ rfl ?_); refine lB hp rfl (sTm rfl) rfl ?_; clear hp; intro b w1 hp) | ((with_reducible refine pre_load _ _ rfl ?_); first | refine lO hp rfl (sTm rfl) ceQRc2 aa5 ?_ | refine lA hp rfl (sTm rfl) agg33 aa5 ?_ | refine lR hp rfl (sTm rfl) agg33 HX.out ?_ | refine lR hp rfl (sTm rfl) agg33 HY.out ?_) | ((with_reducible refine pre_store _ _ _ rfl ?_); (first | refine sO hp rfl (sTm rfl) ceQRc2 aa5 ?_ | refine sA hp rfl (sTm rfl) (sTm rfl) agg33 aa5 ?_ | refine sG hp rfl (sTm rfl) (sTm rfl) agg33 aa5 ?_); clear hp; intro w1 hp; simp only [spl, zSet, sSet] at hp)); simp only [put_some, put_none, sSet, zSet]))
      go_roundg (gk - 1)
      case measure => omega
      case rel => exact ⟨q + 1, by omega, by go_num, hp⟩
    · obtain rfl : q = f.length := by omega
      have e2 : decide ((f.length : Int) < (f.length : Int)) = false := by simp
      go_wp2_with (first | go_skip | ((first | ((with_reducible refine pre_alloc _ rfl ?_); refine lZ hp rfl zero31 ?_; clear hp; intro b w1 hp) | ((with_reducible refine pre_box _ _ rfl ?_); refine lB hp rfl (sTm rfl) rfl ?_; clear hp; intro b w1 hp) | ((with_reducible refine pre_load _ _ rfl ?_); first | refine lO hp rfl (sTm rfl) ceQRc0 aa5 ?_ | refine lA hp rfl (sTm rfl) (by with_reducible first | exact agg31 | exact agg24) aa5 ?_) | ((with_reducible refine pre_store _ _ _ rfl ?_); (first | refine sO hp rfl (sTm rfl) ceQRc0 aa5 ?_ | refine sA hp rfl (sTm rfl) (sTm rfl) (by with_reducible first | exact agg31 | exact agg24) aa5 ?_ | refine sG hp rfl (sTm rfl) (sTm rfl) (by with_reducible first | exact agg31 | exact agg24) aa5 ?_); clear hp; intro w1 hp; simp only [spl, zSet, sSet] at hp) | ((with_reducible refine pre_build _ _ _ rfl ?_); refine lS hp rfl (by intro w; go_simp; rfl) ?_; clear hp; intro b w1 hp; simp only [List.length_cons, List.length_nil, Nat.reduceAdd] at hp)); simp only [put_some, put_none, sSet, zSet]))
      go_ret
      exact ⟨rfl, hp.below⟩
end Go.Proofs.YtaafajaadfgaoaaGreat
