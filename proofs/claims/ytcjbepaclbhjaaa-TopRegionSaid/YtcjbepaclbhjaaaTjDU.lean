import Derived.Test.YtcjbepaclbhjaaaTjDT
/- The walk of at on a row of an object: read, follow, write, link, and an index that is none. Written by mkdt.py. -/
set_option linter.unusedSimpArgs false
set_option linter.unusedVariables false
namespace Go.Proofs.Ytcjbepaclbhjaaa
open Go.RowKit
theorem gaDU0 {ty : TypeId} {k : Nat} (h : aggB Try.prog ty k = true := by with_reducible first | exact agg27 | exact agg48 | exact agg62 | exact agg34 | exact agg39) : aggB Try.prog ty k = true := h
theorem ceDU1 {ty : TypeId} (h : cellB Try.prog ty = true := by with_reducible first | exact cell3 | exact cell4 | exact cell46 | exact cell23 | exact cell37) : cellB Try.prog ty = true := h
theorem flat_same {l : List Ob} {i : Nat} {g y : Ob} (hg : l[i]? = some g) (h : obV y = obV g) : (l.set i y).flatMap obV = l.flatMap obV := by
  induction l generalizing i with
  | nil => simp at hg
  | cons x l ih =>
    cases i with
    | zero => simp at hg; subst hg; simp [h]
    | succ i => rw [List.set_cons_succ, List.flatMap_cons, List.flatMap_cons, ih (by simpa using hg)]
theorem WorkAt.open_ {x : Hv} {i : Nat} {g : Ob} (hg : x.os[i]? = some g) {B b : Nat} {w0 w : World} {K : List Blk} (hW : WorkAt B w0 w b x K) :
    ∃ go RF M1 Rw Rl M2, x.oa = some ⟨go, 0, none⟩ ∧ OwnRow 3 1 (.slice g.wa g.ws.length g.wc) g.ws.length (g.ws.flatMap iV) Rw ∧ OwnRow 3 1 (.slice g.la g.ls.length g.lc) g.ls.length (g.ls.flatMap iV) Rl ∧
      Hp B w0 w (⟨b, hvL x, 62, 8⟩ :: ⟨go, x.os.flatMap obV, 48, x.oc * 5⟩ :: (Rw ++ (Rl ++ (RF ++ (M1 ++ (M2 ++ K)))))) ∧
      ∀ (y : Ob) (R' L : List Blk) (w' : World), obV y = obV g → ObR y R' → Hp B w0 w' L → (∀ f : Blk → Nat, ((⟨b, hvL x, 62, 8⟩ :: ⟨go, x.os.flatMap obV, 48, x.oc * 5⟩ :: (R' ++ (RF ++ (M1 ++ (M2 ++ K))))).map f).sum ≤ (L.map f).sum) → WorkAt B w0 w' b { x with os := x.os.set i y } K := by
  obtain ⟨RO, RF, M, ⟨ho, hf, hm⟩, hp⟩ := hW
  have hlt := (List.getElem?_eq_some_iff.1 hg).1
  obtain ⟨go, hoa, hn, hmx, rfl, hlen⟩ := ho.own (by omega)
  obtain ⟨M1, R, M2, rfl, ⟨Rw, Rl, rfl, h1, h2⟩, hnew, _⟩ := hm.at_ hg
  refine ⟨go, RF, M1, Rw, Rl, M2, hoa, h1, h2, hp.kp, fun y R' L w' hy hr hq hle => ?_⟩
  have hq2 := hq.keep hle
  refine ⟨[⟨go, x.os.flatMap obV, 48, x.oc * 5⟩], RF, M1 ++ (R' ++ M2), ⟨?_, hf, hnew y R' hr⟩, ?_⟩
  · simp only [List.length_set]
    refine ⟨by rw [flat_same hg hy]; exact hlen, .inr ⟨go, x.oc, by rw [hoa], hn, hmx, by rw [flat_same hg hy]⟩⟩
  · simp only [hvL, List.length_set] at hq2 ⊢
    exact hq2.kp
theorem head_at {os : List Ob} {i : Nat} {g : Ob} (hg : os[i]? = some g) : (os.flatMap obV)[i * 5 + 3]? = some (.slice g.wa g.ws.length g.wc) ∧ (os.flatMap obV)[i * 5 + 4]? = some (.slice g.la g.ls.length g.lc) :=
  ⟨flat_get obV 5 obV_len os i 3 g _ hg rfl, flat_get obV 5 obV_len os i 4 g _ hg rfl⟩
theorem int_at {l : List Int} {q : Nat} {v : Int} (h : l[q]? = some v) : (l.flatMap iV)[q]? = some (.int .i64 v) := by
  have := flat_get iV 1 iV_len l q 0 v (.int .i64 v) h rfl
  simpa using this
theorem int_set {l : List Int} {q : Nat} (v : Int) : (l.flatMap iV).set q (.int .i64 v) = (l.set q v).flatMap iV := by rw [ints_map, ints_map, List.map_set]
theorem own_set {g c n : Nat} {l : List Int} {q : Nat} {v : Int} {R : List Blk} (h : OwnRow 3 1 (.slice (some ⟨g, 0, none⟩) n c) n (l.flatMap iV) R) (hn : 0 < n) : OwnRow 3 1 (.slice (some ⟨g, 0, none⟩) n c) n ((l.set q v).flatMap iV) [⟨g, (l.set q v).flatMap iV, 3, c * 1⟩] := by
  obtain ⟨hl, ⟨h0, _⟩ | ⟨g', cap, hv, h1, h2, hr⟩⟩ := h
  · omega
  · injection hv with v1 v2 v3
    injection v1 with v1; injection v1 with v1
    subst v1 v3
    exact ⟨by rw [ints_len, List.length_set, ← ints_len]; exact hl, .inr ⟨g, _, rfl, h1, h2, rfl⟩⟩
theorem lead37_yes {os : List Ob} {oa : Option Addr} {oc : Nat} (hol : os.length ≤ 1000) (hs : SortedO os) {to : Int} (hto : leadsC os to = true) {B : Nat} {w0 w : World} {L : List Blk} {i j b n m off g : Nat} {l cells : List Value} {t u : TypeId}
    (hj : L[j]? = some ⟨b, l, u, m⟩) (hl : l[1]? = some (.slice oa os.length oc)) (ho : Kept L fun w => RowIs w oa (os.flatMap obV)) (hi : L[i]? = some ⟨g, cells, t, n⟩) (hof : off < cells.length) (hp : Hp B w0 w L) :
    Calls Try.prog 37 #[.pointer (some ⟨b, 0, none⟩), .pointer (some ⟨g, off, none⟩), .int .i64 to] w fun e w' => e = .returned (resV 0 0) ∧ Hp B w0 w' (L.set i ⟨g, cells.set off (.int .i64 to), t, n⟩) :=
  (lead37 os oa oc hol hs to hp hj hl ho hi hof).mono fun e w' h => by
    rw [hto] at h
    rcases h with ⟨_, he, hq⟩ | ⟨h, _⟩
    · exact ⟨he, hq⟩
    · cases h
theorem lead37_no {os : List Ob} {oa : Option Addr} {oc : Nat} (hol : os.length ≤ 1000) (hs : SortedO os) {to : Int} (hto : leadsC os to = false) {B : Nat} {w0 w : World} {L : List Blk} {i j b n m off g : Nat} {l cells : List Value} {t u : TypeId}
    (hj : L[j]? = some ⟨b, l, u, m⟩) (hl : l[1]? = some (.slice oa os.length oc)) (ho : Kept L fun w => RowIs w oa (os.flatMap obV)) (hi : L[i]? = some ⟨g, cells, t, n⟩) (hof : off < cells.length) (hp : Hp B w0 w L) :
    Calls Try.prog 37 #[.pointer (some ⟨b, 0, none⟩), .pointer (some ⟨g, off, none⟩), .int .i64 to] w fun e w' => e = .returned (resV 51 0) ∧ Hp B w0 w' L :=
  (lead37 os oa oc hol hs to hp hj hl ho hi hof).mono fun e w' h => by
    rw [hto] at h
    rcases h with ⟨h, _⟩ | ⟨_, he, hq⟩
    · cases h
    · exact ⟨he, hq⟩
set_option maxRecDepth 100000 in
set_option maxHeartbeats 8000000 in
theorem at36_noidx3 {x : Hv} (hx : HRight x) {hh ii nn cc vv tt : Int} {i : Nat} {g : Ob} (hn : placeO x.os hh = some i) (hg : x.os[i]? = some g) (hi : inB ii 0 ((g.ws.length : Int) - 1) = false) {B bw : Nat} {w0 w : World} {K9 : List Blk} (hW : WorkAt B w0 w bw x K9) :
    Calls Try.prog 36 #[.pointer (some ⟨bw, 0, none⟩), .agg #[.int .i64 3, .int .i64 hh, .int .i64 ii, .int .i64 nn, .int .i64 cc, .int .i64 vv, .int .i64 tt]] w (WorkPost B w0 bw x 52 0 K9) := by
  obtain ⟨go, RF, M1, Rw, Rl, M2, hoa, h1, h2, hp, hback⟩ := hW.open_ hg
  have hsm := hx.small.1.2 g (List.mem_of_getElem? hg)
  obtain ⟨hxw, hxl⟩ := head_at hg
  have HBACK := Lib.hid hback
  have HS := Lib.hid hx.sorted
  have hol : x.os.length ≤ 1000 := by have := hx.len; omega
  clear hback hW
  have hxx := set_same hg
  obtain ⟨od, oa, os, oc, nx, t0, t1, t2, t3, fa, fs, fc⟩ := x
  simp only at hoa
  subst hoa
  simp only [hvL] at hp HBACK
  simp only at hn hol HS hxw hxl hg
  have HPL := Lib.hid hn
  have HRO : RowKit.Hid (Kept [⟨go, os.flatMap obV, 48, oc * 5⟩] fun w => RowIs w (some ⟨go, 0, none⟩) (os.flatMap obV)) := Lib.hid (Kept.row go _ _ _)
  have hlt := (List.getElem?_eq_some_iff.1 hg).1
  have e1 : (0 : Int) ≤ (i : Int) := by omega
  have e2 : (i : Int) < (os.length : Int) := by omega
  obtain ⟨gh, gp, go_, gwa, gws, gwc, gla, gls, glc⟩ := g
  simp only at h1 h2 hsm hxw hxl
  have HXW := Lib.hid hxw
  have HXL := Lib.hid hxl
  simp only at hi
  have HIN := Lib.hid hi
  have HXX := Lib.hid hxx
  clear hi hxx
  clear hn hx hg hxw hxl hlt
  go_enter Try.func36, Try.ntmps36
  go_wp2_with (first | go_skip | ((first | ((with_reducible refine pre_alloc _ rfl ?_); refine lZ hp rfl zero34 ?_; clear hp; intro b w1 hp) | ((with_reducible refine pre_box _ _ rfl ?_); refine lB hp rfl (slot_tmp rfl) rfl ?_; clear hp; intro b w1 hp) | ((with_reducible refine pre_load _ _ rfl ?_); first | refine lO hp rfl (slot_tmp rfl) ceDU1 aa14 ?_ | refine lA hp rfl (slot_tmp rfl) gaDU0 aa14 ?_) | ((with_reducible refine pre_store _ _ _ rfl ?_); (first | refine sO hp rfl (slot_tmp rfl) ceDU1 aa14 ?_ | refine sA hp rfl (slot_tmp rfl) (slot_tmp rfl) gaDU0 aa14 ?_ | refine sG hp rfl (slot_tmp rfl) (slot_tmp rfl) gaDU0 aa14 ?_); clear hp; intro w1 hp; simp only [spl, List.set_cons_zero, List.set_cons_succ] at hp)); simp only [put_some, put_none, List.set_cons_succ, List.set_cons_zero]))
  refine wp_region_keeps [_, _] (Keeps.two hp.drew at1 at2) [] [(0, true), (1, true), (2, true), (3, true), (4, true), (5, true), (6, true), (7, false), (8, true), (9, true), (10, true), (11, false), (12, false)] (by kernel_rfl) (by kernel_rfl) rfl (by kernel_rfl) (fun _ _ d _ _ h => by cases d <;> exact h) ?_
  replace hp := hp.drew
  repeat' (with_reducible refine plan_is ?_); first | (with_reducible refine plan_nil ?_) | ((with_reducible refine plan_t ?_); refine plan_tk rfl ?_; (first | ((with_reducible refine tk_mv _ rfl ?_); refine tM rfl ?_) | ((with_reducible refine tk_ld _ _ rfl ?_); refine tO rfl (slot_tmp rfl) (by with_reducible first | exact cell3 | exact cell23) aa5 ?_) | refine tG (fun w _ => (by go_simp; try rfl)) ?_); try simp only [put_some, put_none, eval_tmp, eval_const, List.set_cons_succ, List.set_cons_zero, List.getD_cons_succ, List.getD_cons_zero, wrap_eq]) | (refine plan_do rfl (fun K hK => ?_); go_wp2_with (first | (go_at_call 43; (with_reducible refine (find43_yes HPL.out _ oc hol HS.out _ (HRO.out.at hp (fun p hm => by (rw [List.mem_singleton] at hm; subst hm; simp)))).mono ?_); rintro e w1 ⟨rfl, hb⟩; replace hp := hp.call hb; clear hb) | go_skip); (refine hK.out _ _ (.inr (Keeps.two hp aa5 aa5)) ?_); clear hK K; try simp only [put_some, put_none, eval_tmp, eval_const, List.set_cons_succ, List.set_cons_zero, List.getD_cons_succ, List.getD_cons_zero, wrap_eq])
  obtain ⟨br, rfl⟩ := hp.id0
  obtain ⟨bo, rfl⟩ := hp.id1
  go_wp2_with (first | ((with_reducible refine pre_load 46 _ rfl ?_); refine lO hp rfl (slot_tmp rfl) cell46 at3 ?_ (hv := by first | exact HXW.out | exact HXL.out); simp only [put_some, put_none, List.set_cons_succ, List.set_cons_zero]) | (go_at_call 24; (with_reducible refine (within24 _ _ _ _).mono ?_); rintro e w' ⟨rfl, rfl⟩; rw [HIN.out]) | (go_at_call 17; (with_reducible refine (no17 _ _).mono ?_); rintro e w1 ⟨rfl, hb⟩; replace hp := hp.call hb; clear hb; unfold resV) | go_skip | ((first | ((with_reducible refine pre_alloc _ rfl ?_); refine lZ hp rfl zero34 ?_; clear hp; intro b w1 hp) | ((with_reducible refine pre_box _ _ rfl ?_); refine lB hp rfl (slot_tmp rfl) rfl ?_; clear hp; intro b w1 hp) | ((with_reducible refine pre_load _ _ rfl ?_); first | refine lO hp rfl (slot_tmp rfl) ceDU1 aa14 ?_ | refine lA hp rfl (slot_tmp rfl) gaDU0 aa14 ?_) | ((with_reducible refine pre_store _ _ _ rfl ?_); (first | refine sO hp rfl (slot_tmp rfl) ceDU1 aa14 ?_ | refine sA hp rfl (slot_tmp rfl) (slot_tmp rfl) gaDU0 aa14 ?_ | refine sG hp rfl (slot_tmp rfl) (slot_tmp rfl) gaDU0 aa14 ?_); clear hp; intro w1 hp; simp only [spl, List.set_cons_zero, List.set_cons_succ] at hp)); simp only [put_some, put_none, List.set_cons_succ, List.set_cons_zero]))
  refine bodyPost_ret (results_one (rs := [.cell 4 34]) Try.results36 (.cell rfl (hp.loadAgg agg34 at0 0 _ (by rfl) (by rfl)) .nil)) rfl (WorkAt.sm ?_ rfl)
  have h := HBACK.out _ _ _ _ rfl ⟨Rw, Rl, rfl, h1, h2⟩ hp (fun f => by (simp only [List.map_append, List.map_cons, List.map_nil, List.sum_append, List.sum_cons, List.sum_nil, List.cons_append, List.nil_append, List.append_nil]; omega))
  simpa only [HXX.out] using h
set_option maxRecDepth 100000 in
set_option maxHeartbeats 8000000 in
theorem at36_noidx6 {x : Hv} (hx : HRight x) {hh ii nn cc vv tt : Int} {i : Nat} {g : Ob} (hn : placeO x.os hh = some i) (hg : x.os[i]? = some g) (hi : inB ii 0 ((g.ws.length : Int) - 1) = false) {B bw : Nat} {w0 w : World} {K9 : List Blk} (hW : WorkAt B w0 w bw x K9) :
    Calls Try.prog 36 #[.pointer (some ⟨bw, 0, none⟩), .agg #[.int .i64 6, .int .i64 hh, .int .i64 ii, .int .i64 nn, .int .i64 cc, .int .i64 vv, .int .i64 tt]] w (WorkPost B w0 bw x 52 0 K9) := by
  obtain ⟨go, RF, M1, Rw, Rl, M2, hoa, h1, h2, hp, hback⟩ := hW.open_ hg
  have hsm := hx.small.1.2 g (List.mem_of_getElem? hg)
  obtain ⟨hxw, hxl⟩ := head_at hg
  have HBACK := Lib.hid hback
  have HS := Lib.hid hx.sorted
  have hol : x.os.length ≤ 1000 := by have := hx.len; omega
  clear hback hW
  have hxx := set_same hg
  obtain ⟨od, oa, os, oc, nx, t0, t1, t2, t3, fa, fs, fc⟩ := x
  simp only at hoa
  subst hoa
  simp only [hvL] at hp HBACK
  simp only at hn hol HS hxw hxl hg
  have HPL := Lib.hid hn
  have HRO : RowKit.Hid (Kept [⟨go, os.flatMap obV, 48, oc * 5⟩] fun w => RowIs w (some ⟨go, 0, none⟩) (os.flatMap obV)) := Lib.hid (Kept.row go _ _ _)
  have hlt := (List.getElem?_eq_some_iff.1 hg).1
  have e1 : (0 : Int) ≤ (i : Int) := by omega
  have e2 : (i : Int) < (os.length : Int) := by omega
  obtain ⟨gh, gp, go_, gwa, gws, gwc, gla, gls, glc⟩ := g
  simp only at h1 h2 hsm hxw hxl
  have HXW := Lib.hid hxw
  have HXL := Lib.hid hxl
  simp only at hi
  have HIN := Lib.hid hi
  have HXX := Lib.hid hxx
  clear hi hxx
  clear hn hx hg hxw hxl hlt
  go_enter Try.func36, Try.ntmps36
  go_wp2_with (first | go_skip | ((first | ((with_reducible refine pre_alloc _ rfl ?_); refine lZ hp rfl zero34 ?_; clear hp; intro b w1 hp) | ((with_reducible refine pre_box _ _ rfl ?_); refine lB hp rfl (slot_tmp rfl) rfl ?_; clear hp; intro b w1 hp) | ((with_reducible refine pre_load _ _ rfl ?_); first | refine lO hp rfl (slot_tmp rfl) ceDU1 aa14 ?_ | refine lA hp rfl (slot_tmp rfl) gaDU0 aa14 ?_) | ((with_reducible refine pre_store _ _ _ rfl ?_); (first | refine sO hp rfl (slot_tmp rfl) ceDU1 aa14 ?_ | refine sA hp rfl (slot_tmp rfl) (slot_tmp rfl) gaDU0 aa14 ?_ | refine sG hp rfl (slot_tmp rfl) (slot_tmp rfl) gaDU0 aa14 ?_); clear hp; intro w1 hp; simp only [spl, List.set_cons_zero, List.set_cons_succ] at hp)); simp only [put_some, put_none, List.set_cons_succ, List.set_cons_zero]))
  refine wp_region_keeps [_, _] (Keeps.two hp.drew at1 at2) [] [(0, true), (1, true), (2, true), (3, true), (4, true), (5, true), (6, true), (7, false), (8, true), (9, true), (10, true), (11, false), (12, false)] (by kernel_rfl) (by kernel_rfl) rfl (by kernel_rfl) (fun _ _ d _ _ h => by cases d <;> exact h) ?_
  replace hp := hp.drew
  repeat' (with_reducible refine plan_is ?_); first | (with_reducible refine plan_nil ?_) | ((with_reducible refine plan_t ?_); refine plan_tk rfl ?_; (first | ((with_reducible refine tk_mv _ rfl ?_); refine tM rfl ?_) | ((with_reducible refine tk_ld _ _ rfl ?_); refine tO rfl (slot_tmp rfl) (by with_reducible first | exact cell3 | exact cell23) aa5 ?_) | refine tG (fun w _ => (by go_simp; try rfl)) ?_); try simp only [put_some, put_none, eval_tmp, eval_const, List.set_cons_succ, List.set_cons_zero, List.getD_cons_succ, List.getD_cons_zero, wrap_eq]) | (refine plan_do rfl (fun K hK => ?_); go_wp2_with (first | (go_at_call 43; (with_reducible refine (find43_yes HPL.out _ oc hol HS.out _ (HRO.out.at hp (fun p hm => by (rw [List.mem_singleton] at hm; subst hm; simp)))).mono ?_); rintro e w1 ⟨rfl, hb⟩; replace hp := hp.call hb; clear hb) | go_skip); (refine hK.out _ _ (.inr (Keeps.two hp aa5 aa5)) ?_); clear hK K; try simp only [put_some, put_none, eval_tmp, eval_const, List.set_cons_succ, List.set_cons_zero, List.getD_cons_succ, List.getD_cons_zero, wrap_eq])
  obtain ⟨br, rfl⟩ := hp.id0
  obtain ⟨bo, rfl⟩ := hp.id1
  go_wp2_with (first | ((with_reducible refine pre_load 46 _ rfl ?_); refine lO hp rfl (slot_tmp rfl) cell46 at3 ?_ (hv := by first | exact HXW.out | exact HXL.out); simp only [put_some, put_none, List.set_cons_succ, List.set_cons_zero]) | (go_at_call 24; (with_reducible refine (within24 _ _ _ _).mono ?_); rintro e w' ⟨rfl, rfl⟩; rw [HIN.out]) | (go_at_call 17; (with_reducible refine (no17 _ _).mono ?_); rintro e w1 ⟨rfl, hb⟩; replace hp := hp.call hb; clear hb; unfold resV) | go_skip | ((first | ((with_reducible refine pre_alloc _ rfl ?_); refine lZ hp rfl zero34 ?_; clear hp; intro b w1 hp) | ((with_reducible refine pre_box _ _ rfl ?_); refine lB hp rfl (slot_tmp rfl) rfl ?_; clear hp; intro b w1 hp) | ((with_reducible refine pre_load _ _ rfl ?_); first | refine lO hp rfl (slot_tmp rfl) ceDU1 aa14 ?_ | refine lA hp rfl (slot_tmp rfl) gaDU0 aa14 ?_) | ((with_reducible refine pre_store _ _ _ rfl ?_); (first | refine sO hp rfl (slot_tmp rfl) ceDU1 aa14 ?_ | refine sA hp rfl (slot_tmp rfl) (slot_tmp rfl) gaDU0 aa14 ?_ | refine sG hp rfl (slot_tmp rfl) (slot_tmp rfl) gaDU0 aa14 ?_); clear hp; intro w1 hp; simp only [spl, List.set_cons_zero, List.set_cons_succ] at hp)); simp only [put_some, put_none, List.set_cons_succ, List.set_cons_zero]))
  refine bodyPost_ret (results_one (rs := [.cell 4 34]) Try.results36 (.cell rfl (hp.loadAgg agg34 at0 0 _ (by rfl) (by rfl)) .nil)) rfl (WorkAt.sm ?_ rfl)
  have h := HBACK.out _ _ _ _ rfl ⟨Rw, Rl, rfl, h1, h2⟩ hp (fun f => by (simp only [List.map_append, List.map_cons, List.map_nil, List.sum_append, List.sum_cons, List.sum_nil, List.cons_append, List.nil_append, List.append_nil]; omega))
  simpa only [HXX.out] using h
set_option maxRecDepth 100000 in
set_option maxHeartbeats 8000000 in
theorem at36_noidx4 {x : Hv} (hx : HRight x) {hh ii nn cc vv tt : Int} {i : Nat} {g : Ob} (hn : placeO x.os hh = some i) (hg : x.os[i]? = some g) (hi : inB ii 0 ((g.ls.length : Int) - 1) = false) {B bw : Nat} {w0 w : World} {K9 : List Blk} (hW : WorkAt B w0 w bw x K9) :
    Calls Try.prog 36 #[.pointer (some ⟨bw, 0, none⟩), .agg #[.int .i64 4, .int .i64 hh, .int .i64 ii, .int .i64 nn, .int .i64 cc, .int .i64 vv, .int .i64 tt]] w (WorkPost B w0 bw x 52 0 K9) := by
  obtain ⟨go, RF, M1, Rw, Rl, M2, hoa, h1, h2, hp, hback⟩ := hW.open_ hg
  have hsm := hx.small.1.2 g (List.mem_of_getElem? hg)
  obtain ⟨hxw, hxl⟩ := head_at hg
  have HBACK := Lib.hid hback
  have HS := Lib.hid hx.sorted
  have hol : x.os.length ≤ 1000 := by have := hx.len; omega
  clear hback hW
  have hxx := set_same hg
  obtain ⟨od, oa, os, oc, nx, t0, t1, t2, t3, fa, fs, fc⟩ := x
  simp only at hoa
  subst hoa
  simp only [hvL] at hp HBACK
  simp only at hn hol HS hxw hxl hg
  have HPL := Lib.hid hn
  have HRO : RowKit.Hid (Kept [⟨go, os.flatMap obV, 48, oc * 5⟩] fun w => RowIs w (some ⟨go, 0, none⟩) (os.flatMap obV)) := Lib.hid (Kept.row go _ _ _)
  have hlt := (List.getElem?_eq_some_iff.1 hg).1
  have e1 : (0 : Int) ≤ (i : Int) := by omega
  have e2 : (i : Int) < (os.length : Int) := by omega
  obtain ⟨gh, gp, go_, gwa, gws, gwc, gla, gls, glc⟩ := g
  simp only at h1 h2 hsm hxw hxl
  have HXW := Lib.hid hxw
  have HXL := Lib.hid hxl
  simp only at hi
  have HIN := Lib.hid hi
  have HXX := Lib.hid hxx
  clear hi hxx
  clear hn hx hg hxw hxl hlt
  go_enter Try.func36, Try.ntmps36
  go_wp2_with (first | go_skip | ((first | ((with_reducible refine pre_alloc _ rfl ?_); refine lZ hp rfl zero34 ?_; clear hp; intro b w1 hp) | ((with_reducible refine pre_box _ _ rfl ?_); refine lB hp rfl (slot_tmp rfl) rfl ?_; clear hp; intro b w1 hp) | ((with_reducible refine pre_load _ _ rfl ?_); first | refine lO hp rfl (slot_tmp rfl) ceDU1 aa14 ?_ | refine lA hp rfl (slot_tmp rfl) gaDU0 aa14 ?_) | ((with_reducible refine pre_store _ _ _ rfl ?_); (first | refine sO hp rfl (slot_tmp rfl) ceDU1 aa14 ?_ | refine sA hp rfl (slot_tmp rfl) (slot_tmp rfl) gaDU0 aa14 ?_ | refine sG hp rfl (slot_tmp rfl) (slot_tmp rfl) gaDU0 aa14 ?_); clear hp; intro w1 hp; simp only [spl, List.set_cons_zero, List.set_cons_succ] at hp)); simp only [put_some, put_none, List.set_cons_succ, List.set_cons_zero]))
  refine wp_region_keeps [_, _] (Keeps.two hp.drew at1 at2) [] [(0, true), (1, true), (2, true), (3, true), (4, true), (5, true), (6, true), (7, false), (8, true), (9, true), (10, true), (11, false), (12, false)] (by kernel_rfl) (by kernel_rfl) rfl (by kernel_rfl) (fun _ _ d _ _ h => by cases d <;> exact h) ?_
  replace hp := hp.drew
  repeat' (with_reducible refine plan_is ?_); first | (with_reducible refine plan_nil ?_) | ((with_reducible refine plan_t ?_); refine plan_tk rfl ?_; (first | ((with_reducible refine tk_mv _ rfl ?_); refine tM rfl ?_) | ((with_reducible refine tk_ld _ _ rfl ?_); refine tO rfl (slot_tmp rfl) (by with_reducible first | exact cell3 | exact cell23) aa5 ?_) | refine tG (fun w _ => (by go_simp; try rfl)) ?_); try simp only [put_some, put_none, eval_tmp, eval_const, List.set_cons_succ, List.set_cons_zero, List.getD_cons_succ, List.getD_cons_zero, wrap_eq]) | (refine plan_do rfl (fun K hK => ?_); go_wp2_with (first | (go_at_call 43; (with_reducible refine (find43_yes HPL.out _ oc hol HS.out _ (HRO.out.at hp (fun p hm => by (rw [List.mem_singleton] at hm; subst hm; simp)))).mono ?_); rintro e w1 ⟨rfl, hb⟩; replace hp := hp.call hb; clear hb) | go_skip); (refine hK.out _ _ (.inr (Keeps.two hp aa5 aa5)) ?_); clear hK K; try simp only [put_some, put_none, eval_tmp, eval_const, List.set_cons_succ, List.set_cons_zero, List.getD_cons_succ, List.getD_cons_zero, wrap_eq])
  obtain ⟨br, rfl⟩ := hp.id0
  obtain ⟨bo, rfl⟩ := hp.id1
  go_wp2_with (first | ((with_reducible refine pre_load 46 _ rfl ?_); refine lO hp rfl (slot_tmp rfl) cell46 at3 ?_ (hv := by first | exact HXW.out | exact HXL.out); simp only [put_some, put_none, List.set_cons_succ, List.set_cons_zero]) | (go_at_call 24; (with_reducible refine (within24 _ _ _ _).mono ?_); rintro e w' ⟨rfl, rfl⟩; rw [HIN.out]) | (go_at_call 17; (with_reducible refine (no17 _ _).mono ?_); rintro e w1 ⟨rfl, hb⟩; replace hp := hp.call hb; clear hb; unfold resV) | go_skip | ((first | ((with_reducible refine pre_alloc _ rfl ?_); refine lZ hp rfl zero34 ?_; clear hp; intro b w1 hp) | ((with_reducible refine pre_box _ _ rfl ?_); refine lB hp rfl (slot_tmp rfl) rfl ?_; clear hp; intro b w1 hp) | ((with_reducible refine pre_load _ _ rfl ?_); first | refine lO hp rfl (slot_tmp rfl) ceDU1 aa14 ?_ | refine lA hp rfl (slot_tmp rfl) gaDU0 aa14 ?_) | ((with_reducible refine pre_store _ _ _ rfl ?_); (first | refine sO hp rfl (slot_tmp rfl) ceDU1 aa14 ?_ | refine sA hp rfl (slot_tmp rfl) (slot_tmp rfl) gaDU0 aa14 ?_ | refine sG hp rfl (slot_tmp rfl) (slot_tmp rfl) gaDU0 aa14 ?_); clear hp; intro w1 hp; simp only [spl, List.set_cons_zero, List.set_cons_succ] at hp)); simp only [put_some, put_none, List.set_cons_succ, List.set_cons_zero]))
  refine bodyPost_ret (results_one (rs := [.cell 4 34]) Try.results36 (.cell rfl (hp.loadAgg agg34 at0 0 _ (by rfl) (by rfl)) .nil)) rfl (WorkAt.sm ?_ rfl)
  have h := HBACK.out _ _ _ _ rfl ⟨Rw, Rl, rfl, h1, h2⟩ hp (fun f => by (simp only [List.map_append, List.map_cons, List.map_nil, List.sum_append, List.sum_cons, List.sum_nil, List.cons_append, List.nil_append, List.append_nil]; omega))
  simpa only [HXX.out] using h
set_option maxRecDepth 100000 in
set_option maxHeartbeats 8000000 in
theorem at36_noidx7 {x : Hv} (hx : HRight x) {hh ii nn cc vv tt : Int} {i : Nat} {g : Ob} (hn : placeO x.os hh = some i) (hg : x.os[i]? = some g) (hi : inB ii 0 ((g.ls.length : Int) - 1) = false) {B bw : Nat} {w0 w : World} {K9 : List Blk} (hW : WorkAt B w0 w bw x K9) :
    Calls Try.prog 36 #[.pointer (some ⟨bw, 0, none⟩), .agg #[.int .i64 7, .int .i64 hh, .int .i64 ii, .int .i64 nn, .int .i64 cc, .int .i64 vv, .int .i64 tt]] w (WorkPost B w0 bw x 52 0 K9) := by
  obtain ⟨go, RF, M1, Rw, Rl, M2, hoa, h1, h2, hp, hback⟩ := hW.open_ hg
  have hsm := hx.small.1.2 g (List.mem_of_getElem? hg)
  obtain ⟨hxw, hxl⟩ := head_at hg
  have HBACK := Lib.hid hback
  have HS := Lib.hid hx.sorted
  have hol : x.os.length ≤ 1000 := by have := hx.len; omega
  clear hback hW
  have hxx := set_same hg
  obtain ⟨od, oa, os, oc, nx, t0, t1, t2, t3, fa, fs, fc⟩ := x
  simp only at hoa
  subst hoa
  simp only [hvL] at hp HBACK
  simp only at hn hol HS hxw hxl hg
  have HPL := Lib.hid hn
  have HRO : RowKit.Hid (Kept [⟨go, os.flatMap obV, 48, oc * 5⟩] fun w => RowIs w (some ⟨go, 0, none⟩) (os.flatMap obV)) := Lib.hid (Kept.row go _ _ _)
  have hlt := (List.getElem?_eq_some_iff.1 hg).1
  have e1 : (0 : Int) ≤ (i : Int) := by omega
  have e2 : (i : Int) < (os.length : Int) := by omega
  obtain ⟨gh, gp, go_, gwa, gws, gwc, gla, gls, glc⟩ := g
  simp only at h1 h2 hsm hxw hxl
  have HXW := Lib.hid hxw
  have HXL := Lib.hid hxl
  simp only at hi
  have HIN := Lib.hid hi
  have HXX := Lib.hid hxx
  clear hi hxx
  clear hn hx hg hxw hxl hlt
  go_enter Try.func36, Try.ntmps36
  go_wp2_with (first | go_skip | ((first | ((with_reducible refine pre_alloc _ rfl ?_); refine lZ hp rfl zero34 ?_; clear hp; intro b w1 hp) | ((with_reducible refine pre_box _ _ rfl ?_); refine lB hp rfl (slot_tmp rfl) rfl ?_; clear hp; intro b w1 hp) | ((with_reducible refine pre_load _ _ rfl ?_); first | refine lO hp rfl (slot_tmp rfl) ceDU1 aa14 ?_ | refine lA hp rfl (slot_tmp rfl) gaDU0 aa14 ?_) | ((with_reducible refine pre_store _ _ _ rfl ?_); (first | refine sO hp rfl (slot_tmp rfl) ceDU1 aa14 ?_ | refine sA hp rfl (slot_tmp rfl) (slot_tmp rfl) gaDU0 aa14 ?_ | refine sG hp rfl (slot_tmp rfl) (slot_tmp rfl) gaDU0 aa14 ?_); clear hp; intro w1 hp; simp only [spl, List.set_cons_zero, List.set_cons_succ] at hp)); simp only [put_some, put_none, List.set_cons_succ, List.set_cons_zero]))
  refine wp_region_keeps [_, _] (Keeps.two hp.drew at1 at2) [] [(0, true), (1, true), (2, true), (3, true), (4, true), (5, true), (6, true), (7, false), (8, true), (9, true), (10, true), (11, false), (12, false)] (by kernel_rfl) (by kernel_rfl) rfl (by kernel_rfl) (fun _ _ d _ _ h => by cases d <;> exact h) ?_
  replace hp := hp.drew
  repeat' (with_reducible refine plan_is ?_); first | (with_reducible refine plan_nil ?_) | ((with_reducible refine plan_t ?_); refine plan_tk rfl ?_; (first | ((with_reducible refine tk_mv _ rfl ?_); refine tM rfl ?_) | ((with_reducible refine tk_ld _ _ rfl ?_); refine tO rfl (slot_tmp rfl) (by with_reducible first | exact cell3 | exact cell23) aa5 ?_) | refine tG (fun w _ => (by go_simp; try rfl)) ?_); try simp only [put_some, put_none, eval_tmp, eval_const, List.set_cons_succ, List.set_cons_zero, List.getD_cons_succ, List.getD_cons_zero, wrap_eq]) | (refine plan_do rfl (fun K hK => ?_); go_wp2_with (first | (go_at_call 43; (with_reducible refine (find43_yes HPL.out _ oc hol HS.out _ (HRO.out.at hp (fun p hm => by (rw [List.mem_singleton] at hm; subst hm; simp)))).mono ?_); rintro e w1 ⟨rfl, hb⟩; replace hp := hp.call hb; clear hb) | go_skip); (refine hK.out _ _ (.inr (Keeps.two hp aa5 aa5)) ?_); clear hK K; try simp only [put_some, put_none, eval_tmp, eval_const, List.set_cons_succ, List.set_cons_zero, List.getD_cons_succ, List.getD_cons_zero, wrap_eq])
  obtain ⟨br, rfl⟩ := hp.id0
  obtain ⟨bo, rfl⟩ := hp.id1
  go_wp2_with (first | ((with_reducible refine pre_load 46 _ rfl ?_); refine lO hp rfl (slot_tmp rfl) cell46 at3 ?_ (hv := by first | exact HXW.out | exact HXL.out); simp only [put_some, put_none, List.set_cons_succ, List.set_cons_zero]) | (go_at_call 24; (with_reducible refine (within24 _ _ _ _).mono ?_); rintro e w' ⟨rfl, rfl⟩; rw [HIN.out]) | (go_at_call 17; (with_reducible refine (no17 _ _).mono ?_); rintro e w1 ⟨rfl, hb⟩; replace hp := hp.call hb; clear hb; unfold resV) | go_skip | ((first | ((with_reducible refine pre_alloc _ rfl ?_); refine lZ hp rfl zero34 ?_; clear hp; intro b w1 hp) | ((with_reducible refine pre_box _ _ rfl ?_); refine lB hp rfl (slot_tmp rfl) rfl ?_; clear hp; intro b w1 hp) | ((with_reducible refine pre_load _ _ rfl ?_); first | refine lO hp rfl (slot_tmp rfl) ceDU1 aa14 ?_ | refine lA hp rfl (slot_tmp rfl) gaDU0 aa14 ?_) | ((with_reducible refine pre_store _ _ _ rfl ?_); (first | refine sO hp rfl (slot_tmp rfl) ceDU1 aa14 ?_ | refine sA hp rfl (slot_tmp rfl) (slot_tmp rfl) gaDU0 aa14 ?_ | refine sG hp rfl (slot_tmp rfl) (slot_tmp rfl) gaDU0 aa14 ?_); clear hp; intro w1 hp; simp only [spl, List.set_cons_zero, List.set_cons_succ] at hp)); simp only [put_some, put_none, List.set_cons_succ, List.set_cons_zero]))
  refine bodyPost_ret (results_one (rs := [.cell 4 34]) Try.results36 (.cell rfl (hp.loadAgg agg34 at0 0 _ (by rfl) (by rfl)) .nil)) rfl (WorkAt.sm ?_ rfl)
  have h := HBACK.out _ _ _ _ rfl ⟨Rw, Rl, rfl, h1, h2⟩ hp (fun f => by (simp only [List.map_append, List.map_cons, List.map_nil, List.sum_append, List.sum_cons, List.sum_nil, List.cons_append, List.nil_append, List.append_nil]; omega))
  simpa only [HXX.out] using h
set_option maxRecDepth 100000 in
set_option maxHeartbeats 8000000 in
theorem at36_read {x : Hv} (hx : HRight x) {hh nn cc vv tt : Int} {i : Nat} {g : Ob} (hn : placeO x.os hh = some i) (hg : x.os[i]? = some g) {q : Nat} {v : Int} (hq : g.ws[q]? = some v) {B bw : Nat} {w0 w : World} {K9 : List Blk} (hW : WorkAt B w0 w bw x K9) :
    Calls Try.prog 36 #[.pointer (some ⟨bw, 0, none⟩), .agg #[.int .i64 6, .int .i64 hh, .int .i64 q, .int .i64 nn, .int .i64 cc, .int .i64 vv, .int .i64 tt]] w (WorkPost B w0 bw x 0 v K9) := by
  obtain ⟨go, RF, M1, Rw, Rl, M2, hoa, h1, h2, hp, hback⟩ := hW.open_ hg
  have hsm := hx.small.1.2 g (List.mem_of_getElem? hg)
  obtain ⟨hxw, hxl⟩ := head_at hg
  have HBACK := Lib.hid hback
  have HS := Lib.hid hx.sorted
  have hol : x.os.length ≤ 1000 := by have := hx.len; omega
  clear hback hW
  have hxx := set_same hg
  obtain ⟨od, oa, os, oc, nx, t0, t1, t2, t3, fa, fs, fc⟩ := x
  simp only at hoa
  subst hoa
  simp only [hvL] at hp HBACK
  simp only at hn hol HS hxw hxl hg
  have HPL := Lib.hid hn
  have HRO : RowKit.Hid (Kept [⟨go, os.flatMap obV, 48, oc * 5⟩] fun w => RowIs w (some ⟨go, 0, none⟩) (os.flatMap obV)) := Lib.hid (Kept.row go _ _ _)
  have hlt := (List.getElem?_eq_some_iff.1 hg).1
  have e1 : (0 : Int) ≤ (i : Int) := by omega
  have e2 : (i : Int) < (os.length : Int) := by omega
  obtain ⟨gh, gp, go_, gwa, gws, gwc, gla, gls, glc⟩ := g
  simp only at h1 h2 hsm hxw hxl
  have HXW := Lib.hid hxw
  have HXL := Lib.hid hxl
  simp only at hq
  have hql := (List.getElem?_eq_some_iff.1 hq).1
  have HXQ := Lib.hid (int_at hq)
  have HXX := Lib.hid hxx
  have HIN : RowKit.Hid (inB (q : Int) 0 ((gws.length : Int) - 1) = true) := Lib.hid (by simp [inB]; omega)
  obtain ⟨gr, rfl, _, _, hR, _⟩ := h1.own (by omega)
  have H1 := Lib.hid h1
  have H2 := Lib.hid h2
  have f1 : (0 : Int) ≤ (q : Int) := by omega
  have f2 : (q : Int) < (gws.length : Int) := by omega
  have HRX := Lib.hid hR
  replace hp := hp.keep (L' := ⟨bw, [.int .i64 od, .slice (some ⟨go, 0, none⟩) os.length oc, .int .i64 nx, .int .i64 t0, .int .i64 t1, .int .i64 t2, .int .i64 t3, .slice fa fs.length fc], 62, 8⟩ :: ⟨go, os.flatMap obV, 48, oc * 5⟩ :: ⟨gr, gws.flatMap iV, 3, gwc * 1⟩ :: (Rl ++ (RF ++ (M1 ++ (M2 ++ K9))))) (by rw [hR]; exact fun f => by (simp only [List.map_append, List.map_cons, List.map_nil, List.sum_append, List.sum_cons, List.sum_nil, List.cons_append, List.nil_append, List.append_nil]; omega))
  clear hxx hq hql h1 h2 hR
  clear hn hx hg hxw hxl hlt
  go_enter Try.func36, Try.ntmps36
  go_wp2_with (first | go_skip | ((first | ((with_reducible refine pre_alloc _ rfl ?_); refine lZ hp rfl zero34 ?_; clear hp; intro b w1 hp) | ((with_reducible refine pre_box _ _ rfl ?_); refine lB hp rfl (slot_tmp rfl) rfl ?_; clear hp; intro b w1 hp) | ((with_reducible refine pre_load _ _ rfl ?_); first | refine lO hp rfl (slot_tmp rfl) ceDU1 aa14 ?_ | refine lA hp rfl (slot_tmp rfl) gaDU0 aa14 ?_) | ((with_reducible refine pre_store _ _ _ rfl ?_); (first | refine sO hp rfl (slot_tmp rfl) ceDU1 aa14 ?_ | refine sA hp rfl (slot_tmp rfl) (slot_tmp rfl) gaDU0 aa14 ?_ | refine sG hp rfl (slot_tmp rfl) (slot_tmp rfl) gaDU0 aa14 ?_); clear hp; intro w1 hp; simp only [spl, List.set_cons_zero, List.set_cons_succ] at hp)); simp only [put_some, put_none, List.set_cons_succ, List.set_cons_zero]))
  refine wp_region_keeps [_, _] (Keeps.two hp.drew at1 at2) [] [(0, true), (1, true), (2, true), (3, true), (4, true), (5, true), (6, true), (7, false), (8, true), (9, true), (10, true), (11, false), (12, false)] (by kernel_rfl) (by kernel_rfl) rfl (by kernel_rfl) (fun _ _ d _ _ h => by cases d <;> exact h) ?_
  replace hp := hp.drew
  repeat' (with_reducible refine plan_is ?_); first | (with_reducible refine plan_nil ?_) | ((with_reducible refine plan_t ?_); refine plan_tk rfl ?_; (first | ((with_reducible refine tk_mv _ rfl ?_); refine tM rfl ?_) | ((with_reducible refine tk_ld _ _ rfl ?_); refine tO rfl (slot_tmp rfl) (by with_reducible first | exact cell3 | exact cell23) aa5 ?_) | refine tG (fun w _ => (by go_simp; try rfl)) ?_); try simp only [put_some, put_none, eval_tmp, eval_const, List.set_cons_succ, List.set_cons_zero, List.getD_cons_succ, List.getD_cons_zero, wrap_eq]) | (refine plan_do rfl (fun K hK => ?_); go_wp2_with (first | (go_at_call 43; (with_reducible refine (find43_yes HPL.out _ oc hol HS.out _ (HRO.out.at hp (fun p hm => by (rw [List.mem_singleton] at hm; subst hm; simp)))).mono ?_); rintro e w1 ⟨rfl, hb⟩; replace hp := hp.call hb; clear hb) | go_skip); (refine hK.out _ _ (.inr (Keeps.two hp aa5 aa5)) ?_); clear hK K; try simp only [put_some, put_none, eval_tmp, eval_const, List.set_cons_succ, List.set_cons_zero, List.getD_cons_succ, List.getD_cons_zero, wrap_eq])
  obtain ⟨br, rfl⟩ := hp.id0
  obtain ⟨bo, rfl⟩ := hp.id1
  go_wp2_with (first | ((with_reducible refine pre_load 46 _ rfl ?_); refine lO hp rfl (slot_tmp rfl) cell46 at3 ?_ (hv := by first | exact HXW.out | exact HXL.out); simp only [put_some, put_none, List.set_cons_succ, List.set_cons_zero]) | ((with_reducible refine pre_load 3 _ rfl ?_); refine lO hp rfl (slot_tmp rfl) cell3 at4 ?_ (hv := HXQ.out); simp only [put_some, put_none, List.set_cons_succ, List.set_cons_zero]) | (go_at_call 24; (with_reducible refine (within24 _ _ _ _).mono ?_); rintro e w' ⟨rfl, rfl⟩; rw [HIN.out]) | (go_at_call 17; (with_reducible refine (no17 _ _).mono ?_); rintro e w1 ⟨rfl, hb⟩; replace hp := hp.call hb; clear hb; unfold resV) | go_skip | ((first | ((with_reducible refine pre_alloc _ rfl ?_); refine lZ hp rfl zero34 ?_; clear hp; intro b w1 hp) | ((with_reducible refine pre_box _ _ rfl ?_); refine lB hp rfl (slot_tmp rfl) rfl ?_; clear hp; intro b w1 hp) | ((with_reducible refine pre_load _ _ rfl ?_); first | refine lO hp rfl (slot_tmp rfl) ceDU1 aa14 ?_ | refine lA hp rfl (slot_tmp rfl) gaDU0 aa14 ?_) | ((with_reducible refine pre_store _ _ _ rfl ?_); (first | refine sO hp rfl (slot_tmp rfl) ceDU1 aa14 ?_ | refine sA hp rfl (slot_tmp rfl) (slot_tmp rfl) gaDU0 aa14 ?_ | refine sG hp rfl (slot_tmp rfl) (slot_tmp rfl) gaDU0 aa14 ?_); clear hp; intro w1 hp; simp only [spl, List.set_cons_zero, List.set_cons_succ] at hp)); simp only [put_some, put_none, List.set_cons_succ, List.set_cons_zero]))
  refine bodyPost_ret (results_one (rs := [.cell 4 34]) Try.results36 (.cell rfl (hp.loadAgg agg34 at0 0 _ (by rfl) (by rfl)) .nil)) rfl (WorkAt.sm ?_ rfl)
  have h := HBACK.out _ _ _ _ rfl ⟨Rw, Rl, rfl, H1.out, H2.out⟩ hp (by rw [HRX.out]; exact fun f => by (simp only [List.map_append, List.map_cons, List.map_nil, List.sum_append, List.sum_cons, List.sum_nil, List.cons_append, List.nil_append, List.append_nil]; omega))
  simpa only [HXX.out] using h
set_option maxRecDepth 100000 in
set_option maxHeartbeats 8000000 in
theorem at36_follow {x : Hv} (hx : HRight x) {hh nn cc vv tt : Int} {i : Nat} {g : Ob} (hn : placeO x.os hh = some i) (hg : x.os[i]? = some g) {q : Nat} {v : Int} (hq : g.ls[q]? = some v) {B bw : Nat} {w0 w : World} {K9 : List Blk} (hW : WorkAt B w0 w bw x K9) :
    Calls Try.prog 36 #[.pointer (some ⟨bw, 0, none⟩), .agg #[.int .i64 7, .int .i64 hh, .int .i64 q, .int .i64 nn, .int .i64 cc, .int .i64 vv, .int .i64 tt]] w (WorkPost B w0 bw x 0 v K9) := by
  obtain ⟨go, RF, M1, Rw, Rl, M2, hoa, h1, h2, hp, hback⟩ := hW.open_ hg
  have hsm := hx.small.1.2 g (List.mem_of_getElem? hg)
  obtain ⟨hxw, hxl⟩ := head_at hg
  have HBACK := Lib.hid hback
  have HS := Lib.hid hx.sorted
  have hol : x.os.length ≤ 1000 := by have := hx.len; omega
  clear hback hW
  have hxx := set_same hg
  obtain ⟨od, oa, os, oc, nx, t0, t1, t2, t3, fa, fs, fc⟩ := x
  simp only at hoa
  subst hoa
  simp only [hvL] at hp HBACK
  simp only at hn hol HS hxw hxl hg
  have HPL := Lib.hid hn
  have HRO : RowKit.Hid (Kept [⟨go, os.flatMap obV, 48, oc * 5⟩] fun w => RowIs w (some ⟨go, 0, none⟩) (os.flatMap obV)) := Lib.hid (Kept.row go _ _ _)
  have hlt := (List.getElem?_eq_some_iff.1 hg).1
  have e1 : (0 : Int) ≤ (i : Int) := by omega
  have e2 : (i : Int) < (os.length : Int) := by omega
  obtain ⟨gh, gp, go_, gwa, gws, gwc, gla, gls, glc⟩ := g
  simp only at h1 h2 hsm hxw hxl
  have HXW := Lib.hid hxw
  have HXL := Lib.hid hxl
  simp only at hq
  have hql := (List.getElem?_eq_some_iff.1 hq).1
  have HXQ := Lib.hid (int_at hq)
  have HXX := Lib.hid hxx
  have HIN : RowKit.Hid (inB (q : Int) 0 ((gls.length : Int) - 1) = true) := Lib.hid (by simp [inB]; omega)
  obtain ⟨gr, rfl, _, _, hR, _⟩ := h2.own (by omega)
  have H1 := Lib.hid h1
  have H2 := Lib.hid h2
  have f1 : (0 : Int) ≤ (q : Int) := by omega
  have f2 : (q : Int) < (gls.length : Int) := by omega
  have HRX := Lib.hid hR
  replace hp := hp.keep (L' := ⟨bw, [.int .i64 od, .slice (some ⟨go, 0, none⟩) os.length oc, .int .i64 nx, .int .i64 t0, .int .i64 t1, .int .i64 t2, .int .i64 t3, .slice fa fs.length fc], 62, 8⟩ :: ⟨go, os.flatMap obV, 48, oc * 5⟩ :: ⟨gr, gls.flatMap iV, 3, glc * 1⟩ :: (Rw ++ (RF ++ (M1 ++ (M2 ++ K9))))) (by rw [hR]; exact fun f => by (simp only [List.map_append, List.map_cons, List.map_nil, List.sum_append, List.sum_cons, List.sum_nil, List.cons_append, List.nil_append, List.append_nil]; omega))
  clear hxx hq hql h1 h2 hR
  clear hn hx hg hxw hxl hlt
  go_enter Try.func36, Try.ntmps36
  go_wp2_with (first | go_skip | ((first | ((with_reducible refine pre_alloc _ rfl ?_); refine lZ hp rfl zero34 ?_; clear hp; intro b w1 hp) | ((with_reducible refine pre_box _ _ rfl ?_); refine lB hp rfl (slot_tmp rfl) rfl ?_; clear hp; intro b w1 hp) | ((with_reducible refine pre_load _ _ rfl ?_); first | refine lO hp rfl (slot_tmp rfl) ceDU1 aa14 ?_ | refine lA hp rfl (slot_tmp rfl) gaDU0 aa14 ?_) | ((with_reducible refine pre_store _ _ _ rfl ?_); (first | refine sO hp rfl (slot_tmp rfl) ceDU1 aa14 ?_ | refine sA hp rfl (slot_tmp rfl) (slot_tmp rfl) gaDU0 aa14 ?_ | refine sG hp rfl (slot_tmp rfl) (slot_tmp rfl) gaDU0 aa14 ?_); clear hp; intro w1 hp; simp only [spl, List.set_cons_zero, List.set_cons_succ] at hp)); simp only [put_some, put_none, List.set_cons_succ, List.set_cons_zero]))
  refine wp_region_keeps [_, _] (Keeps.two hp.drew at1 at2) [] [(0, true), (1, true), (2, true), (3, true), (4, true), (5, true), (6, true), (7, false), (8, true), (9, true), (10, true), (11, false), (12, false)] (by kernel_rfl) (by kernel_rfl) rfl (by kernel_rfl) (fun _ _ d _ _ h => by cases d <;> exact h) ?_
  replace hp := hp.drew
  repeat' (with_reducible refine plan_is ?_); first | (with_reducible refine plan_nil ?_) | ((with_reducible refine plan_t ?_); refine plan_tk rfl ?_; (first | ((with_reducible refine tk_mv _ rfl ?_); refine tM rfl ?_) | ((with_reducible refine tk_ld _ _ rfl ?_); refine tO rfl (slot_tmp rfl) (by with_reducible first | exact cell3 | exact cell23) aa5 ?_) | refine tG (fun w _ => (by go_simp; try rfl)) ?_); try simp only [put_some, put_none, eval_tmp, eval_const, List.set_cons_succ, List.set_cons_zero, List.getD_cons_succ, List.getD_cons_zero, wrap_eq]) | (refine plan_do rfl (fun K hK => ?_); go_wp2_with (first | (go_at_call 43; (with_reducible refine (find43_yes HPL.out _ oc hol HS.out _ (HRO.out.at hp (fun p hm => by (rw [List.mem_singleton] at hm; subst hm; simp)))).mono ?_); rintro e w1 ⟨rfl, hb⟩; replace hp := hp.call hb; clear hb) | go_skip); (refine hK.out _ _ (.inr (Keeps.two hp aa5 aa5)) ?_); clear hK K; try simp only [put_some, put_none, eval_tmp, eval_const, List.set_cons_succ, List.set_cons_zero, List.getD_cons_succ, List.getD_cons_zero, wrap_eq])
  obtain ⟨br, rfl⟩ := hp.id0
  obtain ⟨bo, rfl⟩ := hp.id1
  go_wp2_with (first | ((with_reducible refine pre_load 46 _ rfl ?_); refine lO hp rfl (slot_tmp rfl) cell46 at3 ?_ (hv := by first | exact HXW.out | exact HXL.out); simp only [put_some, put_none, List.set_cons_succ, List.set_cons_zero]) | ((with_reducible refine pre_load 3 _ rfl ?_); refine lO hp rfl (slot_tmp rfl) cell3 at4 ?_ (hv := HXQ.out); simp only [put_some, put_none, List.set_cons_succ, List.set_cons_zero]) | (go_at_call 24; (with_reducible refine (within24 _ _ _ _).mono ?_); rintro e w' ⟨rfl, rfl⟩; rw [HIN.out]) | (go_at_call 17; (with_reducible refine (no17 _ _).mono ?_); rintro e w1 ⟨rfl, hb⟩; replace hp := hp.call hb; clear hb; unfold resV) | go_skip | ((first | ((with_reducible refine pre_alloc _ rfl ?_); refine lZ hp rfl zero34 ?_; clear hp; intro b w1 hp) | ((with_reducible refine pre_box _ _ rfl ?_); refine lB hp rfl (slot_tmp rfl) rfl ?_; clear hp; intro b w1 hp) | ((with_reducible refine pre_load _ _ rfl ?_); first | refine lO hp rfl (slot_tmp rfl) ceDU1 aa14 ?_ | refine lA hp rfl (slot_tmp rfl) gaDU0 aa14 ?_) | ((with_reducible refine pre_store _ _ _ rfl ?_); (first | refine sO hp rfl (slot_tmp rfl) ceDU1 aa14 ?_ | refine sA hp rfl (slot_tmp rfl) (slot_tmp rfl) gaDU0 aa14 ?_ | refine sG hp rfl (slot_tmp rfl) (slot_tmp rfl) gaDU0 aa14 ?_); clear hp; intro w1 hp; simp only [spl, List.set_cons_zero, List.set_cons_succ] at hp)); simp only [put_some, put_none, List.set_cons_succ, List.set_cons_zero]))
  refine bodyPost_ret (results_one (rs := [.cell 4 34]) Try.results36 (.cell rfl (hp.loadAgg agg34 at0 0 _ (by rfl) (by rfl)) .nil)) rfl (WorkAt.sm ?_ rfl)
  have h := HBACK.out _ _ _ _ rfl ⟨Rw, Rl, rfl, H1.out, H2.out⟩ hp (by rw [HRX.out]; exact fun f => by (simp only [List.map_append, List.map_cons, List.map_nil, List.sum_append, List.sum_cons, List.sum_nil, List.cons_append, List.nil_append, List.append_nil]; omega))
  simpa only [HXX.out] using h
set_option maxRecDepth 100000 in
set_option maxHeartbeats 8000000 in
theorem at36_write {x : Hv} (hx : HRight x) {hh nn cc vv tt : Int} {i : Nat} {g : Ob} (hn : placeO x.os hh = some i) (hg : x.os[i]? = some g) {q : Nat} (hq : q < g.ws.length) {B bw : Nat} {w0 w : World} {K9 : List Blk} (hW : WorkAt B w0 w bw x K9) :
    Calls Try.prog 36 #[.pointer (some ⟨bw, 0, none⟩), .agg #[.int .i64 3, .int .i64 hh, .int .i64 q, .int .i64 nn, .int .i64 cc, .int .i64 vv, .int .i64 tt]] w (WorkPost B w0 bw (writeH x i g q vv) 0 0 K9) := by
  obtain ⟨go, RF, M1, Rw, Rl, M2, hoa, h1, h2, hp, hback⟩ := hW.open_ hg
  have hsm := hx.small.1.2 g (List.mem_of_getElem? hg)
  obtain ⟨hxw, hxl⟩ := head_at hg
  have HBACK := Lib.hid hback
  have HS := Lib.hid hx.sorted
  have hol : x.os.length ≤ 1000 := by have := hx.len; omega
  clear hback hW
  obtain ⟨od, oa, os, oc, nx, t0, t1, t2, t3, fa, fs, fc⟩ := x
  simp only at hoa
  subst hoa
  simp only [hvL] at hp HBACK
  simp only at hn hol HS hxw hxl hg
  have HPL := Lib.hid hn
  have HRO : RowKit.Hid (Kept [⟨go, os.flatMap obV, 48, oc * 5⟩] fun w => RowIs w (some ⟨go, 0, none⟩) (os.flatMap obV)) := Lib.hid (Kept.row go _ _ _)
  have hlt := (List.getElem?_eq_some_iff.1 hg).1
  have e1 : (0 : Int) ≤ (i : Int) := by omega
  have e2 : (i : Int) < (os.length : Int) := by omega
  obtain ⟨gh, gp, go_, gwa, gws, gwc, gla, gls, glc⟩ := g
  simp only at h1 h2 hsm hxw hxl
  have HXW := Lib.hid hxw
  have HXL := Lib.hid hxl
  simp only at hq
  have HIN : RowKit.Hid (inB (q : Int) 0 ((gws.length : Int) - 1) = true) := Lib.hid (by simp [inB]; omega)
  obtain ⟨gr, rfl, _, _, hR, _⟩ := h1.own (by omega)
  have HNEW := Lib.hid (own_set (q := q) (v := vv) h1 (by omega))
  have HQL : RowKit.Hid (q < (gws.flatMap iV).length) := Lib.hid (by rw [ints_len]; omega)
  have H2 := Lib.hid h2
  have f1 : (0 : Int) ≤ (q : Int) := by omega
  have f2 : (q : Int) < (gws.length : Int) := by omega
  replace hp := hp.keep (L' := ⟨bw, [.int .i64 od, .slice (some ⟨go, 0, none⟩) os.length oc, .int .i64 nx, .int .i64 t0, .int .i64 t1, .int .i64 t2, .int .i64 t3, .slice fa fs.length fc], 62, 8⟩ :: ⟨go, os.flatMap obV, 48, oc * 5⟩ :: ⟨gr, gws.flatMap iV, 3, gwc * 1⟩ :: (Rl ++ (RF ++ (M1 ++ (M2 ++ K9))))) (by rw [hR]; exact fun f => by (simp only [List.map_append, List.map_cons, List.map_nil, List.sum_append, List.sum_cons, List.sum_nil, List.cons_append, List.nil_append, List.append_nil]; omega))
  clear hq h1 h2 hR
  clear hn hx hg hxw hxl hlt
  go_enter Try.func36, Try.ntmps36
  go_wp2_with (first | go_skip | ((first | ((with_reducible refine pre_alloc _ rfl ?_); refine lZ hp rfl zero34 ?_; clear hp; intro b w1 hp) | ((with_reducible refine pre_box _ _ rfl ?_); refine lB hp rfl (slot_tmp rfl) rfl ?_; clear hp; intro b w1 hp) | ((with_reducible refine pre_load _ _ rfl ?_); first | refine lO hp rfl (slot_tmp rfl) ceDU1 aa14 ?_ | refine lA hp rfl (slot_tmp rfl) gaDU0 aa14 ?_) | ((with_reducible refine pre_store _ _ _ rfl ?_); (first | refine sO hp rfl (slot_tmp rfl) ceDU1 aa14 ?_ | refine sA hp rfl (slot_tmp rfl) (slot_tmp rfl) gaDU0 aa14 ?_ | refine sG hp rfl (slot_tmp rfl) (slot_tmp rfl) gaDU0 aa14 ?_); clear hp; intro w1 hp; simp only [spl, List.set_cons_zero, List.set_cons_succ] at hp)); simp only [put_some, put_none, List.set_cons_succ, List.set_cons_zero]))
  refine wp_region_keeps [_, _] (Keeps.two hp.drew at1 at2) [] [(0, true), (1, true), (2, true), (3, true), (4, true), (5, true), (6, true), (7, false), (8, true), (9, true), (10, true), (11, false), (12, false)] (by kernel_rfl) (by kernel_rfl) rfl (by kernel_rfl) (fun _ _ d _ _ h => by cases d <;> exact h) ?_
  replace hp := hp.drew
  repeat' (with_reducible refine plan_is ?_); first | (with_reducible refine plan_nil ?_) | ((with_reducible refine plan_t ?_); refine plan_tk rfl ?_; (first | ((with_reducible refine tk_mv _ rfl ?_); refine tM rfl ?_) | ((with_reducible refine tk_ld _ _ rfl ?_); refine tO rfl (slot_tmp rfl) (by with_reducible first | exact cell3 | exact cell23) aa5 ?_) | refine tG (fun w _ => (by go_simp; try rfl)) ?_); try simp only [put_some, put_none, eval_tmp, eval_const, List.set_cons_succ, List.set_cons_zero, List.getD_cons_succ, List.getD_cons_zero, wrap_eq]) | (refine plan_do rfl (fun K hK => ?_); go_wp2_with (first | (go_at_call 43; (with_reducible refine (find43_yes HPL.out _ oc hol HS.out _ (HRO.out.at hp (fun p hm => by (rw [List.mem_singleton] at hm; subst hm; simp)))).mono ?_); rintro e w1 ⟨rfl, hb⟩; replace hp := hp.call hb; clear hb) | go_skip); (refine hK.out _ _ (.inr (Keeps.two hp aa5 aa5)) ?_); clear hK K; try simp only [put_some, put_none, eval_tmp, eval_const, List.set_cons_succ, List.set_cons_zero, List.getD_cons_succ, List.getD_cons_zero, wrap_eq])
  obtain ⟨br, rfl⟩ := hp.id0
  obtain ⟨bo, rfl⟩ := hp.id1
  go_wp2_with (first | ((with_reducible refine pre_load 46 _ rfl ?_); refine lO hp rfl (slot_tmp rfl) cell46 at3 ?_ (hv := by first | exact HXW.out | exact HXL.out); simp only [put_some, put_none, List.set_cons_succ, List.set_cons_zero]) | ((with_reducible refine pre_store 3 _ _ rfl ?_); refine sO hp rfl (slot_tmp rfl) cell3 at4 ?_ (hlen := HQL.out); clear hp; intro w1 hp; simp only [List.set_cons_succ, List.set_cons_zero] at hp; simp only [put_some, put_none, List.set_cons_succ, List.set_cons_zero]) | (go_at_call 24; (with_reducible refine (within24 _ _ _ _).mono ?_); rintro e w' ⟨rfl, rfl⟩; rw [HIN.out]) | (go_at_call 17; (with_reducible refine (no17 _ _).mono ?_); rintro e w1 ⟨rfl, hb⟩; replace hp := hp.call hb; clear hb; unfold resV) | go_skip | ((first | ((with_reducible refine pre_alloc _ rfl ?_); refine lZ hp rfl zero34 ?_; clear hp; intro b w1 hp) | ((with_reducible refine pre_box _ _ rfl ?_); refine lB hp rfl (slot_tmp rfl) rfl ?_; clear hp; intro b w1 hp) | ((with_reducible refine pre_load _ _ rfl ?_); first | refine lO hp rfl (slot_tmp rfl) ceDU1 aa14 ?_ | refine lA hp rfl (slot_tmp rfl) gaDU0 aa14 ?_) | ((with_reducible refine pre_store _ _ _ rfl ?_); (first | refine sO hp rfl (slot_tmp rfl) ceDU1 aa14 ?_ | refine sA hp rfl (slot_tmp rfl) (slot_tmp rfl) gaDU0 aa14 ?_ | refine sG hp rfl (slot_tmp rfl) (slot_tmp rfl) gaDU0 aa14 ?_); clear hp; intro w1 hp; simp only [spl, List.set_cons_zero, List.set_cons_succ] at hp)); simp only [put_some, put_none, List.set_cons_succ, List.set_cons_zero]))
  rw [int_set] at hp
  refine bodyPost_ret (results_one (rs := [.cell 4 34]) Try.results36 (.cell rfl (hp.loadAgg agg34 at0 0 _ (by rfl) (by rfl)) .nil)) rfl ⟨rfl, _, Hv.Sm.refl _, ?_⟩
  exact HBACK.out ⟨gh, gp, go_, some ⟨gr, 0, none⟩, gws.set q vv, gwc, gla, gls, glc⟩ ([⟨gr, (gws.set q vv).flatMap iV, 3, gwc * 1⟩] ++ Rl) _ _ (by simp [obV]) ⟨_, _, rfl, by simpa using HNEW.out, H2.out⟩ hp (fun f => by (simp only [List.map_append, List.map_cons, List.map_nil, List.sum_append, List.sum_cons, List.sum_nil, List.cons_append, List.nil_append, List.append_nil]; omega))
set_option maxRecDepth 100000 in
set_option maxHeartbeats 8000000 in
theorem at36_link {x : Hv} (hx : HRight x) {hh nn cc vv tt : Int} {i : Nat} {g : Ob} (hn : placeO x.os hh = some i) (hg : x.os[i]? = some g) {q : Nat} (hq : q < g.ls.length) (hto : leadsC x.os tt = true) {B bw : Nat} {w0 w : World} {K9 : List Blk} (hW : WorkAt B w0 w bw x K9) :
    Calls Try.prog 36 #[.pointer (some ⟨bw, 0, none⟩), .agg #[.int .i64 4, .int .i64 hh, .int .i64 q, .int .i64 nn, .int .i64 cc, .int .i64 vv, .int .i64 tt]] w (WorkPost B w0 bw (linkH x i g q tt) 0 0 K9) := by
  obtain ⟨go, RF, M1, Rw, Rl, M2, hoa, h1, h2, hp, hback⟩ := hW.open_ hg
  have hsm := hx.small.1.2 g (List.mem_of_getElem? hg)
  obtain ⟨hxw, hxl⟩ := head_at hg
  have HBACK := Lib.hid hback
  have HS := Lib.hid hx.sorted
  have hol : x.os.length ≤ 1000 := by have := hx.len; omega
  clear hback hW
  have hxx := set_same hg
  obtain ⟨od, oa, os, oc, nx, t0, t1, t2, t3, fa, fs, fc⟩ := x
  simp only at hoa
  subst hoa
  simp only [hvL] at hp HBACK
  simp only at hn hol HS hxw hxl hg
  have HPL := Lib.hid hn
  have HRO : RowKit.Hid (Kept [⟨go, os.flatMap obV, 48, oc * 5⟩] fun w => RowIs w (some ⟨go, 0, none⟩) (os.flatMap obV)) := Lib.hid (Kept.row go _ _ _)
  have hlt := (List.getElem?_eq_some_iff.1 hg).1
  have e1 : (0 : Int) ≤ (i : Int) := by omega
  have e2 : (i : Int) < (os.length : Int) := by omega
  obtain ⟨gh, gp, go_, gwa, gws, gwc, gla, gls, glc⟩ := g
  simp only at h1 h2 hsm hxw hxl
  have HXW := Lib.hid hxw
  have HXL := Lib.hid hxl
  simp only at hq hto
  have HXX := Lib.hid hxx
  have HIN : RowKit.Hid (inB (q : Int) 0 ((gls.length : Int) - 1) = true) := Lib.hid (by simp [inB]; omega)
  obtain ⟨gr, rfl, _, _, hR, _⟩ := h2.own (by omega)
  have HNEW := Lib.hid (own_set (q := q) (v := tt) h2 (by omega))
  have hqll : q < (gls.flatMap iV).length := by rw [ints_len]; omega
  have H1 := Lib.hid h1
  have H2 := Lib.hid h2
  have HRX := Lib.hid hR
  have f1 : (0 : Int) ≤ (q : Int) := by omega
  have f2 : (q : Int) < (gls.length : Int) := by omega
  replace hp := hp.keep (L' := ⟨bw, [.int .i64 od, .slice (some ⟨go, 0, none⟩) os.length oc, .int .i64 nx, .int .i64 t0, .int .i64 t1, .int .i64 t2, .int .i64 t3, .slice fa fs.length fc], 62, 8⟩ :: ⟨go, os.flatMap obV, 48, oc * 5⟩ :: ⟨gr, gls.flatMap iV, 3, glc * 1⟩ :: (Rw ++ (RF ++ (M1 ++ (M2 ++ K9))))) (by rw [hR]; exact fun f => by (simp only [List.map_append, List.map_cons, List.map_nil, List.sum_append, List.sum_cons, List.sum_nil, List.cons_append, List.nil_append, List.append_nil]; omega))
  have HLD : RowKit.Hid (∀ {x y : Blk} {L : List Blk} {l : List Value} {w : World}, Hp B w0 w (x :: y :: ⟨bw, .int .i64 od :: .slice (some ⟨go, 0, none⟩) os.length oc :: l, 62, 8⟩ :: ⟨go, os.flatMap obV, 48, oc * 5⟩ :: ⟨gr, gls.flatMap iV, 3, glc * 1⟩ :: L) →
      Calls Try.prog 37 #[.pointer (some ⟨bw, 0, none⟩), .pointer (some ⟨gr, q, none⟩), .int .i64 tt] w fun e w' => e = .returned (resV 0 0) ∧ Hp B w0 w' (x :: y :: ⟨bw, .int .i64 od :: .slice (some ⟨go, 0, none⟩) os.length oc :: l, 62, 8⟩ :: ⟨go, os.flatMap obV, 48, oc * 5⟩ :: ⟨gr, (gls.flatMap iV).set q (.int .i64 tt), 3, glc * 1⟩ :: L)) :=
    Lib.hid (fun hp => lead37_yes hol HS.out hto (j := 2) (i := 4) rfl rfl (HRO.out.mono (fun p hm => by (rw [List.mem_singleton] at hm; subst hm; simp)) (fun _ h => h)) rfl hqll hp)
  clear hxx hq h1 h2 hR hto hqll
  clear hn hx hg hxw hxl hlt
  go_enter Try.func36, Try.ntmps36
  go_wp2_with (first | go_skip | ((first | ((with_reducible refine pre_alloc _ rfl ?_); refine lZ hp rfl zero34 ?_; clear hp; intro b w1 hp) | ((with_reducible refine pre_box _ _ rfl ?_); refine lB hp rfl (slot_tmp rfl) rfl ?_; clear hp; intro b w1 hp) | ((with_reducible refine pre_load _ _ rfl ?_); first | refine lO hp rfl (slot_tmp rfl) ceDU1 aa14 ?_ | refine lA hp rfl (slot_tmp rfl) gaDU0 aa14 ?_) | ((with_reducible refine pre_store _ _ _ rfl ?_); (first | refine sO hp rfl (slot_tmp rfl) ceDU1 aa14 ?_ | refine sA hp rfl (slot_tmp rfl) (slot_tmp rfl) gaDU0 aa14 ?_ | refine sG hp rfl (slot_tmp rfl) (slot_tmp rfl) gaDU0 aa14 ?_); clear hp; intro w1 hp; simp only [spl, List.set_cons_zero, List.set_cons_succ] at hp)); simp only [put_some, put_none, List.set_cons_succ, List.set_cons_zero]))
  refine wp_region_keeps [_, _] (Keeps.two hp.drew at1 at2) [] [(0, true), (1, true), (2, true), (3, true), (4, true), (5, true), (6, true), (7, false), (8, true), (9, true), (10, true), (11, false), (12, false)] (by kernel_rfl) (by kernel_rfl) rfl (by kernel_rfl) (fun _ _ d _ _ h => by cases d <;> exact h) ?_
  replace hp := hp.drew
  repeat' (with_reducible refine plan_is ?_); first | (with_reducible refine plan_nil ?_) | ((with_reducible refine plan_t ?_); refine plan_tk rfl ?_; (first | ((with_reducible refine tk_mv _ rfl ?_); refine tM rfl ?_) | ((with_reducible refine tk_ld _ _ rfl ?_); refine tO rfl (slot_tmp rfl) (by with_reducible first | exact cell3 | exact cell23) aa5 ?_) | refine tG (fun w _ => (by go_simp; try rfl)) ?_); try simp only [put_some, put_none, eval_tmp, eval_const, List.set_cons_succ, List.set_cons_zero, List.getD_cons_succ, List.getD_cons_zero, wrap_eq]) | (refine plan_do rfl (fun K hK => ?_); go_wp2_with (first | (go_at_call 43; (with_reducible refine (find43_yes HPL.out _ oc hol HS.out _ (HRO.out.at hp (fun p hm => by (rw [List.mem_singleton] at hm; subst hm; simp)))).mono ?_); rintro e w1 ⟨rfl, hb⟩; replace hp := hp.call hb; clear hb) | go_skip); (refine hK.out _ _ (.inr (Keeps.two hp aa5 aa5)) ?_); clear hK K; try simp only [put_some, put_none, eval_tmp, eval_const, List.set_cons_succ, List.set_cons_zero, List.getD_cons_succ, List.getD_cons_zero, wrap_eq])
  obtain ⟨br, rfl⟩ := hp.id0
  obtain ⟨bo, rfl⟩ := hp.id1
  go_wp2_with (first | ((with_reducible refine pre_load 46 _ rfl ?_); refine lO hp rfl (slot_tmp rfl) cell46 at3 ?_ (hv := by first | exact HXW.out | exact HXL.out); simp only [put_some, put_none, List.set_cons_succ, List.set_cons_zero]) | (go_at_call 24; (with_reducible refine (within24 _ _ _ _).mono ?_); rintro e w' ⟨rfl, rfl⟩; rw [HIN.out]) | (go_at_call 17; (with_reducible refine (no17 _ _).mono ?_); rintro e w1 ⟨rfl, hb⟩; replace hp := hp.call hb; clear hb; unfold resV) | go_skip | ((first | ((with_reducible refine pre_alloc _ rfl ?_); refine lZ hp rfl zero34 ?_; clear hp; intro b w1 hp) | ((with_reducible refine pre_box _ _ rfl ?_); refine lB hp rfl (slot_tmp rfl) rfl ?_; clear hp; intro b w1 hp) | ((with_reducible refine pre_load _ _ rfl ?_); first | refine lO hp rfl (slot_tmp rfl) ceDU1 aa14 ?_ | refine lA hp rfl (slot_tmp rfl) gaDU0 aa14 ?_) | ((with_reducible refine pre_store _ _ _ rfl ?_); (first | refine sO hp rfl (slot_tmp rfl) ceDU1 aa14 ?_ | refine sA hp rfl (slot_tmp rfl) (slot_tmp rfl) gaDU0 aa14 ?_ | refine sG hp rfl (slot_tmp rfl) (slot_tmp rfl) gaDU0 aa14 ?_); clear hp; intro w1 hp; simp only [spl, List.set_cons_zero, List.set_cons_succ] at hp)); simp only [put_some, put_none, List.set_cons_succ, List.set_cons_zero]))
  refine wp_region_keeps [_] (Keeps.one hp.drew at1) [7, 8] [(0, true), (1, true), (2, true), (3, true), (4, true), (5, true), (6, true), (7, false), (8, false)] (by kernel_rfl) (by kernel_rfl) rfl (by kernel_rfl) (fun _ _ d _ _ h => by cases d <;> exact h) ?_
  replace hp := hp.drew
  repeat' (with_reducible refine plan_is ?_); first | (with_reducible refine plan_nil ?_) | ((with_reducible refine plan_t ?_); refine plan_tk rfl ?_; (first | ((with_reducible refine tk_mv _ rfl ?_); refine tM rfl ?_) | ((with_reducible refine tk_ld _ _ rfl ?_); refine tO rfl (slot_tmp rfl) cell3 aa5 ?_) | refine tG (fun w _ => (by go_simp; try rfl)) ?_); try simp only [put_some, put_none, eval_tmp, eval_const, List.set_cons_succ, List.set_cons_zero, List.getD_cons_succ, List.getD_cons_zero, wrap_eq]) | (refine plan_do rfl (fun K hK => ?_); go_wp2_with (first | (go_at_call 37; (with_reducible refine (HLD.out hp).mono ?_); clear hp; rintro e w1 ⟨rfl, hp⟩; unfold resV) | go_skip | (((with_reducible refine pre_store _ _ _ rfl ?_); (first | refine sO hp rfl (slot_tmp rfl) ceDU1 aa14 ?_ | refine sA hp rfl (slot_tmp rfl) (slot_tmp rfl) gaDU0 aa14 ?_ | refine sG hp rfl (slot_tmp rfl) (slot_tmp rfl) gaDU0 aa14 ?_); clear hp; intro w1 hp; simp only [spl, List.set_cons_zero, List.set_cons_succ] at hp); simp only [put_some, put_none, List.set_cons_succ, List.set_cons_zero])); (first | refine hK.out _ _ (.inl rfl) ?_ | refine hK.out _ _ (.inr (Keeps.one hp aa5)) ?_); clear hK K; try simp only [put_some, put_none, eval_tmp, eval_const, List.set_cons_succ, List.set_cons_zero, List.getD_cons_succ, List.getD_cons_zero, wrap_eq])
  go_wp2_with (first | go_skip | ((first | ((with_reducible refine pre_alloc _ rfl ?_); refine lZ hp rfl zero34 ?_; clear hp; intro b w1 hp) | ((with_reducible refine pre_box _ _ rfl ?_); refine lB hp rfl (slot_tmp rfl) rfl ?_; clear hp; intro b w1 hp) | ((with_reducible refine pre_load _ _ rfl ?_); first | refine lO hp rfl (slot_tmp rfl) ceDU1 aa14 ?_ | refine lA hp rfl (slot_tmp rfl) gaDU0 aa14 ?_) | ((with_reducible refine pre_store _ _ _ rfl ?_); (first | refine sO hp rfl (slot_tmp rfl) ceDU1 aa14 ?_ | refine sA hp rfl (slot_tmp rfl) (slot_tmp rfl) gaDU0 aa14 ?_ | refine sG hp rfl (slot_tmp rfl) (slot_tmp rfl) gaDU0 aa14 ?_); clear hp; intro w1 hp; simp only [spl, List.set_cons_zero, List.set_cons_succ] at hp)); simp only [put_some, put_none, List.set_cons_succ, List.set_cons_zero]))
  rw [int_set] at hp
  refine bodyPost_ret (results_one (rs := [.cell 4 34]) Try.results36 (.cell rfl (hp.loadAgg agg34 at0 0 _ (by rfl) (by rfl)) .nil)) rfl ⟨rfl, _, Hv.Sm.refl _, ?_⟩
  exact HBACK.out ⟨gh, gp, go_, gwa, gws, gwc, some ⟨gr, 0, none⟩, gls.set q tt, glc⟩ (Rw ++ [⟨gr, (gls.set q tt).flatMap iV, 3, glc * 1⟩]) _ _ (by simp [obV]) ⟨_, _, rfl, H1.out, by simpa using HNEW.out⟩ hp (fun f => by (simp only [List.map_append, List.map_cons, List.map_nil, List.sum_append, List.sum_cons, List.sum_nil, List.cons_append, List.nil_append, List.append_nil]; omega))
set_option maxRecDepth 100000 in
set_option maxHeartbeats 8000000 in
theorem at36_nolink {x : Hv} (hx : HRight x) {hh nn cc vv tt : Int} {i : Nat} {g : Ob} (hn : placeO x.os hh = some i) (hg : x.os[i]? = some g) {q : Nat} (hq : q < g.ls.length) (hto : leadsC x.os tt = false) {B bw : Nat} {w0 w : World} {K9 : List Blk} (hW : WorkAt B w0 w bw x K9) :
    Calls Try.prog 36 #[.pointer (some ⟨bw, 0, none⟩), .agg #[.int .i64 4, .int .i64 hh, .int .i64 q, .int .i64 nn, .int .i64 cc, .int .i64 vv, .int .i64 tt]] w (WorkPost B w0 bw x 51 0 K9) := by
  obtain ⟨go, RF, M1, Rw, Rl, M2, hoa, h1, h2, hp, hback⟩ := hW.open_ hg
  have hsm := hx.small.1.2 g (List.mem_of_getElem? hg)
  obtain ⟨hxw, hxl⟩ := head_at hg
  have HBACK := Lib.hid hback
  have HS := Lib.hid hx.sorted
  have hol : x.os.length ≤ 1000 := by have := hx.len; omega
  clear hback hW
  have hxx := set_same hg
  obtain ⟨od, oa, os, oc, nx, t0, t1, t2, t3, fa, fs, fc⟩ := x
  simp only at hoa
  subst hoa
  simp only [hvL] at hp HBACK
  simp only at hn hol HS hxw hxl hg
  have HPL := Lib.hid hn
  have HRO : RowKit.Hid (Kept [⟨go, os.flatMap obV, 48, oc * 5⟩] fun w => RowIs w (some ⟨go, 0, none⟩) (os.flatMap obV)) := Lib.hid (Kept.row go _ _ _)
  have hlt := (List.getElem?_eq_some_iff.1 hg).1
  have e1 : (0 : Int) ≤ (i : Int) := by omega
  have e2 : (i : Int) < (os.length : Int) := by omega
  obtain ⟨gh, gp, go_, gwa, gws, gwc, gla, gls, glc⟩ := g
  simp only at h1 h2 hsm hxw hxl
  have HXW := Lib.hid hxw
  have HXL := Lib.hid hxl
  simp only at hq hto
  have HXX := Lib.hid hxx
  have HIN : RowKit.Hid (inB (q : Int) 0 ((gls.length : Int) - 1) = true) := Lib.hid (by simp [inB]; omega)
  obtain ⟨gr, rfl, _, _, hR, _⟩ := h2.own (by omega)
  have HNEW := Lib.hid (own_set (q := q) (v := tt) h2 (by omega))
  have hqll : q < (gls.flatMap iV).length := by rw [ints_len]; omega
  have H1 := Lib.hid h1
  have H2 := Lib.hid h2
  have HRX := Lib.hid hR
  have f1 : (0 : Int) ≤ (q : Int) := by omega
  have f2 : (q : Int) < (gls.length : Int) := by omega
  replace hp := hp.keep (L' := ⟨bw, [.int .i64 od, .slice (some ⟨go, 0, none⟩) os.length oc, .int .i64 nx, .int .i64 t0, .int .i64 t1, .int .i64 t2, .int .i64 t3, .slice fa fs.length fc], 62, 8⟩ :: ⟨go, os.flatMap obV, 48, oc * 5⟩ :: ⟨gr, gls.flatMap iV, 3, glc * 1⟩ :: (Rw ++ (RF ++ (M1 ++ (M2 ++ K9))))) (by rw [hR]; exact fun f => by (simp only [List.map_append, List.map_cons, List.map_nil, List.sum_append, List.sum_cons, List.sum_nil, List.cons_append, List.nil_append, List.append_nil]; omega))
  have HLD : RowKit.Hid (∀ {x y : Blk} {L : List Blk} {l : List Value} {w : World}, Hp B w0 w (x :: y :: ⟨bw, .int .i64 od :: .slice (some ⟨go, 0, none⟩) os.length oc :: l, 62, 8⟩ :: ⟨go, os.flatMap obV, 48, oc * 5⟩ :: ⟨gr, gls.flatMap iV, 3, glc * 1⟩ :: L) →
      Calls Try.prog 37 #[.pointer (some ⟨bw, 0, none⟩), .pointer (some ⟨gr, q, none⟩), .int .i64 tt] w fun e w' => e = .returned (resV 51 0) ∧ Hp B w0 w' (x :: y :: ⟨bw, .int .i64 od :: .slice (some ⟨go, 0, none⟩) os.length oc :: l, 62, 8⟩ :: ⟨go, os.flatMap obV, 48, oc * 5⟩ :: ⟨gr, gls.flatMap iV, 3, glc * 1⟩ :: L)) :=
    Lib.hid (fun hp => lead37_no hol HS.out hto (j := 2) (i := 4) rfl rfl (HRO.out.mono (fun p hm => by (rw [List.mem_singleton] at hm; subst hm; simp)) (fun _ h => h)) rfl hqll hp)
  clear hxx hq h1 h2 hR hto hqll
  clear hn hx hg hxw hxl hlt
  go_enter Try.func36, Try.ntmps36
  go_wp2_with (first | go_skip | ((first | ((with_reducible refine pre_alloc _ rfl ?_); refine lZ hp rfl zero34 ?_; clear hp; intro b w1 hp) | ((with_reducible refine pre_box _ _ rfl ?_); refine lB hp rfl (slot_tmp rfl) rfl ?_; clear hp; intro b w1 hp) | ((with_reducible refine pre_load _ _ rfl ?_); first | refine lO hp rfl (slot_tmp rfl) ceDU1 aa14 ?_ | refine lA hp rfl (slot_tmp rfl) gaDU0 aa14 ?_) | ((with_reducible refine pre_store _ _ _ rfl ?_); (first | refine sO hp rfl (slot_tmp rfl) ceDU1 aa14 ?_ | refine sA hp rfl (slot_tmp rfl) (slot_tmp rfl) gaDU0 aa14 ?_ | refine sG hp rfl (slot_tmp rfl) (slot_tmp rfl) gaDU0 aa14 ?_); clear hp; intro w1 hp; simp only [spl, List.set_cons_zero, List.set_cons_succ] at hp)); simp only [put_some, put_none, List.set_cons_succ, List.set_cons_zero]))
  refine wp_region_keeps [_, _] (Keeps.two hp.drew at1 at2) [] [(0, true), (1, true), (2, true), (3, true), (4, true), (5, true), (6, true), (7, false), (8, true), (9, true), (10, true), (11, false), (12, false)] (by kernel_rfl) (by kernel_rfl) rfl (by kernel_rfl) (fun _ _ d _ _ h => by cases d <;> exact h) ?_
  replace hp := hp.drew
  repeat' (with_reducible refine plan_is ?_); first | (with_reducible refine plan_nil ?_) | ((with_reducible refine plan_t ?_); refine plan_tk rfl ?_; (first | ((with_reducible refine tk_mv _ rfl ?_); refine tM rfl ?_) | ((with_reducible refine tk_ld _ _ rfl ?_); refine tO rfl (slot_tmp rfl) (by with_reducible first | exact cell3 | exact cell23) aa5 ?_) | refine tG (fun w _ => (by go_simp; try rfl)) ?_); try simp only [put_some, put_none, eval_tmp, eval_const, List.set_cons_succ, List.set_cons_zero, List.getD_cons_succ, List.getD_cons_zero, wrap_eq]) | (refine plan_do rfl (fun K hK => ?_); go_wp2_with (first | (go_at_call 43; (with_reducible refine (find43_yes HPL.out _ oc hol HS.out _ (HRO.out.at hp (fun p hm => by (rw [List.mem_singleton] at hm; subst hm; simp)))).mono ?_); rintro e w1 ⟨rfl, hb⟩; replace hp := hp.call hb; clear hb) | go_skip); (refine hK.out _ _ (.inr (Keeps.two hp aa5 aa5)) ?_); clear hK K; try simp only [put_some, put_none, eval_tmp, eval_const, List.set_cons_succ, List.set_cons_zero, List.getD_cons_succ, List.getD_cons_zero, wrap_eq])
  obtain ⟨br, rfl⟩ := hp.id0
  obtain ⟨bo, rfl⟩ := hp.id1
  go_wp2_with (first | ((with_reducible refine pre_load 46 _ rfl ?_); refine lO hp rfl (slot_tmp rfl) cell46 at3 ?_ (hv := by first | exact HXW.out | exact HXL.out); simp only [put_some, put_none, List.set_cons_succ, List.set_cons_zero]) | (go_at_call 24; (with_reducible refine (within24 _ _ _ _).mono ?_); rintro e w' ⟨rfl, rfl⟩; rw [HIN.out]) | (go_at_call 17; (with_reducible refine (no17 _ _).mono ?_); rintro e w1 ⟨rfl, hb⟩; replace hp := hp.call hb; clear hb; unfold resV) | go_skip | ((first | ((with_reducible refine pre_alloc _ rfl ?_); refine lZ hp rfl zero34 ?_; clear hp; intro b w1 hp) | ((with_reducible refine pre_box _ _ rfl ?_); refine lB hp rfl (slot_tmp rfl) rfl ?_; clear hp; intro b w1 hp) | ((with_reducible refine pre_load _ _ rfl ?_); first | refine lO hp rfl (slot_tmp rfl) ceDU1 aa14 ?_ | refine lA hp rfl (slot_tmp rfl) gaDU0 aa14 ?_) | ((with_reducible refine pre_store _ _ _ rfl ?_); (first | refine sO hp rfl (slot_tmp rfl) ceDU1 aa14 ?_ | refine sA hp rfl (slot_tmp rfl) (slot_tmp rfl) gaDU0 aa14 ?_ | refine sG hp rfl (slot_tmp rfl) (slot_tmp rfl) gaDU0 aa14 ?_); clear hp; intro w1 hp; simp only [spl, List.set_cons_zero, List.set_cons_succ] at hp)); simp only [put_some, put_none, List.set_cons_succ, List.set_cons_zero]))
  refine wp_region_keeps [_] (Keeps.one hp.drew at1) [7, 8] [(0, true), (1, true), (2, true), (3, true), (4, true), (5, true), (6, true), (7, false), (8, false)] (by kernel_rfl) (by kernel_rfl) rfl (by kernel_rfl) (fun _ _ d _ _ h => by cases d <;> exact h) ?_
  replace hp := hp.drew
  repeat' (with_reducible refine plan_is ?_); first | (with_reducible refine plan_nil ?_) | ((with_reducible refine plan_t ?_); refine plan_tk rfl ?_; (first | ((with_reducible refine tk_mv _ rfl ?_); refine tM rfl ?_) | ((with_reducible refine tk_ld _ _ rfl ?_); refine tO rfl (slot_tmp rfl) cell3 aa5 ?_) | refine tG (fun w _ => (by go_simp; try rfl)) ?_); try simp only [put_some, put_none, eval_tmp, eval_const, List.set_cons_succ, List.set_cons_zero, List.getD_cons_succ, List.getD_cons_zero, wrap_eq]) | (refine plan_do rfl (fun K hK => ?_); go_wp2_with (first | (go_at_call 37; (with_reducible refine (HLD.out hp).mono ?_); clear hp; rintro e w1 ⟨rfl, hp⟩; unfold resV) | go_skip | (((with_reducible refine pre_store _ _ _ rfl ?_); (first | refine sO hp rfl (slot_tmp rfl) ceDU1 aa14 ?_ | refine sA hp rfl (slot_tmp rfl) (slot_tmp rfl) gaDU0 aa14 ?_ | refine sG hp rfl (slot_tmp rfl) (slot_tmp rfl) gaDU0 aa14 ?_); clear hp; intro w1 hp; simp only [spl, List.set_cons_zero, List.set_cons_succ] at hp); simp only [put_some, put_none, List.set_cons_succ, List.set_cons_zero])); (first | refine hK.out _ _ (.inl rfl) ?_ | refine hK.out _ _ (.inr (Keeps.one hp aa5)) ?_); clear hK K; try simp only [put_some, put_none, eval_tmp, eval_const, List.set_cons_succ, List.set_cons_zero, List.getD_cons_succ, List.getD_cons_zero, wrap_eq])
  go_wp2_with (first | go_skip | ((first | ((with_reducible refine pre_alloc _ rfl ?_); refine lZ hp rfl zero34 ?_; clear hp; intro b w1 hp) | ((with_reducible refine pre_box _ _ rfl ?_); refine lB hp rfl (slot_tmp rfl) rfl ?_; clear hp; intro b w1 hp) | ((with_reducible refine pre_load _ _ rfl ?_); first | refine lO hp rfl (slot_tmp rfl) ceDU1 aa14 ?_ | refine lA hp rfl (slot_tmp rfl) gaDU0 aa14 ?_) | ((with_reducible refine pre_store _ _ _ rfl ?_); (first | refine sO hp rfl (slot_tmp rfl) ceDU1 aa14 ?_ | refine sA hp rfl (slot_tmp rfl) (slot_tmp rfl) gaDU0 aa14 ?_ | refine sG hp rfl (slot_tmp rfl) (slot_tmp rfl) gaDU0 aa14 ?_); clear hp; intro w1 hp; simp only [spl, List.set_cons_zero, List.set_cons_succ] at hp)); simp only [put_some, put_none, List.set_cons_succ, List.set_cons_zero]))
  refine bodyPost_ret (results_one (rs := [.cell 4 34]) Try.results36 (.cell rfl (hp.loadAgg agg34 at0 0 _ (by rfl) (by rfl)) .nil)) rfl (WorkAt.sm ?_ rfl)
  have h := HBACK.out _ _ _ _ rfl ⟨Rw, Rl, rfl, H1.out, H2.out⟩ hp (by rw [HRX.out]; exact fun f => by (simp only [List.map_append, List.map_cons, List.map_nil, List.sum_append, List.sum_cons, List.sum_nil, List.cons_append, List.nil_append, List.append_nil]; omega))
  simpa only [HXX.out] using h
end Go.Proofs.Ytcjbepaclbhjaaa
