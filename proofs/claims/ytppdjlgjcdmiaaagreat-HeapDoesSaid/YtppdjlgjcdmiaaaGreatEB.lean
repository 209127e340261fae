/- The walk of the document's object. Written by mkeb.py. -/
import Derived.Test.YtppdjlgjcdmiaaaGreatEF
set_option linter.unusedSimpArgs false
set_option linter.unusedVariables false
namespace Go.Proofs.YtppdjlgjcdmiaaaGreat
open Go.RowKit
theorem zeEB0 {ty : TypeId} {l : List Value} {n : Nat} (h : zeroL Tryz.prog ty = some (l, n) := by with_reducible first | exact zero26 | exact zero34 | exact zero67) : zeroL Tryz.prog ty = some (l, n) := h
theorem gaEB1 {ty : TypeId} {k : Nat} (h : aggB Tryz.prog ty k = true := by with_reducible first | exact agg26 | exact agg67 | exact agg29 | exact agg34) : aggB Tryz.prog ty k = true := h
theorem ceEB2 {ty : TypeId} (h : cellB Tryz.prog ty = true := by with_reducible first | exact cell3 | exact cell4 | exact cell65 | exact cell22 | exact cell27) : cellB Tryz.prog ty = true := h
theorem RefAt.open_ {x : Hv} {i : Nat} {g : Ob} (hg : x.os[i]? = some g) {B : Nat} {w0 w : World} {K : List Blk} (hW : RefAt B w0 w x K) :
    ∃ go RF M1 Rw Rl M2, x.oa = some ⟨go, 0, none⟩ ∧ OwnRow 3 1 (.slice g.wa g.ws.length g.wc) g.ws.length (g.ws.flatMap iV) Rw ∧ OwnRow 3 1 (.slice g.la g.ls.length g.lc) g.ls.length (g.ls.flatMap iV) Rl ∧
      Hp B w0 w (⟨go, x.os.flatMap obV, 67, x.oc * 5⟩ :: (Rw ++ (Rl ++ (RF ++ (M1 ++ (M2 ++ K)))))) ∧
      ∀ (y : Ob) (R' L : List Blk) (w' : World), obV y = obV g → ObR y R' → Hp B w0 w' L → (∀ f : Blk → Nat, ((⟨go, x.os.flatMap obV, 67, x.oc * 5⟩ :: (R' ++ (RF ++ (M1 ++ (M2 ++ K))))).map f).sum ≤ (L.map f).sum) → RefAt B w0 w' { x with os := x.os.set i y } K := by
  obtain ⟨RO, RF, M, ⟨ho, hf, hm⟩, hp⟩ := hW
  have hlt := (List.getElem?_eq_some_iff.1 hg).1
  obtain ⟨go, hoa, hn, hmx, rfl, hlen⟩ := ho.own (by omega)
  obtain ⟨M1, R, M2, rfl, ⟨Rw, Rl, rfl, h1, h2⟩, hnew, _⟩ := hm.at_ hg
  refine ⟨go, RF, M1, Rw, Rl, M2, hoa, h1, h2, hp.kp, fun y R' L w' hy hr hq hle => ?_⟩
  have hq2 := hq.keep hle
  refine ⟨[⟨go, x.os.flatMap obV, 67, x.oc * 5⟩], RF, M1 ++ (R' ++ M2), ⟨?_, hf, hnew y R' hr⟩, ?_⟩
  · simp only [List.length_set]
    refine ⟨by rw [flat_same hg hy]; exact hlen, .inr ⟨go, x.oc, by rw [hoa], hn, hmx, by rw [flat_same hg hy]⟩⟩
  · exact hq2.kp
set_option maxRecDepth 100000 in
set_option maxHeartbeats 8000000 in
theorem object73_none {x : Hv} {kk hh ii nn cc vv tt : Int}  {B : Nat} {w0 w : World} {K : List Blk} (hW : RefAt B w0 w x K) :
    Calls Tryz.prog 73 #[.agg (hvL x).toArray, .agg #[.int .i64 kk, .int .i64 hh, .int .i64 ii, .int .i64 nn, .int .i64 cc, .int .i64 vv, .int .i64 tt], .int .i64 (-1)] w (RefPost B w0 x 51 0 K) := by
  obtain ⟨RO, RF, M, hR, hp⟩ := hW
  have HR := Lib.hid hR
  clear hR
  obtain ⟨od, oa, os, oc, nx, t0, t1, t2, t3, fa, fs, fc⟩ := x
  simp only [hvL]
  go_enter Tryz.func73, Tryz.ntmps73
  go_wp2_with (first | go_skip | ((first | ((with_reducible refine pre_alloc _ rfl ?_); refine lZ hp rfl zeEB0 ?_; clear hp; intro b w1 hp) | ((with_reducible refine pre_box _ _ rfl ?_); refine lB hp rfl (slot_tmp rfl) rfl ?_; clear hp; intro b w1 hp) | ((with_reducible refine pre_load _ _ rfl ?_); first | refine lO hp rfl (slot_tmp rfl) ceEB2 aa14 ?_ | refine lA hp rfl (slot_tmp rfl) gaEB1 aa14 ?_) | ((with_reducible refine pre_store _ _ _ rfl ?_); (first | refine sO hp rfl (slot_tmp rfl) ceEB2 aa14 ?_ | refine sA hp rfl (slot_tmp rfl) (slot_tmp rfl) gaEB1 aa14 ?_ | refine sG hp rfl (slot_tmp rfl) (slot_tmp rfl) gaEB1 aa14 ?_); clear hp; intro w1 hp; simp only [spl, List.set_cons_zero, List.set_cons_succ] at hp) | ((with_reducible refine pre_build _ _ _ rfl ?_); refine lS hp rfl (by intro w; go_simp; rfl) ?_; clear hp; intro b w1 hp; simp only [List.length_cons, List.length_nil, Nat.reduceAdd] at hp)); simp only [put_some, put_none, List.set_cons_succ, List.set_cons_zero]))
  exact bodyPost_ret (results_many (rs := [.cell 6 26, .cell 7 34]) Tryz.results73 (.cell rfl (hp.loadAgg agg26 at1 0 _ (by rfl) (by rfl)) (.cell rfl (hp.loadAgg agg34 at0 0 _ (by rfl) (by rfl)) .nil))) rfl ⟨⟨od, oa, os, oc, nx, t0, t1, t2, t3, fa, fs, fc⟩, rfl, Hv.Sm.refl _, RO, RF, M, HR.out, hp.tail.tail.tail.tail⟩
set_option maxRecDepth 100000 in
set_option maxHeartbeats 8000000 in
theorem object73_noidx3 {x : Hv} {hh ii nn cc vv tt : Int} {i : Nat} {g : Ob} (hg : x.os[i]? = some g) (hol : x.os.length ≤ 1000) (hi : ii < 0 ∨ (g.ws.length : Int) ≤ ii) {B : Nat} {w0 w : World} {K : List Blk} (hW : RefAt B w0 w x K) :
    Calls Tryz.prog 73 #[.agg (hvL x).toArray, .agg #[.int .i64 3, .int .i64 hh, .int .i64 ii, .int .i64 nn, .int .i64 cc, .int .i64 vv, .int .i64 tt], .int .i64 i] w (RefPost B w0 x 52 0 K) := by
  obtain ⟨go, RF, M1, Rw, Rl, M2, hoa, h1, h2, hp, hback⟩ := hW.open_ hg
  have HBACK := Lib.hid hback
  have hxx := set_same hg
  clear hback hW
  obtain ⟨od, oa, os, oc, nx, t0, t1, t2, t3, fa, fs, fc⟩ := x
  simp only at hoa hg hol hxx
  subst hoa
  simp only [hvL]
  have HRO : RowKit.Hid (Kept [⟨go, os.flatMap obV, 67, oc * 5⟩] fun w => RowIs w (some ⟨go, 0, none⟩) (os.flatMap obV)) := Lib.hid (Kept.row go _ _ _)
  have hlt := (List.getElem?_eq_some_iff.1 hg).1
  have HXA := Lib.hid (flat_at 5 obV_len hg)
  have e1 : (0 : Int) ≤ (i : Int) := by omega
  have e2 : (i : Int) < (os.length : Int) := by omega
  obtain ⟨gh, gp, go_, gwa, gws, gwc, gla, gls, glc⟩ := g
  simp only [obV] at HXA
  simp only at h1 h2 hxx
  have HXX := Lib.hid hxx
  clear hg hlt hxx
  simp only at hi
  have hw : decide (ii < 0) = true ∨ (decide (ii < 0) = false ∧ decide ((gws.length : Int) ≤ ii) = true) := by
    by_cases h : ii < 0
    · exact .inl (decide_eq_true h)
    · exact .inr ⟨decide_eq_false h, decide_eq_true (by omega)⟩
  have H1 := Lib.hid h1
  have H2 := Lib.hid h2
  clear hi h1 h2
  rcases hw with f1 | ⟨f1, f2⟩
  all_goals
    go_enter Tryz.func73, Tryz.ntmps73
    go_wp2_with (first | ((with_reducible refine pre_load 67 _ rfl ?_); refine lA hp rfl (slot_tmp rfl) agg67 at4 ?_ (hv := HXA.out); simp only [put_some, put_none, List.set_cons_succ, List.set_cons_zero]) | go_skip | ((first | ((with_reducible refine pre_alloc _ rfl ?_); refine lZ hp rfl zeEB0 ?_; clear hp; intro b w1 hp) | ((with_reducible refine pre_box _ _ rfl ?_); refine lB hp rfl (slot_tmp rfl) rfl ?_; clear hp; intro b w1 hp) | ((with_reducible refine pre_load _ _ rfl ?_); first | refine lO hp rfl (slot_tmp rfl) ceEB2 aa14 ?_ | refine lA hp rfl (slot_tmp rfl) gaEB1 aa14 ?_) | ((with_reducible refine pre_store _ _ _ rfl ?_); (first | refine sO hp rfl (slot_tmp rfl) ceEB2 aa14 ?_ | refine sA hp rfl (slot_tmp rfl) (slot_tmp rfl) gaEB1 aa14 ?_ | refine sG hp rfl (slot_tmp rfl) (slot_tmp rfl) gaEB1 aa14 ?_); clear hp; intro w1 hp; simp only [spl, List.set_cons_zero, List.set_cons_succ] at hp) | ((with_reducible refine pre_build _ _ _ rfl ?_); refine lS hp rfl (by intro w; go_simp; rfl) ?_; clear hp; intro b w1 hp; simp only [List.length_cons, List.length_nil, Nat.reduceAdd] at hp)); simp only [put_some, put_none, List.set_cons_succ, List.set_cons_zero]))
    have hz := HBACK.out (⟨gh, gp, go_, gwa, gws, gwc, gla, gls, glc⟩) (Rw ++ Rl) _ _ (by simp [obV]) ⟨_, _, rfl, H1.out, H2.out⟩ hp (fun f => by (simp only [List.map_append, List.map_cons, List.map_nil, List.sum_append, List.sum_cons, List.sum_nil, List.cons_append, List.nil_append, List.append_nil]; omega))
    rw [HXX.out] at hz
    exact bodyPost_ret (results_many (rs := [.cell 6 26, .cell 7 34]) Tryz.results73 (.cell rfl (hp.loadAgg agg26 at2 0 _ (by rfl) (by rfl)) (.cell rfl (hp.loadAgg agg34 at1 0 _ (by rfl) (by rfl)) .nil))) rfl ⟨_, rfl, Hv.Sm.refl _, hz⟩
set_option maxRecDepth 100000 in
set_option maxHeartbeats 8000000 in
theorem object73_noidx4 {x : Hv} {hh ii nn cc vv tt : Int} {i : Nat} {g : Ob} (hg : x.os[i]? = some g) (hol : x.os.length ≤ 1000) (hi : ii < 0 ∨ (g.ls.length : Int) ≤ ii) {B : Nat} {w0 w : World} {K : List Blk} (hW : RefAt B w0 w x K) :
    Calls Tryz.prog 73 #[.agg (hvL x).toArray, .agg #[.int .i64 4, .int .i64 hh, .int .i64 ii, .int .i64 nn, .int .i64 cc, .int .i64 vv, .int .i64 tt], .int .i64 i] w (RefPost B w0 x 52 0 K) := by
  obtain ⟨go, RF, M1, Rw, Rl, M2, hoa, h1, h2, hp, hback⟩ := hW.open_ hg
  have HBACK := Lib.hid hback
  have hxx := set_same hg
  clear hback hW
  obtain ⟨od, oa, os, oc, nx, t0, t1, t2, t3, fa, fs, fc⟩ := x
  simp only at hoa hg hol hxx
  subst hoa
  simp only [hvL]
  have HRO : RowKit.Hid (Kept [⟨go, os.flatMap obV, 67, oc * 5⟩] fun w => RowIs w (some ⟨go, 0, none⟩) (os.flatMap obV)) := Lib.hid (Kept.row go _ _ _)
  have hlt := (List.getElem?_eq_some_iff.1 hg).1
  have HXA := Lib.hid (flat_at 5 obV_len hg)
  have e1 : (0 : Int) ≤ (i : Int) := by omega
  have e2 : (i : Int) < (os.length : Int) := by omega
  obtain ⟨gh, gp, go_, gwa, gws, gwc, gla, gls, glc⟩ := g
  simp only [obV] at HXA
  simp only at h1 h2 hxx
  have HXX := Lib.hid hxx
  clear hg hlt hxx
  simp only at hi
  have hw : decide (ii < 0) = true ∨ (decide (ii < 0) = false ∧ decide ((gls.length : Int) ≤ ii) = true) := by
    by_cases h : ii < 0
    · exact .inl (decide_eq_true h)
    · exact .inr ⟨decide_eq_false h, decide_eq_true (by omega)⟩
  have H1 := Lib.hid h1
  have H2 := Lib.hid h2
  clear hi h1 h2
  rcases hw with f1 | ⟨f1, f2⟩
  all_goals
    go_enter Tryz.func73, Tryz.ntmps73
    go_wp2_with (first | ((with_reducible refine pre_load 67 _ rfl ?_); refine lA hp rfl (slot_tmp rfl) agg67 at4 ?_ (hv := HXA.out); simp only [put_some, put_none, List.set_cons_succ, List.set_cons_zero]) | go_skip | ((first | ((with_reducible refine pre_alloc _ rfl ?_); refine lZ hp rfl zeEB0 ?_; clear hp; intro b w1 hp) | ((with_reducible refine pre_box _ _ rfl ?_); refine lB hp rfl (slot_tmp rfl) rfl ?_; clear hp; intro b w1 hp) | ((with_reducible refine pre_load _ _ rfl ?_); first | refine lO hp rfl (slot_tmp rfl) ceEB2 aa14 ?_ | refine lA hp rfl (slot_tmp rfl) gaEB1 aa14 ?_) | ((with_reducible refine pre_store _ _ _ rfl ?_); (first | refine sO hp rfl (slot_tmp rfl) ceEB2 aa14 ?_ | refine sA hp rfl (slot_tmp rfl) (slot_tmp rfl) gaEB1 aa14 ?_ | refine sG hp rfl (slot_tmp rfl) (slot_tmp rfl) gaEB1 aa14 ?_); clear hp; intro w1 hp; simp only [spl, List.set_cons_zero, List.set_cons_succ] at hp) | ((with_reducible refine pre_build _ _ _ rfl ?_); refine lS hp rfl (by intro w; go_simp; rfl) ?_; clear hp; intro b w1 hp; simp only [List.length_cons, List.length_nil, Nat.reduceAdd] at hp)); simp only [put_some, put_none, List.set_cons_succ, List.set_cons_zero]))
    have hz := HBACK.out (⟨gh, gp, go_, gwa, gws, gwc, gla, gls, glc⟩) (Rw ++ Rl) _ _ (by simp [obV]) ⟨_, _, rfl, H1.out, H2.out⟩ hp (fun f => by (simp only [List.map_append, List.map_cons, List.map_nil, List.sum_append, List.sum_cons, List.sum_nil, List.cons_append, List.nil_append, List.append_nil]; omega))
    rw [HXX.out] at hz
    exact bodyPost_ret (results_many (rs := [.cell 6 26, .cell 7 34]) Tryz.results73 (.cell rfl (hp.loadAgg agg26 at2 0 _ (by rfl) (by rfl)) (.cell rfl (hp.loadAgg agg34 at1 0 _ (by rfl) (by rfl)) .nil))) rfl ⟨_, rfl, Hv.Sm.refl _, hz⟩
set_option maxRecDepth 100000 in
set_option maxHeartbeats 8000000 in
theorem object73_noidx6 {x : Hv} {hh ii nn cc vv tt : Int} {i : Nat} {g : Ob} (hg : x.os[i]? = some g) (hol : x.os.length ≤ 1000) (hi : ii < 0 ∨ (g.ws.length : Int) ≤ ii) {B : Nat} {w0 w : World} {K : List Blk} (hW : RefAt B w0 w x K) :
    Calls Tryz.prog 73 #[.agg (hvL x).toArray, .agg #[.int .i64 6, .int .i64 hh, .int .i64 ii, .int .i64 nn, .int .i64 cc, .int .i64 vv, .int .i64 tt], .int .i64 i] w (RefPost B w0 x 52 0 K) := by
  obtain ⟨go, RF, M1, Rw, Rl, M2, hoa, h1, h2, hp, hback⟩ := hW.open_ hg
  have HBACK := Lib.hid hback
  have hxx := set_same hg
  clear hback hW
  obtain ⟨od, oa, os, oc, nx, t0, t1, t2, t3, fa, fs, fc⟩ := x
  simp only at hoa hg hol hxx
  subst hoa
  simp only [hvL]
  have HRO : RowKit.Hid (Kept [⟨go, os.flatMap obV, 67, oc * 5⟩] fun w => RowIs w (some ⟨go, 0, none⟩) (os.flatMap obV)) := Lib.hid (Kept.row go _ _ _)
  have hlt := (List.getElem?_eq_some_iff.1 hg).1
  have HXA := Lib.hid (flat_at 5 obV_len hg)
  have e1 : (0 : Int) ≤ (i : Int) := by omega
  have e2 : (i : Int) < (os.length : Int) := by omega
  obtain ⟨gh, gp, go_, gwa, gws, gwc, gla, gls, glc⟩ := g
  simp only [obV] at HXA
  simp only at h1 h2 hxx
  have HXX := Lib.hid hxx
  clear hg hlt hxx
  simp only at hi
  have hw : decide (ii < 0) = true ∨ (decide (ii < 0) = false ∧ decide ((gws.length : Int) ≤ ii) = true) := by
    by_cases h : ii < 0
    · exact .inl (decide_eq_true h)
    · exact .inr ⟨decide_eq_false h, decide_eq_true (by omega)⟩
  have H1 := Lib.hid h1
  have H2 := Lib.hid h2
  clear hi h1 h2
  rcases hw with f1 | ⟨f1, f2⟩
  all_goals
    go_enter Tryz.func73, Tryz.ntmps73
    go_wp2_with (first | ((with_reducible refine pre_load 67 _ rfl ?_); refine lA hp rfl (slot_tmp rfl) agg67 at4 ?_ (hv := HXA.out); simp only [put_some, put_none, List.set_cons_succ, List.set_cons_zero]) | go_skip | ((first | ((with_reducible refine pre_alloc _ rfl ?_); refine lZ hp rfl zeEB0 ?_; clear hp; intro b w1 hp) | ((with_reducible refine pre_box _ _ rfl ?_); refine lB hp rfl (slot_tmp rfl) rfl ?_; clear hp; intro b w1 hp) | ((with_reducible refine pre_load _ _ rfl ?_); first | refine lO hp rfl (slot_tmp rfl) ceEB2 aa14 ?_ | refine lA hp rfl (slot_tmp rfl) gaEB1 aa14 ?_) | ((with_reducible refine pre_store _ _ _ rfl ?_); (first | refine sO hp rfl (slot_tmp rfl) ceEB2 aa14 ?_ | refine sA hp rfl (slot_tmp rfl) (slot_tmp rfl) gaEB1 aa14 ?_ | refine sG hp rfl (slot_tmp rfl) (slot_tmp rfl) gaEB1 aa14 ?_); clear hp; intro w1 hp; simp only [spl, List.set_cons_zero, List.set_cons_succ] at hp) | ((with_reducible refine pre_build _ _ _ rfl ?_); refine lS hp rfl (by intro w; go_simp; rfl) ?_; clear hp; intro b w1 hp; simp only [List.length_cons, List.length_nil, Nat.reduceAdd] at hp)); simp only [put_some, put_none, List.set_cons_succ, List.set_cons_zero]))
    have hz := HBACK.out (⟨gh, gp, go_, gwa, gws, gwc, gla, gls, glc⟩) (Rw ++ Rl) _ _ (by simp [obV]) ⟨_, _, rfl, H1.out, H2.out⟩ hp (fun f => by (simp only [List.map_append, List.map_cons, List.map_nil, List.sum_append, List.sum_cons, List.sum_nil, List.cons_append, List.nil_append, List.append_nil]; omega))
    rw [HXX.out] at hz
    exact bodyPost_ret (results_many (rs := [.cell 6 26, .cell 7 34]) Tryz.results73 (.cell rfl (hp.loadAgg agg26 at2 0 _ (by rfl) (by rfl)) (.cell rfl (hp.loadAgg agg34 at1 0 _ (by rfl) (by rfl)) .nil))) rfl ⟨_, rfl, Hv.Sm.refl _, hz⟩
set_option maxRecDepth 100000 in
set_option maxHeartbeats 8000000 in
theorem object73_noidx7 {x : Hv} {hh ii nn cc vv tt : Int} {i : Nat} {g : Ob} (hg : x.os[i]? = some g) (hol : x.os.length ≤ 1000) (hi : ii < 0 ∨ (g.ls.length : Int) ≤ ii) {B : Nat} {w0 w : World} {K : List Blk} (hW : RefAt B w0 w x K) :
    Calls Tryz.prog 73 #[.agg (hvL x).toArray, .agg #[.int .i64 7, .int .i64 hh, .int .i64 ii, .int .i64 nn, .int .i64 cc, .int .i64 vv, .int .i64 tt], .int .i64 i] w (RefPost B w0 x 52 0 K) := by
  obtain ⟨go, RF, M1, Rw, Rl, M2, hoa, h1, h2, hp, hback⟩ := hW.open_ hg
  have HBACK := Lib.hid hback
  have hxx := set_same hg
  clear hback hW
  obtain ⟨od, oa, os, oc, nx, t0, t1, t2, t3, fa, fs, fc⟩ := x
  simp only at hoa hg hol hxx
  subst hoa
  simp only [hvL]
  have HRO : RowKit.Hid (Kept [⟨go, os.flatMap obV, 67, oc * 5⟩] fun w => RowIs w (some ⟨go, 0, none⟩) (os.flatMap obV)) := Lib.hid (Kept.row go _ _ _)
  have hlt := (List.getElem?_eq_some_iff.1 hg).1
  have HXA := Lib.hid (flat_at 5 obV_len hg)
  have e1 : (0 : Int) ≤ (i : Int) := by omega
  have e2 : (i : Int) < (os.length : Int) := by omega
  obtain ⟨gh, gp, go_, gwa, gws, gwc, gla, gls, glc⟩ := g
  simp only [obV] at HXA
  simp only at h1 h2 hxx
  have HXX := Lib.hid hxx
  clear hg hlt hxx
  simp only at hi
  have hw : decide (ii < 0) = true ∨ (decide (ii < 0) = false ∧ decide ((gls.length : Int) ≤ ii) = true) := by
    by_cases h : ii < 0
    · exact .inl (decide_eq_true h)
    · exact .inr ⟨decide_eq_false h, decide_eq_true (by omega)⟩
  have H1 := Lib.hid h1
  have H2 := Lib.hid h2
  clear hi h1 h2
  rcases hw with f1 | ⟨f1, f2⟩
  all_goals
    go_enter Tryz.func73, Tryz.ntmps73
    go_wp2_with (first | ((with_reducible refine pre_load 67 _ rfl ?_); refine lA hp rfl (slot_tmp rfl) agg67 at4 ?_ (hv := HXA.out); simp only [put_some, put_none, List.set_cons_succ, List.set_cons_zero]) | go_skip | ((first | ((with_reducible refine pre_alloc _ rfl ?_); refine lZ hp rfl zeEB0 ?_; clear hp; intro b w1 hp) | ((with_reducible refine pre_box _ _ rfl ?_); refine lB hp rfl (slot_tmp rfl) rfl ?_; clear hp; intro b w1 hp) | ((with_reducible refine pre_load _ _ rfl ?_); first | refine lO hp rfl (slot_tmp rfl) ceEB2 aa14 ?_ | refine lA hp rfl (slot_tmp rfl) gaEB1 aa14 ?_) | ((with_reducible refine pre_store _ _ _ rfl ?_); (first | refine sO hp rfl (slot_tmp rfl) ceEB2 aa14 ?_ | refine sA hp rfl (slot_tmp rfl) (slot_tmp rfl) gaEB1 aa14 ?_ | refine sG hp rfl (slot_tmp rfl) (slot_tmp rfl) gaEB1 aa14 ?_); clear hp; intro w1 hp; simp only [spl, List.set_cons_zero, List.set_cons_succ] at hp) | ((with_reducible refine pre_build _ _ _ rfl ?_); refine lS hp rfl (by intro w; go_simp; rfl) ?_; clear hp; intro b w1 hp; simp only [List.length_cons, List.length_nil, Nat.reduceAdd] at hp)); simp only [put_some, put_none, List.set_cons_succ, List.set_cons_zero]))
    have hz := HBACK.out (⟨gh, gp, go_, gwa, gws, gwc, gla, gls, glc⟩) (Rw ++ Rl) _ _ (by simp [obV]) ⟨_, _, rfl, H1.out, H2.out⟩ hp (fun f => by (simp only [List.map_append, List.map_cons, List.map_nil, List.sum_append, List.sum_cons, List.sum_nil, List.cons_append, List.nil_append, List.append_nil]; omega))
    rw [HXX.out] at hz
    exact bodyPost_ret (results_many (rs := [.cell 6 26, .cell 7 34]) Tryz.results73 (.cell rfl (hp.loadAgg agg26 at2 0 _ (by rfl) (by rfl)) (.cell rfl (hp.loadAgg agg34 at1 0 _ (by rfl) (by rfl)) .nil))) rfl ⟨_, rfl, Hv.Sm.refl _, hz⟩
set_option maxRecDepth 100000 in
set_option maxHeartbeats 8000000 in
theorem object73_write {x : Hv} {hh nn cc vv tt : Int} {i : Nat} {g : Ob} (hg : x.os[i]? = some g) (hol : x.os.length ≤ 1000) {q : Nat} (hq : q < g.ws.length) {B : Nat} {w0 w : World} {K : List Blk} (hW : RefAt B w0 w x K) :
    Calls Tryz.prog 73 #[.agg (hvL x).toArray, .agg #[.int .i64 3, .int .i64 hh, .int .i64 q, .int .i64 nn, .int .i64 cc, .int .i64 vv, .int .i64 tt], .int .i64 i] w (RefPost B w0 (writeH x i g q vv) 0 0 K) := by
  obtain ⟨go, RF, M1, Rw, Rl, M2, hoa, h1, h2, hp, hback⟩ := hW.open_ hg
  have HBACK := Lib.hid hback
  have hxx := set_same hg
  clear hback hW
  obtain ⟨od, oa, os, oc, nx, t0, t1, t2, t3, fa, fs, fc⟩ := x
  simp only at hoa hg hol hxx
  subst hoa
  simp only [hvL]
  have HRO : RowKit.Hid (Kept [⟨go, os.flatMap obV, 67, oc * 5⟩] fun w => RowIs w (some ⟨go, 0, none⟩) (os.flatMap obV)) := Lib.hid (Kept.row go _ _ _)
  have hlt := (List.getElem?_eq_some_iff.1 hg).1
  have HXA := Lib.hid (flat_at 5 obV_len hg)
  have e1 : (0 : Int) ≤ (i : Int) := by omega
  have e2 : (i : Int) < (os.length : Int) := by omega
  obtain ⟨gh, gp, go_, gwa, gws, gwc, gla, gls, glc⟩ := g
  simp only [obV] at HXA
  simp only at h1 h2 hxx
  have HXX := Lib.hid hxx
  clear hg hlt hxx
  simp only at hq
  obtain ⟨gr, rfl, _, _, rfl, _⟩ := h1.own (by omega)
  have H1 := Lib.hid h1
  have H2 := Lib.hid h2
  have f1 : (0 : Int) ≤ (q : Int) := by omega
  have f2 : (q : Int) < (gws.length : Int) := by omega
  have f3 : decide ((q : Int) < 0) = false := decide_eq_false (by omega)
  have f4 : decide ((gws.length : Int) ≤ (q : Int)) = false := decide_eq_false (by omega)
  have HQL : RowKit.Hid (q < (gws.flatMap iV).length) := Lib.hid (by rw [ints_len]; omega)
  have HNEW : ∀ v, OwnRow 3 1 (.slice (some ⟨gr, 0, none⟩) gws.length gwc) gws.length ((gws.set q v).flatMap iV) [⟨gr, (gws.set q v).flatMap iV, 3, gwc * 1⟩] := fun v => own_set (q := q) (v := v) h1 (by omega)
  replace hp := hp.kp (L' := ⟨go, os.flatMap obV, 67, oc * 5⟩ :: ⟨gr, gws.flatMap iV, 3, gwc * 1⟩ :: (Rl ++ (RF ++ (M1 ++ (M2 ++ K)))))
  clear h1 h2 hq
  go_enter Tryz.func73, Tryz.ntmps73
  go_wp2_with (first | ((with_reducible refine pre_load 67 _ rfl ?_); refine lA hp rfl (slot_tmp rfl) agg67 at4 ?_ (hv := HXA.out); simp only [put_some, put_none, List.set_cons_succ, List.set_cons_zero]) | ((with_reducible refine pre_store 3 _ _ rfl ?_); refine sO hp rfl (slot_tmp rfl) cell3 at6 ?_ (hlen := HQL.out); clear hp; intro w1 hp; simp only [List.set_cons_succ, List.set_cons_zero] at hp; simp only [put_some, put_none, List.set_cons_succ, List.set_cons_zero]) | go_skip | ((first | ((with_reducible refine pre_alloc _ rfl ?_); refine lZ hp rfl zeEB0 ?_; clear hp; intro b w1 hp) | ((with_reducible refine pre_box _ _ rfl ?_); refine lB hp rfl (slot_tmp rfl) rfl ?_; clear hp; intro b w1 hp) | ((with_reducible refine pre_load _ _ rfl ?_); first | refine lO hp rfl (slot_tmp rfl) ceEB2 aa14 ?_ | refine lA hp rfl (slot_tmp rfl) gaEB1 aa14 ?_) | ((with_reducible refine pre_store _ _ _ rfl ?_); (first | refine sO hp rfl (slot_tmp rfl) ceEB2 aa14 ?_ | refine sA hp rfl (slot_tmp rfl) (slot_tmp rfl) gaEB1 aa14 ?_ | refine sG hp rfl (slot_tmp rfl) (slot_tmp rfl) gaEB1 aa14 ?_); clear hp; intro w1 hp; simp only [spl, List.set_cons_zero, List.set_cons_succ] at hp) | ((with_reducible refine pre_build _ _ _ rfl ?_); refine lS hp rfl (by intro w; go_simp; rfl) ?_; clear hp; intro b w1 hp; simp only [List.length_cons, List.length_nil, Nat.reduceAdd] at hp)); simp only [put_some, put_none, List.set_cons_succ, List.set_cons_zero]))
  rw [int_set] at hp
  have hz := HBACK.out (⟨gh, gp, go_, some ⟨gr, 0, none⟩, gws.set q vv, gwc, gla, gls, glc⟩) ([⟨gr, (gws.set q vv).flatMap iV, 3, gwc * 1⟩] ++ Rl) _ _ (by simp [obV]) ⟨_, _, rfl, by simpa using HNEW vv, H2.out⟩ hp (fun f => by (simp only [List.map_append, List.map_cons, List.map_nil, List.sum_append, List.sum_cons, List.sum_nil, List.cons_append, List.nil_append, List.append_nil]; omega))
  refine bodyPost_ret (results_many (rs := [.cell 6 26, .cell 7 34]) Tryz.results73 (.cell rfl (hp.loadAgg agg26 at2 0 _ (by rfl) (by rfl)) (.cell rfl (hp.loadAgg agg34 at1 0 _ (by rfl) (by rfl)) .nil))) rfl ⟨_, ?_, Hv.Sm.refl _, hz⟩
  simp only [hvL, writeH, linkH, List.length_set]; rfl
set_option maxRecDepth 100000 in
set_option maxHeartbeats 8000000 in
theorem object73_link {x : Hv} {hh nn cc vv tt : Int} {i : Nat} {g : Ob} (hg : x.os[i]? = some g) (hol : x.os.length ≤ 1000) {q : Nat} (hq : q < g.ls.length) (hto : leadsC x.os tt = true) {B : Nat} {w0 w : World} {K : List Blk} (hW : RefAt B w0 w x K) :
    Calls Tryz.prog 73 #[.agg (hvL x).toArray, .agg #[.int .i64 4, .int .i64 hh, .int .i64 q, .int .i64 nn, .int .i64 cc, .int .i64 vv, .int .i64 tt], .int .i64 i] w (RefPost B w0 (linkH x i g q tt) 0 0 K) := by
  rw [leadsC_B] at hto
  have HTO := Lib.hid hto
  clear hto
  obtain ⟨go, RF, M1, Rw, Rl, M2, hoa, h1, h2, hp, hback⟩ := hW.open_ hg
  have HBACK := Lib.hid hback
  have hxx := set_same hg
  clear hback hW
  obtain ⟨od, oa, os, oc, nx, t0, t1, t2, t3, fa, fs, fc⟩ := x
  simp only at hoa hg hol hxx
  subst hoa
  simp only [hvL]
  have HRO : RowKit.Hid (Kept [⟨go, os.flatMap obV, 67, oc * 5⟩] fun w => RowIs w (some ⟨go, 0, none⟩) (os.flatMap obV)) := Lib.hid (Kept.row go _ _ _)
  have hlt := (List.getElem?_eq_some_iff.1 hg).1
  have HXA := Lib.hid (flat_at 5 obV_len hg)
  have e1 : (0 : Int) ≤ (i : Int) := by omega
  have e2 : (i : Int) < (os.length : Int) := by omega
  obtain ⟨gh, gp, go_, gwa, gws, gwc, gla, gls, glc⟩ := g
  simp only [obV] at HXA
  simp only at h1 h2 hxx
  have HXX := Lib.hid hxx
  clear hg hlt hxx
  simp only at hq
  obtain ⟨gr, rfl, _, _, rfl, _⟩ := h2.own (by omega)
  have H1 := Lib.hid h1
  have H2 := Lib.hid h2
  have f1 : (0 : Int) ≤ (q : Int) := by omega
  have f2 : (q : Int) < (gls.length : Int) := by omega
  have f3 : decide ((q : Int) < 0) = false := decide_eq_false (by omega)
  have f4 : decide ((gls.length : Int) ≤ (q : Int)) = false := decide_eq_false (by omega)
  have HQL : RowKit.Hid (q < (gls.flatMap iV).length) := Lib.hid (by rw [ints_len]; omega)
  have HNEW : ∀ v, OwnRow 3 1 (.slice (some ⟨gr, 0, none⟩) gls.length glc) gls.length ((gls.set q v).flatMap iV) [⟨gr, (gls.set q v).flatMap iV, 3, glc * 1⟩] := fun v => own_set (q := q) (v := v) h2 (by omega)
  replace hp := hp.kp (L' := ⟨go, os.flatMap obV, 67, oc * 5⟩ :: ⟨gr, gls.flatMap iV, 3, glc * 1⟩ :: (Rw ++ (RF ++ (M1 ++ (M2 ++ K)))))
  clear h1 h2 hq
  go_enter Tryz.func73, Tryz.ntmps73
  go_wp2_with (first | ((with_reducible refine pre_load 67 _ rfl ?_); refine lA hp rfl (slot_tmp rfl) agg67 at4 ?_ (hv := HXA.out); simp only [put_some, put_none, List.set_cons_succ, List.set_cons_zero]) | ((with_reducible refine pre_store 3 _ _ rfl ?_); refine sO hp rfl (slot_tmp rfl) cell3 at6 ?_ (hlen := HQL.out); clear hp; intro w1 hp; simp only [List.set_cons_succ, List.set_cons_zero] at hp; simp only [put_some, put_none, List.set_cons_succ, List.set_cons_zero]) | (go_at_call 67; (with_reducible refine (leads67 od _ os oc nx t0 t1 t2 t3 fa fs.length fc hol tt _ (HRO.out.at hp (fun p hm => by (rw [List.mem_singleton] at hm; subst hm; simp)))).mono ?_); rintro e w1 ⟨rfl, hb⟩; replace hp := hp.call hb; clear hb; rw [HTO.out]) | go_skip | ((first | ((with_reducible refine pre_alloc _ rfl ?_); refine lZ hp rfl zeEB0 ?_; clear hp; intro b w1 hp) | ((with_reducible refine pre_box _ _ rfl ?_); refine lB hp rfl (slot_tmp rfl) rfl ?_; clear hp; intro b w1 hp) | ((with_reducible refine pre_load _ _ rfl ?_); first | refine lO hp rfl (slot_tmp rfl) ceEB2 aa14 ?_ | refine lA hp rfl (slot_tmp rfl) gaEB1 aa14 ?_) | ((with_reducible refine pre_store _ _ _ rfl ?_); (first | refine sO hp rfl (slot_tmp rfl) ceEB2 aa14 ?_ | refine sA hp rfl (slot_tmp rfl) (slot_tmp rfl) gaEB1 aa14 ?_ | refine sG hp rfl (slot_tmp rfl) (slot_tmp rfl) gaEB1 aa14 ?_); clear hp; intro w1 hp; simp only [spl, List.set_cons_zero, List.set_cons_succ] at hp) | ((with_reducible refine pre_build _ _ _ rfl ?_); refine lS hp rfl (by intro w; go_simp; rfl) ?_; clear hp; intro b w1 hp; simp only [List.length_cons, List.length_nil, Nat.reduceAdd] at hp)); simp only [put_some, put_none, List.set_cons_succ, List.set_cons_zero]))
  rw [int_set] at hp
  have hz := HBACK.out (⟨gh, gp, go_, gwa, gws, gwc, some ⟨gr, 0, none⟩, gls.set q tt, glc⟩) (Rw ++ [⟨gr, (gls.set q tt).flatMap iV, 3, glc * 1⟩]) _ _ (by simp [obV]) ⟨_, _, rfl, H1.out, by simpa using HNEW tt⟩ hp (fun f => by (simp only [List.map_append, List.map_cons, List.map_nil, List.sum_append, List.sum_cons, List.sum_nil, List.cons_append, List.nil_append, List.append_nil]; omega))
  refine bodyPost_ret (results_many (rs := [.cell 6 26, .cell 7 34]) Tryz.results73 (.cell rfl (hp.loadAgg agg26 at2 0 _ (by rfl) (by rfl)) (.cell rfl (hp.loadAgg agg34 at1 0 _ (by rfl) (by rfl)) .nil))) rfl ⟨_, ?_, Hv.Sm.refl _, hz⟩
  simp only [hvL, writeH, linkH, List.length_set]; rfl
set_option maxRecDepth 100000 in
set_option maxHeartbeats 8000000 in
theorem object73_nolink {x : Hv} {hh nn cc vv tt : Int} {i : Nat} {g : Ob} (hg : x.os[i]? = some g) (hol : x.os.length ≤ 1000) {q : Nat} (hq : q < g.ls.length) (hto : leadsC x.os tt = false) {B : Nat} {w0 w : World} {K : List Blk} (hW : RefAt B w0 w x K) :
    Calls Tryz.prog 73 #[.agg (hvL x).toArray, .agg #[.int .i64 4, .int .i64 hh, .int .i64 q, .int .i64 nn, .int .i64 cc, .int .i64 vv, .int .i64 tt], .int .i64 i] w (RefPost B w0 x 51 0 K) := by
  rw [leadsC_B] at hto
  have HTO := Lib.hid hto
  clear hto
  obtain ⟨go, RF, M1, Rw, Rl, M2, hoa, h1, h2, hp, hback⟩ := hW.open_ hg
  have HBACK := Lib.hid hback
  have hxx := set_same hg
  clear hback hW
  obtain ⟨od, oa, os, oc, nx, t0, t1, t2, t3, fa, fs, fc⟩ := x
  simp only at hoa hg hol hxx
  subst hoa
  simp only [hvL]
  have HRO : RowKit.Hid (Kept [⟨go, os.flatMap obV, 67, oc * 5⟩] fun w => RowIs w (some ⟨go, 0, none⟩) (os.flatMap obV)) := Lib.hid (Kept.row go _ _ _)
  have hlt := (List.getElem?_eq_some_iff.1 hg).1
  have HXA := Lib.hid (flat_at 5 obV_len hg)
  have e1 : (0 : Int) ≤ (i : Int) := by omega
  have e2 : (i : Int) < (os.length : Int) := by omega
  obtain ⟨gh, gp, go_, gwa, gws, gwc, gla, gls, glc⟩ := g
  simp only [obV] at HXA
  simp only at h1 h2 hxx
  have HXX := Lib.hid hxx
  clear hg hlt hxx
  simp only at hq
  obtain ⟨gr, rfl, _, _, rfl, _⟩ := h2.own (by omega)
  have H1 := Lib.hid h1
  have H2 := Lib.hid h2
  have f1 : (0 : Int) ≤ (q : Int) := by omega
  have f2 : (q : Int) < (gls.length : Int) := by omega
  have f3 : decide ((q : Int) < 0) = false := decide_eq_false (by omega)
  have f4 : decide ((gls.length : Int) ≤ (q : Int)) = false := decide_eq_false (by omega)
  have HQL : RowKit.Hid (q < (gls.flatMap iV).length) := Lib.hid (by rw [ints_len]; omega)
  have HNEW : ∀ v, OwnRow 3 1 (.slice (some ⟨gr, 0, none⟩) gls.length glc) gls.length ((gls.set q v).flatMap iV) [⟨gr, (gls.set q v).flatMap iV, 3, glc * 1⟩] := fun v => own_set (q := q) (v := v) h2 (by omega)
  replace hp := hp.kp (L' := ⟨go, os.flatMap obV, 67, oc * 5⟩ :: ⟨gr, gls.flatMap iV, 3, glc * 1⟩ :: (Rw ++ (RF ++ (M1 ++ (M2 ++ K)))))
  clear h1 h2 hq
  go_enter Tryz.func73, Tryz.ntmps73
  go_wp2_with (first | ((with_reducible refine pre_load 67 _ rfl ?_); refine lA hp rfl (slot_tmp rfl) agg67 at4 ?_ (hv := HXA.out); simp only [put_some, put_none, List.set_cons_succ, List.set_cons_zero]) | (go_at_call 67; (with_reducible refine (leads67 od _ os oc nx t0 t1 t2 t3 fa fs.length fc hol tt _ (HRO.out.at hp (fun p hm => by (rw [List.mem_singleton] at hm; subst hm; simp)))).mono ?_); rintro e w1 ⟨rfl, hb⟩; replace hp := hp.call hb; clear hb; rw [HTO.out]) | go_skip | ((first | ((with_reducible refine pre_alloc _ rfl ?_); refine lZ hp rfl zeEB0 ?_; clear hp; intro b w1 hp) | ((with_reducible refine pre_box _ _ rfl ?_); refine lB hp rfl (slot_tmp rfl) rfl ?_; clear hp; intro b w1 hp) | ((with_reducible refine pre_load _ _ rfl ?_); first | refine lO hp rfl (slot_tmp rfl) ceEB2 aa14 ?_ | refine lA hp rfl (slot_tmp rfl) gaEB1 aa14 ?_) | ((with_reducible refine pre_store _ _ _ rfl ?_); (first | refine sO hp rfl (slot_tmp rfl) ceEB2 aa14 ?_ | refine sA hp rfl (slot_tmp rfl) (slot_tmp rfl) gaEB1 aa14 ?_ | refine sG hp rfl (slot_tmp rfl) (slot_tmp rfl) gaEB1 aa14 ?_); clear hp; intro w1 hp; simp only [spl, List.set_cons_zero, List.set_cons_succ] at hp) | ((with_reducible refine pre_build _ _ _ rfl ?_); refine lS hp rfl (by intro w; go_simp; rfl) ?_; clear hp; intro b w1 hp; simp only [List.length_cons, List.length_nil, Nat.reduceAdd] at hp)); simp only [put_some, put_none, List.set_cons_succ, List.set_cons_zero]))
  have hz := HBACK.out (⟨gh, gp, go_, gwa, gws, gwc, some ⟨gr, 0, none⟩, gls, glc⟩) (Rw ++ [⟨gr, gls.flatMap iV, 3, glc * 1⟩]) _ _ (by simp [obV]) ⟨_, _, rfl, H1.out, H2.out⟩ hp (fun f => by (simp only [List.map_append, List.map_cons, List.map_nil, List.sum_append, List.sum_cons, List.sum_nil, List.cons_append, List.nil_append, List.append_nil]; omega))
  rw [HXX.out] at hz
  exact bodyPost_ret (results_many (rs := [.cell 6 26, .cell 7 34]) Tryz.results73 (.cell rfl (hp.loadAgg agg26 at2 0 _ (by rfl) (by rfl)) (.cell rfl (hp.loadAgg agg34 at1 0 _ (by rfl) (by rfl)) .nil))) rfl ⟨_, rfl, Hv.Sm.refl _, hz⟩
set_option maxRecDepth 100000 in
set_option maxHeartbeats 8000000 in
theorem object73_read {x : Hv} {hh nn cc vv tt : Int} {i : Nat} {g : Ob} (hg : x.os[i]? = some g) (hol : x.os.length ≤ 1000) {q : Nat} (hq : q < g.ws.length) {v : Int} (hv : g.ws[q]? = some v) {B : Nat} {w0 w : World} {K : List Blk} (hW : RefAt B w0 w x K) :
    Calls Tryz.prog 73 #[.agg (hvL x).toArray, .agg #[.int .i64 6, .int .i64 hh, .int .i64 q, .int .i64 nn, .int .i64 cc, .int .i64 vv, .int .i64 tt], .int .i64 i] w (RefPost B w0 x 0 v K) := by
  have HG := Lib.hid (ints_get hv)
  clear hv
  obtain ⟨go, RF, M1, Rw, Rl, M2, hoa, h1, h2, hp, hback⟩ := hW.open_ hg
  have HBACK := Lib.hid hback
  have hxx := set_same hg
  clear hback hW
  obtain ⟨od, oa, os, oc, nx, t0, t1, t2, t3, fa, fs, fc⟩ := x
  simp only at hoa hg hol hxx
  subst hoa
  simp only [hvL]
  have HRO : RowKit.Hid (Kept [⟨go, os.flatMap obV, 67, oc * 5⟩] fun w => RowIs w (some ⟨go, 0, none⟩) (os.flatMap obV)) := Lib.hid (Kept.row go _ _ _)
  have hlt := (List.getElem?_eq_some_iff.1 hg).1
  have HXA := Lib.hid (flat_at 5 obV_len hg)
  have e1 : (0 : Int) ≤ (i : Int) := by omega
  have e2 : (i : Int) < (os.length : Int) := by omega
  obtain ⟨gh, gp, go_, gwa, gws, gwc, gla, gls, glc⟩ := g
  simp only [obV] at HXA
  simp only at h1 h2 hxx
  have HXX := Lib.hid hxx
  clear hg hlt hxx
  simp only at hq
  obtain ⟨gr, rfl, _, _, rfl, _⟩ := h1.own (by omega)
  have H1 := Lib.hid h1
  have H2 := Lib.hid h2
  have f1 : (0 : Int) ≤ (q : Int) := by omega
  have f2 : (q : Int) < (gws.length : Int) := by omega
  have f3 : decide ((q : Int) < 0) = false := decide_eq_false (by omega)
  have f4 : decide ((gws.length : Int) ≤ (q : Int)) = false := decide_eq_false (by omega)
  have HQL : RowKit.Hid (q < (gws.flatMap iV).length) := Lib.hid (by rw [ints_len]; omega)
  have HNEW : ∀ v, OwnRow 3 1 (.slice (some ⟨gr, 0, none⟩) gws.length gwc) gws.length ((gws.set q v).flatMap iV) [⟨gr, (gws.set q v).flatMap iV, 3, gwc * 1⟩] := fun v => own_set (q := q) (v := v) h1 (by omega)
  replace hp := hp.kp (L' := ⟨go, os.flatMap obV, 67, oc * 5⟩ :: ⟨gr, gws.flatMap iV, 3, gwc * 1⟩ :: (Rl ++ (RF ++ (M1 ++ (M2 ++ K)))))
  clear h1 h2 hq
  simp only at HG
  go_enter Tryz.func73, Tryz.ntmps73
  go_wp2_with (first | ((with_reducible refine pre_load 67 _ rfl ?_); refine lA hp rfl (slot_tmp rfl) agg67 at4 ?_ (hv := HXA.out); simp only [put_some, put_none, List.set_cons_succ, List.set_cons_zero]) | go_skip | ((first | ((with_reducible refine pre_alloc _ rfl ?_); refine lZ hp rfl zeEB0 ?_; clear hp; intro b w1 hp) | ((with_reducible refine pre_box _ _ rfl ?_); refine lB hp rfl (slot_tmp rfl) rfl ?_; clear hp; intro b w1 hp) | ((with_reducible refine pre_load _ _ rfl ?_); first | refine lO hp rfl (slot_tmp rfl) ceEB2 aa14 ?_ | refine lA hp rfl (slot_tmp rfl) gaEB1 aa14 ?_) | ((with_reducible refine pre_store _ _ _ rfl ?_); (first | refine sO hp rfl (slot_tmp rfl) ceEB2 aa14 ?_ | refine sA hp rfl (slot_tmp rfl) (slot_tmp rfl) gaEB1 aa14 ?_ | refine sG hp rfl (slot_tmp rfl) (slot_tmp rfl) gaEB1 aa14 ?_); clear hp; intro w1 hp; simp only [spl, List.set_cons_zero, List.set_cons_succ] at hp) | ((with_reducible refine pre_build _ _ _ rfl ?_); refine lS hp rfl (by intro w; go_simp; rfl) ?_; clear hp; intro b w1 hp; simp only [List.length_cons, List.length_nil, Nat.reduceAdd] at hp)); simp only [put_some, put_none, List.set_cons_succ, List.set_cons_zero]))
  refine wp_region_keeps [_, _, _] (Keeps.three hp.drew at3 at4 at6) [8] [(0, true), (1, true), (2, true), (3, true), (4, true), (5, true), (6, true), (7, false), (8, false)] (by kernel_rfl) (by kernel_rfl) rfl (by kernel_rfl) (fun _ _ d _ _ h => by cases d <;> exact h) ?_
  replace hp := hp.drew
  repeat' (with_reducible refine plan_is ?_); first | (with_reducible refine plan_nil ?_) | ((with_reducible refine plan_t ?_); refine plan_tk rfl ?_; (first | ((with_reducible refine tk_mv _ rfl ?_); refine tM rfl ?_) | ((with_reducible refine tk_ld _ _ rfl ?_); first | refine tL rfl (slot_tmp rfl) (fun w hS => hS.loadOne cell3 at2 _ _ HG.out) ?_ | refine tA rfl (slot_tmp rfl) agg26 aa14 ?_ | refine tO rfl (slot_tmp rfl) cell3 aa14 ?_) | refine tG (fun w _ => (by go_simp; try rfl)) ?_); try simp only [put_some, put_none, eval_tmp, eval_const, List.set_cons_succ, List.set_cons_zero, List.getD_cons_succ, List.getD_cons_zero, wrap_eq]) | (refine plan_do rfl (fun K hK => ?_); go_wp2_with (first | go_skip | (((with_reducible refine pre_store _ _ _ rfl ?_); (first | refine sO hp rfl (slot_tmp rfl) ceEB2 aa14 ?_ | refine sA hp rfl (slot_tmp rfl) (slot_tmp rfl) gaEB1 aa14 ?_ | refine sG hp rfl (slot_tmp rfl) (slot_tmp rfl) gaEB1 aa14 ?_); clear hp; intro w1 hp; simp only [spl, List.set_cons_zero, List.set_cons_succ] at hp); simp only [put_some, put_none, List.set_cons_succ, List.set_cons_zero])); (first | refine hK.out _ _ (.inl rfl) ?_ | refine hK.out _ _ (.inr (Keeps.three hp aa14 aa14 aa14)) ?_); clear hK K; try simp only [put_some, put_none, eval_tmp, eval_const, List.set_cons_succ, List.set_cons_zero, List.getD_cons_succ, List.getD_cons_zero, wrap_eq])
  go_wp2_with (first | go_skip | ((first | ((with_reducible refine pre_alloc _ rfl ?_); refine lZ hp rfl zeEB0 ?_; clear hp; intro b w1 hp) | ((with_reducible refine pre_box _ _ rfl ?_); refine lB hp rfl (slot_tmp rfl) rfl ?_; clear hp; intro b w1 hp) | ((with_reducible refine pre_load _ _ rfl ?_); first | refine lO hp rfl (slot_tmp rfl) ceEB2 aa14 ?_ | refine lA hp rfl (slot_tmp rfl) gaEB1 aa14 ?_) | ((with_reducible refine pre_store _ _ _ rfl ?_); (first | refine sO hp rfl (slot_tmp rfl) ceEB2 aa14 ?_ | refine sA hp rfl (slot_tmp rfl) (slot_tmp rfl) gaEB1 aa14 ?_ | refine sG hp rfl (slot_tmp rfl) (slot_tmp rfl) gaEB1 aa14 ?_); clear hp; intro w1 hp; simp only [spl, List.set_cons_zero, List.set_cons_succ] at hp) | ((with_reducible refine pre_build _ _ _ rfl ?_); refine lS hp rfl (by intro w; go_simp; rfl) ?_; clear hp; intro b w1 hp; simp only [List.length_cons, List.length_nil, Nat.reduceAdd] at hp)); simp only [put_some, put_none, List.set_cons_succ, List.set_cons_zero]))
  have hz := HBACK.out (⟨gh, gp, go_, some ⟨gr, 0, none⟩, gws, gwc, gla, gls, glc⟩) ([⟨gr, gws.flatMap iV, 3, gwc * 1⟩] ++ Rl) _ _ (by simp [obV]) ⟨_, _, rfl, H1.out, H2.out⟩ hp (fun f => by (simp only [List.map_append, List.map_cons, List.map_nil, List.sum_append, List.sum_cons, List.sum_nil, List.cons_append, List.nil_append, List.append_nil]; omega))
  rw [HXX.out] at hz
  exact bodyPost_ret (results_many (rs := [.cell 6 26, .cell 7 34]) Tryz.results73 (.cell rfl (hp.loadAgg agg26 at2 0 _ (by rfl) (by rfl)) (.cell rfl (hp.loadAgg agg34 at1 0 _ (by rfl) (by rfl)) .nil))) rfl ⟨_, rfl, Hv.Sm.refl _, hz⟩
set_option maxRecDepth 100000 in
set_option maxHeartbeats 8000000 in
theorem object73_follow {x : Hv} {hh nn cc vv tt : Int} {i : Nat} {g : Ob} (hg : x.os[i]? = some g) (hol : x.os.length ≤ 1000) {q : Nat} (hq : q < g.ls.length) {v : Int} (hv : g.ls[q]? = some v) {B : Nat} {w0 w : World} {K : List Blk} (hW : RefAt B w0 w x K) :
    Calls Tryz.prog 73 #[.agg (hvL x).toArray, .agg #[.int .i64 7, .int .i64 hh, .int .i64 q, .int .i64 nn, .int .i64 cc, .int .i64 vv, .int .i64 tt], .int .i64 i] w (RefPost B w0 x 0 v K) := by
  have HG := Lib.hid (ints_get hv)
  clear hv
  obtain ⟨go, RF, M1, Rw, Rl, M2, hoa, h1, h2, hp, hback⟩ := hW.open_ hg
  have HBACK := Lib.hid hback
  have hxx := set_same hg
  clear hback hW
  obtain ⟨od, oa, os, oc, nx, t0, t1, t2, t3, fa, fs, fc⟩ := x
  simp only at hoa hg hol hxx
  subst hoa
  simp only [hvL]
  have HRO : RowKit.Hid (Kept [⟨go, os.flatMap obV, 67, oc * 5⟩] fun w => RowIs w (some ⟨go, 0, none⟩) (os.flatMap obV)) := Lib.hid (Kept.row go _ _ _)
  have hlt := (List.getElem?_eq_some_iff.1 hg).1
  have HXA := Lib.hid (flat_at 5 obV_len hg)
  have e1 : (0 : Int) ≤ (i : Int) := by omega
  have e2 : (i : Int) < (os.length : Int) := by omega
  obtain ⟨gh, gp, go_, gwa, gws, gwc, gla, gls, glc⟩ := g
  simp only [obV] at HXA
  simp only at h1 h2 hxx
  have HXX := Lib.hid hxx
  clear hg hlt hxx
  simp only at hq
  obtain ⟨gr, rfl, _, _, rfl, _⟩ := h2.own (by omega)
  have H1 := Lib.hid h1
  have H2 := Lib.hid h2
  have f1 : (0 : Int) ≤ (q : Int) := by omega
  have f2 : (q : Int) < (gls.length : Int) := by omega
  have f3 : decide ((q : Int) < 0) = false := decide_eq_false (by omega)
  have f4 : decide ((gls.length : Int) ≤ (q : Int)) = false := decide_eq_false (by omega)
  have HQL : RowKit.Hid (q < (gls.flatMap iV).length) := Lib.hid (by rw [ints_len]; omega)
  have HNEW : ∀ v, OwnRow 3 1 (.slice (some ⟨gr, 0, none⟩) gls.length glc) gls.length ((gls.set q v).flatMap iV) [⟨gr, (gls.set q v).flatMap iV, 3, glc * 1⟩] := fun v => own_set (q := q) (v := v) h2 (by omega)
  replace hp := hp.kp (L' := ⟨go, os.flatMap obV, 67, oc * 5⟩ :: ⟨gr, gls.flatMap iV, 3, glc * 1⟩ :: (Rw ++ (RF ++ (M1 ++ (M2 ++ K)))))
  clear h1 h2 hq
  simp only at HG
  go_enter Tryz.func73, Tryz.ntmps73
  go_wp2_with (first | ((with_reducible refine pre_load 67 _ rfl ?_); refine lA hp rfl (slot_tmp rfl) agg67 at4 ?_ (hv := HXA.out); simp only [put_some, put_none, List.set_cons_succ, List.set_cons_zero]) | go_skip | ((first | ((with_reducible refine pre_alloc _ rfl ?_); refine lZ hp rfl zeEB0 ?_; clear hp; intro b w1 hp) | ((with_reducible refine pre_box _ _ rfl ?_); refine lB hp rfl (slot_tmp rfl) rfl ?_; clear hp; intro b w1 hp) | ((with_reducible refine pre_load _ _ rfl ?_); first | refine lO hp rfl (slot_tmp rfl) ceEB2 aa14 ?_ | refine lA hp rfl (slot_tmp rfl) gaEB1 aa14 ?_) | ((with_reducible refine pre_store _ _ _ rfl ?_); (first | refine sO hp rfl (slot_tmp rfl) ceEB2 aa14 ?_ | refine sA hp rfl (slot_tmp rfl) (slot_tmp rfl) gaEB1 aa14 ?_ | refine sG hp rfl (slot_tmp rfl) (slot_tmp rfl) gaEB1 aa14 ?_); clear hp; intro w1 hp; simp only [spl, List.set_cons_zero, List.set_cons_succ] at hp) | ((with_reducible refine pre_build _ _ _ rfl ?_); refine lS hp rfl (by intro w; go_simp; rfl) ?_; clear hp; intro b w1 hp; simp only [List.length_cons, List.length_nil, Nat.reduceAdd] at hp)); simp only [put_some, put_none, List.set_cons_succ, List.set_cons_zero]))
  refine wp_region_keeps [_, _, _] (Keeps.three hp.drew at3 at4 at6) [8] [(0, true), (1, true), (2, true), (3, true), (4, true), (5, true), (6, true), (7, false), (8, false)] (by kernel_rfl) (by kernel_rfl) rfl (by kernel_rfl) (fun _ _ d _ _ h => by cases d <;> exact h) ?_
  replace hp := hp.drew
  repeat' (with_reducible refine plan_is ?_); first | (with_reducible refine plan_nil ?_) | ((with_reducible refine plan_t ?_); refine plan_tk rfl ?_; (first | ((with_reducible refine tk_mv _ rfl ?_); refine tM rfl ?_) | ((with_reducible refine tk_ld _ _ rfl ?_); first | refine tL rfl (slot_tmp rfl) (fun w hS => hS.loadOne cell3 at2 _ _ HG.out) ?_ | refine tA rfl (slot_tmp rfl) agg26 aa14 ?_ | refine tO rfl (slot_tmp rfl) cell3 aa14 ?_) | refine tG (fun w _ => (by go_simp; try rfl)) ?_); try simp only [put_some, put_none, eval_tmp, eval_const, List.set_cons_succ, List.set_cons_zero, List.getD_cons_succ, List.getD_cons_zero, wrap_eq]) | (refine plan_do rfl (fun K hK => ?_); go_wp2_with (first | go_skip | (((with_reducible refine pre_store _ _ _ rfl ?_); (first | refine sO hp rfl (slot_tmp rfl) ceEB2 aa14 ?_ | refine sA hp rfl (slot_tmp rfl) (slot_tmp rfl) gaEB1 aa14 ?_ | refine sG hp rfl (slot_tmp rfl) (slot_tmp rfl) gaEB1 aa14 ?_); clear hp; intro w1 hp; simp only [spl, List.set_cons_zero, List.set_cons_succ] at hp); simp only [put_some, put_none, List.set_cons_succ, List.set_cons_zero])); (first | refine hK.out _ _ (.inl rfl) ?_ | refine hK.out _ _ (.inr (Keeps.three hp aa14 aa14 aa14)) ?_); clear hK K; try simp only [put_some, put_none, eval_tmp, eval_const, List.set_cons_succ, List.set_cons_zero, List.getD_cons_succ, List.getD_cons_zero, wrap_eq])
  go_wp2_with (first | go_skip | ((first | ((with_reducible refine pre_alloc _ rfl ?_); refine lZ hp rfl zeEB0 ?_; clear hp; intro b w1 hp) | ((with_reducible refine pre_box _ _ rfl ?_); refine lB hp rfl (slot_tmp rfl) rfl ?_; clear hp; intro b w1 hp) | ((with_reducible refine pre_load _ _ rfl ?_); first | refine lO hp rfl (slot_tmp rfl) ceEB2 aa14 ?_ | refine lA hp rfl (slot_tmp rfl) gaEB1 aa14 ?_) | ((with_reducible refine pre_store _ _ _ rfl ?_); (first | refine sO hp rfl (slot_tmp rfl) ceEB2 aa14 ?_ | refine sA hp rfl (slot_tmp rfl) (slot_tmp rfl) gaEB1 aa14 ?_ | refine sG hp rfl (slot_tmp rfl) (slot_tmp rfl) gaEB1 aa14 ?_); clear hp; intro w1 hp; simp only [spl, List.set_cons_zero, List.set_cons_succ] at hp) | ((with_reducible refine pre_build _ _ _ rfl ?_); refine lS hp rfl (by intro w; go_simp; rfl) ?_; clear hp; intro b w1 hp; simp only [List.length_cons, List.length_nil, Nat.reduceAdd] at hp)); simp only [put_some, put_none, List.set_cons_succ, List.set_cons_zero]))
  have hz := HBACK.out (⟨gh, gp, go_, gwa, gws, gwc, some ⟨gr, 0, none⟩, gls, glc⟩) (Rw ++ [⟨gr, gls.flatMap iV, 3, glc * 1⟩]) _ _ (by simp [obV]) ⟨_, _, rfl, H1.out, H2.out⟩ hp (fun f => by (simp only [List.map_append, List.map_cons, List.map_nil, List.sum_append, List.sum_cons, List.sum_nil, List.cons_append, List.nil_append, List.append_nil]; omega))
  rw [HXX.out] at hz
  exact bodyPost_ret (results_many (rs := [.cell 6 26, .cell 7 34]) Tryz.results73 (.cell rfl (hp.loadAgg agg26 at2 0 _ (by rfl) (by rfl)) (.cell rfl (hp.loadAgg agg34 at1 0 _ (by rfl) (by rfl)) .nil))) rfl ⟨_, rfl, Hv.Sm.refl _, hz⟩
set_option maxRecDepth 100000 in
set_option maxHeartbeats 8000000 in
theorem object73_free {x : Hv} {hh ii nn cc vv tt : Int} (hx : HRight x) {i : Nat} {g : Ob} (hg : x.os[i]? = some g) (hol : x.os.length ≤ 1000)  {B : Nat} {w0 w : World} {K : List Blk} (hW : RefAt B w0 w x K) :
    Calls Tryz.prog 73 #[.agg (hvL x).toArray, .agg #[.int .i64 2, .int .i64 hh, .int .i64 ii, .int .i64 nn, .int .i64 cc, .int .i64 vv, .int .i64 tt], .int .i64 i] w (RefPost B w0 (freeH x i g) 0 0 K) := by
  have HFREE : RowKit.Hid (∀ {K : List Blk} {w : World}, RefAt B w0 w x K → Calls Tryz.prog 96 #[.agg (hvL x).toArray, .int .i64 i] w (RefPost B w0 (freeH x i g) 0 0 K)) := Lib.hid (fun h => free96 x hx i g hg h)
  generalize freeH x i g = s at HFREE ⊢
  obtain ⟨RO, RF, M, hR, hp⟩ := hW
  have HWK : RowKit.Hid (∀ {p1 p2 p3 p4 p5 : Blk} {w : World}, Hp B w0 w (p1 :: p2 :: p3 :: p4 :: p5 :: (RO ++ (RF ++ (M ++ K)))) → RefAt B w0 w x (K ++ [p1, p2, p3, p4, p5])) := Lib.hid (fun h => ⟨RO, RF, M, hR, h.kp⟩)
  obtain ⟨od, oa, os, oc, nx, t0, t1, t2, t3, fa, fs, fc⟩ := x
  simp only at hg hol
  have hlt := (List.getElem?_eq_some_iff.1 hg).1
  obtain ⟨go, hoa, _, _, rfl, _⟩ := hR.objs.own (by simp only; omega)
  simp only at hoa hp HWK
  subst hoa
  simp only [hvL] at HFREE ⊢
  have HXA := Lib.hid (flat_at 5 obV_len hg)
  have e1 : (0 : Int) ≤ (i : Int) := by omega
  have e2 : (i : Int) < (os.length : Int) := by omega
  obtain ⟨gh, gp, go_, gwa, gws, gwc, gla, gls, glc⟩ := g
  simp only [obV] at HXA
  simp only [List.cons_append, List.nil_append] at hp HWK
  clear hg hlt hx hR
  go_enter Tryz.func73, Tryz.ntmps73
  go_wp2_with (first | ((with_reducible refine pre_load 67 _ rfl ?_); refine lA hp rfl (slot_tmp rfl) agg67 at4 ?_ (hv := HXA.out); simp only [put_some, put_none, List.set_cons_succ, List.set_cons_zero]) | go_skip | ((first | ((with_reducible refine pre_alloc _ rfl ?_); refine lZ hp rfl zeEB0 ?_; clear hp; intro b w1 hp) | ((with_reducible refine pre_box _ _ rfl ?_); refine lB hp rfl (slot_tmp rfl) rfl ?_; clear hp; intro b w1 hp) | ((with_reducible refine pre_load _ _ rfl ?_); first | refine lO hp rfl (slot_tmp rfl) ceEB2 aa14 ?_ | refine lA hp rfl (slot_tmp rfl) gaEB1 aa14 ?_) | ((with_reducible refine pre_store _ _ _ rfl ?_); (first | refine sO hp rfl (slot_tmp rfl) ceEB2 aa14 ?_ | refine sA hp rfl (slot_tmp rfl) (slot_tmp rfl) gaEB1 aa14 ?_ | refine sG hp rfl (slot_tmp rfl) (slot_tmp rfl) gaEB1 aa14 ?_); clear hp; intro w1 hp; simp only [spl, List.set_cons_zero, List.set_cons_succ] at hp) | ((with_reducible refine pre_build _ _ _ rfl ?_); refine lS hp rfl (by intro w; go_simp; rfl) ?_; clear hp; intro b w1 hp; simp only [List.length_cons, List.length_nil, Nat.reduceAdd] at hp)); simp only [put_some, put_none, List.set_cons_succ, List.set_cons_zero]))
  obtain ⟨bx, rfl⟩ := hp.id0
  obtain ⟨br, rfl⟩ := hp.id1
  obtain ⟨bG, rfl⟩ := hp.id2
  go_wp2_with (first | (go_at_call 96; (with_reducible refine (HFREE.out (HWK.out hp)).mono ?_); clear hp; rintro e w1 ⟨y, rfl, hy, RO2, RF2, M2, hR2, hp⟩; replace hp := hp.kp (L' := ⟨bx, [.int .i64 gh, .int .i64 gp, .int .i64 go_, .slice gwa gws.length gwc, .slice gla gls.length glc], 67, 5⟩ :: ⟨br, [.int .i64 0, .int .i64 0], 34, 2⟩ :: ⟨bG, [.int .i64 0, .slice none 0 0, .int .i64 0, .int .i64 0, .int .i64 0, .int .i64 0, .int .i64 0, .slice none 0 0], 26, 8⟩ :: (RO2 ++ (RF2 ++ (M2 ++ K)))); have HR2 := Lib.hid hR2; have HY := Lib.hid hy; clear hy hR2; obtain ⟨yd, ya, ys, yc, yn, y0, y1, y2, y3, za, zs, zc⟩ := y; simp only [hvL]) | go_skip | ((first | ((with_reducible refine pre_alloc _ rfl ?_); refine lZ hp rfl zeEB0 ?_; clear hp; intro b w1 hp) | ((with_reducible refine pre_box _ _ rfl ?_); refine lB hp rfl (slot_tmp rfl) rfl ?_; clear hp; intro b w1 hp) | ((with_reducible refine pre_load _ _ rfl ?_); first | refine lO hp rfl (slot_tmp rfl) ceEB2 aa14 ?_ | refine lA hp rfl (slot_tmp rfl) gaEB1 aa14 ?_) | ((with_reducible refine pre_store _ _ _ rfl ?_); (first | refine sO hp rfl (slot_tmp rfl) ceEB2 aa14 ?_ | refine sA hp rfl (slot_tmp rfl) (slot_tmp rfl) gaEB1 aa14 ?_ | refine sG hp rfl (slot_tmp rfl) (slot_tmp rfl) gaEB1 aa14 ?_); clear hp; intro w1 hp; simp only [spl, List.set_cons_zero, List.set_cons_succ] at hp) | ((with_reducible refine pre_build _ _ _ rfl ?_); refine lS hp rfl (by intro w; go_simp; rfl) ?_; clear hp; intro b w1 hp; simp only [List.length_cons, List.length_nil, Nat.reduceAdd] at hp)); simp only [put_some, put_none, List.set_cons_succ, List.set_cons_zero]))
  exact bodyPost_ret (results_many (rs := [.cell 6 26, .cell 7 34]) Tryz.results73 (.cell rfl (hp.loadAgg agg26 at2 0 _ (by rfl) (by rfl)) (.cell rfl (hp.loadAgg agg34 at1 0 _ (by rfl) (by rfl)) .nil))) rfl ⟨⟨yd, ya, ys, yc, yn, y0, y1, y2, y3, za, zs, zc⟩, rfl, HY.out, RO2, RF2, M2, HR2.out, hp.tail.tail.tail⟩
end Go.Proofs.YtppdjlgjcdmiaaaGreat
