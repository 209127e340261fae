import Derived.Test.YtaafajaadfgaoaaGreatTb28
set_option linter.unusedSimpArgs false
set_option linter.unusedVariables false
set_option maxRecDepth 100000
set_option maxHeartbeats 60000000
namespace Go.Proofs.YtaafajaadfgaoaaGreat
open Go.RowKit
theorem zdU {ty : TypeId} {l : List Value} {n : Nat} (h : zbl Tryz.prog ty = some (l, n) := by with_reducible first | exact zT | exact zJ | exact zR) : zbl Tryz.prog ty = some (l, n) := h
theorem ZZ {ty : TypeId} {k : Nat} (h : zac Tryz.prog ty k = true := by with_reducible first | exact zL | exact zv | exact zcw | exact zU) : zac Tryz.prog ty k = true := h
theorem zaM {ty : TypeId} (h : zN Tryz.prog ty = true := by with_reducible first | exact zw | exact Zd | exact Za | exact Zb | exact zfG) : zN Tryz.prog ty = true := h
theorem zax.open_ {x : Hv} {i : Nat} {g : Ob} (hg : x.os[i]? = some g) {B : Nat} {w0 w : World} {K : List Blk} (hW : zax B w0 w x K) :
  ∃ go RF M1 Rw Rl M2, x.oa = some ⟨go, 0, none⟩ ∧ zH 3 1 (.slice g.wa g.ws.length g.wc) g.ws.length (g.ws.flatMap iV) Rw ∧ zH 3 1 (.slice g.la g.ls.length g.lc) g.ls.length (g.ls.flatMap iV) Rl ∧
   Hp B w0 w (⟨go, x.os.flatMap obV, 126, x.oc * 5⟩ :: (Rw ++ (Rl ++ (RF ++ (M1 ++ (M2 ++ K)))))) ∧
   ∀ (y : Ob) (R' L : List Blk) (w' : World), obV y = obV g → ObR y R' → Hp B w0 w' L → (∀ f : Blk → Nat, ((⟨go, x.os.flatMap obV, 126, x.oc * 5⟩ :: (R' ++ (RF ++ (M1 ++ (M2 ++ K))))).map f).sum ≤ (L.map f).sum) → zax B w0 w' { x with os := x.os.set i y } K := by
 obtain ⟨RO, RF, M, ⟨ho, hf, hm⟩, hp⟩ := hW
 have hlt := (List.getElem?_eq_some_iff.1 hg).1
 obtain ⟨go, hoa, hn, hmx, rfl, hlen⟩ := ho.own (by omega)
 obtain ⟨M1, R, M2, rfl, ⟨Rw, Rl, rfl, h1, h2⟩, hnew, _⟩ := hm.at_ hg
 refine ⟨go, RF, M1, Rw, Rl, M2, hoa, h1, h2, hp.kp, fun y R' L w' hy hr hq hle => ?_⟩
 have hq2 := hq.keep hle
 refine ⟨[⟨go, x.os.flatMap obV, 126, x.oc * 5⟩], RF, M1 ++ (R' ++ M2), ⟨?_, hf, hnew y R' hr⟩, ?_⟩
 ·simp only [List.length_set]
  refine ⟨by rw [zdE hg hy]; exact hlen, .inr ⟨go, x.oc, by rw [hoa], hn, hmx, by rw [zdE hg hy]⟩⟩
 ·exact hq2.kp
theorem zfu {x : Hv} {kk hh ii nn cc vv tt : Int}  {B : Nat} {w0 w : World} {K : List Blk} (hW : zax B w0 w x K) :
  Calls Tryz.prog 205 #[.agg (hvL x).toArray, .agg #[.int .i64 kk, .int .i64 hh, .int .i64 ii, .int .i64 nn, .int .i64 cc, .int .i64 vv, .int .i64 tt], .int .i64 (-1)] w (Zt B w0 x 51 0 K) := by
 obtain ⟨RO, RF, M, hR, hp⟩ := hW
 have HR := z0j hR
 clear hR
 obtain ⟨od, oa, os, oc, nx, t0, t1, t2, t3, fa, fs, fc⟩ := x
 simp only [hvL]
 go_enter Tryz.func205, Tryz.ntmps205
 go_wp2_with (first | go_skip | ((first | ((refine zh _ rfl ?_); refine lZ hp rfl zdU ?_; clear hp; intro b w1 hp) | ((refine zi _ _ rfl ?_); refine lB hp rfl (zb rfl) rfl ?_; clear hp; intro b w1 hp) | ((refine zg _ _ rfl ?_); first | refine lO hp rfl (zb rfl) zaM zq ?_ | refine lA hp rfl (zb rfl) ZZ zq ?_) | ((refine zf _ _ _ rfl ?_); (first | refine sO hp rfl (zb rfl) zaM zq ?_ | refine sA hp rfl (zb rfl) (zb rfl) ZZ zq ?_ | refine sG hp rfl (zb rfl) (zb rfl) ZZ zq ?_); clear hp; intro w1 hp; simp only [spl, z0a, z0b] at hp) | ((refine zm _ _ _ rfl ?_); refine lS hp rfl (by intro w; go_simp; rfl) ?_; clear hp; intro b w1 hp; simp only [z0g, z0h, Nat.reduceAdd] at hp)); simp only [ze, zd, z0b, z0a]))
 exact bodyPost_ret (zx (rs := [.cell 6 47, .cell 7 54]) Tryz.results205 (.cell rfl (hp.loadAgg zL at1 0 _ (by rfl) (by rfl)) (.cell rfl (hp.loadAgg zU at0 0 _ (by rfl) (by rfl)) .nil))) rfl ⟨⟨od, oa, os, oc, nx, t0, t1, t2, t3, fa, fs, fc⟩, rfl, Hv.Sm.refl _, RO, RF, M, HR.out, hp.tail.tail.tail.tail⟩
theorem zer {x : Hv} {hh ii nn cc vv tt : Int} {i : Nat} {g : Ob} (hg : x.os[i]? = some g) (hol : x.os.length ≤ 1000) (hi : ii < 0 ∨ (g.ws.length : Int) ≤ ii) {B : Nat} {w0 w : World} {K : List Blk} (hW : zax B w0 w x K) :
  Calls Tryz.prog 205 #[.agg (hvL x).toArray, .agg #[.int .i64 3, .int .i64 hh, .int .i64 ii, .int .i64 nn, .int .i64 cc, .int .i64 vv, .int .i64 tt], .int .i64 i] w (Zt B w0 x 52 0 K) := by
 obtain ⟨go, RF, M1, Rw, Rl, M2, hoa, h1, h2, hp, hback⟩ := hW.open_ hg
 have HBACK := z0j hback
 have hxx := ZH hg
 clear hback hW
 obtain ⟨od, oa, os, oc, nx, t0, t1, t2, t3, fa, fs, fc⟩ := x
 simp only at hoa hg hol hxx
 subst hoa
 simp only [hvL]
 have HRO : Hid (ZC [⟨go, os.flatMap obV, 126, oc * 5⟩] fun w => zD w (some ⟨go, 0, none⟩) (os.flatMap obV)) := z0j (ZC.row go _ _ _)
 have hlt := (List.getElem?_eq_some_iff.1 hg).1
 have HXA := z0j (zak 5 Zm hg)
 have e1 : (0 : Int) ≤ (i : Int) := by omega
 have e2 : (i : Int) < (os.length : Int) := by omega
 obtain ⟨gh, gp, go_, gwa, gws, gwc, gla, gls, glc⟩ := g
 simp only [obV] at HXA
 simp only at h1 h2 hxx
 have HXX := z0j hxx
 clear hg hlt hxx
 simp only at hi
 have hw : decide (ii < 0) = true ∨ (decide (ii < 0) = false ∧ decide ((gws.length : Int) ≤ ii) = true) := by
  by_cases h : ii < 0
  ·exact .inl (decide_eq_true h)
  ·exact .inr ⟨decide_eq_false h, decide_eq_true (by omega)⟩
 have H1 := z0j h1
 have H2 := z0j h2
 clear hi h1 h2
 rcases hw with f1 | ⟨f1, f2⟩
 all_goals
  go_enter Tryz.func205, Tryz.ntmps205
  go_wp2_with (first | ((refine zg 126 _ rfl ?_); refine lA hp rfl (zb rfl) zv at4 ?_ (hv := HXA.out); simp only [ze, zd, z0b, z0a]) | go_skip | ((first | ((refine zh _ rfl ?_); refine lZ hp rfl zdU ?_; clear hp; intro b w1 hp) | ((refine zi _ _ rfl ?_); refine lB hp rfl (zb rfl) rfl ?_; clear hp; intro b w1 hp) | ((refine zg _ _ rfl ?_); first | refine lO hp rfl (zb rfl) zaM zq ?_ | refine lA hp rfl (zb rfl) ZZ zq ?_) | ((refine zf _ _ _ rfl ?_); (first | refine sO hp rfl (zb rfl) zaM zq ?_ | refine sA hp rfl (zb rfl) (zb rfl) ZZ zq ?_ | refine sG hp rfl (zb rfl) (zb rfl) ZZ zq ?_); clear hp; intro w1 hp; simp only [spl, z0a, z0b] at hp) | ((refine zm _ _ _ rfl ?_); refine lS hp rfl (by intro w; go_simp; rfl) ?_; clear hp; intro b w1 hp; simp only [z0g, z0h, Nat.reduceAdd] at hp)); simp only [ze, zd, z0b, z0a]))
  have hz := HBACK.out (⟨gh, gp, go_, gwa, gws, gwc, gla, gls, glc⟩) (Rw ++ Rl) _ _ (by simp [obV]) ⟨_, _, rfl, H1.out, H2.out⟩ hp (fun f => by (simp only [List.map_append, List.map_cons, List.map_nil, List.sum_append, List.sum_cons, List.sum_nil, z0f, z0e, List.append_nil]; omega))
  rw [HXX.out] at hz
  exact bodyPost_ret (zx (rs := [.cell 6 47, .cell 7 54]) Tryz.results205 (.cell rfl (hp.loadAgg zL at2 0 _ (by rfl) (by rfl)) (.cell rfl (hp.loadAgg zU at1 0 _ (by rfl) (by rfl)) .nil))) rfl ⟨_, rfl, Hv.Sm.refl _, hz⟩
theorem zes {x : Hv} {hh ii nn cc vv tt : Int} {i : Nat} {g : Ob} (hg : x.os[i]? = some g) (hol : x.os.length ≤ 1000) (hi : ii < 0 ∨ (g.ls.length : Int) ≤ ii) {B : Nat} {w0 w : World} {K : List Blk} (hW : zax B w0 w x K) :
  Calls Tryz.prog 205 #[.agg (hvL x).toArray, .agg #[.int .i64 4, .int .i64 hh, .int .i64 ii, .int .i64 nn, .int .i64 cc, .int .i64 vv, .int .i64 tt], .int .i64 i] w (Zt B w0 x 52 0 K) := by
 obtain ⟨go, RF, M1, Rw, Rl, M2, hoa, h1, h2, hp, hback⟩ := hW.open_ hg
 have HBACK := z0j hback
 have hxx := ZH hg
 clear hback hW
 obtain ⟨od, oa, os, oc, nx, t0, t1, t2, t3, fa, fs, fc⟩ := x
 simp only at hoa hg hol hxx
 subst hoa
 simp only [hvL]
 have HRO : Hid (ZC [⟨go, os.flatMap obV, 126, oc * 5⟩] fun w => zD w (some ⟨go, 0, none⟩) (os.flatMap obV)) := z0j (ZC.row go _ _ _)
 have hlt := (List.getElem?_eq_some_iff.1 hg).1
 have HXA := z0j (zak 5 Zm hg)
 have e1 : (0 : Int) ≤ (i : Int) := by omega
 have e2 : (i : Int) < (os.length : Int) := by omega
 obtain ⟨gh, gp, go_, gwa, gws, gwc, gla, gls, glc⟩ := g
 simp only [obV] at HXA
 simp only at h1 h2 hxx
 have HXX := z0j hxx
 clear hg hlt hxx
 simp only at hi
 have hw : decide (ii < 0) = true ∨ (decide (ii < 0) = false ∧ decide ((gls.length : Int) ≤ ii) = true) := by
  by_cases h : ii < 0
  ·exact .inl (decide_eq_true h)
  ·exact .inr ⟨decide_eq_false h, decide_eq_true (by omega)⟩
 have H1 := z0j h1
 have H2 := z0j h2
 clear hi h1 h2
 rcases hw with f1 | ⟨f1, f2⟩
 all_goals
  go_enter Tryz.func205, Tryz.ntmps205
  go_wp2_with (first | ((refine zg 126 _ rfl ?_); refine lA hp rfl (zb rfl) zv at4 ?_ (hv := HXA.out); simp only [ze, zd, z0b, z0a]) | go_skip | ((first | ((refine zh _ rfl ?_); refine lZ hp rfl zdU ?_; clear hp; intro b w1 hp) | ((refine zi _ _ rfl ?_); refine lB hp rfl (zb rfl) rfl ?_; clear hp; intro b w1 hp) | ((refine zg _ _ rfl ?_); first | refine lO hp rfl (zb rfl) zaM zq ?_ | refine lA hp rfl (zb rfl) ZZ zq ?_) | ((refine zf _ _ _ rfl ?_); (first | refine sO hp rfl (zb rfl) zaM zq ?_ | refine sA hp rfl (zb rfl) (zb rfl) ZZ zq ?_ | refine sG hp rfl (zb rfl) (zb rfl) ZZ zq ?_); clear hp; intro w1 hp; simp only [spl, z0a, z0b] at hp) | ((refine zm _ _ _ rfl ?_); refine lS hp rfl (by intro w; go_simp; rfl) ?_; clear hp; intro b w1 hp; simp only [z0g, z0h, Nat.reduceAdd] at hp)); simp only [ze, zd, z0b, z0a]))
  have hz := HBACK.out (⟨gh, gp, go_, gwa, gws, gwc, gla, gls, glc⟩) (Rw ++ Rl) _ _ (by simp [obV]) ⟨_, _, rfl, H1.out, H2.out⟩ hp (fun f => by (simp only [List.map_append, List.map_cons, List.map_nil, List.sum_append, List.sum_cons, List.sum_nil, z0f, z0e, List.append_nil]; omega))
  rw [HXX.out] at hz
  exact bodyPost_ret (zx (rs := [.cell 6 47, .cell 7 54]) Tryz.results205 (.cell rfl (hp.loadAgg zL at2 0 _ (by rfl) (by rfl)) (.cell rfl (hp.loadAgg zU at1 0 _ (by rfl) (by rfl)) .nil))) rfl ⟨_, rfl, Hv.Sm.refl _, hz⟩
theorem zet {x : Hv} {hh ii nn cc vv tt : Int} {i : Nat} {g : Ob} (hg : x.os[i]? = some g) (hol : x.os.length ≤ 1000) (hi : ii < 0 ∨ (g.ws.length : Int) ≤ ii) {B : Nat} {w0 w : World} {K : List Blk} (hW : zax B w0 w x K) :
  Calls Tryz.prog 205 #[.agg (hvL x).toArray, .agg #[.int .i64 6, .int .i64 hh, .int .i64 ii, .int .i64 nn, .int .i64 cc, .int .i64 vv, .int .i64 tt], .int .i64 i] w (Zt B w0 x 52 0 K) := by
 obtain ⟨go, RF, M1, Rw, Rl, M2, hoa, h1, h2, hp, hback⟩ := hW.open_ hg
 have HBACK := z0j hback
 have hxx := ZH hg
 clear hback hW
 obtain ⟨od, oa, os, oc, nx, t0, t1, t2, t3, fa, fs, fc⟩ := x
 simp only at hoa hg hol hxx
 subst hoa
 simp only [hvL]
 have HRO : Hid (ZC [⟨go, os.flatMap obV, 126, oc * 5⟩] fun w => zD w (some ⟨go, 0, none⟩) (os.flatMap obV)) := z0j (ZC.row go _ _ _)
 have hlt := (List.getElem?_eq_some_iff.1 hg).1
 have HXA := z0j (zak 5 Zm hg)
 have e1 : (0 : Int) ≤ (i : Int) := by omega
 have e2 : (i : Int) < (os.length : Int) := by omega
 obtain ⟨gh, gp, go_, gwa, gws, gwc, gla, gls, glc⟩ := g
 simp only [obV] at HXA
 simp only at h1 h2 hxx
 have HXX := z0j hxx
 clear hg hlt hxx
 simp only at hi
 have hw : decide (ii < 0) = true ∨ (decide (ii < 0) = false ∧ decide ((gws.length : Int) ≤ ii) = true) := by
  by_cases h : ii < 0
  ·exact .inl (decide_eq_true h)
  ·exact .inr ⟨decide_eq_false h, decide_eq_true (by omega)⟩
 have H1 := z0j h1
 have H2 := z0j h2
 clear hi h1 h2
 rcases hw with f1 | ⟨f1, f2⟩
 all_goals
  go_enter Tryz.func205, Tryz.ntmps205
  go_wp2_with (first | ((refine zg 126 _ rfl ?_); refine lA hp rfl (zb rfl) zv at4 ?_ (hv := HXA.out); simp only [ze, zd, z0b, z0a]) | go_skip | ((first | ((refine zh _ rfl ?_); refine lZ hp rfl zdU ?_; clear hp; intro b w1 hp) | ((refine zi _ _ rfl ?_); refine lB hp rfl (zb rfl) rfl ?_; clear hp; intro b w1 hp) | ((refine zg _ _ rfl ?_); first | refine lO hp rfl (zb rfl) zaM zq ?_ | refine lA hp rfl (zb rfl) ZZ zq ?_) | ((refine zf _ _ _ rfl ?_); (first | refine sO hp rfl (zb rfl) zaM zq ?_ | refine sA hp rfl (zb rfl) (zb rfl) ZZ zq ?_ | refine sG hp rfl (zb rfl) (zb rfl) ZZ zq ?_); clear hp; intro w1 hp; simp only [spl, z0a, z0b] at hp) | ((refine zm _ _ _ rfl ?_); refine lS hp rfl (by intro w; go_simp; rfl) ?_; clear hp; intro b w1 hp; simp only [z0g, z0h, Nat.reduceAdd] at hp)); simp only [ze, zd, z0b, z0a]))
  have hz := HBACK.out (⟨gh, gp, go_, gwa, gws, gwc, gla, gls, glc⟩) (Rw ++ Rl) _ _ (by simp [obV]) ⟨_, _, rfl, H1.out, H2.out⟩ hp (fun f => by (simp only [List.map_append, List.map_cons, List.map_nil, List.sum_append, List.sum_cons, List.sum_nil, z0f, z0e, List.append_nil]; omega))
  rw [HXX.out] at hz
  exact bodyPost_ret (zx (rs := [.cell 6 47, .cell 7 54]) Tryz.results205 (.cell rfl (hp.loadAgg zL at2 0 _ (by rfl) (by rfl)) (.cell rfl (hp.loadAgg zU at1 0 _ (by rfl) (by rfl)) .nil))) rfl ⟨_, rfl, Hv.Sm.refl _, hz⟩
theorem zeu {x : Hv} {hh ii nn cc vv tt : Int} {i : Nat} {g : Ob} (hg : x.os[i]? = some g) (hol : x.os.length ≤ 1000) (hi : ii < 0 ∨ (g.ls.length : Int) ≤ ii) {B : Nat} {w0 w : World} {K : List Blk} (hW : zax B w0 w x K) :
  Calls Tryz.prog 205 #[.agg (hvL x).toArray, .agg #[.int .i64 7, .int .i64 hh, .int .i64 ii, .int .i64 nn, .int .i64 cc, .int .i64 vv, .int .i64 tt], .int .i64 i] w (Zt B w0 x 52 0 K) := by
 obtain ⟨go, RF, M1, Rw, Rl, M2, hoa, h1, h2, hp, hback⟩ := hW.open_ hg
 have HBACK := z0j hback
 have hxx := ZH hg
 clear hback hW
 obtain ⟨od, oa, os, oc, nx, t0, t1, t2, t3, fa, fs, fc⟩ := x
 simp only at hoa hg hol hxx
 subst hoa
 simp only [hvL]
 have HRO : Hid (ZC [⟨go, os.flatMap obV, 126, oc * 5⟩] fun w => zD w (some ⟨go, 0, none⟩) (os.flatMap obV)) := z0j (ZC.row go _ _ _)
 have hlt := (List.getElem?_eq_some_iff.1 hg).1
 have HXA := z0j (zak 5 Zm hg)
 have e1 : (0 : Int) ≤ (i : Int) := by omega
 have e2 : (i : Int) < (os.length : Int) := by omega
 obtain ⟨gh, gp, go_, gwa, gws, gwc, gla, gls, glc⟩ := g
 simp only [obV] at HXA
 simp only at h1 h2 hxx
 have HXX := z0j hxx
 clear hg hlt hxx
 simp only at hi
 have hw : decide (ii < 0) = true ∨ (decide (ii < 0) = false ∧ decide ((gls.length : Int) ≤ ii) = true) := by
  by_cases h : ii < 0
  ·exact .inl (decide_eq_true h)
  ·exact .inr ⟨decide_eq_false h, decide_eq_true (by omega)⟩
 have H1 := z0j h1
 have H2 := z0j h2
 clear hi h1 h2
 rcases hw with f1 | ⟨f1, f2⟩
 all_goals
  go_enter Tryz.func205, Tryz.ntmps205
  go_wp2_with (first | ((refine zg 126 _ rfl ?_); refine lA hp rfl (zb rfl) zv at4 ?_ (hv := HXA.out); simp only [ze, zd, z0b, z0a]) | go_skip | ((first | ((refine zh _ rfl ?_); refine lZ hp rfl zdU ?_; clear hp; intro b w1 hp) | ((refine zi _ _ rfl ?_); refine lB hp rfl (zb rfl) rfl ?_; clear hp; intro b w1 hp) | ((refine zg _ _ rfl ?_); first | refine lO hp rfl (zb rfl) zaM zq ?_ | refine lA hp rfl (zb rfl) ZZ zq ?_) | ((refine zf _ _ _ rfl ?_); (first | refine sO hp rfl (zb rfl) zaM zq ?_ | refine sA hp rfl (zb rfl) (zb rfl) ZZ zq ?_ | refine sG hp rfl (zb rfl) (zb rfl) ZZ zq ?_); clear hp; intro w1 hp; simp only [spl, z0a, z0b] at hp) | ((refine zm _ _ _ rfl ?_); refine lS hp rfl (by intro w; go_simp; rfl) ?_; clear hp; intro b w1 hp; simp only [z0g, z0h, Nat.reduceAdd] at hp)); simp only [ze, zd, z0b, z0a]))
  have hz := HBACK.out (⟨gh, gp, go_, gwa, gws, gwc, gla, gls, glc⟩) (Rw ++ Rl) _ _ (by simp [obV]) ⟨_, _, rfl, H1.out, H2.out⟩ hp (fun f => by (simp only [List.map_append, List.map_cons, List.map_nil, List.sum_append, List.sum_cons, List.sum_nil, z0f, z0e, List.append_nil]; omega))
  rw [HXX.out] at hz
  exact bodyPost_ret (zx (rs := [.cell 6 47, .cell 7 54]) Tryz.results205 (.cell rfl (hp.loadAgg zL at2 0 _ (by rfl) (by rfl)) (.cell rfl (hp.loadAgg zU at1 0 _ (by rfl) (by rfl)) .nil))) rfl ⟨_, rfl, Hv.Sm.refl _, hz⟩
theorem ze6 {x : Hv} {hh nn cc vv tt : Int} {i : Nat} {g : Ob} (hg : x.os[i]? = some g) (hol : x.os.length ≤ 1000) {q : Nat} (hq : q < g.ws.length) {B : Nat} {w0 w : World} {K : List Blk} (hW : zax B w0 w x K) :
  Calls Tryz.prog 205 #[.agg (hvL x).toArray, .agg #[.int .i64 3, .int .i64 hh, .int .i64 q, .int .i64 nn, .int .i64 cc, .int .i64 vv, .int .i64 tt], .int .i64 i] w (Zt B w0 (zfi x i g q vv) 0 0 K) := by
 obtain ⟨go, RF, M1, Rw, Rl, M2, hoa, h1, h2, hp, hback⟩ := hW.open_ hg
 have HBACK := z0j hback
 have hxx := ZH hg
 clear hback hW
 obtain ⟨od, oa, os, oc, nx, t0, t1, t2, t3, fa, fs, fc⟩ := x
 simp only at hoa hg hol hxx
 subst hoa
 simp only [hvL]
 have HRO : Hid (ZC [⟨go, os.flatMap obV, 126, oc * 5⟩] fun w => zD w (some ⟨go, 0, none⟩) (os.flatMap obV)) := z0j (ZC.row go _ _ _)
 have hlt := (List.getElem?_eq_some_iff.1 hg).1
 have HXA := z0j (zak 5 Zm hg)
 have e1 : (0 : Int) ≤ (i : Int) := by omega
 have e2 : (i : Int) < (os.length : Int) := by omega
 obtain ⟨gh, gp, go_, gwa, gws, gwc, gla, gls, glc⟩ := g
 simp only [obV] at HXA
 simp only at h1 h2 hxx
 have HXX := z0j hxx
 clear hg hlt hxx
 simp only at hq
 obtain ⟨gr, rfl, _, _, rfl, _⟩ := h1.own (by omega)
 have H1 := z0j h1
 have H2 := z0j h2
 have f1 : (0 : Int) ≤ (q : Int) := by omega
 have f2 : (q : Int) < (gws.length : Int) := by omega
 have f3 : decide ((q : Int) < 0) = false := decide_eq_false (by omega)
 have f4 : decide ((gws.length : Int) ≤ (q : Int)) = false := decide_eq_false (by omega)
 have HQL : Hid (q < (gws.flatMap iV).length) := z0j (by rw [ZL]; omega)
 have HNEW : ∀ v, zH 3 1 (.slice (some ⟨gr, 0, none⟩) gws.length gwc) gws.length ((gws.set q v).flatMap iV) [⟨gr, (gws.set q v).flatMap iV, 3, gwc * 1⟩] := fun v => zcO (q := q) (v := v) h1 (by omega)
 replace hp := hp.kp (L' := ⟨go, os.flatMap obV, 126, oc * 5⟩ :: ⟨gr, gws.flatMap iV, 3, gwc * 1⟩ :: (Rl ++ (RF ++ (M1 ++ (M2 ++ K)))))
 clear h1 h2 hq
 go_enter Tryz.func205, Tryz.ntmps205
 go_wp2_with (first | ((refine zg 126 _ rfl ?_); refine lA hp rfl (zb rfl) zv at4 ?_ (hv := HXA.out); simp only [ze, zd, z0b, z0a]) | ((refine zf 3 _ _ rfl ?_); refine sO hp rfl (zb rfl) zw at6 ?_ (hlen := HQL.out); clear hp; intro w1 hp; simp only [z0b, z0a] at hp; simp only [ze, zd, z0b, z0a]) | go_skip | ((first | ((refine zh _ rfl ?_); refine lZ hp rfl zdU ?_; clear hp; intro b w1 hp) | ((refine zi _ _ rfl ?_); refine lB hp rfl (zb rfl) rfl ?_; clear hp; intro b w1 hp) | ((refine zg _ _ rfl ?_); first | refine lO hp rfl (zb rfl) zaM zq ?_ | refine lA hp rfl (zb rfl) ZZ zq ?_) | ((refine zf _ _ _ rfl ?_); (first | refine sO hp rfl (zb rfl) zaM zq ?_ | refine sA hp rfl (zb rfl) (zb rfl) ZZ zq ?_ | refine sG hp rfl (zb rfl) (zb rfl) ZZ zq ?_); clear hp; intro w1 hp; simp only [spl, z0a, z0b] at hp) | ((refine zm _ _ _ rfl ?_); refine lS hp rfl (by intro w; go_simp; rfl) ?_; clear hp; intro b w1 hp; simp only [z0g, z0h, Nat.reduceAdd] at hp)); simp only [ze, zd, z0b, z0a]))
 rw [zgs] at hp
 have hz := HBACK.out (⟨gh, gp, go_, some ⟨gr, 0, none⟩, gws.set q vv, gwc, gla, gls, glc⟩) ([⟨gr, (gws.set q vv).flatMap iV, 3, gwc * 1⟩] ++ Rl) _ _ (by simp [obV]) ⟨_, _, rfl, by simpa using HNEW vv, H2.out⟩ hp (fun f => by (simp only [List.map_append, List.map_cons, List.map_nil, List.sum_append, List.sum_cons, List.sum_nil, z0f, z0e, List.append_nil]; omega))
 refine bodyPost_ret (zx (rs := [.cell 6 47, .cell 7 54]) Tryz.results205 (.cell rfl (hp.loadAgg zL at2 0 _ (by rfl) (by rfl)) (.cell rfl (hp.loadAgg zU at1 0 _ (by rfl) (by rfl)) .nil))) rfl ⟨_, ?_, Hv.Sm.refl _, hz⟩
 simp only [hvL, zfi, zim, List.length_set]; rfl
theorem zft {x : Hv} {hh nn cc vv tt : Int} {i : Nat} {g : Ob} (hg : x.os[i]? = some g) (hol : x.os.length ≤ 1000) {q : Nat} (hq : q < g.ls.length) (hto : ZQ x.os tt = true) {B : Nat} {w0 w : World} {K : List Blk} (hW : zax B w0 w x K) :
  Calls Tryz.prog 205 #[.agg (hvL x).toArray, .agg #[.int .i64 4, .int .i64 hh, .int .i64 q, .int .i64 nn, .int .i64 cc, .int .i64 vv, .int .i64 tt], .int .i64 i] w (Zt B w0 (zim x i g q tt) 0 0 K) := by
 rw [zdI] at hto
 have HTO := z0j hto
 clear hto
 obtain ⟨go, RF, M1, Rw, Rl, M2, hoa, h1, h2, hp, hback⟩ := hW.open_ hg
 have HBACK := z0j hback
 have hxx := ZH hg
 clear hback hW
 obtain ⟨od, oa, os, oc, nx, t0, t1, t2, t3, fa, fs, fc⟩ := x
 simp only at hoa hg hol hxx
 subst hoa
 simp only [hvL]
 have HRO : Hid (ZC [⟨go, os.flatMap obV, 126, oc * 5⟩] fun w => zD w (some ⟨go, 0, none⟩) (os.flatMap obV)) := z0j (ZC.row go _ _ _)
 have hlt := (List.getElem?_eq_some_iff.1 hg).1
 have HXA := z0j (zak 5 Zm hg)
 have e1 : (0 : Int) ≤ (i : Int) := by omega
 have e2 : (i : Int) < (os.length : Int) := by omega
 obtain ⟨gh, gp, go_, gwa, gws, gwc, gla, gls, glc⟩ := g
 simp only [obV] at HXA
 simp only at h1 h2 hxx
 have HXX := z0j hxx
 clear hg hlt hxx
 simp only at hq
 obtain ⟨gr, rfl, _, _, rfl, _⟩ := h2.own (by omega)
 have H1 := z0j h1
 have H2 := z0j h2
 have f1 : (0 : Int) ≤ (q : Int) := by omega
 have f2 : (q : Int) < (gls.length : Int) := by omega
 have f3 : decide ((q : Int) < 0) = false := decide_eq_false (by omega)
 have f4 : decide ((gls.length : Int) ≤ (q : Int)) = false := decide_eq_false (by omega)
 have HQL : Hid (q < (gls.flatMap iV).length) := z0j (by rw [ZL]; omega)
 have HNEW : ∀ v, zH 3 1 (.slice (some ⟨gr, 0, none⟩) gls.length glc) gls.length ((gls.set q v).flatMap iV) [⟨gr, (gls.set q v).flatMap iV, 3, glc * 1⟩] := fun v => zcO (q := q) (v := v) h2 (by omega)
 replace hp := hp.kp (L' := ⟨go, os.flatMap obV, 126, oc * 5⟩ :: ⟨gr, gls.flatMap iV, 3, glc * 1⟩ :: (Rw ++ (RF ++ (M1 ++ (M2 ++ K)))))
 clear h1 h2 hq
 go_enter Tryz.func205, Tryz.ntmps205
 go_wp2_with (first | ((refine zg 126 _ rfl ?_); refine lA hp rfl (zb rfl) zv at4 ?_ (hv := HXA.out); simp only [ze, zd, z0b, z0a]) | ((refine zf 3 _ _ rfl ?_); refine sO hp rfl (zb rfl) zw at6 ?_ (hlen := HQL.out); clear hp; intro w1 hp; simp only [z0b, z0a] at hp; simp only [ze, zd, z0b, z0a]) | (go_at_call 166; (with_reducible refine (zbM od _ os oc nx t0 t1 t2 t3 fa fs.length fc hol tt _ (HRO.out.at hp (fun p hm => by (rw [List.mem_singleton] at hm; subst hm; simp)))).mono ?_); rintro e w1 ⟨rfl, hb⟩; replace hp := hp.call hb; clear hb; rw [HTO.out]) | go_skip | ((first | ((refine zh _ rfl ?_); refine lZ hp rfl zdU ?_; clear hp; intro b w1 hp) | ((refine zi _ _ rfl ?_); refine lB hp rfl (zb rfl) rfl ?_; clear hp; intro b w1 hp) | ((refine zg _ _ rfl ?_); first | refine lO hp rfl (zb rfl) zaM zq ?_ | refine lA hp rfl (zb rfl) ZZ zq ?_) | ((refine zf _ _ _ rfl ?_); (first | refine sO hp rfl (zb rfl) zaM zq ?_ | refine sA hp rfl (zb rfl) (zb rfl) ZZ zq ?_ | refine sG hp rfl (zb rfl) (zb rfl) ZZ zq ?_); clear hp; intro w1 hp; simp only [spl, z0a, z0b] at hp) | ((refine zm _ _ _ rfl ?_); refine lS hp rfl (by intro w; go_simp; rfl) ?_; clear hp; intro b w1 hp; simp only [z0g, z0h, Nat.reduceAdd] at hp)); simp only [ze, zd, z0b, z0a]))
 rw [zgs] at hp
 have hz := HBACK.out (⟨gh, gp, go_, gwa, gws, gwc, some ⟨gr, 0, none⟩, gls.set q tt, glc⟩) (Rw ++ [⟨gr, (gls.set q tt).flatMap iV, 3, glc * 1⟩]) _ _ (by simp [obV]) ⟨_, _, rfl, H1.out, by simpa using HNEW tt⟩ hp (fun f => by (simp only [List.map_append, List.map_cons, List.map_nil, List.sum_append, List.sum_cons, List.sum_nil, z0f, z0e, List.append_nil]; omega))
 refine bodyPost_ret (zx (rs := [.cell 6 47, .cell 7 54]) Tryz.results205 (.cell rfl (hp.loadAgg zL at2 0 _ (by rfl) (by rfl)) (.cell rfl (hp.loadAgg zU at1 0 _ (by rfl) (by rfl)) .nil))) rfl ⟨_, ?_, Hv.Sm.refl _, hz⟩
 simp only [hvL, zfi, zim, List.length_set]; rfl
theorem zev {x : Hv} {hh nn cc vv tt : Int} {i : Nat} {g : Ob} (hg : x.os[i]? = some g) (hol : x.os.length ≤ 1000) {q : Nat} (hq : q < g.ls.length) (hto : ZQ x.os tt = false) {B : Nat} {w0 w : World} {K : List Blk} (hW : zax B w0 w x K) :
  Calls Tryz.prog 205 #[.agg (hvL x).toArray, .agg #[.int .i64 4, .int .i64 hh, .int .i64 q, .int .i64 nn, .int .i64 cc, .int .i64 vv, .int .i64 tt], .int .i64 i] w (Zt B w0 x 51 0 K) := by
 rw [zdI] at hto
 have HTO := z0j hto
 clear hto
 obtain ⟨go, RF, M1, Rw, Rl, M2, hoa, h1, h2, hp, hback⟩ := hW.open_ hg
 have HBACK := z0j hback
 have hxx := ZH hg
 clear hback hW
 obtain ⟨od, oa, os, oc, nx, t0, t1, t2, t3, fa, fs, fc⟩ := x
 simp only at hoa hg hol hxx
 subst hoa
 simp only [hvL]
 have HRO : Hid (ZC [⟨go, os.flatMap obV, 126, oc * 5⟩] fun w => zD w (some ⟨go, 0, none⟩) (os.flatMap obV)) := z0j (ZC.row go _ _ _)
 have hlt := (List.getElem?_eq_some_iff.1 hg).1
 have HXA := z0j (zak 5 Zm hg)
 have e1 : (0 : Int) ≤ (i : Int) := by omega
 have e2 : (i : Int) < (os.length : Int) := by omega
 obtain ⟨gh, gp, go_, gwa, gws, gwc, gla, gls, glc⟩ := g
 simp only [obV] at HXA
 simp only at h1 h2 hxx
 have HXX := z0j hxx
 clear hg hlt hxx
 simp only at hq
 obtain ⟨gr, rfl, _, _, rfl, _⟩ := h2.own (by omega)
 have H1 := z0j h1
 have H2 := z0j h2
 have f1 : (0 : Int) ≤ (q : Int) := by omega
 have f2 : (q : Int) < (gls.length : Int) := by omega
 have f3 : decide ((q : Int) < 0) = false := decide_eq_false (by omega)
 have f4 : decide ((gls.length : Int) ≤ (q : Int)) = false := decide_eq_false (by omega)
 have HQL : Hid (q < (gls.flatMap iV).length) := z0j (by rw [ZL]; omega)
 have HNEW : ∀ v, zH 3 1 (.slice (some ⟨gr, 0, none⟩) gls.length glc) gls.length ((gls.set q v).flatMap iV) [⟨gr, (gls.set q v).flatMap iV, 3, glc * 1⟩] := fun v => zcO (q := q) (v := v) h2 (by omega)
 replace hp := hp.kp (L' := ⟨go, os.flatMap obV, 126, oc * 5⟩ :: ⟨gr, gls.flatMap iV, 3, glc * 1⟩ :: (Rw ++ (RF ++ (M1 ++ (M2 ++ K)))))
 clear h1 h2 hq
 go_enter Tryz.func205, Tryz.ntmps205
 go_wp2_with (first | ((refine zg 126 _ rfl ?_); refine lA hp rfl (zb rfl) zv at4 ?_ (hv := HXA.out); simp only [ze, zd, z0b, z0a]) | (go_at_call 166; (with_reducible refine (zbM od _ os oc nx t0 t1 t2 t3 fa fs.length fc hol tt _ (HRO.out.at hp (fun p hm => by (rw [List.mem_singleton] at hm; subst hm; simp)))).mono ?_); rintro e w1 ⟨rfl, hb⟩; replace hp := hp.call hb; clear hb; rw [HTO.out]) | go_skip | ((first | ((refine zh _ rfl ?_); refine lZ hp rfl zdU ?_; clear hp; intro b w1 hp) | ((refine zi _ _ rfl ?_); refine lB hp rfl (zb rfl) rfl ?_; clear hp; intro b w1 hp) | ((refine zg _ _ rfl ?_); first | refine lO hp rfl (zb rfl) zaM zq ?_ | refine lA hp rfl (zb rfl) ZZ zq ?_) | ((refine zf _ _ _ rfl ?_); (first | refine sO hp rfl (zb rfl) zaM zq ?_ | refine sA hp rfl (zb rfl) (zb rfl) ZZ zq ?_ | refine sG hp rfl (zb rfl) (zb rfl) ZZ zq ?_); clear hp; intro w1 hp; simp only [spl, z0a, z0b] at hp) | ((refine zm _ _ _ rfl ?_); refine lS hp rfl (by intro w; go_simp; rfl) ?_; clear hp; intro b w1 hp; simp only [z0g, z0h, Nat.reduceAdd] at hp)); simp only [ze, zd, z0b, z0a]))
 have hz := HBACK.out (⟨gh, gp, go_, gwa, gws, gwc, some ⟨gr, 0, none⟩, gls, glc⟩) (Rw ++ [⟨gr, gls.flatMap iV, 3, glc * 1⟩]) _ _ (by simp [obV]) ⟨_, _, rfl, H1.out, H2.out⟩ hp (fun f => by (simp only [List.map_append, List.map_cons, List.map_nil, List.sum_append, List.sum_cons, List.sum_nil, z0f, z0e, List.append_nil]; omega))
 rw [HXX.out] at hz
 exact bodyPost_ret (zx (rs := [.cell 6 47, .cell 7 54]) Tryz.results205 (.cell rfl (hp.loadAgg zL at2 0 _ (by rfl) (by rfl)) (.cell rfl (hp.loadAgg zU at1 0 _ (by rfl) (by rfl)) .nil))) rfl ⟨_, rfl, Hv.Sm.refl _, hz⟩
theorem zfv {x : Hv} {hh nn cc vv tt : Int} {i : Nat} {g : Ob} (hg : x.os[i]? = some g) (hol : x.os.length ≤ 1000) {q : Nat} (hq : q < g.ws.length) {v : Int} (hv : g.ws[q]? = some v) {B : Nat} {w0 w : World} {K : List Blk} (hW : zax B w0 w x K) :
  Calls Tryz.prog 205 #[.agg (hvL x).toArray, .agg #[.int .i64 6, .int .i64 hh, .int .i64 q, .int .i64 nn, .int .i64 cc, .int .i64 vv, .int .i64 tt], .int .i64 i] w (Zt B w0 x 0 v K) := by
 have HG := z0j (zgt hv)
 clear hv
 obtain ⟨go, RF, M1, Rw, Rl, M2, hoa, h1, h2, hp, hback⟩ := hW.open_ hg
 have HBACK := z0j hback
 have hxx := ZH hg
 clear hback hW
 obtain ⟨od, oa, os, oc, nx, t0, t1, t2, t3, fa, fs, fc⟩ := x
 simp only at hoa hg hol hxx
 subst hoa
 simp only [hvL]
 have HRO : Hid (ZC [⟨go, os.flatMap obV, 126, oc * 5⟩] fun w => zD w (some ⟨go, 0, none⟩) (os.flatMap obV)) := z0j (ZC.row go _ _ _)
 have hlt := (List.getElem?_eq_some_iff.1 hg).1
 have HXA := z0j (zak 5 Zm hg)
 have e1 : (0 : Int) ≤ (i : Int) := by omega
 have e2 : (i : Int) < (os.length : Int) := by omega
 obtain ⟨gh, gp, go_, gwa, gws, gwc, gla, gls, glc⟩ := g
 simp only [obV] at HXA
 simp only at h1 h2 hxx
 have HXX := z0j hxx
 clear hg hlt hxx
 simp only at hq
 obtain ⟨gr, rfl, _, _, rfl, _⟩ := h1.own (by omega)
 have H1 := z0j h1
 have H2 := z0j h2
 have f1 : (0 : Int) ≤ (q : Int) := by omega
 have f2 : (q : Int) < (gws.length : Int) := by omega
 have f3 : decide ((q : Int) < 0) = false := decide_eq_false (by omega)
 have f4 : decide ((gws.length : Int) ≤ (q : Int)) = false := decide_eq_false (by omega)
 have HQL : Hid (q < (gws.flatMap iV).length) := z0j (by rw [ZL]; omega)
 have HNEW : ∀ v, zH 3 1 (.slice (some ⟨gr, 0, none⟩) gws.length gwc) gws.length ((gws.set q v).flatMap iV) [⟨gr, (gws.set q v).flatMap iV, 3, gwc * 1⟩] := fun v => zcO (q := q) (v := v) h1 (by omega)
 replace hp := hp.kp (L' := ⟨go, os.flatMap obV, 126, oc * 5⟩ :: ⟨gr, gws.flatMap iV, 3, gwc * 1⟩ :: (Rl ++ (RF ++ (M1 ++ (M2 ++ K)))))
 clear h1 h2 hq
 simp only at HG
 go_enter Tryz.func205, Tryz.ntmps205
 go_wp2_with (first | ((refine zg 126 _ rfl ?_); refine lA hp rfl (zb rfl) zv at4 ?_ (hv := HXA.out); simp only [ze, zd, z0b, z0a]) | go_skip | ((first | ((refine zh _ rfl ?_); refine lZ hp rfl zdU ?_; clear hp; intro b w1 hp) | ((refine zi _ _ rfl ?_); refine lB hp rfl (zb rfl) rfl ?_; clear hp; intro b w1 hp) | ((refine zg _ _ rfl ?_); first | refine lO hp rfl (zb rfl) zaM zq ?_ | refine lA hp rfl (zb rfl) ZZ zq ?_) | ((refine zf _ _ _ rfl ?_); (first | refine sO hp rfl (zb rfl) zaM zq ?_ | refine sA hp rfl (zb rfl) (zb rfl) ZZ zq ?_ | refine sG hp rfl (zb rfl) (zb rfl) ZZ zq ?_); clear hp; intro w1 hp; simp only [spl, z0a, z0b] at hp) | ((refine zm _ _ _ rfl ?_); refine lS hp rfl (by intro w; go_simp; rfl) ?_; clear hp; intro b w1 hp; simp only [z0g, z0h, Nat.reduceAdd] at hp)); simp only [ze, zd, z0b, z0a]))
 refine zk [_, _, _] (zA.three hp.drew at3 at4 at6) [8] [(0, true), (1, true), (2, true), (3, true), (4, true), (5, true), (6, true), (7, false), (8, false)] (by kernel_rfl) (by kernel_rfl) rfl (by kernel_rfl) (fun _ _ d _ _ h => by cases d <;> exact h) ?_
 replace hp := hp.drew
 repeat' (with_reducible refine zB ?_); first | (with_reducible refine zt ?_) | ((with_reducible refine zI ?_); refine zy rfl ?_; (first | ((with_reducible refine zV _ rfl ?_); refine tM rfl ?_) | ((with_reducible refine zS _ _ rfl ?_); first | refine tL rfl (zb rfl) (fun w hS => hS.loadOne zw at2 _ _ HG.out) ?_ | refine tA rfl (zb rfl) zL zq ?_ | refine tO rfl (zb rfl) zw zq ?_) | refine tG (fun w _ => (by go_simp; try rfl)) ?_); try simp only [ze, zd, zn, zj, z0b, z0a, z0d, z0c, zr]) | (refine zF rfl (fun K hK => ?_); go_wp2_with (first | go_skip | (((refine zf _ _ _ rfl ?_); (first | refine sO hp rfl (zb rfl) zaM zq ?_ | refine sA hp rfl (zb rfl) (zb rfl) ZZ zq ?_ | refine sG hp rfl (zb rfl) (zb rfl) ZZ zq ?_); clear hp; intro w1 hp; simp only [spl, z0a, z0b] at hp); simp only [ze, zd, z0b, z0a])); (first | refine hK.out _ _ (.inl rfl) ?_ | refine hK.out _ _ (.inr (zA.three hp zq zq zq)) ?_); clear hK K; try simp only [ze, zd, zn, zj, z0b, z0a, z0d, z0c, zr])
 go_wp2_with (first | go_skip | ((first | ((refine zh _ rfl ?_); refine lZ hp rfl zdU ?_; clear hp; intro b w1 hp) | ((refine zi _ _ rfl ?_); refine lB hp rfl (zb rfl) rfl ?_; clear hp; intro b w1 hp) | ((refine zg _ _ rfl ?_); first | refine lO hp rfl (zb rfl) zaM zq ?_ | refine lA hp rfl (zb rfl) ZZ zq ?_) | ((refine zf _ _ _ rfl ?_); (first | refine sO hp rfl (zb rfl) zaM zq ?_ | refine sA hp rfl (zb rfl) (zb rfl) ZZ zq ?_ | refine sG hp rfl (zb rfl) (zb rfl) ZZ zq ?_); clear hp; intro w1 hp; simp only [spl, z0a, z0b] at hp) | ((refine zm _ _ _ rfl ?_); refine lS hp rfl (by intro w; go_simp; rfl) ?_; clear hp; intro b w1 hp; simp only [z0g, z0h, Nat.reduceAdd] at hp)); simp only [ze, zd, z0b, z0a]))
 have hz := HBACK.out (⟨gh, gp, go_, some ⟨gr, 0, none⟩, gws, gwc, gla, gls, glc⟩) ([⟨gr, gws.flatMap iV, 3, gwc * 1⟩] ++ Rl) _ _ (by simp [obV]) ⟨_, _, rfl, H1.out, H2.out⟩ hp (fun f => by (simp only [List.map_append, List.map_cons, List.map_nil, List.sum_append, List.sum_cons, List.sum_nil, z0f, z0e, List.append_nil]; omega))
 rw [HXX.out] at hz
 exact bodyPost_ret (zx (rs := [.cell 6 47, .cell 7 54]) Tryz.results205 (.cell rfl (hp.loadAgg zL at2 0 _ (by rfl) (by rfl)) (.cell rfl (hp.loadAgg zU at1 0 _ (by rfl) (by rfl)) .nil))) rfl ⟨_, rfl, Hv.Sm.refl _, hz⟩
theorem zeq {x : Hv} {hh nn cc vv tt : Int} {i : Nat} {g : Ob} (hg : x.os[i]? = some g) (hol : x.os.length ≤ 1000) {q : Nat} (hq : q < g.ls.length) {v : Int} (hv : g.ls[q]? = some v) {B : Nat} {w0 w : World} {K : List Blk} (hW : zax B w0 w x K) :
  Calls Tryz.prog 205 #[.agg (hvL x).toArray, .agg #[.int .i64 7, .int .i64 hh, .int .i64 q, .int .i64 nn, .int .i64 cc, .int .i64 vv, .int .i64 tt], .int .i64 i] w (Zt B w0 x 0 v K) := by
 have HG := z0j (zgt hv)
 clear hv
 obtain ⟨go, RF, M1, Rw, Rl, M2, hoa, h1, h2, hp, hback⟩ := hW.open_ hg
 have HBACK := z0j hback
 have hxx := ZH hg
 clear hback hW
 obtain ⟨od, oa, os, oc, nx, t0, t1, t2, t3, fa, fs, fc⟩ := x
 simp only at hoa hg hol hxx
 subst hoa
 simp only [hvL]
 have HRO : Hid (ZC [⟨go, os.flatMap obV, 126, oc * 5⟩] fun w => zD w (some ⟨go, 0, none⟩) (os.flatMap obV)) := z0j (ZC.row go _ _ _)
 have hlt := (List.getElem?_eq_some_iff.1 hg).1
 have HXA := z0j (zak 5 Zm hg)
 have e1 : (0 : Int) ≤ (i : Int) := by omega
 have e2 : (i : Int) < (os.length : Int) := by omega
 obtain ⟨gh, gp, go_, gwa, gws, gwc, gla, gls, glc⟩ := g
 simp only [obV] at HXA
 simp only at h1 h2 hxx
 have HXX := z0j hxx
 clear hg hlt hxx
 simp only at hq
 obtain ⟨gr, rfl, _, _, rfl, _⟩ := h2.own (by omega)
 have H1 := z0j h1
 have H2 := z0j h2
 have f1 : (0 : Int) ≤ (q : Int) := by omega
 have f2 : (q : Int) < (gls.length : Int) := by omega
 have f3 : decide ((q : Int) < 0) = false := decide_eq_false (by omega)
 have f4 : decide ((gls.length : Int) ≤ (q : Int)) = false := decide_eq_false (by omega)
 have HQL : Hid (q < (gls.flatMap iV).length) := z0j (by rw [ZL]; omega)
 have HNEW : ∀ v, zH 3 1 (.slice (some ⟨gr, 0, none⟩) gls.length glc) gls.length ((gls.set q v).flatMap iV) [⟨gr, (gls.set q v).flatMap iV, 3, glc * 1⟩] := fun v => zcO (q := q) (v := v) h2 (by omega)
 replace hp := hp.kp (L' := ⟨go, os.flatMap obV, 126, oc * 5⟩ :: ⟨gr, gls.flatMap iV, 3, glc * 1⟩ :: (Rw ++ (RF ++ (M1 ++ (M2 ++ K)))))
 clear h1 h2 hq
 simp only at HG
 go_enter Tryz.func205, Tryz.ntmps205
 go_wp2_with (first | ((refine zg 126 _ rfl ?_); refine lA hp rfl (zb rfl) zv at4 ?_ (hv := HXA.out); simp only [ze, zd, z0b, z0a]) | go_skip | ((first | ((refine zh _ rfl ?_); refine lZ hp rfl zdU ?_; clear hp; intro b w1 hp) | ((refine zi _ _ rfl ?_); refine lB hp rfl (zb rfl) rfl ?_; clear hp; intro b w1 hp) | ((refine zg _ _ rfl ?_); first | refine lO hp rfl (zb rfl) zaM zq ?_ | refine lA hp rfl (zb rfl) ZZ zq ?_) | ((refine zf _ _ _ rfl ?_); (first | refine sO hp rfl (zb rfl) zaM zq ?_ | refine sA hp rfl (zb rfl) (zb rfl) ZZ zq ?_ | refine sG hp rfl (zb rfl) (zb rfl) ZZ zq ?_); clear hp; intro w1 hp; simp only [spl, z0a, z0b] at hp) | ((refine zm _ _ _ rfl ?_); refine lS hp rfl (by intro w; go_simp; rfl) ?_; clear hp; intro b w1 hp; simp only [z0g, z0h, Nat.reduceAdd] at hp)); simp only [ze, zd, z0b, z0a]))
 refine zk [_, _, _] (zA.three hp.drew at3 at4 at6) [8] [(0, true), (1, true), (2, true), (3, true), (4, true), (5, true), (6, true), (7, false), (8, false)] (by kernel_rfl) (by kernel_rfl) rfl (by kernel_rfl) (fun _ _ d _ _ h => by cases d <;> exact h) ?_
 replace hp := hp.drew
 repeat' (with_reducible refine zB ?_); first | (with_reducible refine zt ?_) | ((with_reducible refine zI ?_); refine zy rfl ?_; (first | ((with_reducible refine zV _ rfl ?_); refine tM rfl ?_) | ((with_reducible refine zS _ _ rfl ?_); first | refine tL rfl (zb rfl) (fun w hS => hS.loadOne zw at2 _ _ HG.out) ?_ | refine tA rfl (zb rfl) zL zq ?_ | refine tO rfl (zb rfl) zw zq ?_) | refine tG (fun w _ => (by go_simp; try rfl)) ?_); try simp only [ze, zd, zn, zj, z0b, z0a, z0d, z0c, zr]) | (refine zF rfl (fun K hK => ?_); go_wp2_with (first | go_skip | (((refine zf _ _ _ rfl ?_); (first | refine sO hp rfl (zb rfl) zaM zq ?_ | refine sA hp rfl (zb rfl) (zb rfl) ZZ zq ?_ | refine sG hp rfl (zb rfl) (zb rfl) ZZ zq ?_); clear hp; intro w1 hp; simp only [spl, z0a, z0b] at hp); simp only [ze, zd, z0b, z0a])); (first | refine hK.out _ _ (.inl rfl) ?_ | refine hK.out _ _ (.inr (zA.three hp zq zq zq)) ?_); clear hK K; try simp only [ze, zd, zn, zj, z0b, z0a, z0d, z0c, zr])
 go_wp2_with (first | go_skip | ((first | ((refine zh _ rfl ?_); refine lZ hp rfl zdU ?_; clear hp; intro b w1 hp) | ((refine zi _ _ rfl ?_); refine lB hp rfl (zb rfl) rfl ?_; clear hp; intro b w1 hp) | ((refine zg _ _ rfl ?_); first | refine lO hp rfl (zb rfl) zaM zq ?_ | refine lA hp rfl (zb rfl) ZZ zq ?_) | ((refine zf _ _ _ rfl ?_); (first | refine sO hp rfl (zb rfl) zaM zq ?_ | refine sA hp rfl (zb rfl) (zb rfl) ZZ zq ?_ | refine sG hp rfl (zb rfl) (zb rfl) ZZ zq ?_); clear hp; intro w1 hp; simp only [spl, z0a, z0b] at hp) | ((refine zm _ _ _ rfl ?_); refine lS hp rfl (by intro w; go_simp; rfl) ?_; clear hp; intro b w1 hp; simp only [z0g, z0h, Nat.reduceAdd] at hp)); simp only [ze, zd, z0b, z0a]))
 have hz := HBACK.out (⟨gh, gp, go_, gwa, gws, gwc, some ⟨gr, 0, none⟩, gls, glc⟩) (Rw ++ [⟨gr, gls.flatMap iV, 3, glc * 1⟩]) _ _ (by simp [obV]) ⟨_, _, rfl, H1.out, H2.out⟩ hp (fun f => by (simp only [List.map_append, List.map_cons, List.map_nil, List.sum_append, List.sum_cons, List.sum_nil, z0f, z0e, List.append_nil]; omega))
 rw [HXX.out] at hz
 exact bodyPost_ret (zx (rs := [.cell 6 47, .cell 7 54]) Tryz.results205 (.cell rfl (hp.loadAgg zL at2 0 _ (by rfl) (by rfl)) (.cell rfl (hp.loadAgg zU at1 0 _ (by rfl) (by rfl)) .nil))) rfl ⟨_, rfl, Hv.Sm.refl _, hz⟩
theorem zfs {x : Hv} {hh ii nn cc vv tt : Int} (hx : zQ x) {i : Nat} {g : Ob} (hg : x.os[i]? = some g) (hol : x.os.length ≤ 1000)  {B : Nat} {w0 w : World} {K : List Blk} (hW : zax B w0 w x K) :
  Calls Tryz.prog 205 #[.agg (hvL x).toArray, .agg #[.int .i64 2, .int .i64 hh, .int .i64 ii, .int .i64 nn, .int .i64 cc, .int .i64 vv, .int .i64 tt], .int .i64 i] w (Zt B w0 (zdl x i g) 0 0 K) := by
 have HFREE : Hid (∀ {K : List Blk} {w : World}, zax B w0 w x K → Calls Tryz.prog 235 #[.agg (hvL x).toArray, .int .i64 i] w (Zt B w0 (zdl x i g) 0 0 K)) := z0j (fun h => znt x hx i g hg h)
 generalize zdl x i g = s at HFREE ⊢
 obtain ⟨RO, RF, M, hR, hp⟩ := hW
 have HWK : Hid (∀ {p1 p2 p3 p4 p5 : Blk} {w : World}, Hp B w0 w (p1 :: p2 :: p3 :: p4 :: p5 :: (RO ++ (RF ++ (M ++ K)))) → zax B w0 w x (K ++ [p1, p2, p3, p4, p5])) := z0j (fun h => ⟨RO, RF, M, hR, h.kp⟩)
 obtain ⟨od, oa, os, oc, nx, t0, t1, t2, t3, fa, fs, fc⟩ := x
 simp only at hg hol
 have hlt := (List.getElem?_eq_some_iff.1 hg).1
 obtain ⟨go, hoa, _, _, rfl, _⟩ := hR.objs.own (by simp only; omega)
 simp only at hoa hp HWK
 subst hoa
 simp only [hvL] at HFREE ⊢
 have HXA := z0j (zak 5 Zm hg)
 have e1 : (0 : Int) ≤ (i : Int) := by omega
 have e2 : (i : Int) < (os.length : Int) := by omega
 obtain ⟨gh, gp, go_, gwa, gws, gwc, gla, gls, glc⟩ := g
 simp only [obV] at HXA
 simp only [z0f, z0e] at hp HWK
 clear hg hlt hx hR
 go_enter Tryz.func205, Tryz.ntmps205
 go_wp2_with (first | ((refine zg 126 _ rfl ?_); refine lA hp rfl (zb rfl) zv at4 ?_ (hv := HXA.out); simp only [ze, zd, z0b, z0a]) | go_skip | ((first | ((refine zh _ rfl ?_); refine lZ hp rfl zdU ?_; clear hp; intro b w1 hp) | ((refine zi _ _ rfl ?_); refine lB hp rfl (zb rfl) rfl ?_; clear hp; intro b w1 hp) | ((refine zg _ _ rfl ?_); first | refine lO hp rfl (zb rfl) zaM zq ?_ | refine lA hp rfl (zb rfl) ZZ zq ?_) | ((refine zf _ _ _ rfl ?_); (first | refine sO hp rfl (zb rfl) zaM zq ?_ | refine sA hp rfl (zb rfl) (zb rfl) ZZ zq ?_ | refine sG hp rfl (zb rfl) (zb rfl) ZZ zq ?_); clear hp; intro w1 hp; simp only [spl, z0a, z0b] at hp) | ((refine zm _ _ _ rfl ?_); refine lS hp rfl (by intro w; go_simp; rfl) ?_; clear hp; intro b w1 hp; simp only [z0g, z0h, Nat.reduceAdd] at hp)); simp only [ze, zd, z0b, z0a]))
 obtain ⟨bx, rfl⟩ := hp.id0
 obtain ⟨br, rfl⟩ := hp.id1
 obtain ⟨bG, rfl⟩ := hp.id2
 go_wp2_with (first | (go_at_call 235; (with_reducible refine (HFREE.out (HWK.out hp)).mono ?_); clear hp; rintro e w1 ⟨y, rfl, hy, RO2, RF2, M2, hR2, hp⟩; replace hp := hp.kp (L' := ⟨bx, [.int .i64 gh, .int .i64 gp, .int .i64 go_, .slice gwa gws.length gwc, .slice gla gls.length glc], 126, 5⟩ :: ⟨br, [.int .i64 0, .int .i64 0], 54, 2⟩ :: ⟨bG, [.int .i64 0, .slice none 0 0, .int .i64 0, .int .i64 0, .int .i64 0, .int .i64 0, .int .i64 0, .slice none 0 0], 47, 8⟩ :: (RO2 ++ (RF2 ++ (M2 ++ K)))); have HR2 := z0j hR2; have HY := z0j hy; clear hy hR2; obtain ⟨yd, ya, ys, yc, yn, y0, y1, y2, y3, za, zs, zc⟩ := y; simp only [hvL]) | go_skip | ((first | ((refine zh _ rfl ?_); refine lZ hp rfl zdU ?_; clear hp; intro b w1 hp) | ((refine zi _ _ rfl ?_); refine lB hp rfl (zb rfl) rfl ?_; clear hp; intro b w1 hp) | ((refine zg _ _ rfl ?_); first | refine lO hp rfl (zb rfl) zaM zq ?_ | refine lA hp rfl (zb rfl) ZZ zq ?_) | ((refine zf _ _ _ rfl ?_); (first | refine sO hp rfl (zb rfl) zaM zq ?_ | refine sA hp rfl (zb rfl) (zb rfl) ZZ zq ?_ | refine sG hp rfl (zb rfl) (zb rfl) ZZ zq ?_); clear hp; intro w1 hp; simp only [spl, z0a, z0b] at hp) | ((refine zm _ _ _ rfl ?_); refine lS hp rfl (by intro w; go_simp; rfl) ?_; clear hp; intro b w1 hp; simp only [z0g, z0h, Nat.reduceAdd] at hp)); simp only [ze, zd, z0b, z0a]))
 exact bodyPost_ret (zx (rs := [.cell 6 47, .cell 7 54]) Tryz.results205 (.cell rfl (hp.loadAgg zL at2 0 _ (by rfl) (by rfl)) (.cell rfl (hp.loadAgg zU at1 0 _ (by rfl) (by rfl)) .nil))) rfl ⟨⟨yd, ya, ys, yc, yn, y0, y1, y2, y3, za, zs, zc⟩, rfl, HY.out, RO2, RF2, M2, HR2.out, hp.tail.tail.tail⟩
end Go.Proofs.YtaafajaadfgaoaaGreat
