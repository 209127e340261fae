import Derived.Test.YtaafajaadfgaoaaGreatTb13
set_option linter.unusedSimpArgs false
set_option linter.unusedVariables false
set_option maxRecDepth 100000
set_option maxHeartbeats 60000000
namespace Go.Proofs.YtaafajaadfgaoaaGreat
open Go.RowKit
theorem Zr {ty : TypeId} {k : Nat} (h : zac Tryz.prog ty k = true := by with_reducible first | exact zL | exact zv | exact ZK | exact zU | exact zcw) : zac Tryz.prog ty k = true := h
theorem Z8 {ty : TypeId} (h : zN Tryz.prog ty = true := by with_reducible first | exact zw | exact Zd | exact Za | exact Zb | exact zfG) : zN Tryz.prog ty = true := h
theorem zdE {l : List Ob} {i : Nat} {g y : Ob} (hg : l[i]? = some g) (h : obV y = obV g) : (l.set i y).flatMap obV = l.flatMap obV := by
 induction l generalizing i with
 | nil => simp at hg
 | cons x l ih =>
  cases i with
  | zero => simp at hg; subst hg; simp [h]
  | succ i => rw [List.set_cons_succ, List.flatMap_cons, List.flatMap_cons, ih (by simpa using hg)]
theorem zZ.open_ {x : Hv} {i : Nat} {g : Ob} (hg : x.os[i]? = some g) {B b : Nat} {w0 w : World} {K : List Blk} (hW : zZ B w0 w b x K) :
  ∃ go RF M1 Rw Rl M2, x.oa = some ⟨go, 0, none⟩ ∧ zH 3 1 (.slice g.wa g.ws.length g.wc) g.ws.length (g.ws.flatMap iV) Rw ∧ zH 3 1 (.slice g.la g.ls.length g.lc) g.ls.length (g.ls.flatMap iV) Rl ∧
   Hp B w0 w (⟨b, hvL x, 113, 8⟩ :: ⟨go, x.os.flatMap obV, 126, x.oc * 5⟩ :: (Rw ++ (Rl ++ (RF ++ (M1 ++ (M2 ++ K)))))) ∧
   ∀ (y : Ob) (R' L : List Blk) (w' : World), obV y = obV g → ObR y R' → Hp B w0 w' L → (∀ f : Blk → Nat, ((⟨b, hvL x, 113, 8⟩ :: ⟨go, x.os.flatMap obV, 126, x.oc * 5⟩ :: (R' ++ (RF ++ (M1 ++ (M2 ++ K))))).map f).sum ≤ (L.map f).sum) → zZ B w0 w' b { x with os := x.os.set i y } K := by
 obtain ⟨RO, RF, M, ⟨ho, hf, hm⟩, hp⟩ := hW
 have hlt := (List.getElem?_eq_some_iff.1 hg).1
 obtain ⟨go, hoa, hn, hmx, rfl, hlen⟩ := ho.own (by omega)
 obtain ⟨M1, R, M2, rfl, ⟨Rw, Rl, rfl, h1, h2⟩, hnew, _⟩ := hm.at_ hg
 refine ⟨go, RF, M1, Rw, Rl, M2, hoa, h1, h2, hp.kp, fun y R' L w' hy hr hq hle => ?_⟩
 have hq2 := hq.keep hle
 refine ⟨[⟨go, x.os.flatMap obV, 126, x.oc * 5⟩], RF, M1 ++ (R' ++ M2), ⟨?_, hf, hnew y R' hr⟩, ?_⟩
 ·simp only [List.length_set]
  refine ⟨by rw [zdE hg hy]; exact hlen, .inr ⟨go, x.oc, by rw [hoa], hn, hmx, by rw [zdE hg hy]⟩⟩
 ·simp only [hvL, List.length_set] at hq2 ⊢
  exact hq2.kp
theorem zbV {os : List Ob} {i : Nat} {g : Ob} (hg : os[i]? = some g) : (os.flatMap obV)[i * 5 + 3]? = some (.slice g.wa g.ws.length g.wc) ∧ (os.flatMap obV)[i * 5 + 4]? = some (.slice g.la g.ls.length g.lc) :=
 ⟨zaT obV 5 Zm os i 3 g _ hg rfl, zaT obV 5 Zm os i 4 g _ hg rfl⟩
theorem zmS {l : List Int} {q : Nat} {v : Int} (h : l[q]? = some v) : (l.flatMap iV)[q]? = some (.int .i64 v) := by
 have := zaT iV 1 zby l q 0 v (.int .i64 v) h rfl
 simpa using this
theorem zgs {l : List Int} {q : Nat} (v : Int) : (l.flatMap iV).set q (.int .i64 v) = (l.set q v).flatMap iV := by rw [zbK, zbK, List.map_set]
theorem zcO {g c n : Nat} {l : List Int} {q : Nat} {v : Int} {R : List Blk} (h : zH 3 1 (.slice (some ⟨g, 0, none⟩) n c) n (l.flatMap iV) R) (hn : 0 < n) : zH 3 1 (.slice (some ⟨g, 0, none⟩) n c) n ((l.set q v).flatMap iV) [⟨g, (l.set q v).flatMap iV, 3, c * 1⟩] := by
 obtain ⟨hl, ⟨h0, _⟩ | ⟨g', cap, hv, h1, h2, hr⟩⟩ := h
 ·omega
 ·injection hv with v1 v2 v3
  injection v1 with v1; injection v1 with v1
  subst v1 v3
  exact ⟨by rw [ZL, List.length_set, ← ZL]; exact hl, .inr ⟨g, _, rfl, h1, h2, rfl⟩⟩
theorem zbz {os : List Ob} {oa : Option Addr} {oc : Nat} (hol : os.length ≤ 1000) (hs : zaq os) {to : Int} (hto : ZQ os to = true) {B : Nat} {w0 w : World} {L : List Blk} {i j b n m off g : Nat} {l cells : List Value} {t u : TypeId}
  (hj : L[j]? = some ⟨b, l, u, m⟩) (hl : l[1]? = some (.slice oa os.length oc)) (ho : ZC L fun w => zD w oa (os.flatMap obV)) (hi : L[i]? = some ⟨g, cells, t, n⟩) (hof : off < cells.length) (hp : Hp B w0 w L) :
  Calls Tryz.prog 153 #[.pointer (some ⟨b, 0, none⟩), .pointer (some ⟨g, off, none⟩), .int .i64 to] w fun e w' => e = .returned (zaQ 0 0) ∧ Hp B w0 w' (L.set i ⟨g, cells.set off (.int .i64 to), t, n⟩) :=
 (zkS os oa oc hol hs to hp hj hl ho hi hof).mono fun e w' h => by
  rw [hto] at h
  rcases h with ⟨_, he, hq⟩ | ⟨h, _⟩
  ·exact ⟨he, hq⟩
  ·cases h
theorem zb7 {os : List Ob} {oa : Option Addr} {oc : Nat} (hol : os.length ≤ 1000) (hs : zaq os) {to : Int} (hto : ZQ os to = false) {B : Nat} {w0 w : World} {L : List Blk} {i j b n m off g : Nat} {l cells : List Value} {t u : TypeId}
  (hj : L[j]? = some ⟨b, l, u, m⟩) (hl : l[1]? = some (.slice oa os.length oc)) (ho : ZC L fun w => zD w oa (os.flatMap obV)) (hi : L[i]? = some ⟨g, cells, t, n⟩) (hof : off < cells.length) (hp : Hp B w0 w L) :
  Calls Tryz.prog 153 #[.pointer (some ⟨b, 0, none⟩), .pointer (some ⟨g, off, none⟩), .int .i64 to] w fun e w' => e = .returned (zaQ 51 0) ∧ Hp B w0 w' L :=
 (zkS os oa oc hol hs to hp hj hl ho hi hof).mono fun e w' h => by
  rw [hto] at h
  rcases h with ⟨h, _⟩ | ⟨_, he, hq⟩
  ·cases h
  ·exact ⟨he, hq⟩
theorem zgZ {x : Hv} (hx : zQ x) {hh ii nn cc vv tt : Int} {i : Nat} {g : Ob} (hn : Z0 x.os hh = some i) (hg : x.os[i]? = some g) (hi : inB ii 0 ((g.ws.length : Int) - 1) = false) {B bw : Nat} {w0 w : World} {K9 : List Blk} (hW : zZ B w0 w bw x K9) :
  Calls Tryz.prog 152 #[.pointer (some ⟨bw, 0, none⟩), .agg #[.int .i64 3, .int .i64 hh, .int .i64 ii, .int .i64 nn, .int .i64 cc, .int .i64 vv, .int .i64 tt]] w (zX B w0 bw x 52 0 K9) := by
 obtain ⟨go, RF, M1, Rw, Rl, M2, hoa, h1, h2, hp, hback⟩ := hW.open_ hg
 have hsm := hx.small.1.2 g (List.mem_of_getElem? hg)
 obtain ⟨hxw, hxl⟩ := zbV hg
 have HBACK := z0j hback
 have HS := z0j hx.sorted
 have hol : x.os.length ≤ 1000 := by have := hx.len; omega
 clear hback hW
 have hxx := ZH hg
 obtain ⟨od, oa, os, oc, nx, t0, t1, t2, t3, fa, fs, fc⟩ := x
 simp only at hoa
 subst hoa
 simp only [hvL] at hp HBACK
 simp only at hn hol HS hxw hxl hg
 have HPL := z0j hn
 have HRO : Hid (ZC [⟨go, os.flatMap obV, 126, oc * 5⟩] fun w => zD w (some ⟨go, 0, none⟩) (os.flatMap obV)) := z0j (ZC.row go _ _ _)
 have hlt := (List.getElem?_eq_some_iff.1 hg).1
 have e1 : (0 : Int) ≤ (i : Int) := by omega
 have e2 : (i : Int) < (os.length : Int) := by omega
 obtain ⟨gh, gp, go_, gwa, gws, gwc, gla, gls, glc⟩ := g
 simp only at h1 h2 hsm hxw hxl
 have HXW := z0j hxw
 have HXL := z0j hxl
 simp only at hi
 have HIN := z0j hi
 have HXX := z0j hxx
 clear hi hxx
 clear hn hx hg hxw hxl hlt
 go_enter Tryz.func152, Tryz.ntmps152
 go_wp2_with (first | go_skip | ((first | ((refine zh _ rfl ?_); refine lZ hp rfl zJ ?_; clear hp; intro b w1 hp) | ((refine zi _ _ rfl ?_); refine lB hp rfl (zb rfl) rfl ?_; clear hp; intro b w1 hp) | ((refine zg _ _ rfl ?_); first | refine lO hp rfl (zb rfl) Z8 zq ?_ | refine lA hp rfl (zb rfl) Zr zq ?_) | ((refine zf _ _ _ rfl ?_); (first | refine sO hp rfl (zb rfl) Z8 zq ?_ | refine sA hp rfl (zb rfl) (zb rfl) Zr zq ?_ | refine sG hp rfl (zb rfl) (zb rfl) Zr zq ?_); clear hp; intro w1 hp; simp only [spl, z0a, z0b] at hp)); simp only [ze, zd, z0b, z0a]))
 refine zk [_, _] (zA.two hp.drew at1 at2) [] [(0, true), (1, true), (2, true), (3, true), (4, true), (5, true), (6, true), (7, false), (8, true), (9, true), (10, true), (11, false), (12, false)] (by kernel_rfl) (by kernel_rfl) rfl (by kernel_rfl) (fun _ _ d _ _ h => by cases d <;> exact h) ?_
 replace hp := hp.drew
 repeat' (with_reducible refine zB ?_); first | (with_reducible refine zt ?_) | ((with_reducible refine zI ?_); refine zy rfl ?_; (first | ((with_reducible refine zV _ rfl ?_); refine tM rfl ?_) | ((with_reducible refine zS _ _ rfl ?_); refine tO rfl (zb rfl) (by with_reducible first | exact zw | exact Zb) aa5 ?_) | refine tG (fun w _ => (by go_simp; try rfl)) ?_); try simp only [ze, zd, zn, zj, z0b, z0a, z0d, z0c, zr]) | (refine zF rfl (fun K hK => ?_); go_wp2_with (first | (go_at_call 200; (with_reducible refine (Z4 HPL.out _ oc hol HS.out _ (HRO.out.at hp (fun p hm => by (rw [List.mem_singleton] at hm; subst hm; simp)))).mono ?_); rintro e w1 ⟨rfl, hb⟩; replace hp := hp.call hb; clear hb) | go_skip); (refine hK.out _ _ (.inr (zA.two hp aa5 aa5)) ?_); clear hK K; try simp only [ze, zd, zn, zj, z0b, z0a, z0d, z0c, zr])
 obtain ⟨br, rfl⟩ := hp.id0
 obtain ⟨bo, rfl⟩ := hp.id1
 go_wp2_with (first | ((refine zg 122 _ rfl ?_); refine lO hp rfl (zb rfl) Za at3 ?_ (hv := by first | exact HXW.out | exact HXL.out); simp only [ze, zd, z0b, z0a]) | (go_at_call 140; (with_reducible refine (Zi _ _ _ _).mono ?_); rintro e w' ⟨rfl, rfl⟩; rw [HIN.out]) | (go_at_call 75; (with_reducible refine (zde _ _).mono ?_); rintro e w1 ⟨rfl, hb⟩; replace hp := hp.call hb; clear hb; unfold zaQ) | go_skip | ((first | ((refine zh _ rfl ?_); refine lZ hp rfl zJ ?_; clear hp; intro b w1 hp) | ((refine zi _ _ rfl ?_); refine lB hp rfl (zb rfl) rfl ?_; clear hp; intro b w1 hp) | ((refine zg _ _ rfl ?_); first | refine lO hp rfl (zb rfl) Z8 zq ?_ | refine lA hp rfl (zb rfl) Zr zq ?_) | ((refine zf _ _ _ rfl ?_); (first | refine sO hp rfl (zb rfl) Z8 zq ?_ | refine sA hp rfl (zb rfl) (zb rfl) Zr zq ?_ | refine sG hp rfl (zb rfl) (zb rfl) Zr zq ?_); clear hp; intro w1 hp; simp only [spl, z0a, z0b] at hp)); simp only [ze, zd, z0b, z0a]))
 refine bodyPost_ret (zE (rs := [.cell 4 54]) Tryz.results152 (.cell rfl (hp.loadAgg zU at0 0 _ (by rfl) (by rfl)) .nil)) rfl (zZ.sm ?_ rfl)
 have h := HBACK.out _ _ _ _ rfl ⟨Rw, Rl, rfl, h1, h2⟩ hp (fun f => by (simp only [List.map_append, List.map_cons, List.map_nil, List.sum_append, List.sum_cons, List.sum_nil, z0f, z0e, List.append_nil]; omega))
 simpa only [HXX.out] using h
theorem zg1 {x : Hv} (hx : zQ x) {hh ii nn cc vv tt : Int} {i : Nat} {g : Ob} (hn : Z0 x.os hh = some i) (hg : x.os[i]? = some g) (hi : inB ii 0 ((g.ws.length : Int) - 1) = false) {B bw : Nat} {w0 w : World} {K9 : List Blk} (hW : zZ B w0 w bw x K9) :
  Calls Tryz.prog 152 #[.pointer (some ⟨bw, 0, none⟩), .agg #[.int .i64 6, .int .i64 hh, .int .i64 ii, .int .i64 nn, .int .i64 cc, .int .i64 vv, .int .i64 tt]] w (zX B w0 bw x 52 0 K9) := by
 obtain ⟨go, RF, M1, Rw, Rl, M2, hoa, h1, h2, hp, hback⟩ := hW.open_ hg
 have hsm := hx.small.1.2 g (List.mem_of_getElem? hg)
 obtain ⟨hxw, hxl⟩ := zbV hg
 have HBACK := z0j hback
 have HS := z0j hx.sorted
 have hol : x.os.length ≤ 1000 := by have := hx.len; omega
 clear hback hW
 have hxx := ZH hg
 obtain ⟨od, oa, os, oc, nx, t0, t1, t2, t3, fa, fs, fc⟩ := x
 simp only at hoa
 subst hoa
 simp only [hvL] at hp HBACK
 simp only at hn hol HS hxw hxl hg
 have HPL := z0j hn
 have HRO : Hid (ZC [⟨go, os.flatMap obV, 126, oc * 5⟩] fun w => zD w (some ⟨go, 0, none⟩) (os.flatMap obV)) := z0j (ZC.row go _ _ _)
 have hlt := (List.getElem?_eq_some_iff.1 hg).1
 have e1 : (0 : Int) ≤ (i : Int) := by omega
 have e2 : (i : Int) < (os.length : Int) := by omega
 obtain ⟨gh, gp, go_, gwa, gws, gwc, gla, gls, glc⟩ := g
 simp only at h1 h2 hsm hxw hxl
 have HXW := z0j hxw
 have HXL := z0j hxl
 simp only at hi
 have HIN := z0j hi
 have HXX := z0j hxx
 clear hi hxx
 clear hn hx hg hxw hxl hlt
 go_enter Tryz.func152, Tryz.ntmps152
 go_wp2_with (first | go_skip | ((first | ((refine zh _ rfl ?_); refine lZ hp rfl zJ ?_; clear hp; intro b w1 hp) | ((refine zi _ _ rfl ?_); refine lB hp rfl (zb rfl) rfl ?_; clear hp; intro b w1 hp) | ((refine zg _ _ rfl ?_); first | refine lO hp rfl (zb rfl) Z8 zq ?_ | refine lA hp rfl (zb rfl) Zr zq ?_) | ((refine zf _ _ _ rfl ?_); (first | refine sO hp rfl (zb rfl) Z8 zq ?_ | refine sA hp rfl (zb rfl) (zb rfl) Zr zq ?_ | refine sG hp rfl (zb rfl) (zb rfl) Zr zq ?_); clear hp; intro w1 hp; simp only [spl, z0a, z0b] at hp)); simp only [ze, zd, z0b, z0a]))
 refine zk [_, _] (zA.two hp.drew at1 at2) [] [(0, true), (1, true), (2, true), (3, true), (4, true), (5, true), (6, true), (7, false), (8, true), (9, true), (10, true), (11, false), (12, false)] (by kernel_rfl) (by kernel_rfl) rfl (by kernel_rfl) (fun _ _ d _ _ h => by cases d <;> exact h) ?_
 replace hp := hp.drew
 repeat' (with_reducible refine zB ?_); first | (with_reducible refine zt ?_) | ((with_reducible refine zI ?_); refine zy rfl ?_; (first | ((with_reducible refine zV _ rfl ?_); refine tM rfl ?_) | ((with_reducible refine zS _ _ rfl ?_); refine tO rfl (zb rfl) (by with_reducible first | exact zw | exact Zb) aa5 ?_) | refine tG (fun w _ => (by go_simp; try rfl)) ?_); try simp only [ze, zd, zn, zj, z0b, z0a, z0d, z0c, zr]) | (refine zF rfl (fun K hK => ?_); go_wp2_with (first | (go_at_call 200; (with_reducible refine (Z4 HPL.out _ oc hol HS.out _ (HRO.out.at hp (fun p hm => by (rw [List.mem_singleton] at hm; subst hm; simp)))).mono ?_); rintro e w1 ⟨rfl, hb⟩; replace hp := hp.call hb; clear hb) | go_skip); (refine hK.out _ _ (.inr (zA.two hp aa5 aa5)) ?_); clear hK K; try simp only [ze, zd, zn, zj, z0b, z0a, z0d, z0c, zr])
 obtain ⟨br, rfl⟩ := hp.id0
 obtain ⟨bo, rfl⟩ := hp.id1
 go_wp2_with (first | ((refine zg 122 _ rfl ?_); refine lO hp rfl (zb rfl) Za at3 ?_ (hv := by first | exact HXW.out | exact HXL.out); simp only [ze, zd, z0b, z0a]) | (go_at_call 140; (with_reducible refine (Zi _ _ _ _).mono ?_); rintro e w' ⟨rfl, rfl⟩; rw [HIN.out]) | (go_at_call 75; (with_reducible refine (zde _ _).mono ?_); rintro e w1 ⟨rfl, hb⟩; replace hp := hp.call hb; clear hb; unfold zaQ) | go_skip | ((first | ((refine zh _ rfl ?_); refine lZ hp rfl zJ ?_; clear hp; intro b w1 hp) | ((refine zi _ _ rfl ?_); refine lB hp rfl (zb rfl) rfl ?_; clear hp; intro b w1 hp) | ((refine zg _ _ rfl ?_); first | refine lO hp rfl (zb rfl) Z8 zq ?_ | refine lA hp rfl (zb rfl) Zr zq ?_) | ((refine zf _ _ _ rfl ?_); (first | refine sO hp rfl (zb rfl) Z8 zq ?_ | refine sA hp rfl (zb rfl) (zb rfl) Zr zq ?_ | refine sG hp rfl (zb rfl) (zb rfl) Zr zq ?_); clear hp; intro w1 hp; simp only [spl, z0a, z0b] at hp)); simp only [ze, zd, z0b, z0a]))
 refine bodyPost_ret (zE (rs := [.cell 4 54]) Tryz.results152 (.cell rfl (hp.loadAgg zU at0 0 _ (by rfl) (by rfl)) .nil)) rfl (zZ.sm ?_ rfl)
 have h := HBACK.out _ _ _ _ rfl ⟨Rw, Rl, rfl, h1, h2⟩ hp (fun f => by (simp only [List.map_append, List.map_cons, List.map_nil, List.sum_append, List.sum_cons, List.sum_nil, z0f, z0e, List.append_nil]; omega))
 simpa only [HXX.out] using h
theorem zg0 {x : Hv} (hx : zQ x) {hh ii nn cc vv tt : Int} {i : Nat} {g : Ob} (hn : Z0 x.os hh = some i) (hg : x.os[i]? = some g) (hi : inB ii 0 ((g.ls.length : Int) - 1) = false) {B bw : Nat} {w0 w : World} {K9 : List Blk} (hW : zZ B w0 w bw x K9) :
  Calls Tryz.prog 152 #[.pointer (some ⟨bw, 0, none⟩), .agg #[.int .i64 4, .int .i64 hh, .int .i64 ii, .int .i64 nn, .int .i64 cc, .int .i64 vv, .int .i64 tt]] w (zX B w0 bw x 52 0 K9) := by
 obtain ⟨go, RF, M1, Rw, Rl, M2, hoa, h1, h2, hp, hback⟩ := hW.open_ hg
 have hsm := hx.small.1.2 g (List.mem_of_getElem? hg)
 obtain ⟨hxw, hxl⟩ := zbV hg
 have HBACK := z0j hback
 have HS := z0j hx.sorted
 have hol : x.os.length ≤ 1000 := by have := hx.len; omega
 clear hback hW
 have hxx := ZH hg
 obtain ⟨od, oa, os, oc, nx, t0, t1, t2, t3, fa, fs, fc⟩ := x
 simp only at hoa
 subst hoa
 simp only [hvL] at hp HBACK
 simp only at hn hol HS hxw hxl hg
 have HPL := z0j hn
 have HRO : Hid (ZC [⟨go, os.flatMap obV, 126, oc * 5⟩] fun w => zD w (some ⟨go, 0, none⟩) (os.flatMap obV)) := z0j (ZC.row go _ _ _)
 have hlt := (List.getElem?_eq_some_iff.1 hg).1
 have e1 : (0 : Int) ≤ (i : Int) := by omega
 have e2 : (i : Int) < (os.length : Int) := by omega
 obtain ⟨gh, gp, go_, gwa, gws, gwc, gla, gls, glc⟩ := g
 simp only at h1 h2 hsm hxw hxl
 have HXW := z0j hxw
 have HXL := z0j hxl
 simp only at hi
 have HIN := z0j hi
 have HXX := z0j hxx
 clear hi hxx
 clear hn hx hg hxw hxl hlt
 go_enter Tryz.func152, Tryz.ntmps152
 go_wp2_with (first | go_skip | ((first | ((refine zh _ rfl ?_); refine lZ hp rfl zJ ?_; clear hp; intro b w1 hp) | ((refine zi _ _ rfl ?_); refine lB hp rfl (zb rfl) rfl ?_; clear hp; intro b w1 hp) | ((refine zg _ _ rfl ?_); first | refine lO hp rfl (zb rfl) Z8 zq ?_ | refine lA hp rfl (zb rfl) Zr zq ?_) | ((refine zf _ _ _ rfl ?_); (first | refine sO hp rfl (zb rfl) Z8 zq ?_ | refine sA hp rfl (zb rfl) (zb rfl) Zr zq ?_ | refine sG hp rfl (zb rfl) (zb rfl) Zr zq ?_); clear hp; intro w1 hp; simp only [spl, z0a, z0b] at hp)); simp only [ze, zd, z0b, z0a]))
 refine zk [_, _] (zA.two hp.drew at1 at2) [] [(0, true), (1, true), (2, true), (3, true), (4, true), (5, true), (6, true), (7, false), (8, true), (9, true), (10, true), (11, false), (12, false)] (by kernel_rfl) (by kernel_rfl) rfl (by kernel_rfl) (fun _ _ d _ _ h => by cases d <;> exact h) ?_
 replace hp := hp.drew
 repeat' (with_reducible refine zB ?_); first | (with_reducible refine zt ?_) | ((with_reducible refine zI ?_); refine zy rfl ?_; (first | ((with_reducible refine zV _ rfl ?_); refine tM rfl ?_) | ((with_reducible refine zS _ _ rfl ?_); refine tO rfl (zb rfl) (by with_reducible first | exact zw | exact Zb) aa5 ?_) | refine tG (fun w _ => (by go_simp; try rfl)) ?_); try simp only [ze, zd, zn, zj, z0b, z0a, z0d, z0c, zr]) | (refine zF rfl (fun K hK => ?_); go_wp2_with (first | (go_at_call 200; (with_reducible refine (Z4 HPL.out _ oc hol HS.out _ (HRO.out.at hp (fun p hm => by (rw [List.mem_singleton] at hm; subst hm; simp)))).mono ?_); rintro e w1 ⟨rfl, hb⟩; replace hp := hp.call hb; clear hb) | go_skip); (refine hK.out _ _ (.inr (zA.two hp aa5 aa5)) ?_); clear hK K; try simp only [ze, zd, zn, zj, z0b, z0a, z0d, z0c, zr])
 obtain ⟨br, rfl⟩ := hp.id0
 obtain ⟨bo, rfl⟩ := hp.id1
 go_wp2_with (first | ((refine zg 122 _ rfl ?_); refine lO hp rfl (zb rfl) Za at3 ?_ (hv := by first | exact HXW.out | exact HXL.out); simp only [ze, zd, z0b, z0a]) | (go_at_call 140; (with_reducible refine (Zi _ _ _ _).mono ?_); rintro e w' ⟨rfl, rfl⟩; rw [HIN.out]) | (go_at_call 75; (with_reducible refine (zde _ _).mono ?_); rintro e w1 ⟨rfl, hb⟩; replace hp := hp.call hb; clear hb; unfold zaQ) | go_skip | ((first | ((refine zh _ rfl ?_); refine lZ hp rfl zJ ?_; clear hp; intro b w1 hp) | ((refine zi _ _ rfl ?_); refine lB hp rfl (zb rfl) rfl ?_; clear hp; intro b w1 hp) | ((refine zg _ _ rfl ?_); first | refine lO hp rfl (zb rfl) Z8 zq ?_ | refine lA hp rfl (zb rfl) Zr zq ?_) | ((refine zf _ _ _ rfl ?_); (first | refine sO hp rfl (zb rfl) Z8 zq ?_ | refine sA hp rfl (zb rfl) (zb rfl) Zr zq ?_ | refine sG hp rfl (zb rfl) (zb rfl) Zr zq ?_); clear hp; intro w1 hp; simp only [spl, z0a, z0b] at hp)); simp only [ze, zd, z0b, z0a]))
 refine bodyPost_ret (zE (rs := [.cell 4 54]) Tryz.results152 (.cell rfl (hp.loadAgg zU at0 0 _ (by rfl) (by rfl)) .nil)) rfl (zZ.sm ?_ rfl)
 have h := HBACK.out _ _ _ _ rfl ⟨Rw, Rl, rfl, h1, h2⟩ hp (fun f => by (simp only [List.map_append, List.map_cons, List.map_nil, List.sum_append, List.sum_cons, List.sum_nil, z0f, z0e, List.append_nil]; omega))
 simpa only [HXX.out] using h
theorem zg2 {x : Hv} (hx : zQ x) {hh ii nn cc vv tt : Int} {i : Nat} {g : Ob} (hn : Z0 x.os hh = some i) (hg : x.os[i]? = some g) (hi : inB ii 0 ((g.ls.length : Int) - 1) = false) {B bw : Nat} {w0 w : World} {K9 : List Blk} (hW : zZ B w0 w bw x K9) :
  Calls Tryz.prog 152 #[.pointer (some ⟨bw, 0, none⟩), .agg #[.int .i64 7, .int .i64 hh, .int .i64 ii, .int .i64 nn, .int .i64 cc, .int .i64 vv, .int .i64 tt]] w (zX B w0 bw x 52 0 K9) := by
 obtain ⟨go, RF, M1, Rw, Rl, M2, hoa, h1, h2, hp, hback⟩ := hW.open_ hg
 have hsm := hx.small.1.2 g (List.mem_of_getElem? hg)
 obtain ⟨hxw, hxl⟩ := zbV hg
 have HBACK := z0j hback
 have HS := z0j hx.sorted
 have hol : x.os.length ≤ 1000 := by have := hx.len; omega
 clear hback hW
 have hxx := ZH hg
 obtain ⟨od, oa, os, oc, nx, t0, t1, t2, t3, fa, fs, fc⟩ := x
 simp only at hoa
 subst hoa
 simp only [hvL] at hp HBACK
 simp only at hn hol HS hxw hxl hg
 have HPL := z0j hn
 have HRO : Hid (ZC [⟨go, os.flatMap obV, 126, oc * 5⟩] fun w => zD w (some ⟨go, 0, none⟩) (os.flatMap obV)) := z0j (ZC.row go _ _ _)
 have hlt := (List.getElem?_eq_some_iff.1 hg).1
 have e1 : (0 : Int) ≤ (i : Int) := by omega
 have e2 : (i : Int) < (os.length : Int) := by omega
 obtain ⟨gh, gp, go_, gwa, gws, gwc, gla, gls, glc⟩ := g
 simp only at h1 h2 hsm hxw hxl
 have HXW := z0j hxw
 have HXL := z0j hxl
 simp only at hi
 have HIN := z0j hi
 have HXX := z0j hxx
 clear hi hxx
 clear hn hx hg hxw hxl hlt
 go_enter Tryz.func152, Tryz.ntmps152
 go_wp2_with (first | go_skip | ((first | ((refine zh _ rfl ?_); refine lZ hp rfl zJ ?_; clear hp; intro b w1 hp) | ((refine zi _ _ rfl ?_); refine lB hp rfl (zb rfl) rfl ?_; clear hp; intro b w1 hp) | ((refine zg _ _ rfl ?_); first | refine lO hp rfl (zb rfl) Z8 zq ?_ | refine lA hp rfl (zb rfl) Zr zq ?_) | ((refine zf _ _ _ rfl ?_); (first | refine sO hp rfl (zb rfl) Z8 zq ?_ | refine sA hp rfl (zb rfl) (zb rfl) Zr zq ?_ | refine sG hp rfl (zb rfl) (zb rfl) Zr zq ?_); clear hp; intro w1 hp; simp only [spl, z0a, z0b] at hp)); simp only [ze, zd, z0b, z0a]))
 refine zk [_, _] (zA.two hp.drew at1 at2) [] [(0, true), (1, true), (2, true), (3, true), (4, true), (5, true), (6, true), (7, false), (8, true), (9, true), (10, true), (11, false), (12, false)] (by kernel_rfl) (by kernel_rfl) rfl (by kernel_rfl) (fun _ _ d _ _ h => by cases d <;> exact h) ?_
 replace hp := hp.drew
 repeat' (with_reducible refine zB ?_); first | (with_reducible refine zt ?_) | ((with_reducible refine zI ?_); refine zy rfl ?_; (first | ((with_reducible refine zV _ rfl ?_); refine tM rfl ?_) | ((with_reducible refine zS _ _ rfl ?_); refine tO rfl (zb rfl) (by with_reducible first | exact zw | exact Zb) aa5 ?_) | refine tG (fun w _ => (by go_simp; try rfl)) ?_); try simp only [ze, zd, zn, zj, z0b, z0a, z0d, z0c, zr]) | (refine zF rfl (fun K hK => ?_); go_wp2_with (first | (go_at_call 200; (with_reducible refine (Z4 HPL.out _ oc hol HS.out _ (HRO.out.at hp (fun p hm => by (rw [List.mem_singleton] at hm; subst hm; simp)))).mono ?_); rintro e w1 ⟨rfl, hb⟩; replace hp := hp.call hb; clear hb) | go_skip); (refine hK.out _ _ (.inr (zA.two hp aa5 aa5)) ?_); clear hK K; try simp only [ze, zd, zn, zj, z0b, z0a, z0d, z0c, zr])
 obtain ⟨br, rfl⟩ := hp.id0
 obtain ⟨bo, rfl⟩ := hp.id1
 go_wp2_with (first | ((refine zg 122 _ rfl ?_); refine lO hp rfl (zb rfl) Za at3 ?_ (hv := by first | exact HXW.out | exact HXL.out); simp only [ze, zd, z0b, z0a]) | (go_at_call 140; (with_reducible refine (Zi _ _ _ _).mono ?_); rintro e w' ⟨rfl, rfl⟩; rw [HIN.out]) | (go_at_call 75; (with_reducible refine (zde _ _).mono ?_); rintro e w1 ⟨rfl, hb⟩; replace hp := hp.call hb; clear hb; unfold zaQ) | go_skip | ((first | ((refine zh _ rfl ?_); refine lZ hp rfl zJ ?_; clear hp; intro b w1 hp) | ((refine zi _ _ rfl ?_); refine lB hp rfl (zb rfl) rfl ?_; clear hp; intro b w1 hp) | ((refine zg _ _ rfl ?_); first | refine lO hp rfl (zb rfl) Z8 zq ?_ | refine lA hp rfl (zb rfl) Zr zq ?_) | ((refine zf _ _ _ rfl ?_); (first | refine sO hp rfl (zb rfl) Z8 zq ?_ | refine sA hp rfl (zb rfl) (zb rfl) Zr zq ?_ | refine sG hp rfl (zb rfl) (zb rfl) Zr zq ?_); clear hp; intro w1 hp; simp only [spl, z0a, z0b] at hp)); simp only [ze, zd, z0b, z0a]))
 refine bodyPost_ret (zE (rs := [.cell 4 54]) Tryz.results152 (.cell rfl (hp.loadAgg zU at0 0 _ (by rfl) (by rfl)) .nil)) rfl (zZ.sm ?_ rfl)
 have h := HBACK.out _ _ _ _ rfl ⟨Rw, Rl, rfl, h1, h2⟩ hp (fun f => by (simp only [List.map_append, List.map_cons, List.map_nil, List.sum_append, List.sum_cons, List.sum_nil, z0f, z0e, List.append_nil]; omega))
 simpa only [HXX.out] using h
theorem zjq {x : Hv} (hx : zQ x) {hh nn cc vv tt : Int} {i : Nat} {g : Ob} (hn : Z0 x.os hh = some i) (hg : x.os[i]? = some g) {q : Nat} {v : Int} (hq : g.ws[q]? = some v) {B bw : Nat} {w0 w : World} {K9 : List Blk} (hW : zZ B w0 w bw x K9) :
  Calls Tryz.prog 152 #[.pointer (some ⟨bw, 0, none⟩), .agg #[.int .i64 6, .int .i64 hh, .int .i64 q, .int .i64 nn, .int .i64 cc, .int .i64 vv, .int .i64 tt]] w (zX B w0 bw x 0 v K9) := by
 obtain ⟨go, RF, M1, Rw, Rl, M2, hoa, h1, h2, hp, hback⟩ := hW.open_ hg
 have hsm := hx.small.1.2 g (List.mem_of_getElem? hg)
 obtain ⟨hxw, hxl⟩ := zbV hg
 have HBACK := z0j hback
 have HS := z0j hx.sorted
 have hol : x.os.length ≤ 1000 := by have := hx.len; omega
 clear hback hW
 have hxx := ZH hg
 obtain ⟨od, oa, os, oc, nx, t0, t1, t2, t3, fa, fs, fc⟩ := x
 simp only at hoa
 subst hoa
 simp only [hvL] at hp HBACK
 simp only at hn hol HS hxw hxl hg
 have HPL := z0j hn
 have HRO : Hid (ZC [⟨go, os.flatMap obV, 126, oc * 5⟩] fun w => zD w (some ⟨go, 0, none⟩) (os.flatMap obV)) := z0j (ZC.row go _ _ _)
 have hlt := (List.getElem?_eq_some_iff.1 hg).1
 have e1 : (0 : Int) ≤ (i : Int) := by omega
 have e2 : (i : Int) < (os.length : Int) := by omega
 obtain ⟨gh, gp, go_, gwa, gws, gwc, gla, gls, glc⟩ := g
 simp only at h1 h2 hsm hxw hxl
 have HXW := z0j hxw
 have HXL := z0j hxl
 simp only at hq
 have hql := (List.getElem?_eq_some_iff.1 hq).1
 have HXQ := z0j (zmS hq)
 have HXX := z0j hxx
 have HIN : Hid (inB (q : Int) 0 ((gws.length : Int) - 1) = true) := z0j (by simp [inB]; omega)
 obtain ⟨gr, rfl, _, _, hR, _⟩ := h1.own (by omega)
 have H1 := z0j h1
 have H2 := z0j h2
 have f1 : (0 : Int) ≤ (q : Int) := by omega
 have f2 : (q : Int) < (gws.length : Int) := by omega
 have HRX := z0j hR
 replace hp := hp.keep (L' := ⟨bw, [.int .i64 od, .slice (some ⟨go, 0, none⟩) os.length oc, .int .i64 nx, .int .i64 t0, .int .i64 t1, .int .i64 t2, .int .i64 t3, .slice fa fs.length fc], 113, 8⟩ :: ⟨go, os.flatMap obV, 126, oc * 5⟩ :: ⟨gr, gws.flatMap iV, 3, gwc * 1⟩ :: (Rl ++ (RF ++ (M1 ++ (M2 ++ K9))))) (by rw [hR]; exact fun f => by (simp only [List.map_append, List.map_cons, List.map_nil, List.sum_append, List.sum_cons, List.sum_nil, z0f, z0e, List.append_nil]; omega))
 clear hxx hq hql h1 h2 hR
 clear hn hx hg hxw hxl hlt
 go_enter Tryz.func152, Tryz.ntmps152
 go_wp2_with (first | go_skip | ((first | ((refine zh _ rfl ?_); refine lZ hp rfl zJ ?_; clear hp; intro b w1 hp) | ((refine zi _ _ rfl ?_); refine lB hp rfl (zb rfl) rfl ?_; clear hp; intro b w1 hp) | ((refine zg _ _ rfl ?_); first | refine lO hp rfl (zb rfl) Z8 zq ?_ | refine lA hp rfl (zb rfl) Zr zq ?_) | ((refine zf _ _ _ rfl ?_); (first | refine sO hp rfl (zb rfl) Z8 zq ?_ | refine sA hp rfl (zb rfl) (zb rfl) Zr zq ?_ | refine sG hp rfl (zb rfl) (zb rfl) Zr zq ?_); clear hp; intro w1 hp; simp only [spl, z0a, z0b] at hp)); simp only [ze, zd, z0b, z0a]))
 refine zk [_, _] (zA.two hp.drew at1 at2) [] [(0, true), (1, true), (2, true), (3, true), (4, true), (5, true), (6, true), (7, false), (8, true), (9, true), (10, true), (11, false), (12, false)] (by kernel_rfl) (by kernel_rfl) rfl (by kernel_rfl) (fun _ _ d _ _ h => by cases d <;> exact h) ?_
 replace hp := hp.drew
 repeat' (with_reducible refine zB ?_); first | (with_reducible refine zt ?_) | ((with_reducible refine zI ?_); refine zy rfl ?_; (first | ((with_reducible refine zV _ rfl ?_); refine tM rfl ?_) | ((with_reducible refine zS _ _ rfl ?_); refine tO rfl (zb rfl) (by with_reducible first | exact zw | exact Zb) aa5 ?_) | refine tG (fun w _ => (by go_simp; try rfl)) ?_); try simp only [ze, zd, zn, zj, z0b, z0a, z0d, z0c, zr]) | (refine zF rfl (fun K hK => ?_); go_wp2_with (first | (go_at_call 200; (with_reducible refine (Z4 HPL.out _ oc hol HS.out _ (HRO.out.at hp (fun p hm => by (rw [List.mem_singleton] at hm; subst hm; simp)))).mono ?_); rintro e w1 ⟨rfl, hb⟩; replace hp := hp.call hb; clear hb) | go_skip); (refine hK.out _ _ (.inr (zA.two hp aa5 aa5)) ?_); clear hK K; try simp only [ze, zd, zn, zj, z0b, z0a, z0d, z0c, zr])
 obtain ⟨br, rfl⟩ := hp.id0
 obtain ⟨bo, rfl⟩ := hp.id1
 go_wp2_with (first | ((refine zg 122 _ rfl ?_); refine lO hp rfl (zb rfl) Za at3 ?_ (hv := by first | exact HXW.out | exact HXL.out); simp only [ze, zd, z0b, z0a]) | ((refine zg 3 _ rfl ?_); refine lO hp rfl (zb rfl) zw at4 ?_ (hv := HXQ.out); simp only [ze, zd, z0b, z0a]) | (go_at_call 140; (with_reducible refine (Zi _ _ _ _).mono ?_); rintro e w' ⟨rfl, rfl⟩; rw [HIN.out]) | (go_at_call 75; (with_reducible refine (zde _ _).mono ?_); rintro e w1 ⟨rfl, hb⟩; replace hp := hp.call hb; clear hb; unfold zaQ) | go_skip | ((first | ((refine zh _ rfl ?_); refine lZ hp rfl zJ ?_; clear hp; intro b w1 hp) | ((refine zi _ _ rfl ?_); refine lB hp rfl (zb rfl) rfl ?_; clear hp; intro b w1 hp) | ((refine zg _ _ rfl ?_); first | refine lO hp rfl (zb rfl) Z8 zq ?_ | refine lA hp rfl (zb rfl) Zr zq ?_) | ((refine zf _ _ _ rfl ?_); (first | refine sO hp rfl (zb rfl) Z8 zq ?_ | refine sA hp rfl (zb rfl) (zb rfl) Zr zq ?_ | refine sG hp rfl (zb rfl) (zb rfl) Zr zq ?_); clear hp; intro w1 hp; simp only [spl, z0a, z0b] at hp)); simp only [ze, zd, z0b, z0a]))
 refine bodyPost_ret (zE (rs := [.cell 4 54]) Tryz.results152 (.cell rfl (hp.loadAgg zU at0 0 _ (by rfl) (by rfl)) .nil)) rfl (zZ.sm ?_ rfl)
 have h := HBACK.out _ _ _ _ rfl ⟨Rw, Rl, rfl, H1.out, H2.out⟩ hp (by rw [HRX.out]; exact fun f => by (simp only [List.map_append, List.map_cons, List.map_nil, List.sum_append, List.sum_cons, List.sum_nil, z0f, z0e, List.append_nil]; omega))
 simpa only [HXX.out] using h
theorem zgY {x : Hv} (hx : zQ x) {hh nn cc vv tt : Int} {i : Nat} {g : Ob} (hn : Z0 x.os hh = some i) (hg : x.os[i]? = some g) {q : Nat} {v : Int} (hq : g.ls[q]? = some v) {B bw : Nat} {w0 w : World} {K9 : List Blk} (hW : zZ B w0 w bw x K9) :
  Calls Tryz.prog 152 #[.pointer (some ⟨bw, 0, none⟩), .agg #[.int .i64 7, .int .i64 hh, .int .i64 q, .int .i64 nn, .int .i64 cc, .int .i64 vv, .int .i64 tt]] w (zX B w0 bw x 0 v K9) := by
 obtain ⟨go, RF, M1, Rw, Rl, M2, hoa, h1, h2, hp, hback⟩ := hW.open_ hg
 have hsm := hx.small.1.2 g (List.mem_of_getElem? hg)
 obtain ⟨hxw, hxl⟩ := zbV hg
 have HBACK := z0j hback
 have HS := z0j hx.sorted
 have hol : x.os.length ≤ 1000 := by have := hx.len; omega
 clear hback hW
 have hxx := ZH hg
 obtain ⟨od, oa, os, oc, nx, t0, t1, t2, t3, fa, fs, fc⟩ := x
 simp only at hoa
 subst hoa
 simp only [hvL] at hp HBACK
 simp only at hn hol HS hxw hxl hg
 have HPL := z0j hn
 have HRO : Hid (ZC [⟨go, os.flatMap obV, 126, oc * 5⟩] fun w => zD w (some ⟨go, 0, none⟩) (os.flatMap obV)) := z0j (ZC.row go _ _ _)
 have hlt := (List.getElem?_eq_some_iff.1 hg).1
 have e1 : (0 : Int) ≤ (i : Int) := by omega
 have e2 : (i : Int) < (os.length : Int) := by omega
 obtain ⟨gh, gp, go_, gwa, gws, gwc, gla, gls, glc⟩ := g
 simp only at h1 h2 hsm hxw hxl
 have HXW := z0j hxw
 have HXL := z0j hxl
 simp only at hq
 have hql := (List.getElem?_eq_some_iff.1 hq).1
 have HXQ := z0j (zmS hq)
 have HXX := z0j hxx
 have HIN : Hid (inB (q : Int) 0 ((gls.length : Int) - 1) = true) := z0j (by simp [inB]; omega)
 obtain ⟨gr, rfl, _, _, hR, _⟩ := h2.own (by omega)
 have H1 := z0j h1
 have H2 := z0j h2
 have f1 : (0 : Int) ≤ (q : Int) := by omega
 have f2 : (q : Int) < (gls.length : Int) := by omega
 have HRX := z0j hR
 replace hp := hp.keep (L' := ⟨bw, [.int .i64 od, .slice (some ⟨go, 0, none⟩) os.length oc, .int .i64 nx, .int .i64 t0, .int .i64 t1, .int .i64 t2, .int .i64 t3, .slice fa fs.length fc], 113, 8⟩ :: ⟨go, os.flatMap obV, 126, oc * 5⟩ :: ⟨gr, gls.flatMap iV, 3, glc * 1⟩ :: (Rw ++ (RF ++ (M1 ++ (M2 ++ K9))))) (by rw [hR]; exact fun f => by (simp only [List.map_append, List.map_cons, List.map_nil, List.sum_append, List.sum_cons, List.sum_nil, z0f, z0e, List.append_nil]; omega))
 clear hxx hq hql h1 h2 hR
 clear hn hx hg hxw hxl hlt
 go_enter Tryz.func152, Tryz.ntmps152
 go_wp2_with (first | go_skip | ((first | ((refine zh _ rfl ?_); refine lZ hp rfl zJ ?_; clear hp; intro b w1 hp) | ((refine zi _ _ rfl ?_); refine lB hp rfl (zb rfl) rfl ?_; clear hp; intro b w1 hp) | ((refine zg _ _ rfl ?_); first | refine lO hp rfl (zb rfl) Z8 zq ?_ | refine lA hp rfl (zb rfl) Zr zq ?_) | ((refine zf _ _ _ rfl ?_); (first | refine sO hp rfl (zb rfl) Z8 zq ?_ | refine sA hp rfl (zb rfl) (zb rfl) Zr zq ?_ | refine sG hp rfl (zb rfl) (zb rfl) Zr zq ?_); clear hp; intro w1 hp; simp only [spl, z0a, z0b] at hp)); simp only [ze, zd, z0b, z0a]))
 refine zk [_, _] (zA.two hp.drew at1 at2) [] [(0, true), (1, true), (2, true), (3, true), (4, true), (5, true), (6, true), (7, false), (8, true), (9, true), (10, true), (11, false), (12, false)] (by kernel_rfl) (by kernel_rfl) rfl (by kernel_rfl) (fun _ _ d _ _ h => by cases d <;> exact h) ?_
 replace hp := hp.drew
 repeat' (with_reducible refine zB ?_); first | (with_reducible refine zt ?_) | ((with_reducible refine zI ?_); refine zy rfl ?_; (first | ((with_reducible refine zV _ rfl ?_); refine tM rfl ?_) | ((with_reducible refine zS _ _ rfl ?_); refine tO rfl (zb rfl) (by with_reducible first | exact zw | exact Zb) aa5 ?_) | refine tG (fun w _ => (by go_simp; try rfl)) ?_); try simp only [ze, zd, zn, zj, z0b, z0a, z0d, z0c, zr]) | (refine zF rfl (fun K hK => ?_); go_wp2_with (first | (go_at_call 200; (with_reducible refine (Z4 HPL.out _ oc hol HS.out _ (HRO.out.at hp (fun p hm => by (rw [List.mem_singleton] at hm; subst hm; simp)))).mono ?_); rintro e w1 ⟨rfl, hb⟩; replace hp := hp.call hb; clear hb) | go_skip); (refine hK.out _ _ (.inr (zA.two hp aa5 aa5)) ?_); clear hK K; try simp only [ze, zd, zn, zj, z0b, z0a, z0d, z0c, zr])
 obtain ⟨br, rfl⟩ := hp.id0
 obtain ⟨bo, rfl⟩ := hp.id1
 go_wp2_with (first | ((refine zg 122 _ rfl ?_); refine lO hp rfl (zb rfl) Za at3 ?_ (hv := by first | exact HXW.out | exact HXL.out); simp only [ze, zd, z0b, z0a]) | ((refine zg 3 _ rfl ?_); refine lO hp rfl (zb rfl) zw at4 ?_ (hv := HXQ.out); simp only [ze, zd, z0b, z0a]) | (go_at_call 140; (with_reducible refine (Zi _ _ _ _).mono ?_); rintro e w' ⟨rfl, rfl⟩; rw [HIN.out]) | (go_at_call 75; (with_reducible refine (zde _ _).mono ?_); rintro e w1 ⟨rfl, hb⟩; replace hp := hp.call hb; clear hb; unfold zaQ) | go_skip | ((first | ((refine zh _ rfl ?_); refine lZ hp rfl zJ ?_; clear hp; intro b w1 hp) | ((refine zi _ _ rfl ?_); refine lB hp rfl (zb rfl) rfl ?_; clear hp; intro b w1 hp) | ((refine zg _ _ rfl ?_); first | refine lO hp rfl (zb rfl) Z8 zq ?_ | refine lA hp rfl (zb rfl) Zr zq ?_) | ((refine zf _ _ _ rfl ?_); (first | refine sO hp rfl (zb rfl) Z8 zq ?_ | refine sA hp rfl (zb rfl) (zb rfl) Zr zq ?_ | refine sG hp rfl (zb rfl) (zb rfl) Zr zq ?_); clear hp; intro w1 hp; simp only [spl, z0a, z0b] at hp)); simp only [ze, zd, z0b, z0a]))
 refine bodyPost_ret (zE (rs := [.cell 4 54]) Tryz.results152 (.cell rfl (hp.loadAgg zU at0 0 _ (by rfl) (by rfl)) .nil)) rfl (zZ.sm ?_ rfl)
 have h := HBACK.out _ _ _ _ rfl ⟨Rw, Rl, rfl, H1.out, H2.out⟩ hp (by rw [HRX.out]; exact fun f => by (simp only [List.map_append, List.map_cons, List.map_nil, List.sum_append, List.sum_cons, List.sum_nil, z0f, z0e, List.append_nil]; omega))
 simpa only [HXX.out] using h
theorem zhQ {x : Hv} (hx : zQ x) {hh nn cc vv tt : Int} {i : Nat} {g : Ob} (hn : Z0 x.os hh = some i) (hg : x.os[i]? = some g) {q : Nat} (hq : q < g.ws.length) {B bw : Nat} {w0 w : World} {K9 : List Blk} (hW : zZ B w0 w bw x K9) :
  Calls Tryz.prog 152 #[.pointer (some ⟨bw, 0, none⟩), .agg #[.int .i64 3, .int .i64 hh, .int .i64 q, .int .i64 nn, .int .i64 cc, .int .i64 vv, .int .i64 tt]] w (zX B w0 bw (zfi x i g q vv) 0 0 K9) := by
 obtain ⟨go, RF, M1, Rw, Rl, M2, hoa, h1, h2, hp, hback⟩ := hW.open_ hg
 have hsm := hx.small.1.2 g (List.mem_of_getElem? hg)
 obtain ⟨hxw, hxl⟩ := zbV hg
 have HBACK := z0j hback
 have HS := z0j hx.sorted
 have hol : x.os.length ≤ 1000 := by have := hx.len; omega
 clear hback hW
 obtain ⟨od, oa, os, oc, nx, t0, t1, t2, t3, fa, fs, fc⟩ := x
 simp only at hoa
 subst hoa
 simp only [hvL] at hp HBACK
 simp only at hn hol HS hxw hxl hg
 have HPL := z0j hn
 have HRO : Hid (ZC [⟨go, os.flatMap obV, 126, oc * 5⟩] fun w => zD w (some ⟨go, 0, none⟩) (os.flatMap obV)) := z0j (ZC.row go _ _ _)
 have hlt := (List.getElem?_eq_some_iff.1 hg).1
 have e1 : (0 : Int) ≤ (i : Int) := by omega
 have e2 : (i : Int) < (os.length : Int) := by omega
 obtain ⟨gh, gp, go_, gwa, gws, gwc, gla, gls, glc⟩ := g
 simp only at h1 h2 hsm hxw hxl
 have HXW := z0j hxw
 have HXL := z0j hxl
 simp only at hq
 have HIN : Hid (inB (q : Int) 0 ((gws.length : Int) - 1) = true) := z0j (by simp [inB]; omega)
 obtain ⟨gr, rfl, _, _, hR, _⟩ := h1.own (by omega)
 have HNEW := z0j (zcO (q := q) (v := vv) h1 (by omega))
 have HQL : Hid (q < (gws.flatMap iV).length) := z0j (by rw [ZL]; omega)
 have H2 := z0j h2
 have f1 : (0 : Int) ≤ (q : Int) := by omega
 have f2 : (q : Int) < (gws.length : Int) := by omega
 replace hp := hp.keep (L' := ⟨bw, [.int .i64 od, .slice (some ⟨go, 0, none⟩) os.length oc, .int .i64 nx, .int .i64 t0, .int .i64 t1, .int .i64 t2, .int .i64 t3, .slice fa fs.length fc], 113, 8⟩ :: ⟨go, os.flatMap obV, 126, oc * 5⟩ :: ⟨gr, gws.flatMap iV, 3, gwc * 1⟩ :: (Rl ++ (RF ++ (M1 ++ (M2 ++ K9))))) (by rw [hR]; exact fun f => by (simp only [List.map_append, List.map_cons, List.map_nil, List.sum_append, List.sum_cons, List.sum_nil, z0f, z0e, List.append_nil]; omega))
 clear hq h1 h2 hR
 clear hn hx hg hxw hxl hlt
 go_enter Tryz.func152, Tryz.ntmps152
 go_wp2_with (first | go_skip | ((first | ((refine zh _ rfl ?_); refine lZ hp rfl zJ ?_; clear hp; intro b w1 hp) | ((refine zi _ _ rfl ?_); refine lB hp rfl (zb rfl) rfl ?_; clear hp; intro b w1 hp) | ((refine zg _ _ rfl ?_); first | refine lO hp rfl (zb rfl) Z8 zq ?_ | refine lA hp rfl (zb rfl) Zr zq ?_) | ((refine zf _ _ _ rfl ?_); (first | refine sO hp rfl (zb rfl) Z8 zq ?_ | refine sA hp rfl (zb rfl) (zb rfl) Zr zq ?_ | refine sG hp rfl (zb rfl) (zb rfl) Zr zq ?_); clear hp; intro w1 hp; simp only [spl, z0a, z0b] at hp)); simp only [ze, zd, z0b, z0a]))
 refine zk [_, _] (zA.two hp.drew at1 at2) [] [(0, true), (1, true), (2, true), (3, true), (4, true), (5, true), (6, true), (7, false), (8, true), (9, true), (10, true), (11, false), (12, false)] (by kernel_rfl) (by kernel_rfl) rfl (by kernel_rfl) (fun _ _ d _ _ h => by cases d <;> exact h) ?_
 replace hp := hp.drew
 repeat' (with_reducible refine zB ?_); first | (with_reducible refine zt ?_) | ((with_reducible refine zI ?_); refine zy rfl ?_; (first | ((with_reducible refine zV _ rfl ?_); refine tM rfl ?_) | ((with_reducible refine zS _ _ rfl ?_); refine tO rfl (zb rfl) (by with_reducible first | exact zw | exact Zb) aa5 ?_) | refine tG (fun w _ => (by go_simp; try rfl)) ?_); try simp only [ze, zd, zn, zj, z0b, z0a, z0d, z0c, zr]) | (refine zF rfl (fun K hK => ?_); go_wp2_with (first | (go_at_call 200; (with_reducible refine (Z4 HPL.out _ oc hol HS.out _ (HRO.out.at hp (fun p hm => by (rw [List.mem_singleton] at hm; subst hm; simp)))).mono ?_); rintro e w1 ⟨rfl, hb⟩; replace hp := hp.call hb; clear hb) | go_skip); (refine hK.out _ _ (.inr (zA.two hp aa5 aa5)) ?_); clear hK K; try simp only [ze, zd, zn, zj, z0b, z0a, z0d, z0c, zr])
 obtain ⟨br, rfl⟩ := hp.id0
 obtain ⟨bo, rfl⟩ := hp.id1
 go_wp2_with (first | ((refine zg 122 _ rfl ?_); refine lO hp rfl (zb rfl) Za at3 ?_ (hv := by first | exact HXW.out | exact HXL.out); simp only [ze, zd, z0b, z0a]) | ((refine zf 3 _ _ rfl ?_); refine sO hp rfl (zb rfl) zw at4 ?_ (hlen := HQL.out); clear hp; intro w1 hp; simp only [z0b, z0a] at hp; simp only [ze, zd, z0b, z0a]) | (go_at_call 140; (with_reducible refine (Zi _ _ _ _).mono ?_); rintro e w' ⟨rfl, rfl⟩; rw [HIN.out]) | (go_at_call 75; (with_reducible refine (zde _ _).mono ?_); rintro e w1 ⟨rfl, hb⟩; replace hp := hp.call hb; clear hb; unfold zaQ) | go_skip | ((first | ((refine zh _ rfl ?_); refine lZ hp rfl zJ ?_; clear hp; intro b w1 hp) | ((refine zi _ _ rfl ?_); refine lB hp rfl (zb rfl) rfl ?_; clear hp; intro b w1 hp) | ((refine zg _ _ rfl ?_); first | refine lO hp rfl (zb rfl) Z8 zq ?_ | refine lA hp rfl (zb rfl) Zr zq ?_) | ((refine zf _ _ _ rfl ?_); (first | refine sO hp rfl (zb rfl) Z8 zq ?_ | refine sA hp rfl (zb rfl) (zb rfl) Zr zq ?_ | refine sG hp rfl (zb rfl) (zb rfl) Zr zq ?_); clear hp; intro w1 hp; simp only [spl, z0a, z0b] at hp)); simp only [ze, zd, z0b, z0a]))
 rw [zgs] at hp
 refine bodyPost_ret (zE (rs := [.cell 4 54]) Tryz.results152 (.cell rfl (hp.loadAgg zU at0 0 _ (by rfl) (by rfl)) .nil)) rfl ⟨rfl, _, Hv.Sm.refl _, ?_⟩
 exact HBACK.out ⟨gh, gp, go_, some ⟨gr, 0, none⟩, gws.set q vv, gwc, gla, gls, glc⟩ ([⟨gr, (gws.set q vv).flatMap iV, 3, gwc * 1⟩] ++ Rl) _ _ (by simp [obV]) ⟨_, _, rfl, by simpa using HNEW.out, H2.out⟩ hp (fun f => by (simp only [List.map_append, List.map_cons, List.map_nil, List.sum_append, List.sum_cons, List.sum_nil, z0f, z0e, List.append_nil]; omega))
theorem zjo {x : Hv} (hx : zQ x) {hh nn cc vv tt : Int} {i : Nat} {g : Ob} (hn : Z0 x.os hh = some i) (hg : x.os[i]? = some g) {q : Nat} (hq : q < g.ls.length) (hto : ZQ x.os tt = true) {B bw : Nat} {w0 w : World} {K9 : List Blk} (hW : zZ B w0 w bw x K9) :
  Calls Tryz.prog 152 #[.pointer (some ⟨bw, 0, none⟩), .agg #[.int .i64 4, .int .i64 hh, .int .i64 q, .int .i64 nn, .int .i64 cc, .int .i64 vv, .int .i64 tt]] w (zX B w0 bw (zim x i g q tt) 0 0 K9) := by
 obtain ⟨go, RF, M1, Rw, Rl, M2, hoa, h1, h2, hp, hback⟩ := hW.open_ hg
 have hsm := hx.small.1.2 g (List.mem_of_getElem? hg)
 obtain ⟨hxw, hxl⟩ := zbV hg
 have HBACK := z0j hback
 have HS := z0j hx.sorted
 have hol : x.os.length ≤ 1000 := by have := hx.len; omega
 clear hback hW
 have hxx := ZH hg
 obtain ⟨od, oa, os, oc, nx, t0, t1, t2, t3, fa, fs, fc⟩ := x
 simp only at hoa
 subst hoa
 simp only [hvL] at hp HBACK
 simp only at hn hol HS hxw hxl hg
 have HPL := z0j hn
 have HRO : Hid (ZC [⟨go, os.flatMap obV, 126, oc * 5⟩] fun w => zD w (some ⟨go, 0, none⟩) (os.flatMap obV)) := z0j (ZC.row go _ _ _)
 have hlt := (List.getElem?_eq_some_iff.1 hg).1
 have e1 : (0 : Int) ≤ (i : Int) := by omega
 have e2 : (i : Int) < (os.length : Int) := by omega
 obtain ⟨gh, gp, go_, gwa, gws, gwc, gla, gls, glc⟩ := g
 simp only at h1 h2 hsm hxw hxl
 have HXW := z0j hxw
 have HXL := z0j hxl
 simp only at hq hto
 have HXX := z0j hxx
 have HIN : Hid (inB (q : Int) 0 ((gls.length : Int) - 1) = true) := z0j (by simp [inB]; omega)
 obtain ⟨gr, rfl, _, _, hR, _⟩ := h2.own (by omega)
 have HNEW := z0j (zcO (q := q) (v := tt) h2 (by omega))
 have hqll : q < (gls.flatMap iV).length := by rw [ZL]; omega
 have H1 := z0j h1
 have H2 := z0j h2
 have HRX := z0j hR
 have f1 : (0 : Int) ≤ (q : Int) := by omega
 have f2 : (q : Int) < (gls.length : Int) := by omega
 replace hp := hp.keep (L' := ⟨bw, [.int .i64 od, .slice (some ⟨go, 0, none⟩) os.length oc, .int .i64 nx, .int .i64 t0, .int .i64 t1, .int .i64 t2, .int .i64 t3, .slice fa fs.length fc], 113, 8⟩ :: ⟨go, os.flatMap obV, 126, oc * 5⟩ :: ⟨gr, gls.flatMap iV, 3, glc * 1⟩ :: (Rw ++ (RF ++ (M1 ++ (M2 ++ K9))))) (by rw [hR]; exact fun f => by (simp only [List.map_append, List.map_cons, List.map_nil, List.sum_append, List.sum_cons, List.sum_nil, z0f, z0e, List.append_nil]; omega))
 have HLD : Hid (∀ {x y : Blk} {L : List Blk} {l : List Value} {w : World}, Hp B w0 w (x :: y :: ⟨bw, .int .i64 od :: .slice (some ⟨go, 0, none⟩) os.length oc :: l, 113, 8⟩ :: ⟨go, os.flatMap obV, 126, oc * 5⟩ :: ⟨gr, gls.flatMap iV, 3, glc * 1⟩ :: L) →
   Calls Tryz.prog 153 #[.pointer (some ⟨bw, 0, none⟩), .pointer (some ⟨gr, q, none⟩), .int .i64 tt] w fun e w' => e = .returned (zaQ 0 0) ∧ Hp B w0 w' (x :: y :: ⟨bw, .int .i64 od :: .slice (some ⟨go, 0, none⟩) os.length oc :: l, 113, 8⟩ :: ⟨go, os.flatMap obV, 126, oc * 5⟩ :: ⟨gr, (gls.flatMap iV).set q (.int .i64 tt), 3, glc * 1⟩ :: L)) :=
  z0j (fun hp => zbz hol HS.out hto (j := 2) (i := 4) rfl rfl (HRO.out.mono (fun p hm => by (rw [List.mem_singleton] at hm; subst hm; simp)) (fun _ h => h)) rfl hqll hp)
 clear hxx hq h1 h2 hR hto hqll
 clear hn hx hg hxw hxl hlt
 go_enter Tryz.func152, Tryz.ntmps152
 go_wp2_with (first | go_skip | ((first | ((refine zh _ rfl ?_); refine lZ hp rfl zJ ?_; clear hp; intro b w1 hp) | ((refine zi _ _ rfl ?_); refine lB hp rfl (zb rfl) rfl ?_; clear hp; intro b w1 hp) | ((refine zg _ _ rfl ?_); first | refine lO hp rfl (zb rfl) Z8 zq ?_ | refine lA hp rfl (zb rfl) Zr zq ?_) | ((refine zf _ _ _ rfl ?_); (first | refine sO hp rfl (zb rfl) Z8 zq ?_ | refine sA hp rfl (zb rfl) (zb rfl) Zr zq ?_ | refine sG hp rfl (zb rfl) (zb rfl) Zr zq ?_); clear hp; intro w1 hp; simp only [spl, z0a, z0b] at hp)); simp only [ze, zd, z0b, z0a]))
 refine zk [_, _] (zA.two hp.drew at1 at2) [] [(0, true), (1, true), (2, true), (3, true), (4, true), (5, true), (6, true), (7, false), (8, true), (9, true), (10, true), (11, false), (12, false)] (by kernel_rfl) (by kernel_rfl) rfl (by kernel_rfl) (fun _ _ d _ _ h => by cases d <;> exact h) ?_
 replace hp := hp.drew
 repeat' (with_reducible refine zB ?_); first | (with_reducible refine zt ?_) | ((with_reducible refine zI ?_); refine zy rfl ?_; (first | ((with_reducible refine zV _ rfl ?_); refine tM rfl ?_) | ((with_reducible refine zS _ _ rfl ?_); refine tO rfl (zb rfl) (by with_reducible first | exact zw | exact Zb) aa5 ?_) | refine tG (fun w _ => (by go_simp; try rfl)) ?_); try simp only [ze, zd, zn, zj, z0b, z0a, z0d, z0c, zr]) | (refine zF rfl (fun K hK => ?_); go_wp2_with (first | (go_at_call 200; (with_reducible refine (Z4 HPL.out _ oc hol HS.out _ (HRO.out.at hp (fun p hm => by (rw [List.mem_singleton] at hm; subst hm; simp)))).mono ?_); rintro e w1 ⟨rfl, hb⟩; replace hp := hp.call hb; clear hb) | go_skip); (refine hK.out _ _ (.inr (zA.two hp aa5 aa5)) ?_); clear hK K; try simp only [ze, zd, zn, zj, z0b, z0a, z0d, z0c, zr])
 obtain ⟨br, rfl⟩ := hp.id0
 obtain ⟨bo, rfl⟩ := hp.id1
 go_wp2_with (first | ((refine zg 122 _ rfl ?_); refine lO hp rfl (zb rfl) Za at3 ?_ (hv := by first | exact HXW.out | exact HXL.out); simp only [ze, zd, z0b, z0a]) | (go_at_call 140; (with_reducible refine (Zi _ _ _ _).mono ?_); rintro e w' ⟨rfl, rfl⟩; rw [HIN.out]) | (go_at_call 75; (with_reducible refine (zde _ _).mono ?_); rintro e w1 ⟨rfl, hb⟩; replace hp := hp.call hb; clear hb; unfold zaQ) | go_skip | ((first | ((refine zh _ rfl ?_); refine lZ hp rfl zJ ?_; clear hp; intro b w1 hp) | ((refine zi _ _ rfl ?_); refine lB hp rfl (zb rfl) rfl ?_; clear hp; intro b w1 hp) | ((refine zg _ _ rfl ?_); first | refine lO hp rfl (zb rfl) Z8 zq ?_ | refine lA hp rfl (zb rfl) Zr zq ?_) | ((refine zf _ _ _ rfl ?_); (first | refine sO hp rfl (zb rfl) Z8 zq ?_ | refine sA hp rfl (zb rfl) (zb rfl) Zr zq ?_ | refine sG hp rfl (zb rfl) (zb rfl) Zr zq ?_); clear hp; intro w1 hp; simp only [spl, z0a, z0b] at hp)); simp only [ze, zd, z0b, z0a]))
 refine zk [_] (zA.one hp.drew at1) [7, 8] [(0, true), (1, true), (2, true), (3, true), (4, true), (5, true), (6, true), (7, false), (8, false)] (by kernel_rfl) (by kernel_rfl) rfl (by kernel_rfl) (fun _ _ d _ _ h => by cases d <;> exact h) ?_
 replace hp := hp.drew
 repeat' (with_reducible refine zB ?_); first | (with_reducible refine zt ?_) | ((with_reducible refine zI ?_); refine zy rfl ?_; (first | ((with_reducible refine zV _ rfl ?_); refine tM rfl ?_) | ((with_reducible refine zS _ _ rfl ?_); refine tO rfl (zb rfl) zw aa5 ?_) | refine tG (fun w _ => (by go_simp; try rfl)) ?_); try simp only [ze, zd, zn, zj, z0b, z0a, z0d, z0c, zr]) | (refine zF rfl (fun K hK => ?_); go_wp2_with (first | (go_at_call 153; (with_reducible refine (HLD.out hp).mono ?_); clear hp; rintro e w1 ⟨rfl, hp⟩; unfold zaQ) | go_skip | (((refine zf _ _ _ rfl ?_); (first | refine sO hp rfl (zb rfl) Z8 zq ?_ | refine sA hp rfl (zb rfl) (zb rfl) Zr zq ?_ | refine sG hp rfl (zb rfl) (zb rfl) Zr zq ?_); clear hp; intro w1 hp; simp only [spl, z0a, z0b] at hp); simp only [ze, zd, z0b, z0a])); (first | refine hK.out _ _ (.inl rfl) ?_ | refine hK.out _ _ (.inr (zA.one hp aa5)) ?_); clear hK K; try simp only [ze, zd, zn, zj, z0b, z0a, z0d, z0c, zr])
 go_wp2_with (first | go_skip | ((first | ((refine zh _ rfl ?_); refine lZ hp rfl zJ ?_; clear hp; intro b w1 hp) | ((refine zi _ _ rfl ?_); refine lB hp rfl (zb rfl) rfl ?_; clear hp; intro b w1 hp) | ((refine zg _ _ rfl ?_); first | refine lO hp rfl (zb rfl) Z8 zq ?_ | refine lA hp rfl (zb rfl) Zr zq ?_) | ((refine zf _ _ _ rfl ?_); (first | refine sO hp rfl (zb rfl) Z8 zq ?_ | refine sA hp rfl (zb rfl) (zb rfl) Zr zq ?_ | refine sG hp rfl (zb rfl) (zb rfl) Zr zq ?_); clear hp; intro w1 hp; simp only [spl, z0a, z0b] at hp)); simp only [ze, zd, z0b, z0a]))
 rw [zgs] at hp
 refine bodyPost_ret (zE (rs := [.cell 4 54]) Tryz.results152 (.cell rfl (hp.loadAgg zU at0 0 _ (by rfl) (by rfl)) .nil)) rfl ⟨rfl, _, Hv.Sm.refl _, ?_⟩
 exact HBACK.out ⟨gh, gp, go_, gwa, gws, gwc, some ⟨gr, 0, none⟩, gls.set q tt, glc⟩ (Rw ++ [⟨gr, (gls.set q tt).flatMap iV, 3, glc * 1⟩]) _ _ (by simp [obV]) ⟨_, _, rfl, H1.out, by simpa using HNEW.out⟩ hp (fun f => by (simp only [List.map_append, List.map_cons, List.map_nil, List.sum_append, List.sum_cons, List.sum_nil, z0f, z0e, List.append_nil]; omega))
theorem zg3 {x : Hv} (hx : zQ x) {hh nn cc vv tt : Int} {i : Nat} {g : Ob} (hn : Z0 x.os hh = some i) (hg : x.os[i]? = some g) {q : Nat} (hq : q < g.ls.length) (hto : ZQ x.os tt = false) {B bw : Nat} {w0 w : World} {K9 : List Blk} (hW : zZ B w0 w bw x K9) :
  Calls Tryz.prog 152 #[.pointer (some ⟨bw, 0, none⟩), .agg #[.int .i64 4, .int .i64 hh, .int .i64 q, .int .i64 nn, .int .i64 cc, .int .i64 vv, .int .i64 tt]] w (zX B w0 bw x 51 0 K9) := by
 obtain ⟨go, RF, M1, Rw, Rl, M2, hoa, h1, h2, hp, hback⟩ := hW.open_ hg
 have hsm := hx.small.1.2 g (List.mem_of_getElem? hg)
 obtain ⟨hxw, hxl⟩ := zbV hg
 have HBACK := z0j hback
 have HS := z0j hx.sorted
 have hol : x.os.length ≤ 1000 := by have := hx.len; omega
 clear hback hW
 have hxx := ZH hg
 obtain ⟨od, oa, os, oc, nx, t0, t1, t2, t3, fa, fs, fc⟩ := x
 simp only at hoa
 subst hoa
 simp only [hvL] at hp HBACK
 simp only at hn hol HS hxw hxl hg
 have HPL := z0j hn
 have HRO : Hid (ZC [⟨go, os.flatMap obV, 126, oc * 5⟩] fun w => zD w (some ⟨go, 0, none⟩) (os.flatMap obV)) := z0j (ZC.row go _ _ _)
 have hlt := (List.getElem?_eq_some_iff.1 hg).1
 have e1 : (0 : Int) ≤ (i : Int) := by omega
 have e2 : (i : Int) < (os.length : Int) := by omega
 obtain ⟨gh, gp, go_, gwa, gws, gwc, gla, gls, glc⟩ := g
 simp only at h1 h2 hsm hxw hxl
 have HXW := z0j hxw
 have HXL := z0j hxl
 simp only at hq hto
 have HXX := z0j hxx
 have HIN : Hid (inB (q : Int) 0 ((gls.length : Int) - 1) = true) := z0j (by simp [inB]; omega)
 obtain ⟨gr, rfl, _, _, hR, _⟩ := h2.own (by omega)
 have HNEW := z0j (zcO (q := q) (v := tt) h2 (by omega))
 have hqll : q < (gls.flatMap iV).length := by rw [ZL]; omega
 have H1 := z0j h1
 have H2 := z0j h2
 have HRX := z0j hR
 have f1 : (0 : Int) ≤ (q : Int) := by omega
 have f2 : (q : Int) < (gls.length : Int) := by omega
 replace hp := hp.keep (L' := ⟨bw, [.int .i64 od, .slice (some ⟨go, 0, none⟩) os.length oc, .int .i64 nx, .int .i64 t0, .int .i64 t1, .int .i64 t2, .int .i64 t3, .slice fa fs.length fc], 113, 8⟩ :: ⟨go, os.flatMap obV, 126, oc * 5⟩ :: ⟨gr, gls.flatMap iV, 3, glc * 1⟩ :: (Rw ++ (RF ++ (M1 ++ (M2 ++ K9))))) (by rw [hR]; exact fun f => by (simp only [List.map_append, List.map_cons, List.map_nil, List.sum_append, List.sum_cons, List.sum_nil, z0f, z0e, List.append_nil]; omega))
 have HLD : Hid (∀ {x y : Blk} {L : List Blk} {l : List Value} {w : World}, Hp B w0 w (x :: y :: ⟨bw, .int .i64 od :: .slice (some ⟨go, 0, none⟩) os.length oc :: l, 113, 8⟩ :: ⟨go, os.flatMap obV, 126, oc * 5⟩ :: ⟨gr, gls.flatMap iV, 3, glc * 1⟩ :: L) →
   Calls Tryz.prog 153 #[.pointer (some ⟨bw, 0, none⟩), .pointer (some ⟨gr, q, none⟩), .int .i64 tt] w fun e w' => e = .returned (zaQ 51 0) ∧ Hp B w0 w' (x :: y :: ⟨bw, .int .i64 od :: .slice (some ⟨go, 0, none⟩) os.length oc :: l, 113, 8⟩ :: ⟨go, os.flatMap obV, 126, oc * 5⟩ :: ⟨gr, gls.flatMap iV, 3, glc * 1⟩ :: L)) :=
  z0j (fun hp => zb7 hol HS.out hto (j := 2) (i := 4) rfl rfl (HRO.out.mono (fun p hm => by (rw [List.mem_singleton] at hm; subst hm; simp)) (fun _ h => h)) rfl hqll hp)
 clear hxx hq h1 h2 hR hto hqll
 clear hn hx hg hxw hxl hlt
 go_enter Tryz.func152, Tryz.ntmps152
 go_wp2_with (first | go_skip | ((first | ((refine zh _ rfl ?_); refine lZ hp rfl zJ ?_; clear hp; intro b w1 hp) | ((refine zi _ _ rfl ?_); refine lB hp rfl (zb rfl) rfl ?_; clear hp; intro b w1 hp) | ((refine zg _ _ rfl ?_); first | refine lO hp rfl (zb rfl) Z8 zq ?_ | refine lA hp rfl (zb rfl) Zr zq ?_) | ((refine zf _ _ _ rfl ?_); (first | refine sO hp rfl (zb rfl) Z8 zq ?_ | refine sA hp rfl (zb rfl) (zb rfl) Zr zq ?_ | refine sG hp rfl (zb rfl) (zb rfl) Zr zq ?_); clear hp; intro w1 hp; simp only [spl, z0a, z0b] at hp)); simp only [ze, zd, z0b, z0a]))
 refine zk [_, _] (zA.two hp.drew at1 at2) [] [(0, true), (1, true), (2, true), (3, true), (4, true), (5, true), (6, true), (7, false), (8, true), (9, true), (10, true), (11, false), (12, false)] (by kernel_rfl) (by kernel_rfl) rfl (by kernel_rfl) (fun _ _ d _ _ h => by cases d <;> exact h) ?_
 replace hp := hp.drew
 repeat' (with_reducible refine zB ?_); first | (with_reducible refine zt ?_) | ((with_reducible refine zI ?_); refine zy rfl ?_; (first | ((with_reducible refine zV _ rfl ?_); refine tM rfl ?_) | ((with_reducible refine zS _ _ rfl ?_); refine tO rfl (zb rfl) (by with_reducible first | exact zw | exact Zb) aa5 ?_) | refine tG (fun w _ => (by go_simp; try rfl)) ?_); try simp only [ze, zd, zn, zj, z0b, z0a, z0d, z0c, zr]) | (refine zF rfl (fun K hK => ?_); go_wp2_with (first | (go_at_call 200; (with_reducible refine (Z4 HPL.out _ oc hol HS.out _ (HRO.out.at hp (fun p hm => by (rw [List.mem_singleton] at hm; subst hm; simp)))).mono ?_); rintro e w1 ⟨rfl, hb⟩; replace hp := hp.call hb; clear hb) | go_skip); (refine hK.out _ _ (.inr (zA.two hp aa5 aa5)) ?_); clear hK K; try simp only [ze, zd, zn, zj, z0b, z0a, z0d, z0c, zr])
 obtain ⟨br, rfl⟩ := hp.id0
 obtain ⟨bo, rfl⟩ := hp.id1
 go_wp2_with (first | ((refine zg 122 _ rfl ?_); refine lO hp rfl (zb rfl) Za at3 ?_ (hv := by first | exact HXW.out | exact HXL.out); simp only [ze, zd, z0b, z0a]) | (go_at_call 140; (with_reducible refine (Zi _ _ _ _).mono ?_); rintro e w' ⟨rfl, rfl⟩; rw [HIN.out]) | (go_at_call 75; (with_reducible refine (zde _ _).mono ?_); rintro e w1 ⟨rfl, hb⟩; replace hp := hp.call hb; clear hb; unfold zaQ) | go_skip | ((first | ((refine zh _ rfl ?_); refine lZ hp rfl zJ ?_; clear hp; intro b w1 hp) | ((refine zi _ _ rfl ?_); refine lB hp rfl (zb rfl) rfl ?_; clear hp; intro b w1 hp) | ((refine zg _ _ rfl ?_); first | refine lO hp rfl (zb rfl) Z8 zq ?_ | refine lA hp rfl (zb rfl) Zr zq ?_) | ((refine zf _ _ _ rfl ?_); (first | refine sO hp rfl (zb rfl) Z8 zq ?_ | refine sA hp rfl (zb rfl) (zb rfl) Zr zq ?_ | refine sG hp rfl (zb rfl) (zb rfl) Zr zq ?_); clear hp; intro w1 hp; simp only [spl, z0a, z0b] at hp)); simp only [ze, zd, z0b, z0a]))
 refine zk [_] (zA.one hp.drew at1) [7, 8] [(0, true), (1, true), (2, true), (3, true), (4, true), (5, true), (6, true), (7, false), (8, false)] (by kernel_rfl) (by kernel_rfl) rfl (by kernel_rfl) (fun _ _ d _ _ h => by cases d <;> exact h) ?_
 replace hp := hp.drew
 repeat' (with_reducible refine zB ?_); first | (with_reducible refine zt ?_) | ((with_reducible refine zI ?_); refine zy rfl ?_; (first | ((with_reducible refine zV _ rfl ?_); refine tM rfl ?_) | ((with_reducible refine zS _ _ rfl ?_); refine tO rfl (zb rfl) zw aa5 ?_) | refine tG (fun w _ => (by go_simp; try rfl)) ?_); try simp only [ze, zd, zn, zj, z0b, z0a, z0d, z0c, zr]) | (refine zF rfl (fun K hK => ?_); go_wp2_with (first | (go_at_call 153; (with_reducible refine (HLD.out hp).mono ?_); clear hp; rintro e w1 ⟨rfl, hp⟩; unfold zaQ) | go_skip | (((refine zf _ _ _ rfl ?_); (first | refine sO hp rfl (zb rfl) Z8 zq ?_ | refine sA hp rfl (zb rfl) (zb rfl) Zr zq ?_ | refine sG hp rfl (zb rfl) (zb rfl) Zr zq ?_); clear hp; intro w1 hp; simp only [spl, z0a, z0b] at hp); simp only [ze, zd, z0b, z0a])); (first | refine hK.out _ _ (.inl rfl) ?_ | refine hK.out _ _ (.inr (zA.one hp aa5)) ?_); clear hK K; try simp only [ze, zd, zn, zj, z0b, z0a, z0d, z0c, zr])
 go_wp2_with (first | go_skip | ((first | ((refine zh _ rfl ?_); refine lZ hp rfl zJ ?_; clear hp; intro b w1 hp) | ((refine zi _ _ rfl ?_); refine lB hp rfl (zb rfl) rfl ?_; clear hp; intro b w1 hp) | ((refine zg _ _ rfl ?_); first | refine lO hp rfl (zb rfl) Z8 zq ?_ | refine lA hp rfl (zb rfl) Zr zq ?_) | ((refine zf _ _ _ rfl ?_); (first | refine sO hp rfl (zb rfl) Z8 zq ?_ | refine sA hp rfl (zb rfl) (zb rfl) Zr zq ?_ | refine sG hp rfl (zb rfl) (zb rfl) Zr zq ?_); clear hp; intro w1 hp; simp only [spl, z0a, z0b] at hp)); simp only [ze, zd, z0b, z0a]))
 refine bodyPost_ret (zE (rs := [.cell 4 54]) Tryz.results152 (.cell rfl (hp.loadAgg zU at0 0 _ (by rfl) (by rfl)) .nil)) rfl (zZ.sm ?_ rfl)
 have h := HBACK.out _ _ _ _ rfl ⟨Rw, Rl, rfl, H1.out, H2.out⟩ hp (by rw [HRX.out]; exact fun f => by (simp only [List.map_append, List.map_cons, List.map_nil, List.sum_append, List.sum_cons, List.sum_nil, z0f, z0e, List.append_nil]; omega))
 simpa only [HXX.out] using h
end Go.Proofs.YtaafajaadfgaoaaGreat
