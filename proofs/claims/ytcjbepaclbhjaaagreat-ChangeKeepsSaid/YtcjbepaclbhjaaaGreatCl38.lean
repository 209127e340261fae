/- Parts of the proof. -/
import Derived.Test.YtcjbepaclbhjaaaGreatCl37
import Derived.Test.YtcjbepaclbhjaaaGreatCl27
open List renaming set_cons_zero → zSet, set_cons_succ → sSet
/- The walk of has: is an entry among a vote's? -/
set_option linter.unusedSimpArgs false
set_option linter.unusedVariables false
namespace Go.Proofs.YtcjbepaclbhjaaaGreat
open Go.RowKit Go.Lib
theorem ceCXj0 {ty : TypeId} (h : cellB Tryz.prog ty = true := by with_reducible first | exact cell3 | exact cell4 | exact cell22) : cellB Tryz.prog ty = true := h
theorem env_ne {x y : Env} (h : y ≠ x) : (y.nu ≠ x.nu) ∨ (y.nu = x.nu ∧ y.vi ≠ x.vi) ∨ (y.nu = x.nu ∧ y.vi = x.vi ∧ y.cl ≠ x.cl) ∨ (y.nu = x.nu ∧ y.vi = x.vi ∧ y.cl = x.cl ∧ y.sq ≠ x.sq) ∨ (y.nu = x.nu ∧ y.vi = x.vi ∧ y.cl = x.cl ∧ y.sq = x.sq ∧ y.op.k ≠ x.op.k) ∨ (y.nu = x.nu ∧ y.vi = x.vi ∧ y.cl = x.cl ∧ y.sq = x.sq ∧ y.op.k = x.op.k ∧ y.op.h ≠ x.op.h) ∨ (y.nu = x.nu ∧ y.vi = x.vi ∧ y.cl = x.cl ∧ y.sq = x.sq ∧ y.op.k = x.op.k ∧ y.op.h = x.op.h ∧ y.op.i ≠ x.op.i) ∨ (y.nu = x.nu ∧ y.vi = x.vi ∧ y.cl = x.cl ∧ y.sq = x.sq ∧ y.op.k = x.op.k ∧ y.op.h = x.op.h ∧ y.op.i = x.op.i ∧ y.op.n ≠ x.op.n) ∨ (y.nu = x.nu ∧ y.vi = x.vi ∧ y.cl = x.cl ∧ y.sq = x.sq ∧ y.op.k = x.op.k ∧ y.op.h = x.op.h ∧ y.op.i = x.op.i ∧ y.op.n = x.op.n ∧ y.op.m ≠ x.op.m) ∨ (y.nu = x.nu ∧ y.vi = x.vi ∧ y.cl = x.cl ∧ y.sq = x.sq ∧ y.op.k = x.op.k ∧ y.op.h = x.op.h ∧ y.op.i = x.op.i ∧ y.op.n = x.op.n ∧ y.op.m = x.op.m ∧ y.op.v ≠ x.op.v) ∨ (y.nu = x.nu ∧ y.vi = x.vi ∧ y.cl = x.cl ∧ y.sq = x.sq ∧ y.op.k = x.op.k ∧ y.op.h = x.op.h ∧ y.op.i = x.op.i ∧ y.op.n = x.op.n ∧ y.op.m = x.op.m ∧ y.op.v = x.op.v ∧ y.op.t ≠ x.op.t) := by
  by_cases h0 : y.nu = x.nu
  case neg => exact .inl h0
  by_cases h1 : y.vi = x.vi
  case neg => exact .inr (.inl ⟨h0, h1⟩)
  by_cases h2 : y.cl = x.cl
  case neg => exact .inr (.inr (.inl ⟨h0, h1, h2⟩))
  by_cases h3 : y.sq = x.sq
  case neg => exact .inr (.inr (.inr (.inl ⟨h0, h1, h2, h3⟩)))
  by_cases h4 : y.op.k = x.op.k
  case neg => exact .inr (.inr (.inr (.inr (.inl ⟨h0, h1, h2, h3, h4⟩))))
  by_cases h5 : y.op.h = x.op.h
  case neg => exact .inr (.inr (.inr (.inr (.inr (.inl ⟨h0, h1, h2, h3, h4, h5⟩)))))
  by_cases h6 : y.op.i = x.op.i
  case neg => exact .inr (.inr (.inr (.inr (.inr (.inr (.inl ⟨h0, h1, h2, h3, h4, h5, h6⟩))))))
  by_cases h7 : y.op.n = x.op.n
  case neg => exact .inr (.inr (.inr (.inr (.inr (.inr (.inr (.inl ⟨h0, h1, h2, h3, h4, h5, h6, h7⟩)))))))
  by_cases h8 : y.op.m = x.op.m
  case neg => exact .inr (.inr (.inr (.inr (.inr (.inr (.inr (.inr (.inl ⟨h0, h1, h2, h3, h4, h5, h6, h7, h8⟩))))))))
  by_cases h9 : y.op.v = x.op.v
  case neg => exact .inr (.inr (.inr (.inr (.inr (.inr (.inr (.inr (.inr (.inl ⟨h0, h1, h2, h3, h4, h5, h6, h7, h8, h9⟩)))))))))
  refine .inr (.inr (.inr (.inr (.inr (.inr (.inr (.inr (.inr (.inr (⟨h0, h1, h2, h3, h4, h5, h6, h7, h8, h9, fun e => h ?_⟩))))))))))
  obtain ⟨xn, xv, xl, xq, ⟨xk, xh, xi, xm, xc, xx, xt⟩⟩ := x
  obtain ⟨yn, yv, yl, yq, ⟨yk, yh, yi, ym, yc, yx, yt⟩⟩ := y
  simp only at h0 h1 h2 h3 h4 h5 h6 h7 h8 h9 e
  subst h0 h1 h2 h3 h4 h5 h6 h7 h8 h9 e
  rfl
set_option maxRecDepth 100000 in
set_option maxHeartbeats 8000000 in
theorem has21 (nd nm bs nu cm : Int) (va : Option Addr) (es : List Env) (vc : Nat) (x : Env) (hl : es.length ≤ 100000) (r : Bool) (hr : r = true ↔ x ∈ es) (w : World) (ha : RowIs w va (es.flatMap envL)) :
    Calls Tryz.prog 21 #[.agg #[.int .i64 nd, .int .i64 nm, .int .i64 bs, .int .i64 nu, .int .i64 cm, .slice va es.length vc], .agg (envL x).toArray] w fun e w' => e = .returned (.bool r) ∧ Below w.heap.size w w' := by
  have hp := Hp.start w
  have HA := Lib.hid ha
  clear ha
  obtain ⟨xn, xv, xl, xq, ⟨xk, xh, xi, xm, xc, xx, xt⟩⟩ := x
  simp only [envL, opL, List.cons_append, List.nil_append]
  go_enter Tryz.func21, Tryz.ntmps21
  go_wp2_with (first | go_skip | ((first | ((with_reducible refine pre_box _ _ rfl ?_); refine lB hp rfl (sTm rfl) rfl ?_; clear hp; intro b w1 hp) | ((with_reducible refine pre_load _ _ rfl ?_); first | refine lO hp rfl (sTm rfl) ceCXj0 aa5 ?_ | refine lA hp rfl (sTm rfl) (by with_reducible first | exact agg27 | exact agg47) aa5 ?_) | ((with_reducible refine pre_store _ _ _ rfl ?_); (first | refine sO hp rfl (sTm rfl) ceCXj0 aa5 ?_ | refine sA hp rfl (sTm rfl) (sTm rfl) (by with_reducible first | exact agg27 | exact agg47) aa5 ?_ | refine sG hp rfl (sTm rfl) (sTm rfl) (by with_reducible first | exact agg27 | exact agg47) aa5 ?_); clear hp; intro w1 hp; simp only [spl, zSet, sSet] at hp)); simp only [put_some, put_none, sSet, zSet]))
  obtain ⟨b3, hb3⟩ := hp.id0
  obtain ⟨b2, hb2⟩ := hp.id1
  subst hb3 hb2
  go_loopg [5] es.length (fun gk i wr => ∃ j : Nat, gk + j = es.length ∧ i = .int .i64 j ∧ RowKit.Hid (¬ (⟨xn, xv, xl, xq, ⟨xk, xh, xi, xm, xc, xx, xt⟩⟩ : Env) ∈ es.take j) ∧ Hp w.heap.size w wr [⟨b3, [.int .i64 xn, .int .i64 xv, .int .i64 xl, .int .i64 xq, .int .i64 xk, .int .i64 xh, .int .i64 xi, .int .i64 xm, .int .i64 xc, .int .i64 xx, .int .i64 xt], 47, 11⟩, ⟨b2, [.int .i64 nd, .int .i64 nm, .int .i64 bs, .int .i64 nu, .int .i64 cm, .slice va es.length vc], 27, 6⟩])
  case atStart => exact ⟨0, by omega, rfl, Lib.hid (by simp), hp⟩
  case round =>
    clear hp
    obtain ⟨j, hkj, rfl, HNO, hp⟩ := hrel
    by_cases hlt : j < es.length
    · obtain ⟨bq, off, rfl, hx⟩ := HA.out.elems 11 envL_len11 (by omega) (by omega)
      have hj := List.getElem?_eq_getElem hlt
      replace hx := hx j _ hj
      have htk : es.take (j + 1) = es.take j ++ [es[j]] := by rw [List.take_add_one, hj]; rfl
      have hmem := List.getElem_mem hlt
      clear hj
      generalize es[j] = y at hx htk hmem
      obtain ⟨yn, yv, yl, yq, ⟨yk, yh, yi, ym, yc, yx, yt⟩⟩ := y
      simp only [envL, opL, List.cons_append, List.nil_append] at hx
      have HX := Lib.hid hx
      have e1 : (0 : Int) ≤ (j : Int) := by omega
      have e2 : (j : Int) < (es.length : Int) := by omega
      clear hx
      by_cases hxy : (⟨yn, yv, yl, yq, ⟨yk, yh, yi, ym, yc, yx, yt⟩⟩ : Env) = ⟨xn, xv, xl, xq, ⟨xk, xh, xi, xm, xc, xx, xt⟩⟩
      · have hrt : r = true := hr.2 (hxy ▸ hmem)
        have HRT := Lib.hid hrt
        simp only [Env.mk.injEq, Opv.mk.injEq] at hxy
        obtain ⟨rfl, rfl, rfl, rfl, rfl, rfl, rfl, rfl, rfl, rfl, rfl⟩ := hxy
        clear hrt hr htk hmem
        go_wp2_with (first | go_skip | ((first | ((with_reducible refine pre_box _ _ rfl ?_); refine lB hp rfl (sTm rfl) rfl ?_; clear hp; intro b w1 hp) | ((with_reducible refine pre_load _ _ rfl ?_); first | refine lO hp rfl (sTm rfl) ceCXj0 aa5 ?_ | refine lA hp rfl (sTm rfl) (by with_reducible first | exact agg27 | exact agg47) aa5 ?_) | ((with_reducible refine pre_store _ _ _ rfl ?_); (first | refine sO hp rfl (sTm rfl) ceCXj0 aa5 ?_ | refine sA hp rfl (sTm rfl) (sTm rfl) (by with_reducible first | exact agg27 | exact agg47) aa5 ?_ | refine sG hp rfl (sTm rfl) (sTm rfl) (by with_reducible first | exact agg27 | exact agg47) aa5 ?_); clear hp; intro w1 hp; simp only [spl, zSet, sSet] at hp)); simp only [put_some, put_none, sSet, zSet]))
        refine wp_region_keeps [_, _] (Keeps.two hp.drew at0 at1) [] [(0, true), (1, true), (2, true), (3, true), (4, true), (5, true), (6, true)] (by kernel_rfl) (by kernel_rfl) rfl (by kernel_rfl) (fun _ _ d _ _ h => by cases d <;> exact h) ?_
        replace hp := hp.drew
        repeat' (with_reducible refine plan_is ?_); first | (with_reducible refine plan_nil ?_) | ((with_reducible refine plan_t ?_); refine plan_tk rfl ?_; (first | ((with_reducible refine tk_mv _ rfl ?_); refine tM rfl ?_) | ((with_reducible refine tk_ld _ _ rfl ?_); first | refine tA rfl (sTm rfl) agg47 aa5 ?_ | refine tO rfl (sTm rfl) cell22 aa5 ?_ | refine tR rfl (sTm rfl) agg47 HX.out ?_) | refine tG (fun w _ => (by go_simp; try rfl)) ?_); try simp only [put_some, put_none, eval_tmp, eval_const, sSet, zSet, List.getD_cons_succ, List.getD_cons_zero, wrap_eq])
        go_wp2_with (first | go_skip | ((first | ((with_reducible refine pre_box _ _ rfl ?_); refine lB hp rfl (sTm rfl) rfl ?_; clear hp; intro b w1 hp) | ((with_reducible refine pre_load _ _ rfl ?_); first | refine lO hp rfl (sTm rfl) ceCXj0 aa5 ?_ | refine lA hp rfl (sTm rfl) (by with_reducible first | exact agg27 | exact agg47) aa5 ?_) | ((with_reducible refine pre_store _ _ _ rfl ?_); (first | refine sO hp rfl (sTm rfl) ceCXj0 aa5 ?_ | refine sA hp rfl (sTm rfl) (sTm rfl) (by with_reducible first | exact agg27 | exact agg47) aa5 ?_ | refine sG hp rfl (sTm rfl) (sTm rfl) (by with_reducible first | exact agg27 | exact agg47) aa5 ?_); clear hp; intro w1 hp; simp only [spl, zSet, sSet] at hp)); simp only [put_some, put_none, sSet, zSet]))
        go_ret
        exact ⟨by rw [HRT.out]; rfl, hp.below⟩
      · have hno : ¬ (⟨xn, xv, xl, xq, ⟨xk, xh, xi, xm, xc, xx, xt⟩⟩ : Env) ∈ es.take (j + 1) := by
          rw [htk, List.mem_append, List.mem_singleton]
          rintro (h | h)
          · exact HNO.out h
          · exact hxy h.symm
        have HN2 := Lib.hid hno
        have hw := env_ne hxy
        simp only at hw
        clear hno hxy htk hmem
        rcases hw with hn | ⟨rfl, hn⟩ | ⟨rfl, rfl, hn⟩ | ⟨rfl, rfl, rfl, hn⟩ | ⟨rfl, rfl, rfl, rfl, hn⟩ | ⟨rfl, rfl, rfl, rfl, rfl, hn⟩ | ⟨rfl, rfl, rfl, rfl, rfl, rfl, hn⟩ | ⟨rfl, rfl, rfl, rfl, rfl, rfl, rfl, hn⟩ | ⟨rfl, rfl, rfl, rfl, rfl, rfl, rfl, rfl, hn⟩ | ⟨rfl, rfl, rfl, rfl, rfl, rfl, rfl, rfl, rfl, hn⟩ | ⟨rfl, rfl, rfl, rfl, rfl, rfl, rfl, rfl, rfl, rfl, hn⟩
        all_goals
          have e3 := beq_false_of_ne hn
          clear hn
          go_wp2_with (first | go_skip | ((first | ((with_reducible refine pre_box _ _ rfl ?_); refine lB hp rfl (sTm rfl) rfl ?_; clear hp; intro b w1 hp) | ((with_reducible refine pre_load _ _ rfl ?_); first | refine lO hp rfl (sTm rfl) ceCXj0 aa5 ?_ | refine lA hp rfl (sTm rfl) (by with_reducible first | exact agg27 | exact agg47) aa5 ?_) | ((with_reducible refine pre_store _ _ _ rfl ?_); (first | refine sO hp rfl (sTm rfl) ceCXj0 aa5 ?_ | refine sA hp rfl (sTm rfl) (sTm rfl) (by with_reducible first | exact agg27 | exact agg47) aa5 ?_ | refine sG hp rfl (sTm rfl) (sTm rfl) (by with_reducible first | exact agg27 | exact agg47) aa5 ?_); clear hp; intro w1 hp; simp only [spl, zSet, sSet] at hp)); simp only [put_some, put_none, sSet, zSet]))
          refine wp_region_keeps [_, _] (Keeps.two hp.drew at0 at1) [] [(0, true), (1, true), (2, true), (3, true), (4, true), (5, true), (6, true)] (by kernel_rfl) (by kernel_rfl) rfl (by kernel_rfl) (fun _ _ d _ _ h => by cases d <;> exact h) ?_
          replace hp := hp.drew
          repeat' (with_reducible refine plan_is ?_); first | (with_reducible refine plan_nil ?_) | ((with_reducible refine plan_t ?_); refine plan_tk rfl ?_; (first | ((with_reducible refine tk_mv _ rfl ?_); refine tM rfl ?_) | ((with_reducible refine tk_ld _ _ rfl ?_); first | refine tA rfl (sTm rfl) agg47 aa5 ?_ | refine tO rfl (sTm rfl) cell22 aa5 ?_ | refine tR rfl (sTm rfl) agg47 HX.out ?_) | refine tG (fun w _ => (by go_simp; try rfl)) ?_); try simp only [put_some, put_none, eval_tmp, eval_const, sSet, zSet, List.getD_cons_succ, List.getD_cons_zero, wrap_eq])
          go_wp2_with (first | go_skip | ((first | ((with_reducible refine pre_box _ _ rfl ?_); refine lB hp rfl (sTm rfl) rfl ?_; clear hp; intro b w1 hp) | ((with_reducible refine pre_load _ _ rfl ?_); first | refine lO hp rfl (sTm rfl) ceCXj0 aa5 ?_ | refine lA hp rfl (sTm rfl) (by with_reducible first | exact agg27 | exact agg47) aa5 ?_) | ((with_reducible refine pre_store _ _ _ rfl ?_); (first | refine sO hp rfl (sTm rfl) ceCXj0 aa5 ?_ | refine sA hp rfl (sTm rfl) (sTm rfl) (by with_reducible first | exact agg27 | exact agg47) aa5 ?_ | refine sG hp rfl (sTm rfl) (sTm rfl) (by with_reducible first | exact agg27 | exact agg47) aa5 ?_); clear hp; intro w1 hp; simp only [spl, zSet, sSet] at hp)); simp only [put_some, put_none, sSet, zSet]))
          go_roundg (gk - 1)
          case measure => omega
          case rel => exact ⟨j + 1, by omega, by go_num, HN2, hp⟩
    · have f2 : decide ((j : Int) < (es.length : Int)) = false := by simp; omega
      obtain rfl : j = es.length := by omega
      have hno := HNO.out
      rw [List.take_length] at hno
      have hrf : r = false := by cases r with
        | false => rfl
        | true => exact absurd (hr.1 rfl) hno
      have HRF := Lib.hid hrf
      clear hno hrf hr hkj hlt HNO
      go_wp2_with (first | go_skip | ((first | ((with_reducible refine pre_box _ _ rfl ?_); refine lB hp rfl (sTm rfl) rfl ?_; clear hp; intro b w1 hp) | ((with_reducible refine pre_load _ _ rfl ?_); first | refine lO hp rfl (sTm rfl) ceCXj0 aa5 ?_ | refine lA hp rfl (sTm rfl) (by with_reducible first | exact agg27 | exact agg47) aa5 ?_) | ((with_reducible refine pre_store _ _ _ rfl ?_); (first | refine sO hp rfl (sTm rfl) ceCXj0 aa5 ?_ | refine sA hp rfl (sTm rfl) (sTm rfl) (by with_reducible first | exact agg27 | exact agg47) aa5 ?_ | refine sG hp rfl (sTm rfl) (sTm rfl) (by with_reducible first | exact agg27 | exact agg47) aa5 ?_); clear hp; intro w1 hp; simp only [spl, zSet, sSet] at hp)); simp only [put_some, put_none, sSet, zSet]))
      go_ret
      exact ⟨by rw [HRF.out]; rfl, hp.below⟩
end Go.Proofs.YtcjbepaclbhjaaaGreat
/- What is chosen of votes has what a view's votes have: the plain law of ChangeKeeps. No program in sight. -/
namespace Go.Proofs.YtcjbepaclbhjaaaGreat
open Go.RowKit
structure Vp where
  nd : Int
  nm : Int
  bs : Int
  nu : Int
  cm : Int
  es : List Env
structure Vp.Right (v : Vp) : Prop where
  bs : 0 ≤ v.bs ∧ v.bs ≤ 900000000
  len : v.es.length ≤ 4000
  fol : folB v.bs 0 v.es = true
  may : ∀ e ∈ v.es, mayE e = true
  nu : v.nu = v.bs + v.es.length
theorem Vp.Right.num {v : Vp} (h : v.Right) (i : Nat) (hi : i < v.es.length) : v.es[i].nu = v.bs + 1 + (i : Nat) := by
  have hb := h.bs
  have hl := h.len
  have := fol_nu (q := 0) (by omega) (fun e he => may_nu (h.may e he)) h.fol i hi
  rw [Nat.zero_add] at this
  exact this
theorem keeps_plain {l : List Vp} {b : Vp} {n c : Int} {e : Env} (hr : ∀ v ∈ l, v.Right) (hb : b ∈ l) (hbest : ∀ v ∈ l, v.nm < b.nm ∨ (v.nm = b.nm ∧ v.nu ≤ b.nu))
    (hhi : ∀ v ∈ l, n < v.nm → e ∈ v.es) (heq : ∀ v ∈ l, v.nm = n → e.nu ≤ v.nu → e ∈ v.es) (hs : ∃ v ∈ l, n ≤ v.nm ∧ e ∈ v.es) (hc : c < e.nu) :
    e ∈ b.es.drop (c - b.bs).toNat := by
  have hin : e ∈ b.es := by
    obtain ⟨v, hv, h1, h2⟩ := hs
    rcases Decidable.em (n < b.nm) with h | h
    · exact hhi b hb h
    · obtain ⟨i, hi, rfl⟩ := List.getElem_of_mem h2
      have h3 := (hr v hv).num i hi
      have h4 := (hr v hv).nu
      have h5 := hbest v hv
      exact heq b hb (by omega) (by omega)
  obtain ⟨i, hi, rfl⟩ := List.getElem_of_mem hin
  have h3 := (hr b hb).num i hi
  rw [List.mem_iff_getElem]
  refine ⟨i - (c - b.bs).toNat, by rw [List.length_drop]; omega, ?_⟩
  rw [List.getElem_drop]
  congr 1
  omega
end Go.Proofs.YtcjbepaclbhjaaaGreat
