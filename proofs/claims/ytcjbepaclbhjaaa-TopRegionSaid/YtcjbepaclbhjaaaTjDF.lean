import Derived.Test.YtcjbepaclbhjaaaTjDE
import Derived.Test.YtcjbepaclbhjaaaTjGW
import Derived.Test.YtcjbepaclbhjaaaTjDrawn3
/- The walk of free. -/
set_option linter.unusedSimpArgs false
set_option linter.unusedVariables false
namespace Go.Proofs.Ytcjbepaclbhjaaa
open Go.RowKit
theorem gaDF0 {ty : TypeId} {k : Nat} (h : aggB Try.prog ty k = true := by with_reducible first | exact agg27 | exact agg48 | exact agg45 | exact agg62 | exact agg34) : aggB Try.prog ty k = true := h
theorem ceDF1 {ty : TypeId} (h : cellB Try.prog ty = true := by with_reducible first | exact cell3 | exact cell4 | exact cell46 | exact cell23 | exact cell25) : cellB Try.prog ty = true := h
theorem cutob66 {B : Nat} {w0 w : World} {bg : Nat} {x g : Ob} {R L : List Blk} (hl : x.ls.length ≤ 5000) (hx : ObR x R) (hp : Hp B w0 w (⟨bg, obV g, 48, 5⟩ :: (R ++ L))) :
    Calls Try.prog 66 #[.slice x.la x.ls.length x.lc, .pointer (some ⟨bg, 0, none⟩)] w fun e w' => e = .returned (.tuple #[]) ∧ ∃ R', ObR (cutO g.h x) R' ∧ Hp B w0 w' (⟨bg, obV g, 48, 5⟩ :: (R' ++ L)) := by
  obtain ⟨Rw, Rl, rfl, h1, h2⟩ := hx
  obtain ⟨xh, xp, xo, wa, ws, wc, la, ls, lc⟩ := x
  simp only at hl h1 h2 ⊢
  rcases Nat.eq_zero_or_pos ls.length with h0 | h0
  · have he : ls = [] := List.eq_nil_of_length_eq_zero h0
    subst he
    exact (cut66_none w).mono fun e w' ⟨he, hw⟩ => by subst hw; exact ⟨he, Rw ++ Rl, ⟨Rw, Rl, rfl, h1, h2⟩, hp⟩
  · obtain ⟨gl, rfl, hn, hm, rfl, hlen⟩ := h2.own h0
    have hp2 : Hp B w0 w (⟨bg, obV g, 48, 5⟩ :: ⟨gl, midC [] ls [], 3, lc * 1⟩ :: (Rw ++ L)) := by
      have := hp.reorder (L' := ⟨bg, obV g, 48, 5⟩ :: ⟨gl, ls.flatMap iV, 3, lc * 1⟩ :: (Rw ++ L)) (pm)
      simpa [midC] using this
    refine (cut66 (off := 0) hl hn rfl hp2).mono fun e w' ⟨he, hq⟩ => ⟨he, Rw ++ [⟨gl, (ls.map (cutI g.h)).flatMap iV, 3, lc * 1⟩], ⟨Rw, _, rfl, h1, ?_⟩, ?_⟩
    · simp only [cutO, List.length_map]
      exact ⟨by rw [ints_len, List.length_map], .inr ⟨gl, lc, rfl, hn, hm, rfl⟩⟩
    · have hq2 : Hp B w0 w' (⟨bg, obV g, 48, 5⟩ :: ⟨gl, (ls.map (cutI g.h)).flatMap iV, 3, lc * 1⟩ :: (Rw ++ L)) := by simpa [midC] using hq
      exact hq2.reorder (pm)
theorem del364 {B : Nat} {w0 w : World} {x y z : Blk} {g cap : Nat} {l : List Ob} {M : List Blk} (hp : Hp B w0 w (x :: y :: z :: ⟨g, l.flatMap obV, 48, cap * 5⟩ :: M)) (hl : l.length ≤ 1000) (hcap : l.length ≤ cap) {i m : Nat} (hm : l.length = m + 1) (hi : i < l.length) :
    Calls Try.prog 64 #[.slice (some ⟨g, 0, none⟩) l.length cap, .int .i64 i, .int .i64 ((i : Int) + 1)] w fun e w' => e = .returned (.slice (some ⟨g, 0, none⟩) m cap) ∧ Hp B w0 w' (x :: y :: z :: ⟨g, (l.eraseIdx i).flatMap obV, 48, cap * 5⟩ :: M) := by
  have h := del64 (hp.reorder (List.perm_middle (l₁ := [x, y, z]))) hl hcap (j := i + 1) rfl rfl hm hi
  exact h.mono fun e w' ⟨he, hq⟩ => ⟨he, hq.reorder (List.perm_middle (l₁ := [x, y, z])).symm⟩
def cutsAt (h : Int) (l : List Ob) (q : Nat) : List Ob := (l.take q).map (cutO h) ++ l.drop q
theorem obV_cut (h : Int) (o : Ob) : obV (cutO h o) = obV o := by simp [obV, cutO]
theorem flat_cut (h : Int) (l : List Ob) : (l.map (cutO h)).flatMap obV = l.flatMap obV := by
  induction l with
  | nil => rfl
  | cons o l ih => rw [List.map_cons, List.flatMap_cons, List.flatMap_cons, ih, obV_cut]
theorem cutsAt_get {h : Int} {l : List Ob} {q : Nat} {t : Ob} (ht : l[q]? = some t) : (cutsAt h l q)[q]? = some t := by
  have hlt := (List.getElem?_eq_some_iff.1 ht).1
  unfold cutsAt
  have hl : ((l.take q).map (cutO h)).length = q := by rw [List.length_map, List.length_take]; omega
  rw [List.getElem?_append_right (by omega), hl, Nat.sub_self, List.getElem?_drop]
  exact ht
theorem cutsAt_step {h : Int} {l : List Ob} {q : Nat} {t : Ob} (ht : l[q]? = some t) : cutsAt h l (q + 1) = (cutsAt h l q).set q (cutO h t) := by
  obtain ⟨hlt, rfl⟩ := List.getElem?_eq_some_iff.1 ht
  unfold cutsAt
  have hl : ((l.take q).map (cutO h)).length = q := by rw [List.length_map, List.length_take]; omega
  rw [List.set_append_right _ _ (by omega), hl, Nat.sub_self, List.drop_eq_getElem_cons hlt, List.set_cons_zero, List.take_succ_eq_append_getElem hlt, List.map_append, List.append_assoc]
  rfl
theorem cutsAt_all (h : Int) (l : List Ob) : cutsAt h l l.length = l.map (cutO h) := by simp [cutsAt]
theorem cutsAt_zero (h : Int) (l : List Ob) : cutsAt h l 0 = l := by simp [cutsAt]
def WorkPost (B : Nat) (w0 : World) (b : Nat) (s : Hv) (c v : Int) (K : List Blk) (e : Ending) (w' : World) : Prop := e = .returned (resV c v) ∧ ∃ y : Hv, y.Sm s ∧ WorkAt B w0 w' b y K
theorem HRight.small {x : Hv} (h : HRight x) : x.Small := by
  obtain ⟨h3, h8, hcan⟩ := right_can h.free
  refine ⟨⟨by have := h.len; omega, fun o ho => ?_⟩, ?_⟩
  · have h1 := (h.need o ho)
    have h2 : 0 ≤ needI o.ws.length o.ls.length := by rw [h1.1]; exact h1.2.1
    have := needI_ok h2
    omega
  · have h1 := hcan.good.len h3
    have h2 := pw_le h8
    omega
theorem HRight.sorted {x : Hv} (h : HRight x) : SortedO x.os := h.rise.step
theorem Hp.part {B : Nat} {w0 w : World} {L L' D : List Blk} (hp : Hp B w0 w L) (h : L.Perm (L' ++ D)) : Hp B w0 w L' := (hp.reorder h).sublist (List.sublist_append_left _ _)
theorem cut466 {B : Nat} {w0 w : World} {bg bw n : Nat} {t : TypeId} {x : Ob} {y : Blk} {v0 v1 v2 v7 : Value} {t0 t1 t2 t3 : Int} {L : List Blk} (hp : Hp B w0 w (⟨bg, obV x, 48, 5⟩ :: y :: ⟨bw, [v0, v1, v2, .int .i64 t0, .int .i64 t1, .int .i64 t2, .int .i64 t3, v7], t, n⟩ :: L)) :
    Calls Try.prog 66 #[.slice (some ⟨bw, 3, none⟩) 4 4, .pointer (some ⟨bg, 0, none⟩)] w fun e w' => e = .returned (.tuple #[]) ∧ Hp B w0 w' (⟨bg, obV x, 48, 5⟩ :: y :: ⟨bw, [v0, v1, v2, .int .i64 (cutI x.h t0), .int .i64 (cutI x.h t1), .int .i64 (cutI x.h t2), .int .i64 (cutI x.h t3), v7], t, n⟩ :: L) :=
  (cut66 (x := x) (ls := [t0, t1, t2, t3]) (off := 3) (pre := [v0, v1, v2]) (post := [v7]) (L := y :: L) (c := 4) (n := n) (t := t) (g := bw) (by simp) (by simp) rfl (hp.reorder (List.Perm.cons _ (List.Perm.swap _ _ _)))).mono fun _ _ ⟨he, hq⟩ => ⟨he, hq.reorder (List.Perm.cons _ (List.Perm.swap _ _ _))⟩
set_option maxRecDepth 100000 in
set_option maxHeartbeats 8000000 in
theorem free46 (x : Hv) (hx : HRight x) (i : Nat) (g : Ob) (hg : x.os[i]? = some g) {B bw : Nat} {w0 w : World} {K : List Blk} (hW : WorkAt B w0 w bw x K) :
    Calls Try.prog 46 #[.pointer (some ⟨bw, 0, none⟩), .int .i64 i] w (WorkPost B w0 bw (freeH x i g) 0 0 K) := by
  obtain ⟨RO, RF, M, ⟨ho, hf, hm⟩, hp⟩ := hW
  obtain ⟨hgm, hgn⟩ := hx.give hg
  obtain ⟨⟨hol, hosm⟩, hfl⟩ := hx.small
  have hfr := hx.free
  have hsml := hosm
  obtain ⟨od, oa, os, oc, nx, t0, t1, t2, t3, fa, fs, fc⟩ := x
  simp only at ho hf hm hg hol hosm hfl hgm hgn hfr
  simp only [hvL] at hp
  have hlt := (List.getElem?_eq_some_iff.1 hg).1
  obtain ⟨go_, rfl, hn, hmx, rfl, hlen⟩ := ho.own (by omega)
  obtain ⟨m, hnm⟩ : ∃ m, os.length = m + 1 := ⟨os.length - 1, by omega⟩
  have HXA := Lib.hid (flat_at 5 obV_len hg)
  have HOL : RowKit.Hid (os.length ≤ 1000) := Lib.hid (by omega)
  have HCAP := Lib.hid hn
  have HMX := Lib.hid hmx
  have HNM := Lib.hid hnm
  have HLT := Lib.hid hlt
  have HRF := Lib.hid hf.keptS
  have HGM := Lib.hid hgm
  have HGN := Lib.hid hgn
  have HFR := Lib.hid hfr
  have HM := Lib.hid hm
  have HG := Lib.hid hg
  have HSM : RowKit.Hid (∀ o ∈ os, o.ls.length ≤ 5000) := Lib.hid (fun o ho => (hosm o ho).2)
  have e1 : (0 : Int) ≤ (i : Int) := by omega
  have e2 : (i : Int) < (os.length : Int) := by omega
  have e3 : (i : Int) ≤ 1000 := by omega
  clear hg hosm hn hmx hlen hgm hgn hfr hm ho hf hsml hx hnm
  simp only [List.cons_append, List.nil_append] at hp
  go_enter Try.func46, Try.ntmps46
  obtain ⟨gh, gp, go, gwa, gws, gwc, gla, gls, glc⟩ := g
  simp only [obV, obBl] at HXA HGM HGN
  go_wp2_with (first | ((with_reducible refine pre_load 48 _ rfl ?_); refine lA hp rfl (slot_tmp rfl) agg48 at2 ?_ (hv := HXA.out); simp only [put_some, put_none, List.set_cons_succ, List.set_cons_zero]) | (go_at_call 64; (with_reducible refine (del364 hp HOL.out HCAP.out HNM.out HLT.out).mono ?_); clear hp; rintro e w1 ⟨rfl, hp⟩) | go_skip | ((first | ((with_reducible refine pre_alloc _ rfl ?_); refine lZ hp rfl (by with_reducible first | exact zero48 | exact zero34) ?_; clear hp; intro b w1 hp) | ((with_reducible refine pre_box _ _ rfl ?_); refine lB hp rfl (slot_tmp rfl) rfl ?_; clear hp; intro b w1 hp) | ((with_reducible refine pre_load _ _ rfl ?_); first | refine lO hp rfl (slot_tmp rfl) ceDF1 aa5 ?_ | refine lA hp rfl (slot_tmp rfl) gaDF0 aa5 ?_) | ((with_reducible refine pre_store _ _ _ rfl ?_); (first | refine sO hp rfl (slot_tmp rfl) ceDF1 aa5 ?_ | refine sA hp rfl (slot_tmp rfl) (slot_tmp rfl) gaDF0 aa5 ?_ | refine sG hp rfl (slot_tmp rfl) (slot_tmp rfl) gaDF0 aa5 ?_); clear hp; intro w1 hp; simp only [spl, List.set_cons_zero, List.set_cons_succ] at hp)); simp only [put_some, put_none, List.set_cons_succ, List.set_cons_zero]))
  refine wp_region_keepsPX [_, _] (Keeps.two hp.drew at0 at2) [20] [(0, true), (1, true), (2, true), (3, true), (4, true), (5, true), (6, true), (7, true), (8, true), (9, true), (10, true), (11, true), (12, true), (13, false), (14, true), (15, true), (16, true), (17, true), (18, true), (19, true), (20, false)] (by kernel_rfl) (by kernel_rfl) rfl (by kernel_rfl) (fun _ _ d _ _ h => by cases d <;> exact h) ?_
  replace hp := hp.drew
  repeat' (with_reducible refine plan_is ?_); first | (with_reducible refine plan_nil ?_) | ((with_reducible refine plan_t ?_); refine plan_tk rfl ?_; (first | ((with_reducible refine tk_mv _ rfl ?_); refine tM rfl ?_) | ((with_reducible refine tk_ld _ _ rfl ?_); first | refine tA rfl (slot_tmp rfl) agg45 aa5 ?_ | refine tO rfl (slot_tmp rfl) (by with_reducible first | exact cell3 | exact cell25) aa5 ?_) | refine tG (fun w _ => (by go_simp; try rfl)) ?_); try simp only [put_some, put_none, eval_tmp, eval_const, List.set_cons_succ, List.set_cons_zero, List.getD_cons_succ, List.getD_cons_zero, wrap_eq]) | (refine plan_do rfl (fun K hK => ?_); go_wp2_with (first | (go_at_call 65; (with_reducible refine (give65_ok od fs fa fc hfl gp go _ (HRF.out.at hp (fun p hm => by simp [hm])) HFR.out HGM.out HGN.out).mono ?_); rintro e w1 ⟨a2, k2, R2, rfl, hr2, hpx⟩; replace hp := hp.join hpx; have HR2 := Lib.hid hr2; clear hr2 hpx; try simp only [List.cons_append, List.nil_append, List.append_assoc] at hp) | go_skip | (((with_reducible refine pre_store _ _ _ rfl ?_); (first | refine sO hp rfl (slot_tmp rfl) ceDF1 aa5 ?_ | refine sA hp rfl (slot_tmp rfl) (slot_tmp rfl) gaDF0 aa5 ?_ | refine sG hp rfl (slot_tmp rfl) (slot_tmp rfl) gaDF0 aa5 ?_); clear hp; intro w1 hp; simp only [spl, List.set_cons_zero, List.set_cons_succ] at hp); simp only [put_some, put_none, List.set_cons_succ, List.set_cons_zero])); (first | refine hK.out _ _ (.inl rfl) ?_ | refine hK.out _ _ (.inr (Keeps.two hp aa5 aa5)) ?_); clear hK K; try simp only [put_some, put_none, eval_tmp, eval_const, List.set_cons_succ, List.set_cons_zero, List.getD_cons_succ, List.getD_cons_zero, wrap_eq])
  go_wp2_with (first | go_skip | ((first | ((with_reducible refine pre_alloc _ rfl ?_); refine lZ hp rfl (by with_reducible first | exact zero48 | exact zero34) ?_; clear hp; intro b w1 hp) | ((with_reducible refine pre_box _ _ rfl ?_); refine lB hp rfl (slot_tmp rfl) rfl ?_; clear hp; intro b w1 hp) | ((with_reducible refine pre_load _ _ rfl ?_); first | refine lO hp rfl (slot_tmp rfl) ceDF1 aa5 ?_ | refine lA hp rfl (slot_tmp rfl) gaDF0 aa5 ?_) | ((with_reducible refine pre_store _ _ _ rfl ?_); (first | refine sO hp rfl (slot_tmp rfl) ceDF1 aa5 ?_ | refine sA hp rfl (slot_tmp rfl) (slot_tmp rfl) gaDF0 aa5 ?_ | refine sG hp rfl (slot_tmp rfl) (slot_tmp rfl) gaDF0 aa5 ?_); clear hp; intro w1 hp; simp only [spl, List.set_cons_zero, List.set_cons_succ] at hp)); simp only [put_some, put_none, List.set_cons_succ, List.set_cons_zero]))
  obtain ⟨bg, rfl⟩ := hp.id0
  obtain ⟨br, rfl⟩ := hp.id1
  obtain ⟨M1, RX, M2, rfl, hxr, _, her⟩ := HM.out.at_ HG.out
  clear hxr
  replace hp := hp.part (L' := ⟨bg, [.int .i64 gh, .int .i64 gp, .int .i64 go, .slice gwa gws.length gwc, .slice gla gls.length glc], 48, 5⟩ :: ⟨br, [.int .i64 0, .int .i64 0], 34, 2⟩ ::
    ⟨bw, [.int .i64 od, .slice (some ⟨go_, 0, none⟩) m oc, .int .i64 nx, .int .i64 t0, .int .i64 t1, .int .i64 t2, .int .i64 t3, .slice a2 (givenL od fs ⟨gp, go⟩).length k2], 62, 8⟩ :: ⟨go_, (os.eraseIdx i).flatMap obV, 48, oc * 5⟩ :: ((M1 ++ M2) ++ (R2 ++ K))) (D := RF ++ RX) (pm)
  have hel : (os.eraseIdx i).length = m := by rw [List.length_eraseIdx_of_lt HLT.out]; have := HNM.out; omega
  have HES : RowKit.Hid (∀ o ∈ os.eraseIdx i, o.ls.length ≤ 5000) := Lib.hid (fun o ho => HSM.out o ((List.eraseIdx_sublist os i).subset ho))
  have HEL := Lib.hid hel
  have hm1 : m ≤ 1000 := by have := HNM.out; omega
  have HER := Lib.hid her
  clear her HM HXA
  obtain ⟨es, hes⟩ : ∃ es, es = os.eraseIdx i := ⟨_, rfl⟩
  have HEQ := Lib.hid hes
  rw [← hes] at HES HEL HER hp hel
  clear hes hel
  go_loopg [57] m (fun k i wr => ∃ (q : Nat) (Mq : List Blk), k + q = m ∧ i = .int .i64 q ∧ RowKit.Hid (ObsR (cutsAt gh es q) Mq) ∧
    Hp B w0 wr (⟨bg, [.int .i64 gh, .int .i64 gp, .int .i64 go, .slice gwa gws.length gwc, .slice gla gls.length glc], 48, 5⟩ :: ⟨br, [.int .i64 0, .int .i64 0], 34, 2⟩ ::
    ⟨bw, [.int .i64 od, .slice (some ⟨go_, 0, none⟩) m oc, .int .i64 nx, .int .i64 t0, .int .i64 t1, .int .i64 t2, .int .i64 t3, .slice a2 (givenL od fs ⟨gp, go⟩).length k2], 62, 8⟩ :: ⟨go_, es.flatMap obV, 48, oc * 5⟩ :: (Mq ++ (R2 ++ K))))
  case atStart => exact ⟨0, M1 ++ M2, by omega, rfl, by rw [cutsAt_zero]; exact HER, hp⟩
  case round =>
    clear hp
    obtain ⟨q, Mq, hkq, rfl, HMQ, hp⟩ := hrel
    by_cases hlq : q < m
    · obtain ⟨x, hj⟩ : ∃ x, es[q]? = some x := ⟨_, List.getElem?_eq_getElem (l := es) (i := q) (by have := HEL.out; omega)⟩
      have hls := HES.out _ (List.mem_of_getElem? hj)
      have hxa := flat_at 5 obV_len hj
      obtain ⟨N1, R, N2, rfl, hox, hnew, _⟩ := HMQ.out.at_ (cutsAt_get (h := gh) hj)
      have hst := cutsAt_step (h := gh) hj
      have HLS := Lib.hid hls
      have HOX := Lib.hid hox
      have HNEW := Lib.hid hnew
      have HST := Lib.hid hst
      have HPM : RowKit.Hid (∀ b8 : Blk, (b8 :: ⟨bg, [.int .i64 gh, .int .i64 gp, .int .i64 go, .slice gwa gws.length gwc, .slice gla gls.length glc], 48, 5⟩ :: ⟨br, [.int .i64 0, .int .i64 0], 34, 2⟩ ::
          ⟨bw, [.int .i64 od, .slice (some ⟨go_, 0, none⟩) m oc, .int .i64 nx, .int .i64 t0, .int .i64 t1, .int .i64 t2, .int .i64 t3, .slice a2 (givenL od fs ⟨gp, go⟩).length k2], 62, 8⟩ :: ⟨go_, es.flatMap obV, 48, oc * 5⟩ :: ((N1 ++ (R ++ N2)) ++ (R2 ++ K))).Perm
        (⟨bg, obV ⟨gh, gp, go, gwa, gws, gwc, gla, gls, glc⟩, 48, 5⟩ :: (R ++ (⟨br, [.int .i64 0, .int .i64 0], 34, 2⟩ ::
          ⟨bw, [.int .i64 od, .slice (some ⟨go_, 0, none⟩) m oc, .int .i64 nx, .int .i64 t0, .int .i64 t1, .int .i64 t2, .int .i64 t3, .slice a2 (givenL od fs ⟨gp, go⟩).length k2], 62, 8⟩ :: ⟨go_, es.flatMap obV, 48, oc * 5⟩ :: ((N1 ++ N2) ++ (R2 ++ K)) ++ [b8])))) := Lib.hid (fun b8 => by simp only [obV]; exact pm)
      have HXA := Lib.hid hxa
      clear hls hox hnew hst hxa hj
      obtain ⟨xh, xp, xo, wa, ws, wc, la, ls, lc⟩ := x
      simp only [obV] at HXA
      simp only at HLS
      have f1 : (0 : Int) ≤ (q : Int) := by omega
      have f2 : (q : Int) < (m : Int) := by omega
      go_wp2_with (first | ((with_reducible refine pre_load 48 _ rfl ?_); refine lA hp rfl (slot_tmp rfl) agg48 at3 ?_ (hv := HXA.out); simp only [put_some, put_none, List.set_cons_succ, List.set_cons_zero]) | (go_at_call 66; (with_reducible refine (cutob66 HLS.out HOX.out (hp.reorder (HPM.out _))).mono ?_); clear hp; rintro e w1 ⟨rfl, R', hR', hp⟩; have HRN := Lib.hid hR'; clear hR') | go_skip | ((first | ((with_reducible refine pre_alloc _ rfl ?_); refine lZ hp rfl (by with_reducible first | exact zero48 | exact zero34) ?_; clear hp; intro b w1 hp) | ((with_reducible refine pre_box _ _ rfl ?_); refine lB hp rfl (slot_tmp rfl) rfl ?_; clear hp; intro b w1 hp) | ((with_reducible refine pre_load _ _ rfl ?_); first | refine lO hp rfl (slot_tmp rfl) ceDF1 aa5 ?_ | refine lA hp rfl (slot_tmp rfl) gaDF0 aa5 ?_) | ((with_reducible refine pre_store _ _ _ rfl ?_); (first | refine sO hp rfl (slot_tmp rfl) ceDF1 aa5 ?_ | refine sA hp rfl (slot_tmp rfl) (slot_tmp rfl) gaDF0 aa5 ?_ | refine sG hp rfl (slot_tmp rfl) (slot_tmp rfl) gaDF0 aa5 ?_); clear hp; intro w1 hp; simp only [spl, List.set_cons_zero, List.set_cons_succ] at hp)); simp only [put_some, put_none, List.set_cons_succ, List.set_cons_zero]))
      go_roundg (gk - 1)
      case measure => omega
      case rel => exact ⟨q + 1, N1 ++ (R' ++ N2), by omega, by go_num, Lib.hid (by rw [HST.out]; exact HNEW.out _ _ HRN.out), by simp only [obV] at hp; exact hp.kp⟩
    · obtain rfl : m = q := by omega
      have f2 : decide ((m : Int) < (m : Int)) = false := by simp
      have hmq := HMQ.out
      rw [← HEL.out, cutsAt_all] at hmq
      have HMQ2 := Lib.hid hmq
      clear hmq
      go_wp2_with (first | (go_at_call 66; (with_reducible refine (cut466 (x := ⟨gh, gp, go, gwa, gws, gwc, gla, gls, glc⟩) hp).mono ?_); clear hp; rintro e w1 ⟨rfl, hp⟩; try simp only at hp) | go_skip | ((first | ((with_reducible refine pre_alloc _ rfl ?_); refine lZ hp rfl (by with_reducible first | exact zero48 | exact zero34) ?_; clear hp; intro b w1 hp) | ((with_reducible refine pre_box _ _ rfl ?_); refine lB hp rfl (slot_tmp rfl) rfl ?_; clear hp; intro b w1 hp) | ((with_reducible refine pre_load _ _ rfl ?_); first | refine lO hp rfl (slot_tmp rfl) ceDF1 aa5 ?_ | refine lA hp rfl (slot_tmp rfl) gaDF0 aa5 ?_) | ((with_reducible refine pre_store _ _ _ rfl ?_); (first | refine sO hp rfl (slot_tmp rfl) ceDF1 aa5 ?_ | refine sA hp rfl (slot_tmp rfl) (slot_tmp rfl) gaDF0 aa5 ?_ | refine sG hp rfl (slot_tmp rfl) (slot_tmp rfl) gaDF0 aa5 ?_); clear hp; intro w1 hp; simp only [spl, List.set_cons_zero, List.set_cons_succ] at hp)); simp only [put_some, put_none, List.set_cons_succ, List.set_cons_zero]))
      have hlen : (es.map (cutO gh)).length = m := by rw [List.length_map]; exact HEL.out
      refine bodyPost_ret (results_one (rs := [.cell 4 34]) Try.results46 (.cell rfl (hp.loadAgg agg34 at1 0 _ (by rfl) (by rfl)) .nil)) rfl ⟨rfl, ⟨od, some ⟨go_, 0, none⟩, es.map (cutO gh), oc, nx, cutI gh t0, cutI gh t1, cutI gh t2, cutI gh t3, a2, givenL od fs ⟨gp, go⟩, k2⟩, ?_, [⟨go_, es.flatMap obV, 48, oc * 5⟩], R2, Mq, ⟨?_, HR2.out, HMQ2.out⟩, ?_⟩
      · refine ⟨rfl, rfl, rfl, rfl, rfl, rfl, ?_, rfl⟩
        simp only [freeH]
        rw [HEQ.out]
        exact ObsSm.refl _
      · refine ⟨obs_len _, .inr ⟨go_, oc, rfl, ?_, HMX.out, by rw [flat_cut]⟩⟩
        simp only
        rw [hlen]; have := HNM.out; have := HCAP.out; omega
      · simp only [hvL]
        rw [hlen]
        exact hp.kp
end Go.Proofs.Ytcjbepaclbhjaaa
