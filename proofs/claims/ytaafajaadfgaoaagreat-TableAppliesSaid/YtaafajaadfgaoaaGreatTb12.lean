import Derived.Test.YtaafajaadfgaoaaGreatTb11
import Derived.Test.YtaafajaadfgaoaaGreatTb7
import Derived.Test.YtaafajaadfgaoaaGreatTb0
set_option linter.unusedSimpArgs false
set_option linter.unusedVariables false
set_option maxRecDepth 100000
set_option maxHeartbeats 60000000
namespace Go.Proofs.YtaafajaadfgaoaaGreat
open Go.RowKit
theorem zdG {ty : TypeId} {k : Nat} (h : zac Tryz.prog ty k = true := by with_reducible first | exact zL | exact zv | exact zl | exact ZK | exact zU) : zac Tryz.prog ty k = true := h
theorem zge {ty : TypeId} (h : zN Tryz.prog ty = true := by with_reducible first | exact zw | exact Zd | exact Za | exact Zb | exact Zc) : zN Tryz.prog ty = true := h
theorem zlW {B : Nat} {w0 w : World} {bg : Nat} {x g : Ob} {R L : List Blk} (hl : x.ls.length ≤ 5000) (hx : ObR x R) (hp : Hp B w0 w (⟨bg, obV g, 126, 5⟩ :: (R ++ L))) :
  Calls Tryz.prog 233 #[.slice x.la x.ls.length x.lc, .pointer (some ⟨bg, 0, none⟩)] w fun e w' => e = .returned (.tuple #[]) ∧ ∃ R', ObR (zfk g.h x) R' ∧ Hp B w0 w' (⟨bg, obV g, 126, 5⟩ :: (R' ++ L)) := by
 obtain ⟨Rw, Rl, rfl, h1, h2⟩ := hx
 obtain ⟨xh, xp, xo, wa, ws, wc, la, ls, lc⟩ := x
 simp only at hl h1 h2 ⊢
 rcases Nat.eq_zero_or_pos ls.length with h0 | h0
 ·have he : ls = [] := List.eq_nil_of_length_eq_zero h0
  subst he
  exact (zhX w).mono fun e w' ⟨he, hw⟩ => by subst hw; exact ⟨he, Rw ++ Rl, ⟨Rw, Rl, rfl, h1, h2⟩, hp⟩
 ·obtain ⟨gl, rfl, hn, hm, rfl, hlen⟩ := h2.own h0
  have hp2 : Hp B w0 w (⟨bg, obV g, 126, 5⟩ :: ⟨gl, zgM [] ls [], 3, lc * 1⟩ :: (Rw ++ L)) := by
   have := hp.reorder (L' := ⟨bg, obV g, 126, 5⟩ :: ⟨gl, ls.flatMap iV, 3, lc * 1⟩ :: (Rw ++ L)) (pm)
   simpa [zgM] using this
  refine (zmM (off := 0) hl hn rfl hp2).mono fun e w' ⟨he, hq⟩ => ⟨he, Rw ++ [⟨gl, (ls.map (zaZ g.h)).flatMap iV, 3, lc * 1⟩], ⟨Rw, _, rfl, h1, ?_⟩, ?_⟩
  ·simp only [zfk, List.length_map]
   exact ⟨by rw [ZL, List.length_map], .inr ⟨gl, lc, rfl, hn, hm, rfl⟩⟩
  ·have hq2 : Hp B w0 w' (⟨bg, obV g, 126, 5⟩ :: ⟨gl, (ls.map (zaZ g.h)).flatMap iV, 3, lc * 1⟩ :: (Rw ++ L)) := by simpa [zgM] using hq
   exact hq2.reorder (pm)
theorem znk {B : Nat} {w0 w : World} {x y z : Blk} {g cap : Nat} {l : List Ob} {M : List Blk} (hp : Hp B w0 w (x :: y :: z :: ⟨g, l.flatMap obV, 126, cap * 5⟩ :: M)) (hl : l.length ≤ 1000) (hcap : l.length ≤ cap) {i m : Nat} (hm : l.length = m + 1) (hi : i < l.length) :
  Calls Tryz.prog 231 #[.slice (some ⟨g, 0, none⟩) l.length cap, .int .i64 i, .int .i64 ((i : Int) + 1)] w fun e w' => e = .returned (.slice (some ⟨g, 0, none⟩) m cap) ∧ Hp B w0 w' (x :: y :: z :: ⟨g, (l.eraseIdx i).flatMap obV, 126, cap * 5⟩ :: M) := by
 have h := zoq (hp.reorder (List.perm_middle (l₁ := [x, y, z]))) hl hcap (j := i + 1) rfl rfl hm hi
 exact h.mono fun e w' ⟨he, hq⟩ => ⟨he, hq.reorder (List.perm_middle (l₁ := [x, y, z])).symm⟩
def zct (h : Int) (l : List Ob) (q : Nat) : List Ob := (l.take q).map (zfk h) ++ l.drop q
theorem znH (h : Int) (o : Ob) : obV (zfk h o) = obV o := by simp [obV, zfk]
theorem ziY (h : Int) (l : List Ob) : (l.map (zfk h)).flatMap obV = l.flatMap obV := by
 induction l with
 | nil => rfl
 | cons o l ih => rw [List.map_cons, List.flatMap_cons, List.flatMap_cons, ih, znH]
theorem zfL {h : Int} {l : List Ob} {q : Nat} {t : Ob} (ht : l[q]? = some t) : (zct h l q)[q]? = some t := by
 have hlt := (List.getElem?_eq_some_iff.1 ht).1
 unfold zct
 have hl : ((l.take q).map (zfk h)).length = q := by rw [List.length_map, List.length_take]; omega
 rw [List.getElem?_append_right (by omega), hl, Nat.sub_self, List.getElem?_drop]
 exact ht
theorem zeU {h : Int} {l : List Ob} {q : Nat} {t : Ob} (ht : l[q]? = some t) : zct h l (q + 1) = (zct h l q).set q (zfk h t) := by
 obtain ⟨hlt, rfl⟩ := List.getElem?_eq_some_iff.1 ht
 unfold zct
 have hl : ((l.take q).map (zfk h)).length = q := by rw [List.length_map, List.length_take]; omega
 rw [List.set_append_right _ _ (by omega), hl, Nat.sub_self, List.drop_eq_getElem_cons hlt, List.set_cons_zero, List.take_succ_eq_append_getElem hlt, List.map_append, List.append_assoc]
 rfl
theorem zfK (h : Int) (l : List Ob) : zct h l l.length = l.map (zfk h) := by simp [zct]
theorem zeV (h : Int) (l : List Ob) : zct h l 0 = l := by simp [zct]
def zX (B : Nat) (w0 : World) (b : Nat) (s : Hv) (c v : Int) (K : List Blk) (e : Ending) (w' : World) : Prop := e = .returned (zaQ c v) ∧ ∃ y : Hv, y.Sm s ∧ zZ B w0 w' b y K
theorem zQ.small {x : Hv} (h : zQ x) : x.Small := by
 obtain ⟨h3, h8, hcan⟩ := zca h.free
 refine ⟨⟨by have := h.len; omega, fun o ho => ?_⟩, ?_⟩
 ·have h1 := (h.need o ho)
  have h2 : 0 ≤ Zy o.ws.length o.ls.length := by rw [h1.1]; exact h1.2.1
  have := zeB h2
  omega
 ·have h1 := hcan.good.len h3
  have h2 := zdN h8
  omega
theorem zQ.sorted {x : Hv} (h : zQ x) : zaq x.os := h.rise.step
theorem Hp.part {B : Nat} {w0 w : World} {L L' D : List Blk} (hp : Hp B w0 w L) (h : L.Perm (L' ++ D)) : Hp B w0 w L' := (hp.reorder h).sublist (List.sublist_append_left _ _)
theorem zni {B : Nat} {w0 w : World} {bg bw n : Nat} {t : TypeId} {x : Ob} {y : Blk} {v0 v1 v2 v7 : Value} {t0 t1 t2 t3 : Int} {L : List Blk} (hp : Hp B w0 w (⟨bg, obV x, 126, 5⟩ :: y :: ⟨bw, [v0, v1, v2, .int .i64 t0, .int .i64 t1, .int .i64 t2, .int .i64 t3, v7], t, n⟩ :: L)) :
  Calls Tryz.prog 233 #[.slice (some ⟨bw, 3, none⟩) 4 4, .pointer (some ⟨bg, 0, none⟩)] w fun e w' => e = .returned (.tuple #[]) ∧ Hp B w0 w' (⟨bg, obV x, 126, 5⟩ :: y :: ⟨bw, [v0, v1, v2, .int .i64 (zaZ x.h t0), .int .i64 (zaZ x.h t1), .int .i64 (zaZ x.h t2), .int .i64 (zaZ x.h t3), v7], t, n⟩ :: L) :=
 (zmM (x := x) (ls := [t0, t1, t2, t3]) (off := 3) (pre := [v0, v1, v2]) (post := [v7]) (L := y :: L) (c := 4) (n := n) (t := t) (g := bw) (by simp) (by simp) rfl (hp.reorder (List.Perm.cons _ (List.Perm.swap _ _ _)))).mono fun _ _ ⟨he, hq⟩ => ⟨he, hq.reorder (List.Perm.cons _ (List.Perm.swap _ _ _))⟩
theorem zns (x : Hv) (hx : zQ x) (i : Nat) (g : Ob) (hg : x.os[i]? = some g) {B bw : Nat} {w0 w : World} {K : List Blk} (hW : zZ B w0 w bw x K) :
  Calls Tryz.prog 203 #[.pointer (some ⟨bw, 0, none⟩), .int .i64 i] w (zX B w0 bw (zdl x i g) 0 0 K) := by
 obtain ⟨RO, RF, M, ⟨ho, hf, hm⟩, hp⟩ := hW
 obtain ⟨hgm, hgn⟩ := hx.give hg
 obtain ⟨⟨hol, hosm⟩, hfl⟩ := hx.small
 have hfr := hx.free
 have hsml := hosm
 obtain ⟨od, oa, os, oc, nx, t0, t1, t2, t3, fa, fs, fc⟩ := x
 simp only at ho hf hm hg hol hosm hfl hgm hgn hfr
 simp only [hvL] at hp
 have hlt := (List.getElem?_eq_some_iff.1 hg).1
 obtain ⟨go_, rfl, hn, hmx, rfl, hlen⟩ := ho.own (by omega)
 obtain ⟨m, hnm⟩ : ∃ m, os.length = m + 1 := ⟨os.length - 1, by omega⟩
 have HXA := z0j (zak 5 Zm hg)
 have HOL : Hid (os.length ≤ 1000) := z0j (by omega)
 have HCAP := z0j hn
 have HMX := z0j hmx
 have HNM := z0j hnm
 have HLT := z0j hlt
 have HRF := z0j hf.keptS
 have HGM := z0j hgm
 have HGN := z0j hgn
 have HFR := z0j hfr
 have HM := z0j hm
 have HG := z0j hg
 have HSM : Hid (∀ o ∈ os, o.ls.length ≤ 5000) := z0j (fun o ho => (hosm o ho).2)
 have e1 : (0 : Int) ≤ (i : Int) := by omega
 have e2 : (i : Int) < (os.length : Int) := by omega
 have e3 : (i : Int) ≤ 1000 := by omega
 clear hg hosm hn hmx hlen hgm hgn hfr hm ho hf hsml hx hnm
 simp only [z0f, z0e] at hp
 go_enter Tryz.func203, Tryz.ntmps203
 obtain ⟨gh, gp, go, gwa, gws, gwc, gla, gls, glc⟩ := g
 simp only [obV, zaD] at HXA HGM HGN
 go_wp2_with (first | ((refine zg 126 _ rfl ?_); refine lA hp rfl (zb rfl) zv at2 ?_ (hv := HXA.out); simp only [ze, zd, z0b, z0a]) | (go_at_call 231; (with_reducible refine (znk hp HOL.out HCAP.out HNM.out HLT.out).mono ?_); clear hp; rintro e w1 ⟨rfl, hp⟩) | go_skip | ((first | ((refine zh _ rfl ?_); refine lZ hp rfl (by with_reducible first | exact zR | exact zJ) ?_; clear hp; intro b w1 hp) | ((refine zi _ _ rfl ?_); refine lB hp rfl (zb rfl) rfl ?_; clear hp; intro b w1 hp) | ((refine zg _ _ rfl ?_); first | refine lO hp rfl (zb rfl) zge aa5 ?_ | refine lA hp rfl (zb rfl) zdG aa5 ?_) | ((refine zf _ _ _ rfl ?_); (first | refine sO hp rfl (zb rfl) zge aa5 ?_ | refine sA hp rfl (zb rfl) (zb rfl) zdG aa5 ?_ | refine sG hp rfl (zb rfl) (zb rfl) zdG aa5 ?_); clear hp; intro w1 hp; simp only [spl, z0a, z0b] at hp)); simp only [ze, zd, z0b, z0a]))
 refine zec [_, _] (zA.two hp.drew at0 at2) [20] [(0, true), (1, true), (2, true), (3, true), (4, true), (5, true), (6, true), (7, true), (8, true), (9, true), (10, true), (11, true), (12, true), (13, false), (14, true), (15, true), (16, true), (17, true), (18, true), (19, true), (20, false)] (by kernel_rfl) (by kernel_rfl) rfl (by kernel_rfl) (fun _ _ d _ _ h => by cases d <;> exact h) ?_
 replace hp := hp.drew
 repeat' (with_reducible refine zB ?_); first | (with_reducible refine zt ?_) | ((with_reducible refine zI ?_); refine zy rfl ?_; (first | ((with_reducible refine zV _ rfl ?_); refine tM rfl ?_) | ((with_reducible refine zS _ _ rfl ?_); first | refine tA rfl (zb rfl) zl aa5 ?_ | refine tO rfl (zb rfl) (by with_reducible first | exact zw | exact Zc) aa5 ?_) | refine tG (fun w _ => (by go_simp; try rfl)) ?_); try simp only [ze, zd, zn, zj, z0b, z0a, z0d, z0c, zr]) | (refine zF rfl (fun K hK => ?_); go_wp2_with (first | (go_at_call 232; (with_reducible refine (zjI od fs fa fc hfl gp go _ (HRF.out.at hp (fun p hm => by simp [hm])) HFR.out HGM.out HGN.out).mono ?_); rintro e w1 ⟨a2, k2, R2, rfl, hr2, hpx⟩; replace hp := hp.join hpx; have HR2 := z0j hr2; clear hr2 hpx; try simp only [z0f, z0e, z0i] at hp) | go_skip | (((refine zf _ _ _ rfl ?_); (first | refine sO hp rfl (zb rfl) zge aa5 ?_ | refine sA hp rfl (zb rfl) (zb rfl) zdG aa5 ?_ | refine sG hp rfl (zb rfl) (zb rfl) zdG aa5 ?_); clear hp; intro w1 hp; simp only [spl, z0a, z0b] at hp); simp only [ze, zd, z0b, z0a])); (first | refine hK.out _ _ (.inl rfl) ?_ | refine hK.out _ _ (.inr (zA.two hp aa5 aa5)) ?_); clear hK K; try simp only [ze, zd, zn, zj, z0b, z0a, z0d, z0c, zr])
 go_wp2_with (first | go_skip | ((first | ((refine zh _ rfl ?_); refine lZ hp rfl (by with_reducible first | exact zR | exact zJ) ?_; clear hp; intro b w1 hp) | ((refine zi _ _ rfl ?_); refine lB hp rfl (zb rfl) rfl ?_; clear hp; intro b w1 hp) | ((refine zg _ _ rfl ?_); first | refine lO hp rfl (zb rfl) zge aa5 ?_ | refine lA hp rfl (zb rfl) zdG aa5 ?_) | ((refine zf _ _ _ rfl ?_); (first | refine sO hp rfl (zb rfl) zge aa5 ?_ | refine sA hp rfl (zb rfl) (zb rfl) zdG aa5 ?_ | refine sG hp rfl (zb rfl) (zb rfl) zdG aa5 ?_); clear hp; intro w1 hp; simp only [spl, z0a, z0b] at hp)); simp only [ze, zd, z0b, z0a]))
 obtain ⟨bg, rfl⟩ := hp.id0
 obtain ⟨br, rfl⟩ := hp.id1
 obtain ⟨M1, RX, M2, rfl, hxr, _, her⟩ := HM.out.at_ HG.out
 clear hxr
 replace hp := hp.part (L' := ⟨bg, [.int .i64 gh, .int .i64 gp, .int .i64 go, .slice gwa gws.length gwc, .slice gla gls.length glc], 126, 5⟩ :: ⟨br, [.int .i64 0, .int .i64 0], 54, 2⟩ ::
  ⟨bw, [.int .i64 od, .slice (some ⟨go_, 0, none⟩) m oc, .int .i64 nx, .int .i64 t0, .int .i64 t1, .int .i64 t2, .int .i64 t3, .slice a2 (zal od fs ⟨gp, go⟩).length k2], 113, 8⟩ :: ⟨go_, (os.eraseIdx i).flatMap obV, 126, oc * 5⟩ :: ((M1 ++ M2) ++ (R2 ++ K))) (D := RF ++ RX) (pm)
 have hel : (os.eraseIdx i).length = m := by rw [List.length_eraseIdx_of_lt HLT.out]; have := HNM.out; omega
 have HES : Hid (∀ o ∈ os.eraseIdx i, o.ls.length ≤ 5000) := z0j (fun o ho => HSM.out o ((List.eraseIdx_sublist os i).subset ho))
 have HEL := z0j hel
 have hm1 : m ≤ 1000 := by have := HNM.out; omega
 have HER := z0j her
 clear her HM HXA
 obtain ⟨es, hes⟩ : ∃ es, es = os.eraseIdx i := ⟨_, rfl⟩
 have HEQ := z0j hes
 rw [← hes] at HES HEL HER hp hel
 clear hes hel
 go_loopg [57] m (fun k i wr => ∃ (q : Nat) (Mq : List Blk), k + q = m ∧ i = .int .i64 q ∧ Hid (zdZ (zct gh es q) Mq) ∧
  Hp B w0 wr (⟨bg, [.int .i64 gh, .int .i64 gp, .int .i64 go, .slice gwa gws.length gwc, .slice gla gls.length glc], 126, 5⟩ :: ⟨br, [.int .i64 0, .int .i64 0], 54, 2⟩ ::
  ⟨bw, [.int .i64 od, .slice (some ⟨go_, 0, none⟩) m oc, .int .i64 nx, .int .i64 t0, .int .i64 t1, .int .i64 t2, .int .i64 t3, .slice a2 (zal od fs ⟨gp, go⟩).length k2], 113, 8⟩ :: ⟨go_, es.flatMap obV, 126, oc * 5⟩ :: (Mq ++ (R2 ++ K))))
 case atStart => exact ⟨0, M1 ++ M2, by omega, rfl, by rw [zeV]; exact HER, hp⟩
 case round =>
  clear hp
  obtain ⟨q, Mq, hkq, rfl, HMQ, hp⟩ := hrel
  by_cases hlq : q < m
  ·obtain ⟨x, hj⟩ : ∃ x, es[q]? = some x := ⟨_, List.getElem?_eq_getElem (l := es) (i := q) (by have := HEL.out; omega)⟩
   have hls := HES.out _ (List.mem_of_getElem? hj)
   have hxa := zak 5 Zm hj
   obtain ⟨N1, R, N2, rfl, hox, hnew, _⟩ := HMQ.out.at_ (zfL (h := gh) hj)
   have hst := zeU (h := gh) hj
   have HLS := z0j hls
   have HOX := z0j hox
   have HNEW := z0j hnew
   have HST := z0j hst
   have HPM : Hid (∀ b8 : Blk, (b8 :: ⟨bg, [.int .i64 gh, .int .i64 gp, .int .i64 go, .slice gwa gws.length gwc, .slice gla gls.length glc], 126, 5⟩ :: ⟨br, [.int .i64 0, .int .i64 0], 54, 2⟩ ::
     ⟨bw, [.int .i64 od, .slice (some ⟨go_, 0, none⟩) m oc, .int .i64 nx, .int .i64 t0, .int .i64 t1, .int .i64 t2, .int .i64 t3, .slice a2 (zal od fs ⟨gp, go⟩).length k2], 113, 8⟩ :: ⟨go_, es.flatMap obV, 126, oc * 5⟩ :: ((N1 ++ (R ++ N2)) ++ (R2 ++ K))).Perm
    (⟨bg, obV ⟨gh, gp, go, gwa, gws, gwc, gla, gls, glc⟩, 126, 5⟩ :: (R ++ (⟨br, [.int .i64 0, .int .i64 0], 54, 2⟩ ::
     ⟨bw, [.int .i64 od, .slice (some ⟨go_, 0, none⟩) m oc, .int .i64 nx, .int .i64 t0, .int .i64 t1, .int .i64 t2, .int .i64 t3, .slice a2 (zal od fs ⟨gp, go⟩).length k2], 113, 8⟩ :: ⟨go_, es.flatMap obV, 126, oc * 5⟩ :: ((N1 ++ N2) ++ (R2 ++ K)) ++ [b8])))) := z0j (fun b8 => by simp only [obV]; exact pm)
   have HXA := z0j hxa
   clear hls hox hnew hst hxa hj
   obtain ⟨xh, xp, xo, wa, ws, wc, la, ls, lc⟩ := x
   simp only [obV] at HXA
   simp only at HLS
   have f1 : (0 : Int) ≤ (q : Int) := by omega
   have f2 : (q : Int) < (m : Int) := by omega
   go_wp2_with (first | ((refine zg 126 _ rfl ?_); refine lA hp rfl (zb rfl) zv at3 ?_ (hv := HXA.out); simp only [ze, zd, z0b, z0a]) | (go_at_call 233; (with_reducible refine (zlW HLS.out HOX.out (hp.reorder (HPM.out _))).mono ?_); clear hp; rintro e w1 ⟨rfl, R', hR', hp⟩; have HRN := z0j hR'; clear hR') | go_skip | ((first | ((refine zh _ rfl ?_); refine lZ hp rfl (by with_reducible first | exact zR | exact zJ) ?_; clear hp; intro b w1 hp) | ((refine zi _ _ rfl ?_); refine lB hp rfl (zb rfl) rfl ?_; clear hp; intro b w1 hp) | ((refine zg _ _ rfl ?_); first | refine lO hp rfl (zb rfl) zge aa5 ?_ | refine lA hp rfl (zb rfl) zdG aa5 ?_) | ((refine zf _ _ _ rfl ?_); (first | refine sO hp rfl (zb rfl) zge aa5 ?_ | refine sA hp rfl (zb rfl) (zb rfl) zdG aa5 ?_ | refine sG hp rfl (zb rfl) (zb rfl) zdG aa5 ?_); clear hp; intro w1 hp; simp only [spl, z0a, z0b] at hp)); simp only [ze, zd, z0b, z0a]))
   go_roundg (gk - 1)
   case measure => omega
   case rel => exact ⟨q + 1, N1 ++ (R' ++ N2), by omega, by go_num, z0j (by rw [HST.out]; exact HNEW.out _ _ HRN.out), by simp only [obV] at hp; exact hp.kp⟩
  ·obtain rfl : m = q := by omega
   have f2 : decide ((m : Int) < (m : Int)) = false := by simp
   have hmq := HMQ.out
   rw [← HEL.out, zfK] at hmq
   have HMQ2 := z0j hmq
   clear hmq
   go_wp2_with (first | (go_at_call 233; (with_reducible refine (zni (x := ⟨gh, gp, go, gwa, gws, gwc, gla, gls, glc⟩) hp).mono ?_); clear hp; rintro e w1 ⟨rfl, hp⟩; try simp only at hp) | go_skip | ((first | ((refine zh _ rfl ?_); refine lZ hp rfl (by with_reducible first | exact zR | exact zJ) ?_; clear hp; intro b w1 hp) | ((refine zi _ _ rfl ?_); refine lB hp rfl (zb rfl) rfl ?_; clear hp; intro b w1 hp) | ((refine zg _ _ rfl ?_); first | refine lO hp rfl (zb rfl) zge aa5 ?_ | refine lA hp rfl (zb rfl) zdG aa5 ?_) | ((refine zf _ _ _ rfl ?_); (first | refine sO hp rfl (zb rfl) zge aa5 ?_ | refine sA hp rfl (zb rfl) (zb rfl) zdG aa5 ?_ | refine sG hp rfl (zb rfl) (zb rfl) zdG aa5 ?_); clear hp; intro w1 hp; simp only [spl, z0a, z0b] at hp)); simp only [ze, zd, z0b, z0a]))
   have hlen : (es.map (zfk gh)).length = m := by rw [List.length_map]; exact HEL.out
   refine bodyPost_ret (zE (rs := [.cell 4 54]) Tryz.results203 (.cell rfl (hp.loadAgg zU at1 0 _ (by rfl) (by rfl)) .nil)) rfl ⟨rfl, ⟨od, some ⟨go_, 0, none⟩, es.map (zfk gh), oc, nx, zaZ gh t0, zaZ gh t1, zaZ gh t2, zaZ gh t3, a2, zal od fs ⟨gp, go⟩, k2⟩, ?_, [⟨go_, es.flatMap obV, 126, oc * 5⟩], R2, Mq, ⟨?_, HR2.out, HMQ2.out⟩, ?_⟩
   ·refine ⟨rfl, rfl, rfl, rfl, rfl, rfl, ?_, rfl⟩
    simp only [zdl]
    rw [HEQ.out]
    exact zau.refl _
   ·refine ⟨zdo _, .inr ⟨go_, oc, rfl, ?_, HMX.out, by rw [ziY]⟩⟩
    simp only
    rw [hlen]; have := HNM.out; have := HCAP.out; omega
   ·simp only [hvL]
    rw [hlen]
    exact hp.kp
open Go.RowKit
inductive PT where
 | nil
 | take (i : Nat) (r : PT)
 | one (i : Nat) (r : PT)
 | two (i : Nat) (r : PT) (j : Nat) (q : PT)
 | three (i : Nat) (r : PT) (j : Nat) (q : PT) (k : Nat) (t : PT)
def PT.size : PT → Nat
 | .nil => 0
 | .take _ r => r.size + 1
 | .one _ r => r.size + 1
 | .two _ r _ q => max r.size q.size + 1
 | .three _ r _ q _ t => max (max r.size q.size) t.size + 1
section
variable {P : Program} {ops : Array Oper} {Q : Exit → Act → World → Prop} {S : World → Prop} {tl : List Nat}
def doT (P : Program) (ops : Array Oper) (Q : Exit → Act → World → Prop) (S : World → Prop) (tl : List Nat) (i : Nat) (G : Act → World → Prop) (a : Act) (w : World) : Prop :=
 ∃ o, ops[i]? = some o ∧ wpList P ops (Exit.then (fun a' w' => (tl.contains i = true ∨ S w') ∧ G a' w') Q) [o] a w
def Z6 (P : Program) (ops : Array Oper) (Q : Exit → Act → World → Prop) (S : World → Prop) (tl : List Nat) : PT → Act → World → Prop
 | .nil, a, w => Q .normal a w
 | .take i r, a, w => ∃ o v, ops[i]? = some o ∧ YieldsIf P ops S o v a ∧ Z6 P ops Q S tl r (a.put o.dst v) w
 | .one i r, a, w => doT P ops Q S tl i (Z6 P ops Q S tl r) a w
 | .two i r j q, a, w => doT P ops Q S tl i (Z6 P ops Q S tl r) a w ∧ doT P ops Q S tl j (Z6 P ops Q S tl q) a w
 | .three i r j q k t, a, w => doT P ops Q S tl i (Z6 P ops Q S tl r) a w ∧ doT P ops Q S tl j (Z6 P ops Q S tl q) a w ∧ doT P ops Q S tl k (Z6 P ops Q S tl t) a w
def zdp (ops : Array Oper) (tl : List Nat) : Bool → Array Bool → PT → Bool
 | _, listed, .nil => (Region.ready .any ops listed).isEmpty
 | s, listed, .take i r => s && (Region.ready .any ops listed).contains i && Region.free .any ops listed i && tl.all (fun j => zbn ops ops.size j i) && zdp ops tl s (listed.setIfInBounds i true) r
 | s, listed, .one i r => decide (Region.ready .any ops listed = [i]) && zdp ops tl (s && !tl.contains i) (listed.setIfInBounds i true) r
 | s, listed, .two i r j q => decide (Region.ready .any ops listed = [i, j]) && zdp ops tl (s && !tl.contains i) (listed.setIfInBounds i true) r && zdp ops tl (s && !tl.contains j) (listed.setIfInBounds j true) q
 | s, listed, .three i r j q k t => decide (Region.ready .any ops listed = [i, j, k]) && zdp ops tl (s && !tl.contains i) (listed.setIfInBounds i true) r && zdp ops tl (s && !tl.contains j) (listed.setIfInBounds j true) q && zdp ops tl (s && !tl.contains k) (listed.setIfInBounds k true) t
theorem zfN {i f : Nat} {r : PT} {s : Bool} {listed : Array Bool} {a : Act} {w : World} (hc : zav ops listed) (hr0 : i ∈ Region.ready .any ops listed)
  (ih : ∀ (a' : Act) (w' : World), zav ops (listed.setIfInBounds i true) → ((s && !tl.contains i) = true → S w') → Z6 P ops Q S tl r a' w' → zej P ops Q S tl f (listed.setIfInBounds i true) a' w')
  (h : doT P ops Q S tl i (Z6 P ops Q S tl r) a w) : wpOp P ops Q i (fun a' w' => (tl.contains i = true ∨ S w') ∧ zej P ops Q S tl f (listed.setIfInBounds i true) a' w') a w := by
 obtain ⟨o, ho, hr⟩ := h
 have h1 := zc4 hr
 have h2 : wpOp P ops Q i (fun a' w' => (tl.contains i = true ∨ S w') ∧ Z6 P ops Q S tl r a' w') a w := by
  unfold wpOp; simp only [ho]; exact h1
 refine wpOp_mono (fun a' w' h' => ⟨h'.1, ih a' w' (hc.set hr0) ?_ h'.2⟩) h2
 intro hs1
 simp only [Bool.and_eq_true, Bool.not_eq_true'] at hs1
 rcases h'.1 with h3 | h3
 ·rw [hs1.2] at h3; cases h3
 ·exact h3
theorem ZR (hs : Region.noSelect ops = true) (hQ : ∀ c a d v w, Q (.panic c) (a.put d v) w → Q (.panic c) a w) : ∀ (plan : PT) (s : Bool) (fuel : Nat) (listed : Array Bool) (a : Act) (w : World), zav ops listed →
  plan.size ≤ fuel → zdp ops tl s listed plan = true → (s = true → S w) → Z6 P ops Q S tl plan a w → zej P ops Q S tl fuel listed a w
 | .nil, s, fuel, listed, a, w, _, hf, hB, _, h => by
  have hB' : Region.ready .any ops listed = [] := by simpa [zdp] using hB
  cases fuel with
  | zero => exact ⟨hB', h⟩
  | succ f => exact ⟨fun _ => h, fun i hi => by rw [hB'] at hi; cases hi⟩
 | .take i rest, s, fuel, listed, a, w, hc, hf, hB, hS, h => by
  obtain ⟨f, rfl⟩ : ∃ f, fuel = f + 1 := ⟨fuel - 1, by simp [PT.size] at hf; omega⟩
  simp only [zdp, Bool.and_eq_true] at hB
  obtain ⟨⟨⟨⟨b1, b2⟩, b3⟩, b4⟩, b5⟩ := hB
  obtain ⟨o, v, ho, hy, hr⟩ := h
  have hr0 : i ∈ Region.ready .any ops listed := by simpa using b2
  have ht : ∀ j, tl.contains j = true → zbn ops ops.size j i = true := fun j hj => by
   have := List.all_eq_true.1 b4 j (by simpa using hj)
   exact this
  exact zfe ho hs (fun c a w h => hQ c a _ v w h) ht f listed a w hc (Region.free_spec ho b3) hr0 hy (hS b1) (ZR hs hQ rest s f _ _ w (hc.set hr0) (by simp [PT.size] at hf; omega) b5 hS hr)
 | .one i r, s, fuel, listed, a, w, hc, hf, hB, hS, h => by
  obtain ⟨f, rfl⟩ : ∃ f, fuel = f + 1 := ⟨fuel - 1, by simp [PT.size] at hf; omega⟩
  simp only [zdp, Bool.and_eq_true, decide_eq_true_eq] at hB
  have hr0 : i ∈ Region.ready .any ops listed := by rw [hB.1]; simp
  refine ⟨fun h0 => (by rw [h0] at hr0; cases hr0), fun x hx => ?_⟩
  rw [hB.1] at hx
  obtain rfl : x = i := by simpa using hx
  exact zfN (s := s) hc hr0 (fun a' w' hc' hs' h' => ZR hs hQ r _ f _ a' w' hc' (by simp [PT.size] at hf; omega) hB.2 hs' h') h
 | .two i r j q, s, fuel, listed, a, w, hc, hf, hB, hS, h => by
  obtain ⟨f, rfl⟩ : ∃ f, fuel = f + 1 := ⟨fuel - 1, by simp [PT.size] at hf; omega⟩
  simp only [zdp, Bool.and_eq_true, decide_eq_true_eq] at hB
  have hr0 : i ∈ Region.ready .any ops listed := by rw [hB.1.1]; simp
  have hr1 : j ∈ Region.ready .any ops listed := by rw [hB.1.1]; simp
  refine ⟨fun h0 => (by rw [h0] at hr0; cases hr0), fun x hx => ?_⟩
  rw [hB.1.1] at hx
  have hx' : x = i ∨ x = j := by simpa using hx
  rcases hx' with rfl | rfl
  ·exact zfN (s := s) hc hr0 (fun a' w' hc' hs' h' => ZR hs hQ r _ f _ a' w' hc' (by simp [PT.size] at hf; omega) hB.1.2 hs' h') h.1
  ·exact zfN (s := s) hc hr1 (fun a' w' hc' hs' h' => ZR hs hQ q _ f _ a' w' hc' (by simp [PT.size] at hf; omega) hB.2 hs' h') h.2
 | .three i r j q k t, s, fuel, listed, a, w, hc, hf, hB, hS, h => by
  obtain ⟨f, rfl⟩ : ∃ f, fuel = f + 1 := ⟨fuel - 1, by simp [PT.size] at hf; omega⟩
  simp only [zdp, Bool.and_eq_true, decide_eq_true_eq] at hB
  have hr0 : i ∈ Region.ready .any ops listed := by rw [hB.1.1.1]; simp
  have hr1 : j ∈ Region.ready .any ops listed := by rw [hB.1.1.1]; simp
  have hr2 : k ∈ Region.ready .any ops listed := by rw [hB.1.1.1]; simp
  refine ⟨fun h0 => (by rw [h0] at hr0; cases hr0), fun x hx => ?_⟩
  rw [hB.1.1.1] at hx
  have hx' : x = i ∨ x = j ∨ x = k := by simpa using hx
  rcases hx' with rfl | rfl | rfl
  ·exact zfN (s := s) hc hr0 (fun a' w' hc' hs' h' => ZR hs hQ r _ f _ a' w' hc' (by simp [PT.size] at hf; omega) hB.1.1.2 hs' h') h.1
  ·exact zfN (s := s) hc hr1 (fun a' w' hc' hs' h' => ZR hs hQ q _ f _ a' w' hc' (by simp [PT.size] at hf; omega) hB.1.2 hs' h') h.2.1
  ·exact zfN (s := s) hc hr2 (fun a' w' hc' hs' h' => ZR hs hQ t _ f _ a' w' hc' (by simp [PT.size] at hf; omega) hB.2 hs' h') h.2.2
theorem zfA {id : Nat} {a : Act} {w : World} {l : List Oper} (S : World → Prop) (tl : List Nat) (plan : PT) (hm : P.follows .mixedOrders = true) (hs : Region.noSelect l.toArray = true)
  (hl : Nat.ble plan.size l.length = true) (hB : zdp l.toArray tl true (Array.replicate l.length false) plan = true) (hQ : ∀ c a d v w, Q (.panic c) (a.put d v) w → Q (.panic c) a w) (hS : S w.drew)
  (h : Z6 P l.toArray Q S tl plan a w.drew) : (Code.region id l.toArray true).wp P Q a w :=
 wp_region_any hm (by
  have := ZR hs hQ plan true l.length (Array.replicate l.length false) a w.drew (zav.start _ _) (Nat.le_of_ble_eq_true hl) hB (fun _ => hS) h
  have := zd9 _ _ _ _ this
  simpa using this)
theorem ZB {id : Nat} {a : Act} {w w0 : World} {B : Nat} {l : List Oper} (M : List Blk) (hS : zA B w0 M w.drew) (tl : List Nat) (plan : PT) (hm : P.follows .mixedOrders = true) (hs : Region.noSelect l.toArray = true)
  (hl : Nat.ble plan.size l.length = true) (hB : zdp l.toArray tl true (Array.replicate l.length false) plan = true) (hQ : ∀ c a d v w, Q (.panic c) (a.put d v) w → Q (.panic c) a w)
  (h : Z6 P l.toArray Q (zA B w0 M) tl plan a w.drew) : (Code.region id l.toArray true).wp P Q a w :=
 zfA _ tl plan hm hs hl hB hQ hS h
def zo1 (P : Program) (ops : Array Oper) (Q : Exit → Act → World → Prop) (S : World → Prop) (tl : List Nat) (r : PT) : Exit → Act → World → Prop := fun _ a w => Z6 P ops Q S tl r a w
theorem zbg {i : Nat} {r : PT} {a : Act} {w : World} (h : ZX P ops (zo1 P ops Q S tl r) S tl [(i, true)] a w) : Z6 P ops Q S tl (.take i r) a w := h
theorem zcS {r : PT} {a : Act} {w : World} (h : Z6 P ops Q S tl r a w) : ZX P ops (zo1 P ops Q S tl r) S tl [] a w := h
theorem zcR {r : PT} {a : Act} {w : World} (h : Z6 P ops Q S tl r a w) : Z6 P ops Q S tl r a w := h
theorem zbO {a : Act} {w : World} (h : Q .normal a w) : Z6 P ops Q S tl .nil a w := h
variable {l : List Oper}
theorem Zs {i : Nat} {G : Act → World → Prop} {a : Act} {w : World} {o : Oper} {r : List Oper} (ho : l.drop i = o :: r)
  (h : ∀ K : Act → World → Prop, zo8 (∀ a' w', (tl.contains i = true ∨ S w') → G a' w' → K a' w') → wpList P l.toArray (Exit.then K Q) [o] a w) : doT P l.toArray Q S tl i G a w :=
 ⟨o, zhR ho, h _ fun _ _ hS hr => ⟨hS, hr⟩⟩
theorem zbP {i : Nat} {r : PT} {a : Act} {w : World} (h : doT P l.toArray Q S tl i (Z6 P l.toArray Q S tl r) a w) : Z6 P l.toArray Q S tl (.one i r) a w := h
theorem zbQ {i j : Nat} {r q : PT} {a : Act} {w : World} (h : doT P l.toArray Q S tl i (Z6 P l.toArray Q S tl r) a w) (k : doT P l.toArray Q S tl j (Z6 P l.toArray Q S tl q) a w) : Z6 P l.toArray Q S tl (.two i r j q) a w := ⟨h, k⟩
theorem zbu {i j k : Nat} {r q t : PT} {a : Act} {w : World} (h : doT P l.toArray Q S tl i (Z6 P l.toArray Q S tl r) a w) (h2 : doT P l.toArray Q S tl j (Z6 P l.toArray Q S tl q) a w) (h3 : doT P l.toArray Q S tl k (Z6 P l.toArray Q S tl t) a w) : Z6 P l.toArray Q S tl (.three i r j q k t) a w := ⟨h, h2, h3⟩
end
end Go.Proofs.YtaafajaadfgaoaaGreat
