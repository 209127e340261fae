import Derived.Test.YtaafajaadfgaoaaGreatTb27
set_option linter.unusedSimpArgs false
set_option linter.unusedVariables false
set_option maxRecDepth 100000
set_option maxHeartbeats 60000000
namespace Go.Proofs.YtaafajaadfgaoaaGreat
open Go.RowKit
theorem zcA {ty : TypeId} {l : List Value} {n : Nat} (h : zbl Tryz.prog ty = some (l, n) := by with_reducible first | exact zT | exact zJ | exact zR) : zbl Tryz.prog ty = some (l, n) := h
theorem ZG {ty : TypeId} {k : Nat} (h : zac Tryz.prog ty k = true := by with_reducible first | exact zL | exact zv | exact zl | exact zU) : zac Tryz.prog ty k = true := h
theorem zap {ty : TypeId} (h : zN Tryz.prog ty = true := by with_reducible first | exact zw | exact Zd | exact Za | exact Zb | exact Zc) : zN Tryz.prog ty = true := h
theorem zgt {l : List Int} {q : Nat} {t : Int} (h : l[q]? = some t) : (l.flatMap iV)[q]? = some (.int .i64 t) := by rw [zbK, List.getElem?_map, h]; rfl
theorem zmc {l : List Int} {q : Nat} (t : Int) : (l.flatMap iV).set q (.int .i64 t) = (l.set q t).flatMap iV := by rw [zbK, zbK, List.map_set]
def za2 (i : Nat) (os : List Ob) (q : Nat) : List Ob := (os.take q).eraseIdx i
theorem zlx (i : Nat) (os : List Ob) : za2 i os 0 = [] := by simp [za2]
theorem zmy (i : Nat) (os : List Ob) : za2 i os os.length = os.eraseIdx i := by simp [za2]
theorem zlv {i : Nat} {os : List Ob} {x : Ob} (h : os[i]? = some x) : za2 i os (i + 1) = za2 i os i := by
  have hlt := (List.getElem?_eq_some_iff.1 h).1
  unfold za2
  rw [List.take_add_one, h]
  have hl : (os.take i).length = i := by rw [List.length_take]; omega
  rw [List.eraseIdx_append_of_length_le (by omega), hl, Nat.sub_self, List.eraseIdx_of_length_le (l := os.take i) (by omega)]
  simp
theorem zlw {i : Nat} {os : List Ob} {q : Nat} {x : Ob} (h : os[q]? = some x) (hq : q ≠ i) : za2 i os (q + 1) = za2 i os q ++ [x] := by
  have hlt := (List.getElem?_eq_some_iff.1 h).1
  unfold za2
  rw [List.take_add_one, h]
  have hl : (os.take q).length = q := by rw [List.length_take]; omega
  rcases Nat.lt_or_ge i q with hi | hi
  · rw [List.eraseIdx_append_of_lt_length (by omega)]; rfl
  · rw [List.eraseIdx_of_length_le (l := os.take q) (by omega), List.eraseIdx_of_length_le]
    · rfl
    · simp; omega
theorem znT (i : Nat) (os : List Ob) (q : Nat) : (za2 i os q).length ≤ q := by
  unfold za2
  have h1 := List.length_eraseIdx_le (os.take q) i
  have h2 : (os.take q).length ≤ q := by rw [List.length_take]; omega
  omega
theorem zkD {α β : Type} (f : α → β) (l : List α) : ∀ i, (l.map f).eraseIdx i = (l.eraseIdx i).map f := by
  induction l with
  | nil => intro i; rfl
  | cons x l ih => intro i; cases i with
    | zero => rfl
    | succ i => simp [ih]
def zob (gh t0 t1 t2 t3 : Int) (k : Nat) (iv : Value) (a b c d : Int) : Prop :=
  (k = 4 ∧ iv = .int .i64 0 ∧ a = t0 ∧ b = t1 ∧ c = t2 ∧ d = t3) ∨ (k = 3 ∧ iv = .int .i64 1 ∧ a = zaZ gh t0 ∧ b = t1 ∧ c = t2 ∧ d = t3) ∨ (k = 2 ∧ iv = .int .i64 2 ∧ a = zaZ gh t0 ∧ b = zaZ gh t1 ∧ c = t2 ∧ d = t3) ∨
  (k = 1 ∧ iv = .int .i64 3 ∧ a = zaZ gh t0 ∧ b = zaZ gh t1 ∧ c = zaZ gh t2 ∧ d = t3) ∨ (k = 0 ∧ iv = .int .i64 4 ∧ a = zaZ gh t0 ∧ b = zaZ gh t1 ∧ c = zaZ gh t2 ∧ d = zaZ gh t3)
theorem zdD (gh t : Int) : ((t == gh) = true ∧ Hid (zaZ gh t = 0)) ∨ ((t == gh) = false ∧ Hid (zaZ gh t = t)) := by
  by_cases h : t = gh
  · exact .inl ⟨by simp [h], z0j (if_pos h)⟩
  · exact .inr ⟨by simp [h], z0j (if_neg h)⟩
def zm3 (B : Nat) (w0 : World) (L : List Blk) (Z : List Blk) (gh : Int) (i : Nat) (os : List Ob) (q : Nat) (v : Value) (wr : World) : Prop :=
  ∃ (Mq RL : List Blk), Hid (zH 126 5 v (za2 i os q).length ((za2 i os q).flatMap obV) RL) ∧ Hid (zdZ (zct gh os q) Mq) ∧ Hp B w0 wr (L ++ (RL ++ (Mq ++ Z)))
theorem znt (x : Hv) (hx : zQ x) (i : Nat) (g : Ob) (hg : x.os[i]? = some g) {B : Nat} {w0 w : World} {K : List Blk} (hW : zax B w0 w x K) :
    Calls Tryz.prog 235 #[.agg (hvL x).toArray, .int .i64 i] w (Zt B w0 (zdl x i g) 0 0 K) := by
  obtain ⟨i0, hi0, hz0, hz1, hz2⟩ := info_parts zdm
  obtain ⟨RO, RF, M, ⟨ho, hf, hm⟩, hp⟩ := hW
  obtain ⟨hgm, hgn⟩ := hx.give hg
  obtain ⟨⟨hol, hosm⟩, hfl⟩ := hx.small
  have hfr := hx.free
  obtain ⟨od, oa, os, oc, nx, t0, t1, t2, t3, fa, fs, fc⟩ := x
  simp only at ho hf hm hg hol hosm hfl hgm hgn hfr
  simp only [hvL]
  have hlt := (List.getElem?_eq_some_iff.1 hg).1
  obtain ⟨go_, rfl, hn, hmx, rfl, hlen⟩ := ho.own (by omega)
  have HXA := z0j (zak 5 Zm hg)
  have HLT := z0j hlt
  have HRF := z0j hf.keptS
  have HGM := z0j hgm
  have HGN := z0j hgn
  have HFR := z0j hfr
  have HM := z0j hm
  have HG0 := z0j hg
  have HSM : Hid (∀ o ∈ os, o.ls.length ≤ 5000) := z0j (fun o ho => (hosm o ho).2)
  have e1 : (0 : Int) ≤ (i : Int) := by omega
  have e2 : (i : Int) < (os.length : Int) := by omega
  have e3 : (i : Int) ≤ 1000 := by omega
  clear hg hosm hn hmx hlen hgm hgn hfr hm ho hf hx
  simp only [z0f, z0e] at hp
  go_enter Tryz.func235, Tryz.ntmps235
  obtain ⟨gh, gp, go, gwa, gws, gwc, gla, gls, glc⟩ := g
  simp only [obV, zaD] at HXA HGM HGN
  go_wp2_with (first | ((refine zg 126 _ rfl ?_); refine lA hp rfl (zb rfl) zv at3 ?_ (hv := HXA.out); simp only [ze, zd, z0b, z0a]) | go_skip | ((first | ((refine zh _ rfl ?_); refine lZ hp rfl zcA ?_; clear hp; intro b w1 hp) | ((refine zi _ _ rfl ?_); refine lB hp rfl (zb rfl) rfl ?_; clear hp; intro b w1 hp) | ((refine zg _ _ rfl ?_); first | refine lO hp rfl (zb rfl) zap zq ?_ | refine lA hp rfl (zb rfl) ZG zq ?_) | ((refine zf _ _ _ rfl ?_); (first | refine sO hp rfl (zb rfl) zap zq ?_ | refine sA hp rfl (zb rfl) (zb rfl) ZG zq ?_ | refine sG hp rfl (zb rfl) (zb rfl) ZG zq ?_); clear hp; intro w1 hp; simp only [spl, z0a, z0b] at hp) | ((refine zm _ _ _ rfl ?_); refine lS hp rfl (by intro w; go_simp; rfl) ?_; clear hp; intro b w1 hp; simp only [z0g, z0h, Nat.reduceAdd] at hp)); simp only [ze, zd, z0b, z0a]))
  obtain ⟨bg, rfl⟩ := hp.id0
  obtain ⟨br, rfl⟩ := hp.id1
  obtain ⟨bG, rfl⟩ := hp.id2
  obtain ⟨bH, rfl⟩ := hp.id3
  clear HXA e2
  go_loopg [7, 8] os.length (fun k v iv wr => ∃ q : Nat, k + q = os.length ∧ iv = .int .i64 q ∧ zm3 B w0 [⟨bg, [.int .i64 gh, .int .i64 gp, .int .i64 go, .slice gwa gws.length gwc, .slice gla gls.length glc], 126, 5⟩, ⟨br, [.int .i64 0, .int .i64 0], 54, 2⟩, ⟨bG, [.int .i64 0, .slice none 0 0, .int .i64 0, .int .i64 0, .int .i64 0, .int .i64 0, .int .i64 0, .slice none 0 0], 47, 8⟩, ⟨bH, [.int .i64 od, .slice (some ⟨go_, 0, none⟩) os.length oc, .int .i64 nx, .int .i64 t0, .int .i64 t1, .int .i64 t2, .int .i64 t3, .slice fa fs.length fc], 47, 8⟩, ⟨go_, os.flatMap obV, 126, oc * 5⟩] (RF ++ K) gh i os q v wr)
  case atStart =>
    refine ⟨0, by omega, rfl, M, [], z0j (by rw [zlx]; exact zH.nil _ _), z0j (by rw [zeV]; exact HM.out), hp.kp⟩
  case round =>
    clear hp
    obtain ⟨q, hkq, rfl, Mq, RL, HR, HMQ, hp⟩ := hrel
    simp only [z0f, z0e] at hp
    by_cases hlq : q < os.length
    · obtain ⟨x, hj⟩ : ∃ x, os[q]? = some x := ⟨_, List.getElem?_eq_getElem hlq⟩
      have hls := HSM.out _ (List.mem_of_getElem? hj)
      have hxa := zak 5 Zm hj
      obtain ⟨N1, R, N2, rfl, hox, hnew, _⟩ := HMQ.out.at_ (zfL (h := gh) hj)
      have hst := zeU (h := gh) hj
      obtain ⟨Rw, Rl, rfl, hrw, hrl⟩ := hox
      have HNEW := z0j hnew
      have HST := z0j hst
      have HXB := z0j hxa
      have HRW := z0j hrw
      have HJ := z0j hj
      have HRL0 := z0j hrl
      clear hnew hst hxa hj hrw hrl HMQ
      obtain ⟨xh, xp, xo, wa, ws, wc, la, ls, lc⟩ := x
      simp only [obV] at HXB
      simp only at hls HRW HRL0
      have f1 : (0 : Int) ≤ (q : Int) := by omega
      have f2 : (q : Int) < (os.length : Int) := by omega
      go_wp2_with (first | ((refine zg 126 _ rfl ?_); refine lA hp rfl (zb rfl) zv at4 ?_ (hv := HXB.out); simp only [ze, zd, z0b, z0a]) | go_skip | ((first | ((refine zh _ rfl ?_); refine lZ hp rfl zcA ?_; clear hp; intro b w1 hp) | ((refine zi _ _ rfl ?_); refine lB hp rfl (zb rfl) rfl ?_; clear hp; intro b w1 hp) | ((refine zg _ _ rfl ?_); first | refine lO hp rfl (zb rfl) zap zq ?_ | refine lA hp rfl (zb rfl) ZG zq ?_) | ((refine zf _ _ _ rfl ?_); (first | refine sO hp rfl (zb rfl) zap zq ?_ | refine sA hp rfl (zb rfl) (zb rfl) ZG zq ?_ | refine sG hp rfl (zb rfl) (zb rfl) ZG zq ?_); clear hp; intro w1 hp; simp only [spl, z0a, z0b] at hp) | ((refine zm _ _ _ rfl ?_); refine lS hp rfl (by intro w; go_simp; rfl) ?_; clear hp; intro b w1 hp; simp only [z0g, z0h, Nat.reduceAdd] at hp)); simp only [ze, zd, z0b, z0a]))
      obtain ⟨bx, rfl⟩ := hp.id0
      go_loopg [10] ls.length (fun k jv wr => ∃ (j : Nat) (Rl : List Blk), k + j = ls.length ∧ jv = .int .i64 j ∧ Hid (zH 3 1 (.slice la ls.length lc) ls.length ((za4 gh ls j).flatMap iV) Rl) ∧
        Hp B w0 wr (⟨bx, [.int .i64 xh, .int .i64 xp, .int .i64 xo, .slice wa ws.length wc, .slice la ls.length lc], 126, 5⟩ :: ⟨bg, [.int .i64 gh, .int .i64 gp, .int .i64 go, .slice gwa gws.length gwc, .slice gla gls.length glc], 126, 5⟩ :: ⟨br, [.int .i64 0, .int .i64 0], 54, 2⟩ :: ⟨bG, [.int .i64 0, .slice none 0 0, .int .i64 0, .int .i64 0, .int .i64 0, .int .i64 0, .int .i64 0, .slice none 0 0], 47, 8⟩ :: ⟨bH, [.int .i64 od, .slice (some ⟨go_, 0, none⟩) os.length oc, .int .i64 nx, .int .i64 t0, .int .i64 t1, .int .i64 t2, .int .i64 t3, .slice fa fs.length fc], 47, 8⟩ :: ⟨go_, os.flatMap obV, 126, oc * 5⟩ :: (Rl ++ (RL ++ (Rw ++ (N1 ++ (N2 ++ (RF ++ K))))))))
      case atStart => exact ⟨0, Rl, by omega, rfl, by rw [zfJ]; exact HRL0, hp.kp⟩
      case round =>
        clear hp
        obtain ⟨j, Rl, hkj, rfl, HRL, hp⟩ := hrel
        by_cases hlj : j < ls.length
        · obtain ⟨gl, rfl, hn, hmx, rfl, hlen⟩ := HRL.out.own (by omega)
          obtain ⟨t, hj⟩ : ∃ t, ls[j]? = some t := ⟨_, List.getElem?_eq_getElem hlj⟩
          have hg := zgt (zdC (h := gh) hj)
          have hstep := zfI (h := gh) hj
          have hset := zmc (l := za4 gh ls j) (q := j) 0
          have hof2 : j < ((za4 gh ls j).flatMap iV).length := by rw [ZL, zcJ]; omega
          have hself := zje (zdC (h := gh) hj)
          have HNX := z0j hn
          have HMX := z0j hmx
          have g1 : (0 : Int) ≤ (j : Int) := by omega
          have g2 : (j : Int) < (ls.length : Int) := by omega
          simp only [z0f, z0e] at hp
          by_cases he : t = gh
          · have e3 : (t == gh) = true := by simp [he]
            rw [show zaZ gh t = 0 by unfold zaZ; rw [if_pos he]] at hstep
            rw [← hstep] at hset
            have HST2 := z0j hset
            have HG := z0j hg
            have HOF := z0j hof2
            clear hj hg hstep hset hof2 hself he hn hmx hlen
            generalize (za4 gh ls j).flatMap iV = cells at hp HST2 HG HOF HRL
            go_wp2_with (first | go_skip | ((first | ((refine zh _ rfl ?_); refine lZ hp rfl zcA ?_; clear hp; intro b w1 hp) | ((refine zi _ _ rfl ?_); refine lB hp rfl (zb rfl) rfl ?_; clear hp; intro b w1 hp) | ((refine zg _ _ rfl ?_); first | refine lO hp rfl (zb rfl) zap zq ?_ | refine lA hp rfl (zb rfl) ZG zq ?_) | ((refine zf _ _ _ rfl ?_); (first | refine sO hp rfl (zb rfl) zap zq ?_ | refine sA hp rfl (zb rfl) (zb rfl) ZG zq ?_ | refine sG hp rfl (zb rfl) (zb rfl) ZG zq ?_); clear hp; intro w1 hp; simp only [spl, z0a, z0b] at hp) | ((refine zm _ _ _ rfl ?_); refine lS hp rfl (by intro w; go_simp; rfl) ?_; clear hp; intro b w1 hp; simp only [z0g, z0h, Nat.reduceAdd] at hp)); simp only [ze, zd, z0b, z0a]))
            refine zk [_, _, _] (zA.three hp.drew at0 at1 at6) [] [(0, true), (1, true), (2, true), (3, true), (4, true), (5, true), (6, true), (7, true)] (by kernel_rfl) (by kernel_rfl) rfl (by kernel_rfl) (fun _ _ d _ _ h => by cases d <;> exact h) ?_
            replace hp := hp.drew
            repeat' (with_reducible refine zB ?_); first | (with_reducible refine zt ?_) | ((with_reducible refine zI ?_); refine zy rfl ?_; (first | ((with_reducible refine zV _ rfl ?_); refine tM rfl ?_) | ((with_reducible refine zS _ _ rfl ?_); first | refine tL rfl (zb rfl) (fun w hS => hS.loadOne zw at2 _ _ HG.out) ?_ | refine tO rfl (zb rfl) (by with_reducible first | exact zw | exact Za) zq ?_) | refine tG (fun w _ => (by go_simp; try rfl)) ?_); try simp only [ze, zd, zn, zj, z0b, z0a, z0d, z0c, zr])
            go_wp2_with (first | ((refine zf 3 _ _ rfl ?_); refine sO hp rfl (zb rfl) zw at6 ?_ (hlen := HOF.out); clear hp; intro w1 hp; simp only [z0b, z0a] at hp; simp only [ze, zd, z0b, z0a]) | go_skip | ((first | ((refine zh _ rfl ?_); refine lZ hp rfl zcA ?_; clear hp; intro b w1 hp) | ((refine zi _ _ rfl ?_); refine lB hp rfl (zb rfl) rfl ?_; clear hp; intro b w1 hp) | ((refine zg _ _ rfl ?_); first | refine lO hp rfl (zb rfl) zap zq ?_ | refine lA hp rfl (zb rfl) ZG zq ?_) | ((refine zf _ _ _ rfl ?_); (first | refine sO hp rfl (zb rfl) zap zq ?_ | refine sA hp rfl (zb rfl) (zb rfl) ZG zq ?_ | refine sG hp rfl (zb rfl) (zb rfl) ZG zq ?_); clear hp; intro w1 hp; simp only [spl, z0a, z0b] at hp) | ((refine zm _ _ _ rfl ?_); refine lS hp rfl (by intro w; go_simp; rfl) ?_; clear hp; intro b w1 hp; simp only [z0g, z0h, Nat.reduceAdd] at hp)); simp only [ze, zd, z0b, z0a]))
            go_roundg (gk - 1)
            case measure => omega
            case rel => exact ⟨j + 1, [⟨gl, (za4 gh ls (j + 1)).flatMap iV, 3, lc * 1⟩], by omega, by go_num, z0j ⟨by rw [ZL, zcJ], .inr ⟨gl, lc, rfl, HNX.out, HMX.out, rfl⟩⟩, by rw [← HST2.out]; exact hp⟩
          · have e3 : (t == gh) = false := by simp [he]
            rw [show zaZ gh t = t by unfold zaZ; rw [if_neg he], hself] at hstep
            have HST2 : Hid ((za4 gh ls (j + 1)).flatMap iV = (za4 gh ls j).flatMap iV) := z0j (by rw [hstep])
            have HG := z0j hg
            clear hj hg hstep hset hof2 hself he hn hmx hlen
            generalize (za4 gh ls j).flatMap iV = cells at hp HST2 HG HRL
            go_wp2_with (first | go_skip | ((first | ((refine zh _ rfl ?_); refine lZ hp rfl zcA ?_; clear hp; intro b w1 hp) | ((refine zi _ _ rfl ?_); refine lB hp rfl (zb rfl) rfl ?_; clear hp; intro b w1 hp) | ((refine zg _ _ rfl ?_); first | refine lO hp rfl (zb rfl) zap zq ?_ | refine lA hp rfl (zb rfl) ZG zq ?_) | ((refine zf _ _ _ rfl ?_); (first | refine sO hp rfl (zb rfl) zap zq ?_ | refine sA hp rfl (zb rfl) (zb rfl) ZG zq ?_ | refine sG hp rfl (zb rfl) (zb rfl) ZG zq ?_); clear hp; intro w1 hp; simp only [spl, z0a, z0b] at hp) | ((refine zm _ _ _ rfl ?_); refine lS hp rfl (by intro w; go_simp; rfl) ?_; clear hp; intro b w1 hp; simp only [z0g, z0h, Nat.reduceAdd] at hp)); simp only [ze, zd, z0b, z0a]))
            refine zk [_, _, _] (zA.three hp.drew at0 at1 at6) [] [(0, true), (1, true), (2, true), (3, true), (4, true), (5, true), (6, true), (7, true)] (by kernel_rfl) (by kernel_rfl) rfl (by kernel_rfl) (fun _ _ d _ _ h => by cases d <;> exact h) ?_
            replace hp := hp.drew
            repeat' (with_reducible refine zB ?_); first | (with_reducible refine zt ?_) | ((with_reducible refine zI ?_); refine zy rfl ?_; (first | ((with_reducible refine zV _ rfl ?_); refine tM rfl ?_) | ((with_reducible refine zS _ _ rfl ?_); first | refine tL rfl (zb rfl) (fun w hS => hS.loadOne zw at2 _ _ HG.out) ?_ | refine tO rfl (zb rfl) (by with_reducible first | exact zw | exact Za) zq ?_) | refine tG (fun w _ => (by go_simp; try rfl)) ?_); try simp only [ze, zd, zn, zj, z0b, z0a, z0d, z0c, zr])
            go_wp2_with (first | go_skip | ((first | ((refine zh _ rfl ?_); refine lZ hp rfl zcA ?_; clear hp; intro b w1 hp) | ((refine zi _ _ rfl ?_); refine lB hp rfl (zb rfl) rfl ?_; clear hp; intro b w1 hp) | ((refine zg _ _ rfl ?_); first | refine lO hp rfl (zb rfl) zap zq ?_ | refine lA hp rfl (zb rfl) ZG zq ?_) | ((refine zf _ _ _ rfl ?_); (first | refine sO hp rfl (zb rfl) zap zq ?_ | refine sA hp rfl (zb rfl) (zb rfl) ZG zq ?_ | refine sG hp rfl (zb rfl) (zb rfl) ZG zq ?_); clear hp; intro w1 hp; simp only [spl, z0a, z0b] at hp) | ((refine zm _ _ _ rfl ?_); refine lS hp rfl (by intro w; go_simp; rfl) ?_; clear hp; intro b w1 hp; simp only [z0g, z0h, Nat.reduceAdd] at hp)); simp only [ze, zd, z0b, z0a]))
            go_roundg (gk - 1)
            case measure => omega
            case rel => exact ⟨j + 1, [⟨gl, (za4 gh ls (j + 1)).flatMap iV, 3, lc * 1⟩], by omega, by go_num, z0j ⟨by rw [ZL, zcJ], .inr ⟨gl, lc, rfl, HNX.out, HMX.out, rfl⟩⟩, by rw [HST2.out]; exact hp⟩
        · obtain rfl : j = ls.length := by omega
          have hrl := HRL.out
          rw [zhb] at hrl
          have HNW : Hid (zdZ (zct gh os (q + 1)) (N1 ++ ((Rw ++ Rl) ++ N2))) := z0j (by rw [HST.out]; exact HNEW.out _ _ ⟨Rw, Rl, rfl, HRW.out, by simp only [zfk, List.length_map]; exact hrl⟩)
          have g2 : decide ((ls.length : Int) < (ls.length : Int)) = false := by simp
          clear HRL HNEW HST HRL0 HRW hrl
          by_cases hqi : q = i
          · have e4 : ((q : Int) == (i : Int)) = true := by simp [hqi]
            have HSY := z0j (by rw [hqi] at HJ ⊢; exact zlv HJ.out : za2 i os (q + 1) = za2 i os q)
            clear hqi
            go_wp2_with (first | go_skip | ((first | ((refine zh _ rfl ?_); refine lZ hp rfl zcA ?_; clear hp; intro b w1 hp) | ((refine zi _ _ rfl ?_); refine lB hp rfl (zb rfl) rfl ?_; clear hp; intro b w1 hp) | ((refine zg _ _ rfl ?_); first | refine lO hp rfl (zb rfl) zap zq ?_ | refine lA hp rfl (zb rfl) ZG zq ?_) | ((refine zf _ _ _ rfl ?_); (first | refine sO hp rfl (zb rfl) zap zq ?_ | refine sA hp rfl (zb rfl) (zb rfl) ZG zq ?_ | refine sG hp rfl (zb rfl) (zb rfl) ZG zq ?_); clear hp; intro w1 hp; simp only [spl, z0a, z0b] at hp) | ((refine zm _ _ _ rfl ?_); refine lS hp rfl (by intro w; go_simp; rfl) ?_; clear hp; intro b w1 hp; simp only [z0g, z0h, Nat.reduceAdd] at hp)); simp only [ze, zd, z0b, z0a]))
            go_roundg (os.length - (q + 1))
            case measure => omega
            case rel => exact ⟨q + 1, by omega, by go_num, N1 ++ ((Rw ++ Rl) ++ N2), RL, z0j (by rw [HSY.out]; exact HR.out), HNW, hp.kp⟩
          · have e4 : ((q : Int) == (i : Int)) = false := by simp; omega
            have HSY := z0j (zlw HJ.out hqi)
            have hsl := znT i os q
            have sm5 : (za2 i os q).length + 1 ≤ maxLen := by unfold maxLen; omega
            have sm6 : ((za2 i os q).length + 1) * 72 ≤ 140737488355328 := by omega
            clear hqi
            replace hp := hp.kp (L' := ⟨bx, [.int .i64 xh, .int .i64 xp, .int .i64 xo, .slice wa ws.length wc, .slice la ls.length lc], 126, 5⟩ :: ⟨bg, [.int .i64 gh, .int .i64 gp, .int .i64 go, .slice gwa gws.length gwc, .slice gla gls.length glc], 126, 5⟩ :: ⟨br, [.int .i64 0, .int .i64 0], 54, 2⟩ :: ⟨bG, [.int .i64 0, .slice none 0 0, .int .i64 0, .int .i64 0, .int .i64 0, .int .i64 0, .int .i64 0, .slice none 0 0], 47, 8⟩ :: ⟨bH, [.int .i64 od, .slice (some ⟨go_, 0, none⟩) os.length oc, .int .i64 nx, .int .i64 t0, .int .i64 t1, .int .i64 t2, .int .i64 t3, .slice fa fs.length fc], 47, 8⟩ :: ⟨go_, os.flatMap obV, 126, oc * 5⟩ :: (RL ++ (Rw ++ (Rl ++ (N1 ++ (N2 ++ (RF ++ K)))))))
            go_wp2_with (first | ((refine zM _ _ 43 rfl ?_); refine zG (K := [_, _, _, _, _, _]) hp _ _ _ rfl wy i0 _ 72 Tryz.underlying43 hi0 hz0 hz1 hz2 rfl (by decide) (zb rfl) HR.out 1 1 (zb rfl) (by rfl) (by decide) (by rfl) sm5 sm6 ?_; clear hp HR; intro v' R' w1 hR' hp; have HR' := z0j hR'; clear hR'; simp only [z0f, z0e] at hp; simp only [ze, zd, z0b, z0a]) | go_skip | ((first | ((refine zh _ rfl ?_); refine lZ hp rfl zcA ?_; clear hp; intro b w1 hp) | ((refine zi _ _ rfl ?_); refine lB hp rfl (zb rfl) rfl ?_; clear hp; intro b w1 hp) | ((refine zg _ _ rfl ?_); first | refine lO hp rfl (zb rfl) zap zq ?_ | refine lA hp rfl (zb rfl) ZG zq ?_) | ((refine zf _ _ _ rfl ?_); (first | refine sO hp rfl (zb rfl) zap zq ?_ | refine sA hp rfl (zb rfl) (zb rfl) ZG zq ?_ | refine sG hp rfl (zb rfl) (zb rfl) ZG zq ?_); clear hp; intro w1 hp; simp only [spl, z0a, z0b] at hp) | ((refine zm _ _ _ rfl ?_); refine lS hp rfl (by intro w; go_simp; rfl) ?_; clear hp; intro b w1 hp; simp only [z0g, z0h, Nat.reduceAdd] at hp)); simp only [ze, zd, z0b, z0a]))
            go_roundg (os.length - (q + 1))
            case measure => omega
            case rel => exact ⟨q + 1, by omega, by go_num, N1 ++ ((Rw ++ Rl) ++ N2), R', z0j (by rw [HSY.out, zdK, List.length_append]; exact HR'.out), HNW, hp.kp⟩
    · obtain rfl : q = os.length := by omega
      have f2 : decide ((os.length : Int) < (os.length : Int)) = false := by simp
      have hr := HR.out
      rw [zmy] at hr
      obtain ⟨a3, c3, rfl, _⟩ := hr.kept
      have hmq := HMQ.out
      rw [zfK] at hmq
      obtain ⟨M1, RX, M2, rfl, _, _, her⟩ := hmq.at_ (by rw [List.getElem?_map, HG0.out]; rfl)
      rw [zkD] at her
      have HER := z0j her
      have HRE := z0j hr
      clear hr hmq her HMQ HR HM HG0 HSM
      go_wp2_with (first | go_skip | ((first | ((refine zh _ rfl ?_); refine lZ hp rfl zcA ?_; clear hp; intro b w1 hp) | ((refine zi _ _ rfl ?_); refine lB hp rfl (zb rfl) rfl ?_; clear hp; intro b w1 hp) | ((refine zg _ _ rfl ?_); first | refine lO hp rfl (zb rfl) zap zq ?_ | refine lA hp rfl (zb rfl) ZG zq ?_) | ((refine zf _ _ _ rfl ?_); (first | refine sO hp rfl (zb rfl) zap zq ?_ | refine sA hp rfl (zb rfl) (zb rfl) ZG zq ?_ | refine sG hp rfl (zb rfl) (zb rfl) ZG zq ?_); clear hp; intro w1 hp; simp only [spl, z0a, z0b] at hp) | ((refine zm _ _ _ rfl ?_); refine lS hp rfl (by intro w; go_simp; rfl) ?_; clear hp; intro b w1 hp; simp only [z0g, z0h, Nat.reduceAdd] at hp)); simp only [ze, zd, z0b, z0a]))
      clear f2
      go_loopg [11] 4 (fun k iv wr => ∃ (a b c d : Int), zob gh t0 t1 t2 t3 k iv a b c d ∧ Hp B w0 wr (⟨bg, [.int .i64 gh, .int .i64 gp, .int .i64 go, .slice gwa gws.length gwc, .slice gla gls.length glc], 126, 5⟩ :: ⟨br, [.int .i64 0, .int .i64 0], 54, 2⟩ :: ⟨bG, [.int .i64 0, .slice none 0 0, .int .i64 0, .int .i64 0, .int .i64 0, .int .i64 0, .int .i64 0, .slice none 0 0], 47, 8⟩ :: ⟨bH, [.int .i64 od, .slice (some ⟨go_, 0, none⟩) os.length oc, .int .i64 nx, .int .i64 a, .int .i64 b, .int .i64 c, .int .i64 d, .slice fa fs.length fc], 47, 8⟩ :: ⟨go_, os.flatMap obV, 126, oc * 5⟩ :: (RL ++ ((M1 ++ (RX ++ M2)) ++ (RF ++ K)))))
      case atStart => exact ⟨t0, t1, t2, t3, .inl ⟨rfl, rfl, rfl, rfl, rfl, rfl⟩, hp⟩
      case round =>
       clear hp
       obtain ⟨a, b, c, d, hto, hp⟩ := hrel
       rcases hto with ⟨rfl, rfl, ha, hb, hc, hd⟩ | ⟨rfl, rfl, ha, hb, hc, hd⟩ | ⟨rfl, rfl, ha, hb, hc, hd⟩ | ⟨rfl, rfl, ha, hb, hc, hd⟩ | ⟨rfl, rfl, ha, hb, hc, hd⟩
       all_goals
         rw [ha, hb, hc, hd] at hp
         clear ha hb hc hd a b c d
       · rcases zdD gh t0 with ⟨e5, HC⟩ | ⟨e5, HC⟩
         all_goals
           go_wp2_with (first | go_skip | ((first | ((refine zh _ rfl ?_); refine lZ hp rfl zcA ?_; clear hp; intro b w1 hp) | ((refine zi _ _ rfl ?_); refine lB hp rfl (zb rfl) rfl ?_; clear hp; intro b w1 hp) | ((refine zg _ _ rfl ?_); first | refine lO hp rfl (zb rfl) zap zq ?_ | refine lA hp rfl (zb rfl) ZG zq ?_) | ((refine zf _ _ _ rfl ?_); (first | refine sO hp rfl (zb rfl) zap zq ?_ | refine sA hp rfl (zb rfl) (zb rfl) ZG zq ?_ | refine sG hp rfl (zb rfl) (zb rfl) ZG zq ?_); clear hp; intro w1 hp; simp only [spl, z0a, z0b] at hp) | ((refine zm _ _ _ rfl ?_); refine lS hp rfl (by intro w; go_simp; rfl) ?_; clear hp; intro b w1 hp; simp only [z0g, z0h, Nat.reduceAdd] at hp)); simp only [ze, zd, z0b, z0a]))
           refine zk [_, _] (zA.two hp.drew at0 at3) [] [(0, true), (1, true), (2, true), (3, true), (4, true), (5, true), (6, true)] (by kernel_rfl) (by kernel_rfl) rfl (by kernel_rfl) (fun _ _ d _ _ h => by cases d <;> exact h) ?_
           replace hp := hp.drew
           repeat' (with_reducible refine zB ?_); first | (with_reducible refine zt ?_) | ((with_reducible refine zI ?_); refine zy rfl ?_; (first | ((with_reducible refine zV _ rfl ?_); refine tM rfl ?_) | ((with_reducible refine zS _ _ rfl ?_); refine tO rfl (zb rfl) zw zq ?_) | refine tG (fun w _ => (by go_simp; try rfl)) ?_); try simp only [ze, zd, zn, zj, z0b, z0a, z0d, z0c, zr])
           go_wp2_with (first | go_skip | ((first | ((refine zh _ rfl ?_); refine lZ hp rfl zcA ?_; clear hp; intro b w1 hp) | ((refine zi _ _ rfl ?_); refine lB hp rfl (zb rfl) rfl ?_; clear hp; intro b w1 hp) | ((refine zg _ _ rfl ?_); first | refine lO hp rfl (zb rfl) zap zq ?_ | refine lA hp rfl (zb rfl) ZG zq ?_) | ((refine zf _ _ _ rfl ?_); (first | refine sO hp rfl (zb rfl) zap zq ?_ | refine sA hp rfl (zb rfl) (zb rfl) ZG zq ?_ | refine sG hp rfl (zb rfl) (zb rfl) ZG zq ?_); clear hp; intro w1 hp; simp only [spl, z0a, z0b] at hp) | ((refine zm _ _ _ rfl ?_); refine lS hp rfl (by intro w; go_simp; rfl) ?_; clear hp; intro b w1 hp; simp only [z0g, z0h, Nat.reduceAdd] at hp)); simp only [ze, zd, z0b, z0a]))
           go_roundg 3
           case measure => omega
           case rel => exact ⟨zaZ gh t0, t1, t2, t3, .inr (.inl ⟨rfl, rfl, rfl, rfl, rfl, rfl⟩), by rw [HC.out]; exact hp⟩
       · rcases zdD gh t1 with ⟨e5, HC⟩ | ⟨e5, HC⟩
         all_goals
           go_wp2_with (first | go_skip | ((first | ((refine zh _ rfl ?_); refine lZ hp rfl zcA ?_; clear hp; intro b w1 hp) | ((refine zi _ _ rfl ?_); refine lB hp rfl (zb rfl) rfl ?_; clear hp; intro b w1 hp) | ((refine zg _ _ rfl ?_); first | refine lO hp rfl (zb rfl) zap zq ?_ | refine lA hp rfl (zb rfl) ZG zq ?_) | ((refine zf _ _ _ rfl ?_); (first | refine sO hp rfl (zb rfl) zap zq ?_ | refine sA hp rfl (zb rfl) (zb rfl) ZG zq ?_ | refine sG hp rfl (zb rfl) (zb rfl) ZG zq ?_); clear hp; intro w1 hp; simp only [spl, z0a, z0b] at hp) | ((refine zm _ _ _ rfl ?_); refine lS hp rfl (by intro w; go_simp; rfl) ?_; clear hp; intro b w1 hp; simp only [z0g, z0h, Nat.reduceAdd] at hp)); simp only [ze, zd, z0b, z0a]))
           refine zk [_, _] (zA.two hp.drew at0 at3) [] [(0, true), (1, true), (2, true), (3, true), (4, true), (5, true), (6, true)] (by kernel_rfl) (by kernel_rfl) rfl (by kernel_rfl) (fun _ _ d _ _ h => by cases d <;> exact h) ?_
           replace hp := hp.drew
           repeat' (with_reducible refine zB ?_); first | (with_reducible refine zt ?_) | ((with_reducible refine zI ?_); refine zy rfl ?_; (first | ((with_reducible refine zV _ rfl ?_); refine tM rfl ?_) | ((with_reducible refine zS _ _ rfl ?_); refine tO rfl (zb rfl) zw zq ?_) | refine tG (fun w _ => (by go_simp; try rfl)) ?_); try simp only [ze, zd, zn, zj, z0b, z0a, z0d, z0c, zr])
           go_wp2_with (first | go_skip | ((first | ((refine zh _ rfl ?_); refine lZ hp rfl zcA ?_; clear hp; intro b w1 hp) | ((refine zi _ _ rfl ?_); refine lB hp rfl (zb rfl) rfl ?_; clear hp; intro b w1 hp) | ((refine zg _ _ rfl ?_); first | refine lO hp rfl (zb rfl) zap zq ?_ | refine lA hp rfl (zb rfl) ZG zq ?_) | ((refine zf _ _ _ rfl ?_); (first | refine sO hp rfl (zb rfl) zap zq ?_ | refine sA hp rfl (zb rfl) (zb rfl) ZG zq ?_ | refine sG hp rfl (zb rfl) (zb rfl) ZG zq ?_); clear hp; intro w1 hp; simp only [spl, z0a, z0b] at hp) | ((refine zm _ _ _ rfl ?_); refine lS hp rfl (by intro w; go_simp; rfl) ?_; clear hp; intro b w1 hp; simp only [z0g, z0h, Nat.reduceAdd] at hp)); simp only [ze, zd, z0b, z0a]))
           go_roundg 2
           case measure => omega
           case rel => exact ⟨zaZ gh t0, zaZ gh t1, t2, t3, .inr (.inr (.inl ⟨rfl, rfl, rfl, rfl, rfl, rfl⟩)), by rw [HC.out]; exact hp⟩
       · rcases zdD gh t2 with ⟨e5, HC⟩ | ⟨e5, HC⟩
         all_goals
           go_wp2_with (first | go_skip | ((first | ((refine zh _ rfl ?_); refine lZ hp rfl zcA ?_; clear hp; intro b w1 hp) | ((refine zi _ _ rfl ?_); refine lB hp rfl (zb rfl) rfl ?_; clear hp; intro b w1 hp) | ((refine zg _ _ rfl ?_); first | refine lO hp rfl (zb rfl) zap zq ?_ | refine lA hp rfl (zb rfl) ZG zq ?_) | ((refine zf _ _ _ rfl ?_); (first | refine sO hp rfl (zb rfl) zap zq ?_ | refine sA hp rfl (zb rfl) (zb rfl) ZG zq ?_ | refine sG hp rfl (zb rfl) (zb rfl) ZG zq ?_); clear hp; intro w1 hp; simp only [spl, z0a, z0b] at hp) | ((refine zm _ _ _ rfl ?_); refine lS hp rfl (by intro w; go_simp; rfl) ?_; clear hp; intro b w1 hp; simp only [z0g, z0h, Nat.reduceAdd] at hp)); simp only [ze, zd, z0b, z0a]))
           refine zk [_, _] (zA.two hp.drew at0 at3) [] [(0, true), (1, true), (2, true), (3, true), (4, true), (5, true), (6, true)] (by kernel_rfl) (by kernel_rfl) rfl (by kernel_rfl) (fun _ _ d _ _ h => by cases d <;> exact h) ?_
           replace hp := hp.drew
           repeat' (with_reducible refine zB ?_); first | (with_reducible refine zt ?_) | ((with_reducible refine zI ?_); refine zy rfl ?_; (first | ((with_reducible refine zV _ rfl ?_); refine tM rfl ?_) | ((with_reducible refine zS _ _ rfl ?_); refine tO rfl (zb rfl) zw zq ?_) | refine tG (fun w _ => (by go_simp; try rfl)) ?_); try simp only [ze, zd, zn, zj, z0b, z0a, z0d, z0c, zr])
           go_wp2_with (first | go_skip | ((first | ((refine zh _ rfl ?_); refine lZ hp rfl zcA ?_; clear hp; intro b w1 hp) | ((refine zi _ _ rfl ?_); refine lB hp rfl (zb rfl) rfl ?_; clear hp; intro b w1 hp) | ((refine zg _ _ rfl ?_); first | refine lO hp rfl (zb rfl) zap zq ?_ | refine lA hp rfl (zb rfl) ZG zq ?_) | ((refine zf _ _ _ rfl ?_); (first | refine sO hp rfl (zb rfl) zap zq ?_ | refine sA hp rfl (zb rfl) (zb rfl) ZG zq ?_ | refine sG hp rfl (zb rfl) (zb rfl) ZG zq ?_); clear hp; intro w1 hp; simp only [spl, z0a, z0b] at hp) | ((refine zm _ _ _ rfl ?_); refine lS hp rfl (by intro w; go_simp; rfl) ?_; clear hp; intro b w1 hp; simp only [z0g, z0h, Nat.reduceAdd] at hp)); simp only [ze, zd, z0b, z0a]))
           go_roundg 1
           case measure => omega
           case rel => exact ⟨zaZ gh t0, zaZ gh t1, zaZ gh t2, t3, .inr (.inr (.inr (.inl ⟨rfl, rfl, rfl, rfl, rfl, rfl⟩))), by rw [HC.out]; exact hp⟩
       · rcases zdD gh t3 with ⟨e5, HC⟩ | ⟨e5, HC⟩
         all_goals
           go_wp2_with (first | go_skip | ((first | ((refine zh _ rfl ?_); refine lZ hp rfl zcA ?_; clear hp; intro b w1 hp) | ((refine zi _ _ rfl ?_); refine lB hp rfl (zb rfl) rfl ?_; clear hp; intro b w1 hp) | ((refine zg _ _ rfl ?_); first | refine lO hp rfl (zb rfl) zap zq ?_ | refine lA hp rfl (zb rfl) ZG zq ?_) | ((refine zf _ _ _ rfl ?_); (first | refine sO hp rfl (zb rfl) zap zq ?_ | refine sA hp rfl (zb rfl) (zb rfl) ZG zq ?_ | refine sG hp rfl (zb rfl) (zb rfl) ZG zq ?_); clear hp; intro w1 hp; simp only [spl, z0a, z0b] at hp) | ((refine zm _ _ _ rfl ?_); refine lS hp rfl (by intro w; go_simp; rfl) ?_; clear hp; intro b w1 hp; simp only [z0g, z0h, Nat.reduceAdd] at hp)); simp only [ze, zd, z0b, z0a]))
           refine zk [_, _] (zA.two hp.drew at0 at3) [] [(0, true), (1, true), (2, true), (3, true), (4, true), (5, true), (6, true)] (by kernel_rfl) (by kernel_rfl) rfl (by kernel_rfl) (fun _ _ d _ _ h => by cases d <;> exact h) ?_
           replace hp := hp.drew
           repeat' (with_reducible refine zB ?_); first | (with_reducible refine zt ?_) | ((with_reducible refine zI ?_); refine zy rfl ?_; (first | ((with_reducible refine zV _ rfl ?_); refine tM rfl ?_) | ((with_reducible refine zS _ _ rfl ?_); refine tO rfl (zb rfl) zw zq ?_) | refine tG (fun w _ => (by go_simp; try rfl)) ?_); try simp only [ze, zd, zn, zj, z0b, z0a, z0d, z0c, zr])
           go_wp2_with (first | go_skip | ((first | ((refine zh _ rfl ?_); refine lZ hp rfl zcA ?_; clear hp; intro b w1 hp) | ((refine zi _ _ rfl ?_); refine lB hp rfl (zb rfl) rfl ?_; clear hp; intro b w1 hp) | ((refine zg _ _ rfl ?_); first | refine lO hp rfl (zb rfl) zap zq ?_ | refine lA hp rfl (zb rfl) ZG zq ?_) | ((refine zf _ _ _ rfl ?_); (first | refine sO hp rfl (zb rfl) zap zq ?_ | refine sA hp rfl (zb rfl) (zb rfl) ZG zq ?_ | refine sG hp rfl (zb rfl) (zb rfl) ZG zq ?_); clear hp; intro w1 hp; simp only [spl, z0a, z0b] at hp) | ((refine zm _ _ _ rfl ?_); refine lS hp rfl (by intro w; go_simp; rfl) ?_; clear hp; intro b w1 hp; simp only [z0g, z0h, Nat.reduceAdd] at hp)); simp only [ze, zd, z0b, z0a]))
           go_roundg 0
           case measure => omega
           case rel => exact ⟨zaZ gh t0, zaZ gh t1, zaZ gh t2, zaZ gh t3, .inr (.inr (.inr (.inr (⟨rfl, rfl, rfl, rfl, rfl, rfl⟩)))), by rw [HC.out]; exact hp⟩
       · go_wp2_with (first | (go_at_call 260; (with_reducible refine (zib od fs fa fc hfl gp go _ (HRF.out.at hp (fun p hm => by simp [hm])) HFR.out HGM.out).mono ?_); rintro e w1 ⟨_, hgv⟩; obtain ⟨a2, k2, R2, rfl, hr2, hpx⟩ := hgv HGN.out; replace hp := hp.join hpx; have HR2 := z0j hr2; clear hgv hr2 hpx; simp only [z0f, z0e, z0i] at hp) | go_skip | ((first | ((refine zh _ rfl ?_); refine lZ hp rfl zcA ?_; clear hp; intro b w1 hp) | ((refine zi _ _ rfl ?_); refine lB hp rfl (zb rfl) rfl ?_; clear hp; intro b w1 hp) | ((refine zg _ _ rfl ?_); first | refine lO hp rfl (zb rfl) zap zq ?_ | refine lA hp rfl (zb rfl) ZG zq ?_) | ((refine zf _ _ _ rfl ?_); (first | refine sO hp rfl (zb rfl) zap zq ?_ | refine sA hp rfl (zb rfl) (zb rfl) ZG zq ?_ | refine sG hp rfl (zb rfl) (zb rfl) ZG zq ?_); clear hp; intro w1 hp; simp only [spl, z0a, z0b] at hp) | ((refine zm _ _ _ rfl ?_); refine lS hp rfl (by intro w; go_simp; rfl) ?_; clear hp; intro b w1 hp; simp only [z0g, z0h, Nat.reduceAdd] at hp)); simp only [ze, zd, z0b, z0a]))
         refine bodyPost_ret (zx (rs := [.cell 4 47, .cell 5 54]) Tryz.results235 (.cell rfl (hp.loadAgg zL at2 0 _ (by rfl) (by rfl)) (.cell rfl (hp.loadAgg zU at1 0 _ (by rfl) (by rfl)) .nil))) rfl ⟨⟨od, a3, (os.eraseIdx i).map (zfk gh), c3, nx, zaZ gh t0, zaZ gh t1, zaZ gh t2, zaZ gh t3, a2, zal od fs ⟨gp, go⟩, k2⟩, ?_, ?_, RL, R2, M1 ++ M2, ⟨?_, HR2.out, HER.out⟩, hp.kp⟩
         · simp only [hvL, List.length_map]; rfl
         · refine ⟨rfl, rfl, rfl, rfl, rfl, rfl, ?_, rfl⟩
           simp only [zdl]
           exact zau.refl _
         · simp only [List.length_map, ziY]; exact HRE.out
end Go.Proofs.YtaafajaadfgaoaaGreat
