import Derived.Test.YtaafajaadfgaoaaGreatTb14
import Derived.Test.YtaafajaadfgaoaaGreatTb30
import Derived.Test.YtaafajaadfgaoaaGreatTb2
import Derived.Test.YtaafajaadfgaoaaGreatTb17
set_option linter.unusedSimpArgs false
set_option linter.unusedVariables false
set_option maxRecDepth 100000
set_option maxHeartbeats 60000000
namespace Go.Proofs.YtaafajaadfgaoaaGreat
open Go.RowKit
theorem za1 {ty : TypeId} (h : zN Tryz.prog ty = true := by with_reducible first | exact zw | exact Za | exact Zb | exact Zc | exact zat) : zN Tryz.prog ty = true := h
theorem zeC {e : TypeId} {c n k g q : Nat} {cells : List Value} {R : List Blk} (h : zH e c (.slice (some ⟨g, 0, none⟩) n k) n cells R) (hn : 0 < n) (v : Value) : zH e c (.slice (some ⟨g, 0, none⟩) n k) n (cells.set q v) [⟨g, cells.set q v, e, k * c⟩] := by
 obtain ⟨hl, ⟨h0, _⟩ | ⟨g', cap, hv, h1, h2, hr⟩⟩ := h
 ·omega
 ·injection hv with v1 v2 v3
  injection v1 with v1; injection v1 with v1
  subst v1 v3
  exact ⟨by rw [List.length_set]; exact hl, .inr ⟨g, _, rfl, h1, h2, rfl⟩⟩
def zhL (os : List Ob) (q : Nat) (cells : List Value) : Prop := ∀ (i : Nat) o, q ≤ i → os[i]? = some o → cells[i * 5 + 3]? = some (.slice o.wa o.ws.length o.wc)
theorem zoK (x : Sv) (hol : x.hv.os.length ≤ 1000) (hfl : x.hv.fs.length ≤ 2000) (hrl : x.rs.length ≤ 1000) (hsm : ∀ o ∈ x.hv.os, o.ws.length ≤ 5000 ∧ o.ls.length ≤ 5000) {B : Nat} {w0 w : World} {K RR RO RF M : List Blk} (hrr : zH 120 4 (.slice x.ra x.rs.length x.rc) x.rs.length (x.rs.flatMap rwV) RR) (hvr : HvR x.hv RO RF M) (hp : Hp B w0 w (RR ++ (RO ++ (RF ++ (M ++ K))))) :
  Calls Tryz.prog 49 #[.agg (svL x).toArray] w fun e w' => e = .returned (.tuple #[]) ∧ ∃ D, Hp B w0 w' (D ++ K) := by
 obtain ⟨ho, hf, hm⟩ := hvr
 obtain ⟨⟨od, oa, os, oc, nx, t0, t1, t2, t3, fa, fs, fc⟩, ra, rs, rc⟩ := x
 simp only at ho hf hm hol hfl hsm hrl hrr
 simp only [svL, hvL, z0f, z0e]
 have HO := z0j ho
 have HF := z0j hf
 have HM := z0j hm
 have HR := z0j hrr
 have HSM := z0j hsm
 have HHD : Hid (zhL os 0 (os.flatMap obV)) := z0j (fun i o _ h => (zbV h).1)
 clear ho hf hm hsm hrr
 go_enter Tryz.func49, Tryz.ntmps49
 go_wp2_with (first | go_skip | ((first | ((refine zi _ _ rfl ?_); refine lB hp rfl (zb rfl) rfl ?_; clear hp; intro b w1 hp) | ((refine zg _ _ rfl ?_); first | refine lO hp rfl (zb rfl) za1 aa5 ?_ | refine lA hp rfl (zb rfl) zY aa5 ?_) | ((refine zf _ _ _ rfl ?_); (first | refine sO hp rfl (zb rfl) za1 aa5 ?_ | refine sA hp rfl (zb rfl) (zb rfl) zY aa5 ?_ | refine sG hp rfl (zb rfl) (zb rfl) zY aa5 ?_); clear hp; intro w1 hp; simp only [spl, z0a, z0b] at hp)); simp only [ze, zd, z0b, z0a]))
 obtain ⟨bH, rfl⟩ := hp.id0
 go_loopg [2] rs.length (fun k jv wr => ∃ (j : Nat) (cs : List Value) (RR : List Blk), k + j = rs.length ∧ jv = .int .i64 j ∧ Hid (zH 120 4 (.slice ra rs.length rc) rs.length cs RR) ∧ Hp B w0 wr (⟨bH, [.int .i64 od, .slice oa os.length oc, .int .i64 nx, .int .i64 t0, .int .i64 t1, .int .i64 t2, .int .i64 t3, .slice fa fs.length fc, .slice ra rs.length rc], 50, 9⟩ :: (RR ++ (RO ++ (RF ++ (M ++ K))))))
 case atStart => exact ⟨0, _, RR, by omega, rfl, HR, hp⟩
 case round =>
  clear hp HR
  obtain ⟨j, cs, RR, hkj, rfl, HR, hp⟩ := hrel
  by_cases hlj : j < rs.length
  ·obtain ⟨gr, rfl, _, _, rfl, hcl⟩ := HR.out.own (by omega)
   have HQH : Hid (j * 4 + 1 < cs.length) := z0j (by omega)
   have HNW := z0j (zeC HR.out (q := j * 4 + 1) (by omega) (.int .i64 777))
   have g1 : (0 : Int) ≤ (j : Int) := by omega
   have g2 : (j : Int) < (rs.length : Int) := by omega
   clear hcl
   go_wp2_with (first | ((refine zf 3 _ _ rfl ?_); refine sO hp rfl (zb rfl) zw at1 ?_ (hlen := HQH.out); clear hp; intro w1 hp; simp only [z0b, z0a] at hp; simp only [ze, zd, z0b, z0a]) | go_skip | ((first | ((refine zi _ _ rfl ?_); refine lB hp rfl (zb rfl) rfl ?_; clear hp; intro b w1 hp) | ((refine zg _ _ rfl ?_); first | refine lO hp rfl (zb rfl) za1 aa5 ?_ | refine lA hp rfl (zb rfl) zY aa5 ?_) | ((refine zf _ _ _ rfl ?_); (first | refine sO hp rfl (zb rfl) za1 aa5 ?_ | refine sA hp rfl (zb rfl) (zb rfl) zY aa5 ?_ | refine sG hp rfl (zb rfl) (zb rfl) zY aa5 ?_); clear hp; intro w1 hp; simp only [spl, z0a, z0b] at hp)); simp only [ze, zd, z0b, z0a]))
   go_roundg (gk - 1)
   case measure => omega
   case rel => exact ⟨j + 1, _, _, by omega, by go_num, HNW, hp⟩
  ·obtain rfl : j = rs.length := by omega
   have g2 : decide ((rs.length : Int) < (rs.length : Int)) = false := by simp
   go_wp2_with (first | go_skip | ((first | ((refine zi _ _ rfl ?_); refine lB hp rfl (zb rfl) rfl ?_; clear hp; intro b w1 hp) | ((refine zg _ _ rfl ?_); first | refine lO hp rfl (zb rfl) za1 aa5 ?_ | refine lA hp rfl (zb rfl) zY aa5 ?_) | ((refine zf _ _ _ rfl ?_); (first | refine sO hp rfl (zb rfl) za1 aa5 ?_ | refine sA hp rfl (zb rfl) (zb rfl) zY aa5 ?_ | refine sG hp rfl (zb rfl) (zb rfl) zY aa5 ?_); clear hp; intro w1 hp; simp only [spl, z0a, z0b] at hp)); simp only [ze, zd, z0b, z0a]))
   clear g2 hlj hkj
   replace hp := hp.kp (L' := ⟨bH, [.int .i64 od, .slice oa os.length oc, .int .i64 nx, .int .i64 t0, .int .i64 t1, .int .i64 t2, .int .i64 t3, .slice fa fs.length fc, .slice ra rs.length rc], 50, 9⟩ :: (RO ++ (RF ++ (M ++ (RR ++ K)))))
   obtain ⟨KK, hKK⟩ : ∃ KK, RR ++ K = KK := ⟨_, rfl⟩
   rw [hKK] at hp
   have HKK := z0j hKK
   clear hKK HR
   go_loopg [3] os.length (fun k iv wr => ∃ (q : Nat) (cells : List Value) (RO Md Mr : List Blk), k + q = os.length ∧ iv = .int .i64 q ∧ Hid (zH 126 5 (.slice oa os.length oc) os.length cells RO) ∧ Hid (zhL os q cells) ∧ Hid (zdZ (os.drop q) Mr) ∧
    Hp B w0 wr (⟨bH, [.int .i64 od, .slice oa os.length oc, .int .i64 nx, .int .i64 t0, .int .i64 t1, .int .i64 t2, .int .i64 t3, .slice fa fs.length fc, .slice ra rs.length rc], 50, 9⟩ :: (RO ++ (RF ++ (Md ++ (Mr ++ KK))))))
   case atStart => exact ⟨0, os.flatMap obV, RO, [], M, by omega, rfl, HO, HHD, by rw [List.drop_zero]; exact HM, hp⟩
   case round =>
    clear hp HO HM HHD
    obtain ⟨q, cells, RO, Md, Mr, hkq, rfl, HO, HHD, HM, hp⟩ := hrel
    by_cases hlq : q < os.length
    ·obtain ⟨x, hj⟩ : ∃ x, os[q]? = some x := ⟨_, List.getElem?_eq_getElem hlq⟩
     obtain ⟨go, rfl, _, _, rfl, hcl⟩ := HO.out.own (by omega)
     have hh1 := HHD.out q x (Nat.le_refl _) hj
     obtain ⟨hs1, hs2⟩ := HSM.out x (List.mem_of_getElem? hj)
     have hmr := HM.out
     rw [List.drop_eq_getElem_cons hlq, show os[q] = x by rw [List.getElem?_eq_getElem hlq] at hj; injection hj] at hmr
     generalize hdd : os.drop (q + 1) = dd at hmr
     cases hmr with
     | @cons _ _ R M' hR hM' =>
     obtain ⟨Rw, Rl, rfl, h1, h2⟩ := hR
     obtain ⟨xh, xp, xo, wa, ws, wc, la, ls, lc⟩ := x
     simp only at h1 h2 hh1 hs1 hs2
     have HW := z0j h1
     have HM2 : Hid (zdZ (os.drop (q + 1)) M') := z0j (by rw [hdd]; exact hM')
     have HQH : Hid (q * 5 < cells.length) := z0j (by omega)
     have HNO := z0j (zeC HO.out (q := q * 5) (by omega) (.int .i64 777))
     have HNH : Hid (zhL os (q + 1) (cells.set (q * 5) (.int .i64 777))) := z0j (fun i o hi ho => by
      rw [List.getElem?_set_ne (by omega)]
      exact HHD.out i o (by omega) ho)
     have HX1 : Hid ((cells.set (q * 5) (.int .i64 777))[q * 5 + 3]? = some (.slice wa ws.length wc)) := z0j (by rw [List.getElem?_set_ne (by omega)]; exact hh1)
     have f1 : (0 : Int) ≤ (q : Int) := by omega
     have f2 : (q : Int) < (os.length : Int) := by omega
     clear hdd h1 h2 hh1 hM' HM hj hcl HHD HO
     simp only [z0f, z0e] at hp
     go_wp2_with (first | ((refine zf 3 _ _ rfl ?_); refine sO hp rfl (zb rfl) zw at1 ?_ (hlen := HQH.out); clear hp; intro w1 hp; simp only [z0b, z0a] at hp; simp only [ze, zd, z0b, z0a]) | go_skip | ((first | ((refine zi _ _ rfl ?_); refine lB hp rfl (zb rfl) rfl ?_; clear hp; intro b w1 hp) | ((refine zg _ _ rfl ?_); first | refine lO hp rfl (zb rfl) za1 aa5 ?_ | refine lA hp rfl (zb rfl) zY aa5 ?_) | ((refine zf _ _ _ rfl ?_); (first | refine sO hp rfl (zb rfl) za1 aa5 ?_ | refine sA hp rfl (zb rfl) (zb rfl) zY aa5 ?_ | refine sG hp rfl (zb rfl) (zb rfl) zY aa5 ?_); clear hp; intro w1 hp; simp only [spl, z0a, z0b] at hp)); simp only [ze, zd, z0b, z0a]))
     obtain ⟨cells2, hc2⟩ : ∃ c2, cells.set (q * 5) (.int .i64 777) = c2 := ⟨_, rfl⟩
     rw [hc2] at hp HNO HNH HX1
     clear hc2
     go_loopg [4] ws.length (fun k jv wr => ∃ (j : Nat) (cs : List Value) (Rw : List Blk), k + j = ws.length ∧ jv = .int .i64 j ∧ Hid (zH 3 1 (.slice wa ws.length wc) ws.length cs Rw) ∧
      Hp B w0 wr (⟨bH, [.int .i64 od, .slice (some ⟨go, 0, none⟩) os.length oc, .int .i64 nx, .int .i64 t0, .int .i64 t1, .int .i64 t2, .int .i64 t3, .slice fa fs.length fc, .slice ra rs.length rc], 50, 9⟩ :: ⟨go, cells2, 126, oc * 5⟩ :: (Rw ++ (Rl ++ (RF ++ (Md ++ (M' ++ KK)))))))
     case atStart => exact ⟨0, _, Rw, by omega, rfl, HW, hp.kp⟩
     case round =>
      clear hp HW
      obtain ⟨j, cs, Rw, hkj, rfl, HW, hp⟩ := hrel
      have HXR := HX1
      by_cases hlj : j < ws.length
      ·obtain ⟨gw, rfl, _, _, rfl, hcl⟩ := HW.out.own (by omega)
       have HQL : Hid (j < cs.length) := z0j (by omega)
       have HNW := z0j (zeC HW.out (q := j) (by omega) (.int .i64 777))
       have g1 : (0 : Int) ≤ (j : Int) := by omega
       have g2 : (j : Int) < (ws.length : Int) := by omega
       clear hcl
       simp only [z0f, z0e] at hp
       go_wp2_with (first | ((refine zg 122 _ rfl ?_); refine lO hp rfl (zb rfl) Za at1 ?_ (hv := HXR.out); simp only [ze, zd, z0b, z0a]) | ((refine zf 3 _ _ rfl ?_); refine sO hp rfl (zb rfl) zw at2 ?_ (hlen := HQL.out); clear hp; intro w1 hp; simp only [z0b, z0a] at hp; simp only [ze, zd, z0b, z0a]) | go_skip | ((first | ((refine zi _ _ rfl ?_); refine lB hp rfl (zb rfl) rfl ?_; clear hp; intro b w1 hp) | ((refine zg _ _ rfl ?_); first | refine lO hp rfl (zb rfl) za1 aa5 ?_ | refine lA hp rfl (zb rfl) zY aa5 ?_) | ((refine zf _ _ _ rfl ?_); (first | refine sO hp rfl (zb rfl) za1 aa5 ?_ | refine sA hp rfl (zb rfl) (zb rfl) zY aa5 ?_ | refine sG hp rfl (zb rfl) (zb rfl) zY aa5 ?_); clear hp; intro w1 hp; simp only [spl, z0a, z0b] at hp)); simp only [ze, zd, z0b, z0a]))
       go_roundg (gk - 1)
       case measure => omega
       case rel => exact ⟨j + 1, _, _, by omega, by go_num, HNW, hp⟩
      ·obtain rfl : j = ws.length := by omega
       have g2 : decide ((ws.length : Int) < (ws.length : Int)) = false := by simp
       go_wp2_with (first | ((refine zg 122 _ rfl ?_); refine lO hp rfl (zb rfl) Za at1 ?_ (hv := HXR.out); simp only [ze, zd, z0b, z0a]) | go_skip | ((first | ((refine zi _ _ rfl ?_); refine lB hp rfl (zb rfl) rfl ?_; clear hp; intro b w1 hp) | ((refine zg _ _ rfl ?_); first | refine lO hp rfl (zb rfl) za1 aa5 ?_ | refine lA hp rfl (zb rfl) zY aa5 ?_) | ((refine zf _ _ _ rfl ?_); (first | refine sO hp rfl (zb rfl) za1 aa5 ?_ | refine sA hp rfl (zb rfl) (zb rfl) zY aa5 ?_ | refine sG hp rfl (zb rfl) (zb rfl) zY aa5 ?_); clear hp; intro w1 hp; simp only [spl, z0a, z0b] at hp)); simp only [ze, zd, z0b, z0a]))
       go_roundg (os.length - (q + 1))
       case measure => omega
       case rel => exact ⟨q + 1, _, _, Md ++ (Rl ++ Rw), M', by omega, by go_num, HNO, HNH, HM2, hp.kp⟩
    ·obtain rfl : q = os.length := by omega
     have f2 : decide ((os.length : Int) < (os.length : Int)) = false := by simp
     clear HHD HM
     go_wp2_with (first | go_skip | ((first | ((refine zi _ _ rfl ?_); refine lB hp rfl (zb rfl) rfl ?_; clear hp; intro b w1 hp) | ((refine zg _ _ rfl ?_); first | refine lO hp rfl (zb rfl) za1 aa5 ?_ | refine lA hp rfl (zb rfl) zY aa5 ?_) | ((refine zf _ _ _ rfl ?_); (first | refine sO hp rfl (zb rfl) za1 aa5 ?_ | refine sA hp rfl (zb rfl) (zb rfl) zY aa5 ?_ | refine sG hp rfl (zb rfl) (zb rfl) zY aa5 ?_); clear hp; intro w1 hp; simp only [spl, z0a, z0b] at hp)); simp only [ze, zd, z0b, z0a]))
     clear f2 hlq hkq
     replace hp := hp.kp (L' := ⟨bH, [.int .i64 od, .slice oa os.length oc, .int .i64 nx, .int .i64 t0, .int .i64 t1, .int .i64 t2, .int .i64 t3, .slice fa fs.length fc, .slice ra rs.length rc], 50, 9⟩ :: (RF ++ (RO ++ (Md ++ (Mr ++ KK)))))
     go_loopg [5] fs.length (fun k jv wr => ∃ (j : Nat) (cs : List Value) (RF : List Blk), k + j = fs.length ∧ jv = .int .i64 j ∧ Hid (zH 124 2 (.slice fa fs.length fc) fs.length cs RF) ∧ Hp B w0 wr (⟨bH, [.int .i64 od, .slice oa os.length oc, .int .i64 nx, .int .i64 t0, .int .i64 t1, .int .i64 t2, .int .i64 t3, .slice fa fs.length fc, .slice ra rs.length rc], 50, 9⟩ :: (RF ++ (RO ++ (Md ++ (Mr ++ KK))))))
     case atStart => exact ⟨0, _, RF, by omega, rfl, HF, hp⟩
     case round =>
      clear hp HF
      obtain ⟨j, cs, RF, hkj, rfl, HF, hp⟩ := hrel
      by_cases hlj : j < fs.length
      ·obtain ⟨gf, rfl, _, _, rfl, hcl⟩ := HF.out.own (by omega)
       have HQH : Hid (j * 2 < cs.length) := z0j (by omega)
       have HNW := z0j (zeC HF.out (q := j * 2) (by omega) (.int .i64 777))
       have g1 : (0 : Int) ≤ (j : Int) := by omega
       have g2 : (j : Int) < (fs.length : Int) := by omega
       clear hcl
       go_wp2_with (first | ((refine zf 3 _ _ rfl ?_); refine sO hp rfl (zb rfl) zw at1 ?_ (hlen := HQH.out); clear hp; intro w1 hp; simp only [z0b, z0a] at hp; simp only [ze, zd, z0b, z0a]) | go_skip | ((first | ((refine zi _ _ rfl ?_); refine lB hp rfl (zb rfl) rfl ?_; clear hp; intro b w1 hp) | ((refine zg _ _ rfl ?_); first | refine lO hp rfl (zb rfl) za1 aa5 ?_ | refine lA hp rfl (zb rfl) zY aa5 ?_) | ((refine zf _ _ _ rfl ?_); (first | refine sO hp rfl (zb rfl) za1 aa5 ?_ | refine sA hp rfl (zb rfl) (zb rfl) zY aa5 ?_ | refine sG hp rfl (zb rfl) (zb rfl) zY aa5 ?_); clear hp; intro w1 hp; simp only [spl, z0a, z0b] at hp)); simp only [ze, zd, z0b, z0a]))
       go_roundg (gk - 1)
       case measure => omega
       case rel => exact ⟨j + 1, _, _, by omega, by go_num, HNW, hp⟩
      ·obtain rfl : j = fs.length := by omega
       have g2 : decide ((fs.length : Int) < (fs.length : Int)) = false := by simp
       go_wp2_with (first | go_skip | ((first | ((refine zi _ _ rfl ?_); refine lB hp rfl (zb rfl) rfl ?_; clear hp; intro b w1 hp) | ((refine zg _ _ rfl ?_); first | refine lO hp rfl (zb rfl) za1 aa5 ?_ | refine lA hp rfl (zb rfl) zY aa5 ?_) | ((refine zf _ _ _ rfl ?_); (first | refine sO hp rfl (zb rfl) za1 aa5 ?_ | refine sA hp rfl (zb rfl) (zb rfl) zY aa5 ?_ | refine sG hp rfl (zb rfl) (zb rfl) zY aa5 ?_); clear hp; intro w1 hp; simp only [spl, z0a, z0b] at hp)); simp only [ze, zd, z0b, z0a]))
       rw [← HKK.out] at hp
       exact bodyPost_end (results_none Tryz.results49 _ _ _) rfl ⟨rfl, RF ++ (RO ++ (Md ++ (Mr ++ RR))), hp.kp⟩
open Go.RowKit
theorem zgp {ty : TypeId} {k : Nat} (h : zac Tryz.prog ty k = true := by with_reducible first | exact zY | exact zL | exact zl) : zac Tryz.prog ty k = true := h
theorem ziS {ty : TypeId} (h : zN Tryz.prog ty = true := by with_reducible first | exact zw | exact Zd | exact Zb | exact Zc | exact zat | exact zaa) : zN Tryz.prog ty = true := h
theorem ziq (o : Int) (h : ZF o = true) (w : World) : Calls Tryz.prog 127 #[.int .i64 o] w (ziM w (zc8 o) 0) := by
 have hp := Hp.start w
 have K := z0j (zjT o h)
 clear h
 go_enter Tryz.func127, Tryz.ntmps127
 go_wp2_with (first | (go_at_call 81; ((with_reducible refine (K.out _).mono ?_); rintro e w1 ⟨⟨od, oa, os, oc, nx, t0, t1, t2, t3, fa, fs, fc⟩, R, rfl, hsm, hk, hp5⟩; replace hp := hp.join hp5; have HSM := z0j hsm; have HK := z0j hk; clear hp5 hsm hk; simp only [z0f, z0e, hvL] at hp ⊢)) | go_skip | ((first | ((refine zh _ rfl ?_); refine lZ hp rfl (by with_reducible first | exact Z7 | exact zT) ?_; clear hp; intro b w1 hp) | ((refine zi _ _ rfl ?_); refine lB hp rfl (zb rfl) rfl ?_; clear hp; intro b w1 hp) | ((refine zg _ _ rfl ?_); first | refine lO hp rfl (zb rfl) ziS zq ?_ | refine lA hp rfl (zb rfl) zgp zq ?_) | ((refine zf _ _ _ rfl ?_); (first | refine sO hp rfl (zb rfl) ziS zq ?_ | refine sA hp rfl (zb rfl) (zb rfl) zgp zq ?_ | refine sG hp rfl (zb rfl) (zb rfl) zgp zq ?_); clear hp; intro w1 hp; simp only [spl, z0a, z0b] at hp) | ((refine zm _ _ _ rfl ?_); refine lS hp rfl (by intro w; go_simp; rfl) ?_; clear hp; intro b w1 hp; simp only [z0g, z0h, Nat.reduceAdd] at hp)); simp only [ze, zd, z0b, z0a]))
 exact bodyPost_ret (zx (rs := [.cell 2 50, .tmp 3]) Tryz.results127 (.cell rfl (hp.loadAgg zY at1 0 _ (by rfl) (by rfl)) (.tmp rfl .nil))) rfl ⟨⟨⟨od, oa, os, oc, nx, t0, t1, t2, t3, fa, fs, fc⟩, none, [], 0⟩, R, rfl, ⟨HSM.out, rfl⟩, (HK.out.mono (fun _ h => h) (fun w h => ⟨h, zD.nil _ _⟩)), hp.tail.tail⟩
end Go.Proofs.YtaafajaadfgaoaaGreat
