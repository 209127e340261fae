import Derived.Test.YtjcbpfbifbfkcaaGreatSc33
set_option linter.unusedSimpArgs false
set_option linter.unusedVariables false
set_option maxRecDepth 100000
set_option maxHeartbeats 60000000
namespace Go.Proofs.YtjcbpfbifbfkcaaGreat
open Go.RowKit
theorem zbd {ty : TypeId} {k : Nat} (h : ZU Tryz.prog ty k = true := by with_reducible first | exact zH | exact Zu | exact zaa) : ZU Tryz.prog ty k = true := h
theorem zk0 {ty : TypeId} (h : zF Tryz.prog ty = true := by with_reducible first | exact zm | exact Zv | exact Zh | exact zaX | exact z7) : zF Tryz.prog ty = true := h
def zjo (w : World) (c : Int) (e : Ending) (w' : World) : Prop := e = .returned (.tuple #[.agg #[.int .i64 0, .slice none 0 0, .int .i64 0, .int .i64 0, .int .i64 0, .int .i64 0, .int .i64 0, .slice none 0 0, .slice none 0 0], .int .i64 c]) ∧ Below w.heap.size w w'
theorem zj5 (vw nm bs : Int) (im : ByteArray) (ea : Option Addr) (es : List Env) (ec : Nat) (n : Int) (hb : okC ⟨vw, nm, bs, im, ea, es, ec⟩ = false) (hs : Kv.Small ⟨vw, nm, bs, im, ea, es, ec⟩) (w : World) (ha : zt w ea (es.flatMap Z1)) :
  Calls Tryz.prog 42 #[.agg #[.int .i64 vw, .int .i64 nm, .int .i64 bs, .string im, .slice ea es.length ec], .int .i64 n] w (zjo w 1) := by
 have hp := Hp.start w
 have HB := z0j hb
 have HSS := z0j hs
 have HA := z0j ha
 clear hb hs ha
 go_enter Tryz.func42, Tryz.ntmps42
 go_wp2_with (first | (go_at_call 21; (with_reducible refine (za1 vw nm bs im ea es ec _ HB.out HSS.out _ (HA.out.below hp.below)).mono ?_); rintro e w1 ⟨rfl, hb⟩; replace hp := hp.call hb; clear hb; simp only [if_true, Bool.false_eq_true, if_false]) | go_skip | ((first | ((refine zf _ rfl ?_); refine lZ hp rfl (by with_reducible first | exact Za | exact ZH) ?_; clear hp; intro b w1 hp) | ((refine zi _ _ rfl ?_); refine lB hp rfl (za rfl) rfl ?_; clear hp; intro b w1 hp) | ((refine ze _ _ rfl ?_); first | refine lO hp rfl (za rfl) zk0 aa5 ?_ | refine lA hp rfl (za rfl) zbd aa5 ?_ | refine lR hp rfl (za rfl) zbd HX.out ?_) | ((refine zd _ _ _ rfl ?_); (first | refine sA hp rfl (za rfl) (za rfl) zbd aa5 ?_ | refine sG hp rfl (za rfl) (za rfl) zbd aa5 ?_); clear hp; intro w1 hp; simp only [spl, z0a, z0b] at hp)); simp only [zc, zb, z0b, z0a]))
 exact bodyPost_ret (zB (rs := [.cell 4 67, .tmp 5]) Tryz.results42 (.cell rfl (hp.loadAgg Zu at0 0 _ (by rfl) (by rfl)) (.tmp rfl .nil))) rfl ⟨rfl, hp.below⟩
theorem zgJ {x : Kv} (h : okC x = true) : 0 ≤ x.bs ∧ x.bs ≤ 900000000 := by
 unfold okC at h
 simp only [Bool.and_eq_true, inM, decide_eq_true_eq] at h
 exact h.2.2.1
theorem zh8 (vw nm bs : Int) (im : ByteArray) (ea : Option Addr) (es : List Env) (ec : Nat) (n : Int) (hb : okC ⟨vw, nm, bs, im, ea, es, ec⟩ = true) (hg : n < bs ∨ bs + es.length < n) (hs : Kv.Small ⟨vw, nm, bs, im, ea, es, ec⟩) (w : World) (ha : zt w ea (es.flatMap Z1)) :
  Calls Tryz.prog 42 #[.agg #[.int .i64 vw, .int .i64 nm, .int .i64 bs, .string im, .slice ea es.length ec], .int .i64 n] w (zjo w 140) := by
 have hp := Hp.start w
 have hok := zgJ hb
 simp only at hok
 have hl : es.length ≤ 100000 := hs.1
 have e0 : wrap64 (bs + es.length) = bs + es.length := by unfold wrap64; omega
 have HB := z0j hb
 have HSS := z0j hs
 have HA := z0j ha
 by_cases h1 : n < bs
 ·have e1 : decide (n < bs) = true := by simpa using h1
  clear hb hs ha hg h1 hok
  go_enter Tryz.func42, Tryz.ntmps42
  go_wp2_with (first | (go_at_call 21; (with_reducible refine (za1 vw nm bs im ea es ec _ HB.out HSS.out _ (HA.out.below hp.below)).mono ?_); rintro e w1 ⟨rfl, hb⟩; replace hp := hp.call hb; clear hb; simp only [if_true, Bool.false_eq_true, if_false]) | (go_at_call 71; (with_reducible refine (Zc vw nm bs im _ _ _ _).mono ?_); rintro e w1 ⟨rfl, hb⟩; replace hp := hp.call hb; clear hb) | go_skip | ((first | ((refine zf _ rfl ?_); refine lZ hp rfl (by with_reducible first | exact Za | exact ZH) ?_; clear hp; intro b w1 hp) | ((refine zi _ _ rfl ?_); refine lB hp rfl (za rfl) rfl ?_; clear hp; intro b w1 hp) | ((refine ze _ _ rfl ?_); first | refine lO hp rfl (za rfl) zk0 aa5 ?_ | refine lA hp rfl (za rfl) zbd aa5 ?_ | refine lR hp rfl (za rfl) zbd HX.out ?_) | ((refine zd _ _ _ rfl ?_); (first | refine sA hp rfl (za rfl) (za rfl) zbd aa5 ?_ | refine sG hp rfl (za rfl) (za rfl) zbd aa5 ?_); clear hp; intro w1 hp; simp only [spl, z0a, z0b] at hp)); simp only [zc, zb, z0b, z0a]))
  exact bodyPost_ret (zB (rs := [.cell 4 67, .tmp 5]) Tryz.results42 (.cell rfl (hp.loadAgg Zu at0 0 _ (by rfl) (by rfl)) (.tmp rfl .nil))) rfl ⟨rfl, hp.below⟩
 ·have e1 : decide (n < bs) = false := by simpa using h1
  have e2 : decide (bs + (es.length : Int) < n) = true := by simp; omega
  clear hb hs ha hg h1 hok
  go_enter Tryz.func42, Tryz.ntmps42
  go_wp2_with (first | (go_at_call 21; (with_reducible refine (za1 vw nm bs im ea es ec _ HB.out HSS.out _ (HA.out.below hp.below)).mono ?_); rintro e w1 ⟨rfl, hb⟩; replace hp := hp.call hb; clear hb; simp only [if_true, Bool.false_eq_true, if_false]) | (go_at_call 71; (with_reducible refine (Zc vw nm bs im _ _ _ _).mono ?_); rintro e w1 ⟨rfl, hb⟩; replace hp := hp.call hb; clear hb) | go_skip | ((first | ((refine zf _ rfl ?_); refine lZ hp rfl (by with_reducible first | exact Za | exact ZH) ?_; clear hp; intro b w1 hp) | ((refine zi _ _ rfl ?_); refine lB hp rfl (za rfl) rfl ?_; clear hp; intro b w1 hp) | ((refine ze _ _ rfl ?_); first | refine lO hp rfl (za rfl) zk0 aa5 ?_ | refine lA hp rfl (za rfl) zbd aa5 ?_ | refine lR hp rfl (za rfl) zbd HX.out ?_) | ((refine zd _ _ _ rfl ?_); (first | refine sA hp rfl (za rfl) (za rfl) zbd aa5 ?_ | refine sG hp rfl (za rfl) (za rfl) zbd aa5 ?_); clear hp; intro w1 hp; simp only [spl, z0a, z0b] at hp)); simp only [zc, zb, z0b, z0a]))
  exact bodyPost_ret (zB (rs := [.cell 4 67, .tmp 5]) Tryz.results42 (.cell rfl (hp.loadAgg Zu at0 0 _ (by rfl) (by rfl)) (.tmp rfl .nil))) rfl ⟨rfl, hp.below⟩
def zr7 (w : World) (s : Sv) (e : Ending) (w' : World) : Prop := ∃ y R, e = .returned (.tuple #[.agg (svL y).toArray, .int .i64 0]) ∧ y.Sm s ∧ ZF R (fun w => y.Is w) ∧ Hp w.heap.size w w' R
theorem zfF : ∀ {l : List Env} {nm v : Int}, ze6 nm v l = true → ∀ e ∈ l, zdE e = true
 | [], _, _, _, e, he => by cases he
 | x :: r, nm, v, h, e, he => by
  unfold ze6 at h
  simp only [Bool.and_eq_true] at h
  rcases List.mem_cons.1 he with rfl | he
  ·exact h.1
  ·exact zfF h.2.2 e he
theorem zhi {x : Kv} (h : okC x = true) : ∀ e ∈ x.es, zdE e = true := by
 unfold okC at h
 simp only [Bool.and_eq_true] at h
 exact zfF h.2.2.2.2.2.1
theorem SvO.kept2 {y : Sv} {R : List Blk} (h : SvO y R) : ZF R fun w => y.Is w := by
 obtain ⟨RR, RH, rfl, h1, h2⟩ := h
 obtain ⟨a, c, hv, hk⟩ := h1.kept
 injection hv with e1 e2 e3
 rw [← e1] at hk
 intro B w0 w L hp hm
 exact ⟨h2.kept.at hp (fun p hp2 => hm p (List.mem_append_right _ hp2)), hk.at hp (fun p hp2 => hm p (List.mem_append_left _ hp2))⟩
theorem ziV (vw nm bs : Int) (im : ByteArray) (ea : Option Addr) (es : List Env) (ec : Nat) (n : Int) (hb : okC ⟨vw, nm, bs, im, ea, es, ec⟩ = true) (h1 : bs ≤ n) (h2 : n ≤ bs + es.length) (hec : es.length ≤ ec) (s0 : Sv) (hs0 : zab (zcT im) = some s0) (hst : StR s0) (hs : Kv.Small ⟨vw, nm, bs, im, ea, es, ec⟩) (w : World) (ha : zt w ea (es.flatMap Z1)) :
  Calls Tryz.prog 42 #[.agg #[.int .i64 vw, .int .i64 nm, .int .i64 bs, .string im, .slice ea es.length ec], .int .i64 n] w (zr7 w (zm0 s0 (es.take (n - bs).toNat))) := by
 have hp := Hp.start w
 have hok := zgJ hb
 simp only at hok
 have hl : es.length ≤ 100000 := hs.1
 have e0 : wrap64 (bs + es.length) = bs + es.length := by unfold wrap64; omega
 have e1 : decide (n < bs) = false := by simpa using h1
 have e2 : decide (bs + (es.length : Int) < n) = false := by simp; omega
 obtain ⟨k, hk⟩ : ∃ k : Nat, n - bs = k := ⟨(n - bs).toNat, by omega⟩
 have e3 : wrap64 (n - bs) = (k : Int) := by rw [← hk]; unfold wrap64; omega
 have hkl : k ≤ es.length := by omega
 rw [show (n - bs).toNat = k by omega]
 have f1 : (0 : Int) ≤ (k : Int) := by omega
 have f2 : (k : Int) ≤ (ec : Int) := by omega
 have HB := z0j hb
 have HSS := z0j hs
 have HA := z0j ha
 have HS := z0j hs0
 have HIM : Hid (im.size ≤ 1000000000) := z0j (by have := hs.2; simp only at this; omega)
 clear hb hs ha h1 h2 hok hk hs0
 go_enter Tryz.func42, Tryz.ntmps42
 go_wp2_with (first | (go_at_call 21; (with_reducible refine (za1 vw nm bs im ea es ec _ HB.out HSS.out _ (HA.out.below hp.below)).mono ?_); rintro e w1 ⟨rfl, hb⟩; replace hp := hp.call hb; clear hb; simp only [if_true, Bool.false_eq_true, if_false]) | (go_at_call 71; (with_reducible refine (Zc vw nm bs im _ _ _ _).mono ?_); rintro e w1 ⟨rfl, hb⟩; replace hp := hp.call hb; clear hb) | ((refine ZB _ _ _ rfl ?_); refine Z2 hp 9 74 5 _ rfl wy Tryz.underlying9 Tryz.underlying74 Tryz.underlying5 _ (za rfl) ?_; clear hp; intro ad cb w1 hcb had hp; have HCB := z0j hcb; have HAD := z0j had; clear hcb had; simp only [zc, zb, z0b, z0a]) | (go_at_call 70; (with_reducible refine (zjm im _ HS.out ad cb HCB.out HIM.out _ HAD.out).mono ?_); rintro e w1 ⟨odX, oaX, osX, ocX, nxX, t0X, t1X, t2X, t3X, faX, fsX, fcX, raX, rsX, rcX, RX, rfl, hsm, hso, hpn⟩; replace hp := hp.join hpn; have HSX := z0j hsm; have HSO := z0j hso; clear hpn hsm hso; simp only [z0f, z0e] at hp) | go_skip | ((first | ((refine zf _ rfl ?_); refine lZ hp rfl (by with_reducible first | exact Za | exact ZH) ?_; clear hp; intro b w1 hp) | ((refine zi _ _ rfl ?_); refine lB hp rfl (za rfl) rfl ?_; clear hp; intro b w1 hp) | ((refine ze _ _ rfl ?_); first | refine lO hp rfl (za rfl) zk0 aa5 ?_ | refine lA hp rfl (za rfl) zbd aa5 ?_ | refine lR hp rfl (za rfl) zbd HX.out ?_) | ((refine zd _ _ _ rfl ?_); (first | refine sA hp rfl (za rfl) (za rfl) zbd aa5 ?_ | refine sG hp rfl (za rfl) (za rfl) zbd aa5 ?_); clear hp; intro w1 hp; simp only [spl, z0a, z0b] at hp)); simp only [zc, zb, z0b, z0a]))
 obtain ⟨bS, hbS⟩ := hp.id0
 obtain ⟨b4, hb4⟩ := hp.id1
 obtain ⟨bk, hbk⟩ := hp.id2
 subst hbS hb4 hbk
 have HST := z0j hst
 have hmay : ∀ e ∈ es, zdE e = true := zhi HB.out
 have HMAY := z0j hmay
 clear hst hmay
 simp only [e3]
 go_loopg [42] k (fun kq i wr => ∃ (q : Nat) (y : Sv) (R : List Blk), kq + q = k ∧ i = .int .i64 q ∧ Hid (y.Sm (zm0 s0 (es.take q))) ∧ Hid (ZF R fun w => y.Is w) ∧ Hp w.heap.size w wr (⟨bS, svL y, 67, 9⟩ :: ⟨b4, [.int .i64 0, .slice none 0 0, .int .i64 0, .int .i64 0, .int .i64 0, .int .i64 0, .int .i64 0, .slice none 0 0, .slice none 0 0], 67, 9⟩ :: ⟨bk, [.int .i64 vw, .int .i64 nm, .int .i64 bs, .string im, .slice ea es.length ec], 28, 5⟩ :: R))
 case atStart => exact ⟨0, ⟨⟨odX, oaX, osX, ocX, nxX, t0X, t1X, t2X, t3X, faX, fsX, fcX⟩, raX, rsX, rcX⟩, RX, by omega, rfl, z0j HSX.out, z0j HSO.out.kept2, hp⟩
 case round =>
  clear hp
  obtain ⟨q, y, R, hkq, rfl, HY, HKY, hp⟩ := hrel
  by_cases hlt : q < k
  ·obtain ⟨bq, off, rfl, hx⟩ := HA.out.elems 11 zaB (by omega) (by omega)
   have hj := List.getElem?_eq_getElem (l := es) (i := q) (by omega)
   replace hx := hx q _ hj
   have htk : es.take (q + 1) = es.take q ++ [es[q]] := by rw [List.take_add_one, hj]; rfl
   clear hj
   have hme := HMAY.out _ (List.getElem_mem (l := es) (n := q) (by omega))
   generalize es[q]'(by omega) = en at hx htk hme
   obtain ⟨nu, vi, cl, sq, ⟨kk, hh, ii, nn, cc, vv, tt⟩⟩ := en
   simp only [Z1, opL, z0f, z0e] at hx
   have HX := z0j hx
   have hright : StR (zm0 s0 (es.take q)) := zeD HST.out (fun e he => HMAY.out e (List.mem_of_mem_take he))
   have HSY := z0j (hright.small.sm HY.out.symm)
   obtain ⟨rr, hd⟩ : ∃ rr, Z4 y ⟨nu, vi, cl, sq, ⟨kk, hh, ii, nn, cc, vv, tt⟩⟩ = rr := ⟨_, rfl⟩
   have hnext : rr.1.Sm (zm0 s0 (es.take (q + 1))) := by
    rw [htk, zfb, ← hd]
    exact (zhg HY.out _).2
   have HNX := z0j hnext
   obtain ⟨⟨odY, oaY, osY, ocY, nxY, t0Y, t1Y, t2Y, t3Y, faY, fsY, fcY⟩, raY, rsY, rcY⟩ := y
   obtain ⟨ss, rcc, rvv⟩ := rr
   have HD1 := z0j hd
   have f3 : (0 : Int) ≤ (q : Int) := by omega
   have f4 : (q : Int) < (k : Int) := by omega
   clear hx hd hnext hright htk hme HY
   simp only [svL, hvL, z0f, z0e] at hp
   go_wp2_with (first | (go_at_call 47; (with_reducible refine (zjq odY oaY osY ocY nxY t0Y t1Y t2Y t3Y faY fsY fcY raY rsY rcY nu vi cl sq kk hh ii nn cc vv tt _ HD1.out HSY.out _ (HKY.out.at hp (fun p hm => by simp [hm]))).mono ?_); rintro e w1 ⟨yA, RA, rfl, hyA, hkA, _, hpA⟩; replace hp := hp.join hpA; have HYA := z0j hyA; have HKA := z0j hkA; clear hpA hyA hkA; simp only [z0f, z0e, z0i] at hp) | go_skip | ((first | ((refine zf _ rfl ?_); refine lZ hp rfl (by with_reducible first | exact Za | exact ZH) ?_; clear hp; intro b w1 hp) | ((refine zi _ _ rfl ?_); refine lB hp rfl (za rfl) rfl ?_; clear hp; intro b w1 hp) | ((refine ze _ _ rfl ?_); first | refine lO hp rfl (za rfl) zk0 aa5 ?_ | refine lA hp rfl (za rfl) zbd aa5 ?_ | refine lR hp rfl (za rfl) zbd HX.out ?_) | ((refine zd _ _ _ rfl ?_); (first | refine sA hp rfl (za rfl) (za rfl) zbd aa5 ?_ | refine sG hp rfl (za rfl) (za rfl) zbd aa5 ?_); clear hp; intro w1 hp; simp only [spl, z0a, z0b] at hp)); simp only [zc, zb, z0b, z0a]))
   go_roundg (gk - 1)
   case measure => omega
   case rel => exact ⟨q + 1, yA, RA, by omega, by go_num, z0j (HYA.out.trans HNX.out), HKA, hp.kp⟩
  ·obtain rfl : q = k := by omega
   obtain ⟨⟨odY, oaY, osY, ocY, nxY, t0Y, t1Y, t2Y, t3Y, faY, fsY, fcY⟩, raY, rsY, rcY⟩ := y
   have f3 : decide ((q : Int) < (q : Int)) = false := by simp
   simp only [svL, hvL, z0f, z0e] at hp
   clear hkq hlt
   go_wp2_with (first | go_skip | ((first | ((refine zf _ rfl ?_); refine lZ hp rfl (by with_reducible first | exact Za | exact ZH) ?_; clear hp; intro b w1 hp) | ((refine zi _ _ rfl ?_); refine lB hp rfl (za rfl) rfl ?_; clear hp; intro b w1 hp) | ((refine ze _ _ rfl ?_); first | refine lO hp rfl (za rfl) zk0 aa5 ?_ | refine lA hp rfl (za rfl) zbd aa5 ?_ | refine lR hp rfl (za rfl) zbd HX.out ?_) | ((refine zd _ _ _ rfl ?_); (first | refine sA hp rfl (za rfl) (za rfl) zbd aa5 ?_ | refine sG hp rfl (za rfl) (za rfl) zbd aa5 ?_); clear hp; intro w1 hp; simp only [spl, z0a, z0b] at hp)); simp only [zc, zb, z0b, z0a]))
   exact bodyPost_ret (zB (rs := [.cell 4 67, .tmp 5]) Tryz.results42 (.cell rfl (hp.loadAgg Zu at1 0 _ (by rfl) (by rfl)) (.tmp rfl .nil))) rfl ⟨⟨⟨odY, oaY, osY, ocY, nxY, t0Y, t1Y, t2Y, t3Y, faY, fsY, fcY⟩, raY, rsY, rcY⟩, R, rfl, HY.out, HKY.out, hp.kp⟩
open Go.RowKit
theorem zi9 {ty : TypeId} {k : Nat} (h : ZU Tryz.prog ty k = true := by with_reducible first | exact zH | exact ziw | exact zaa) : ZU Tryz.prog ty k = true := h
theorem zc0 : zF Tryz.prog 33 = true := by kernel_rfl
theorem zrk : ZU Tryz.prog 108 5 = true := by kernel_rfl
structure Rv where
 kd : Int
 vw : Int
 fr : Int
 nu : Int
 im : ByteArray
 en : Env
 ra : Option Addr
 es : List Env
 rc : Nat
def zb4 (x : Kv) : Int := x.bs + x.es.length
def za0 (x : Kv) (r : Rv) : Int × Kv :=
 if (r.kd = 1 ∨ r.kd = 3 ∨ r.kd = 5) ∧ r.vw < x.vw then (141, x)
 else if r.kd = 1 then (0, { x with vw := r.vw })
 else if r.kd = 2 then (if zgi (zb4 x) 0 [r.en] = true then (0, { x with es := x.es ++ [r.en] }) else (140, x))
 else if r.kd = 3 then (if inM r.fr x.bs (zb4 x) = true ∧ zgi r.fr 0 r.es = true then (0, { x with vw := r.vw, nm := r.vw, es := x.es.take (r.fr - x.bs).toNat ++ r.es }) else (140, x))
 else if r.kd = 4 then (if r.nu ≤ x.bs ∨ zb4 x < r.nu then (140, x) else (0, { x with es := x.es.drop (r.nu - x.bs).toNat, bs := r.nu, im := r.im }))
 else if r.kd = 5 then (if inM r.nu 0 900000000 = true ∧ zgi r.nu 0 r.es = true then (0, { x with vw := r.vw, nm := r.vw, bs := r.nu, im := r.im, es := r.es }) else (140, x))
 else (141, x)
noncomputable def Zy (x : Kv) (r : Rv) : Int × Kv := if (za0 x r).1 = 0 then (if okC (za0 x r).2 = true then (0, (za0 x r).2) else (141, x)) else za0 x r
def zf8 (w0 : World) (bw : Nat) (r : Int × Kv) (TT : List Blk) (e : Ending) (w' : World) : Prop :=
 e = .returned (.int .i64 r.1) ∧ (r.1 = 0 → ∃ a c R, r.2.es.length ≤ c ∧ zI 38 11 (.slice a r.2.es.length c) r.2.es.length (r.2.es.flatMap Z1) R ∧ Hp w0.heap.size w0 w' (⟨bw, [.int .i64 r.2.vw, .int .i64 r.2.nm, .int .i64 r.2.bs, .string r.2.im, .slice a r.2.es.length c], 108, 5⟩ :: (R ++ TT))) ∧ (r.1 ≠ 0 → Hp w0.heap.size w0 w' TT)
theorem ZM {w0 w' : World} {bw : Nat} {c : Int} {x : Kv} {TT : List Blk} (hc : c ≠ 0) (hp : Hp w0.heap.size w0 w' TT) : zf8 w0 bw (c, x) TT (.returned (.int .i64 c)) w' := ⟨rfl, fun h => absurd h hc, fun _ => hp⟩
theorem zbL {w0 w' : World} {bw : Nat} {vw nm bs : Int} {im : ByteArray} {ea : Option Addr} {es : List Env} {ec : Nat} {a : Option Addr} {n c : Nat} {R TT : List Blk} (hc : n ≤ c) (hr : zI 38 11 (.slice a n c) n (es.flatMap Z1) R) (hp : Hp w0.heap.size w0 w' (⟨bw, [.int .i64 vw, .int .i64 nm, .int .i64 bs, .string im, .slice a n c], 108, 5⟩ :: (R ++ TT))) (hn : es.length = n := by rfl) :
  zf8 w0 bw (0, ⟨vw, nm, bs, im, ea, es, ec⟩) TT (.returned (.int .i64 0)) w' := by
 subst hn
 exact ⟨rfl, fun _ => ⟨a, c, R, hc, hr, hp⟩, fun h => absurd rfl h⟩
theorem zcS {x : Kv} (h : okC x = true) : (0 ≤ x.vw ∧ x.vw ≤ 900000000) ∧ (0 ≤ x.nm ∧ x.nm ≤ x.vw) ∧ (0 ≤ x.bs ∧ x.bs ≤ 900000000) ∧ x.es.length ≤ 4000 := by
 unfold okC at h
 simp only [Bool.and_eq_true, inM, decide_eq_true_eq] at h
 exact ⟨h.1, h.2.1, h.2.2.1, h.2.2.2.1⟩
theorem zlt (bw : Nat) (vw nm bs : Int) (im : ByteArray) (ea : Option Addr) (es : List Env) (ec : Nat) (rv rf rn : Int) (rim : ByteArray) (nu vi cl sq kk hh ii nn cc vv tt : Int) (ra : Option Addr) (rs : List Env) (rc : Nat) {R TT : List Blk} {w0 w : World} (hR : zI 38 11 (.slice ea es.length ec) es.length (es.flatMap Z1) R) (hec : es.length ≤ ec) (hes : es.length ≤ 1500) (him : im.size ≤ 1000000) (hrs : rs.length ≤ 1500) (hrc : rs.length ≤ rc) (hri : rim.size ≤ 1000000) (hok : okC ⟨vw, nm, bs, im, ea, es, ec⟩ = true) (kd : Int) (hkd : kd = 1) (hp : Hp w0.heap.size w0 w (⟨bw, [.int .i64 vw, .int .i64 nm, .int .i64 bs, .string im, .slice ea es.length ec], 108, 5⟩ :: (R ++ TT))) (ha : zt w0 ra (rs.flatMap Z1)) : Calls Tryz.prog 63 #[.pointer (some ⟨bw, 0, none⟩), .agg #[.int .i64 kd, .int .i64 rv, .int .i64 rf, .int .i64 rn, .string rim, .int .i64 nu, .int .i64 vi, .int .i64 cl, .int .i64 sq, .int .i64 kk, .int .i64 hh, .int .i64 ii, .int .i64 nn, .int .i64 cc, .int .i64 vv, .int .i64 tt, .slice ra rs.length rc]] w (zf8 w0 bw (Zy ⟨vw, nm, bs, im, ea, es, ec⟩ ⟨kd, rv, rf, rn, rim, ⟨nu, vi, cl, sq, ⟨kk, hh, ii, nn, cc, vv, tt⟩⟩, ra, rs, rc⟩) TT) := by
 subst hkd
 have HR := z0j hR
 by_cases h1 : rv < vw
 ·have hf : Zy ⟨vw, nm, bs, im, ea, es, ec⟩ ⟨1, rv, rf, rn, rim, ⟨nu, vi, cl, sq, ⟨kk, hh, ii, nn, cc, vv, tt⟩⟩, ra, rs, rc⟩ = (141, ⟨vw, nm, bs, im, ea, es, ec⟩) := by unfold Zy za0; simp [h1]
  rw [hf]
  have e1 : decide (rv < vw) = true := by simpa using h1
  clear h1 hf hok hec hes him hrs hrc hri ha hR
  go_enter Tryz.func63, Tryz.ntmps63
  go_wp2_with (first | (go_at_call 71; (with_reducible refine (Zc vw nm bs im _ _ ec _).mono ?_); rintro e w1 ⟨rfl, hb⟩; replace hp := hp.call hb; clear hb) | go_skip | ((first | ((refine zi _ _ rfl ?_); refine lB hp rfl (za rfl) rfl ?_; clear hp; intro b w1 hp) | ((refine ze _ _ rfl ?_); first | refine lO hp rfl (za rfl) (by with_reducible first | exact zm | exact Zh | exact zaX | exact zc0) aa5 ?_ | refine lA hp rfl (za rfl) zi9 aa5 ?_) | ((refine zd _ _ _ rfl ?_); (first | refine sO hp rfl (za rfl) (by with_reducible first | exact zm | exact Zh | exact zaX) aa5 ?_ | refine sA hp rfl (za rfl) (za rfl) zH aa5 ?_ | refine sG hp rfl (za rfl) (za rfl) zH aa5 ?_); clear hp; intro w1 hp; simp only [spl, z0a, z0b] at hp) | ((refine zk _ _ _ rfl ?_); refine lS hp rfl (by intro w; go_simp; rfl) ?_; clear hp; intro b w1 hp; simp only [z0g, z0h, Nat.reduceAdd] at hp)); simp only [zc, zb, z0b, z0a]))
  refine zh [_, _] (zu.two hp.drew at0 at1) [] [(0, true), (1, true), (2, true), (3, true), (4, true), (5, true), (6, true), (7, true)] (by kernel_rfl) (by kernel_rfl) rfl (by kernel_rfl) (fun _ _ d _ _ h => by cases d <;> exact h) ?_
  replace hp := hp.drew
  repeat' (with_reducible refine zx ?_); first | (with_reducible refine zq ?_) | ((with_reducible refine zG ?_); refine zw rfl ?_; (first | ((with_reducible refine zW _ rfl ?_); refine tM rfl ?_) | ((with_reducible refine zX _ _ rfl ?_); refine tO rfl (za rfl) zm aa5 ?_) | refine tG (fun w _ => (by go_simp; try rfl)) ?_); try simp only [zc, zb, zj, zg, z0b, z0a, z0d, z0c, zl])
  go_wp2_with (first | (go_at_call 71; (with_reducible refine (Zc vw nm bs im _ _ ec _).mono ?_); rintro e w1 ⟨rfl, hb⟩; replace hp := hp.call hb; clear hb) | go_skip | ((first | ((refine zi _ _ rfl ?_); refine lB hp rfl (za rfl) rfl ?_; clear hp; intro b w1 hp) | ((refine ze _ _ rfl ?_); first | refine lO hp rfl (za rfl) (by with_reducible first | exact zm | exact Zh | exact zaX | exact zc0) aa5 ?_ | refine lA hp rfl (za rfl) zi9 aa5 ?_) | ((refine zd _ _ _ rfl ?_); (first | refine sO hp rfl (za rfl) (by with_reducible first | exact zm | exact Zh | exact zaX) aa5 ?_ | refine sA hp rfl (za rfl) (za rfl) zH aa5 ?_ | refine sG hp rfl (za rfl) (za rfl) zH aa5 ?_); clear hp; intro w1 hp; simp only [spl, z0a, z0b] at hp) | ((refine zk _ _ _ rfl ?_); refine lS hp rfl (by intro w; go_simp; rfl) ?_; clear hp; intro b w1 hp; simp only [z0g, z0h, Nat.reduceAdd] at hp)); simp only [zc, zb, z0b, z0a]))
  go_ret
  exact ZM (by decide) hp.kp
 ·have hok2 := zcS hok
  simp only at hok2
  have e1 : decide (rv < vw) = false := by simpa using h1
  have e4 : decide ((4000 : Int) < (es.length : Int)) = false := by simp; omega
  obtain ⟨b, hb⟩ : ∃ b, okC ⟨rv, nm, bs, im, ea, es, ec⟩ = b := ⟨_, rfl⟩
  have hf : Zy ⟨vw, nm, bs, im, ea, es, ec⟩ ⟨1, rv, rf, rn, rim, ⟨nu, vi, cl, sq, ⟨kk, hh, ii, nn, cc, vv, tt⟩⟩, ra, rs, rc⟩ = if b = true then (0, ⟨rv, nm, bs, im, ea, es, ec⟩) else (141, ⟨vw, nm, bs, im, ea, es, ec⟩) := by unfold Zy za0; simp [h1, hb]
  rw [hf]
  have HB := z0j hb
  have HSS : Hid (Kv.Small ⟨rv, nm, bs, im, ea, es, ec⟩) := z0j ⟨by simp only; omega, him⟩
  have HEC := z0j hec
  clear h1 hf hok hec hes him hrs hrc hri ha hR hb hok2
  cases b
  rw [if_neg (by decide)]
  rotate_left
  rw [if_pos rfl]
  all_goals
   go_enter Tryz.func63, Tryz.ntmps63
   go_wp2_with (first | (go_at_call 71; (with_reducible refine (Zc vw nm bs im _ _ ec _).mono ?_); rintro e w1 ⟨rfl, hb⟩; replace hp := hp.call hb; clear hb) | go_skip | ((first | ((refine zi _ _ rfl ?_); refine lB hp rfl (za rfl) rfl ?_; clear hp; intro b w1 hp) | ((refine ze _ _ rfl ?_); first | refine lO hp rfl (za rfl) (by with_reducible first | exact zm | exact Zh | exact zaX | exact zc0) aa5 ?_ | refine lA hp rfl (za rfl) zi9 aa5 ?_) | ((refine zd _ _ _ rfl ?_); (first | refine sO hp rfl (za rfl) (by with_reducible first | exact zm | exact Zh | exact zaX) aa5 ?_ | refine sA hp rfl (za rfl) (za rfl) zH aa5 ?_ | refine sG hp rfl (za rfl) (za rfl) zH aa5 ?_); clear hp; intro w1 hp; simp only [spl, z0a, z0b] at hp) | ((refine zk _ _ _ rfl ?_); refine lS hp rfl (by intro w; go_simp; rfl) ?_; clear hp; intro b w1 hp; simp only [z0g, z0h, Nat.reduceAdd] at hp)); simp only [zc, zb, z0b, z0a]))
   refine zh [_, _] (zu.two hp.drew at0 at1) [] [(0, true), (1, true), (2, true), (3, true), (4, true), (5, true), (6, true), (7, true)] (by kernel_rfl) (by kernel_rfl) rfl (by kernel_rfl) (fun _ _ d _ _ h => by cases d <;> exact h) ?_
   replace hp := hp.drew
   repeat' (with_reducible refine zx ?_); first | (with_reducible refine zq ?_) | ((with_reducible refine zG ?_); refine zw rfl ?_; (first | ((with_reducible refine zW _ rfl ?_); refine tM rfl ?_) | ((with_reducible refine zX _ _ rfl ?_); refine tO rfl (za rfl) zm aa5 ?_) | refine tG (fun w _ => (by go_simp; try rfl)) ?_); try simp only [zc, zb, zj, zg, z0b, z0a, z0d, z0c, zl])
   go_wp2_with (first | (go_at_call 71; (with_reducible refine (Zc vw nm bs im _ _ ec _).mono ?_); rintro e w1 ⟨rfl, hb⟩; replace hp := hp.call hb; clear hb) | (go_at_call 21; (with_reducible refine (za1 rv nm bs im ea es ec _ HB.out HSS.out _ (HR.out.keptS.at hp (fun p hm => by simp [hm]))).mono ?_); rintro e w1 ⟨rfl, hb⟩; replace hp := hp.call hb; clear hb; simp only [if_true, Bool.false_eq_true, if_false]) | go_skip | ((first | ((refine zi _ _ rfl ?_); refine lB hp rfl (za rfl) rfl ?_; clear hp; intro b w1 hp) | ((refine ze _ _ rfl ?_); first | refine lO hp rfl (za rfl) (by with_reducible first | exact zm | exact Zh | exact zaX | exact zc0) aa5 ?_ | refine lA hp rfl (za rfl) zi9 aa5 ?_) | ((refine zd _ _ _ rfl ?_); (first | refine sO hp rfl (za rfl) (by with_reducible first | exact zm | exact Zh | exact zaX) aa5 ?_ | refine sA hp rfl (za rfl) (za rfl) zH aa5 ?_ | refine sG hp rfl (za rfl) (za rfl) zH aa5 ?_); clear hp; intro w1 hp; simp only [spl, z0a, z0b] at hp) | ((refine zk _ _ _ rfl ?_); refine lS hp rfl (by intro w; go_simp; rfl) ?_; clear hp; intro b w1 hp; simp only [z0g, z0h, Nat.reduceAdd] at hp)); simp only [zc, zb, z0b, z0a]))
  ·go_ret
   exact zbL HEC.out HR.out hp.tail
  ·go_ret
   exact ZM (by decide) hp.kp
theorem zhy (l : List Env) (fr : Int) (a : Option Addr) (n c : Nat) (hn : l.length = n) (b : Bool) (hb : zgi fr 0 l = b) (hl : n ≤ 100000) (w : World) (ha : zt w a (l.flatMap Z1)) :
  Calls Tryz.prog 68 #[.slice a n c, .int .i64 fr] w fun e w' => e = .returned (.bool b) ∧ Below w.heap.size w w' := by
 subst hn
 exact Zm l fr a c b hb hl w ha
theorem zl5 {B : Nat} {w0 w : World} {L : List Blk} {b t n : Nat} {nu vi cl sq kk hh ii nn cc vv tt : Int} (hp : Hp B w0 w (⟨b, [.int .i64 nu, .int .i64 vi, .int .i64 cl, .int .i64 sq, .int .i64 kk, .int .i64 hh, .int .i64 ii, .int .i64 nn, .int .i64 cc, .int .i64 vv, .int .i64 tt], t, n⟩ :: L)) : zt w (some ⟨b, 0, none⟩) (([⟨nu, vi, cl, sq, ⟨kk, hh, ii, nn, cc, vv, tt⟩⟩] : List Env).flatMap Z1) := hp.rowIs (i := 0) rfl
theorem zkS (bw : Nat) (vw nm bs : Int) (im : ByteArray) (ea : Option Addr) (es : List Env) (ec : Nat) (rv rf rn : Int) (rim : ByteArray) (nu vi cl sq kk hh ii nn cc vv tt : Int) (ra : Option Addr) (rs : List Env) (rc : Nat) {R TT : List Blk} {w0 w : World} (hR : zI 38 11 (.slice ea es.length ec) es.length (es.flatMap Z1) R) (hec : es.length ≤ ec) (hes : es.length ≤ 1500) (him : im.size ≤ 1000000) (hrs : rs.length ≤ 1500) (hrc : rs.length ≤ rc) (hri : rim.size ≤ 1000000) (hok : okC ⟨vw, nm, bs, im, ea, es, ec⟩ = true) (kd : Int) (hkd : kd = 2) (hp : Hp w0.heap.size w0 w (⟨bw, [.int .i64 vw, .int .i64 nm, .int .i64 bs, .string im, .slice ea es.length ec], 108, 5⟩ :: (R ++ TT))) (ha : zt w0 ra (rs.flatMap Z1)) : Calls Tryz.prog 63 #[.pointer (some ⟨bw, 0, none⟩), .agg #[.int .i64 kd, .int .i64 rv, .int .i64 rf, .int .i64 rn, .string rim, .int .i64 nu, .int .i64 vi, .int .i64 cl, .int .i64 sq, .int .i64 kk, .int .i64 hh, .int .i64 ii, .int .i64 nn, .int .i64 cc, .int .i64 vv, .int .i64 tt, .slice ra rs.length rc]] w (zf8 w0 bw (Zy ⟨vw, nm, bs, im, ea, es, ec⟩ ⟨kd, rv, rf, rn, rim, ⟨nu, vi, cl, sq, ⟨kk, hh, ii, nn, cc, vv, tt⟩⟩, ra, rs, rc⟩) TT) := by
 subst hkd
 have HR := z0j hR
 have hok2 := zcS hok
 simp only at hok2
 have e0 : wrap64 (bs + es.length) = bs + es.length := by unfold wrap64; omega
 have HN1 : Hid ([(⟨nu, vi, cl, sq, ⟨kk, hh, ii, nn, cc, vv, tt⟩⟩ : Env)].length = 1) := z0j rfl
 have HN2 : Hid (1 ≤ 100000) := z0j (by decide)
 cases hfo : zgi (bs + es.length) 0 [⟨nu, vi, cl, sq, ⟨kk, hh, ii, nn, cc, vv, tt⟩⟩] with
 | false =>
  have hf : Zy ⟨vw, nm, bs, im, ea, es, ec⟩ ⟨2, rv, rf, rn, rim, ⟨nu, vi, cl, sq, ⟨kk, hh, ii, nn, cc, vv, tt⟩⟩, ra, rs, rc⟩ = (140, ⟨vw, nm, bs, im, ea, es, ec⟩) := by unfold Zy za0 zb4; simp [hfo]
  rw [hf]
  have HF := z0j hfo
  clear hfo hf hok hec hes him hrs hrc hri ha hR hok2
  go_enter Tryz.func63, Tryz.ntmps63
  go_wp2_with (first | (go_at_call 71; (with_reducible refine (Zc vw nm bs im _ _ ec _).mono ?_); rintro e w1 ⟨rfl, hb⟩; replace hp := hp.call hb; clear hb) | (go_at_call 68; (with_reducible refine (zhy [⟨nu, vi, cl, sq, ⟨kk, hh, ii, nn, cc, vv, tt⟩⟩] (bs + es.length) _ 1 1 HN1.out _ HF.out HN2.out _ (zl5 hp)).mono ?_); rintro e w1 ⟨rfl, hb⟩; replace hp := hp.call hb; clear hb) | go_skip | ((first | ((refine zi _ _ rfl ?_); refine lB hp rfl (za rfl) rfl ?_; clear hp; intro b w1 hp) | ((refine ze _ _ rfl ?_); first | refine lO hp rfl (za rfl) (by with_reducible first | exact zm | exact Zh | exact zaX | exact zc0) aa5 ?_ | refine lA hp rfl (za rfl) zi9 aa5 ?_) | ((refine zd _ _ _ rfl ?_); (first | refine sO hp rfl (za rfl) (by with_reducible first | exact zm | exact Zh | exact zaX) aa5 ?_ | refine sA hp rfl (za rfl) (za rfl) zH aa5 ?_ | refine sG hp rfl (za rfl) (za rfl) zH aa5 ?_); clear hp; intro w1 hp; simp only [spl, z0a, z0b] at hp) | ((refine zk _ _ _ rfl ?_); refine lS hp rfl (by intro w; go_simp; rfl) ?_; clear hp; intro b w1 hp; simp only [z0g, z0h, Nat.reduceAdd] at hp)); simp only [zc, zb, z0b, z0a]))
  go_ret
  exact ZM (by decide) hp.kp
 | true =>
  have HF := z0j hfo
  obtain ⟨b, hb⟩ : ∃ b, okC ⟨vw, nm, bs, im, ea, es ++ [⟨nu, vi, cl, sq, ⟨kk, hh, ii, nn, cc, vv, tt⟩⟩], ec⟩ = b := ⟨_, rfl⟩
  have hf : Zy ⟨vw, nm, bs, im, ea, es, ec⟩ ⟨2, rv, rf, rn, rim, ⟨nu, vi, cl, sq, ⟨kk, hh, ii, nn, cc, vv, tt⟩⟩, ra, rs, rc⟩ = if b = true then (0, ⟨vw, nm, bs, im, ea, es ++ [⟨nu, vi, cl, sq, ⟨kk, hh, ii, nn, cc, vv, tt⟩⟩], ec⟩) else (141, ⟨vw, nm, bs, im, ea, es, ec⟩) := by unfold Zy za0 zb4; simp [hfo, hb]
  rw [hf]
  obtain ⟨i0, hi0, hz0, hz1, hz2⟩ := info_parts zmL
  have e4 : decide ((4000 : Int) < (es.length : Int) + 1) = false := by simp; omega
  have HM1 : Hid (es.length + 1 ≤ maxLen) := z0j (by unfold maxLen; omega)
  have HM2 : Hid ((es.length + 1) * 88 ≤ 140737488355328) := z0j (by omega)
  have HB : Hid (∀ a c, okC ⟨vw, nm, bs, im, a, es ++ [⟨nu, vi, cl, sq, ⟨kk, hh, ii, nn, cc, vv, tt⟩⟩], c⟩ = b) := z0j (fun a c => by rw [← hb]; exact zfc ⟨rfl, rfl, rfl, rfl, rfl⟩)
  have HSS : Hid (∀ a c, Kv.Small ⟨vw, nm, bs, im, a, es ++ [⟨nu, vi, cl, sq, ⟨kk, hh, ii, nn, cc, vv, tt⟩⟩], c⟩) := z0j (fun a c => ⟨by simp only [List.length_append, z0g, z0h]; omega, him⟩)
  have HNL : Hid ((es ++ [(⟨nu, vi, cl, sq, ⟨kk, hh, ii, nn, cc, vv, tt⟩⟩ : Env)]).length = es.length + 1) := z0j (by simp)
  have HX1 : Hid ((es.flatMap Z1 ++ [.int .i64 nu, .int .i64 vi, .int .i64 cl, .int .i64 sq, .int .i64 kk, .int .i64 hh, .int .i64 ii, .int .i64 nn, .int .i64 cc, .int .i64 vv, .int .i64 tt]) = (es ++ [(⟨nu, vi, cl, sq, ⟨kk, hh, ii, nn, cc, vv, tt⟩⟩ : Env)]).flatMap Z1) := z0j (by rw [List.flatMap_append]; rfl)
  clear hfo hf hok hec hes him hrs hrc hri ha hR hok2 hb
  cases b
  rw [if_neg (by decide)]
  rotate_left
  rw [if_pos rfl]
  all_goals
   go_enter Tryz.func63, Tryz.ntmps63
   go_wp2_with (first | (go_at_call 71; (with_reducible refine (Zc vw nm bs im _ _ ec _).mono ?_); rintro e w1 ⟨rfl, hb⟩; replace hp := hp.call hb; clear hb) | (go_at_call 68; (with_reducible refine (zhy [⟨nu, vi, cl, sq, ⟨kk, hh, ii, nn, cc, vv, tt⟩⟩] (bs + es.length) _ 1 1 HN1.out _ HF.out HN2.out _ (zl5 hp)).mono ?_); rintro e w1 ⟨rfl, hb⟩; replace hp := hp.call hb; clear hb) | go_skip | ((first | ((refine zi _ _ rfl ?_); refine lB hp rfl (za rfl) rfl ?_; clear hp; intro b w1 hp) | ((refine ze _ _ rfl ?_); first | refine lO hp rfl (za rfl) (by with_reducible first | exact zm | exact Zh | exact zaX | exact zc0) aa5 ?_ | refine lA hp rfl (za rfl) zi9 aa5 ?_) | ((refine zd _ _ _ rfl ?_); (first | refine sO hp rfl (za rfl) (by with_reducible first | exact zm | exact Zh | exact zaX) aa5 ?_ | refine sA hp rfl (za rfl) (za rfl) zH aa5 ?_ | refine sG hp rfl (za rfl) (za rfl) zH aa5 ?_); clear hp; intro w1 hp; simp only [spl, z0a, z0b] at hp) | ((refine zk _ _ _ rfl ?_); refine lS hp rfl (by intro w; go_simp; rfl) ?_; clear hp; intro b w1 hp; simp only [z0g, z0h, Nat.reduceAdd] at hp)); simp only [zc, zb, z0b, z0a]))
   refine zh [_, _] (zu.two hp.drew at1 at2) [13] [(0, true), (1, true), (2, true), (3, true), (4, true), (5, true), (6, true), (7, true), (8, false), (9, false), (10, true), (11, true), (12, true), (13, false)] (by kernel_rfl) (by kernel_rfl) rfl (by kernel_rfl) (fun _ _ d _ _ h => by cases d <;> exact h) ?_
   replace hp := hp.drew
   repeat' (with_reducible refine zx ?_); first | (with_reducible refine zq ?_) | ((with_reducible refine zG ?_); refine zw rfl ?_; (first | ((with_reducible refine zW _ rfl ?_); refine tM rfl ?_) | ((with_reducible refine zX _ _ rfl ?_); first | refine tA rfl (za rfl) zaa aa5 ?_ | refine tO rfl (za rfl) Zh aa5 ?_) | refine tG (fun w _ => (by go_simp; try rfl)) ?_); try simp only [zc, zb, zj, zg, z0b, z0a, z0d, z0c, zl]) | (refine zC rfl (fun K hK => ?_); go_wp2_with (first | ((refine zaW _ _ 23 23 rfl ?_); refine ZG (K := [_, _, _, _]) (M := TT) hp _ _ _ _ rfl wy 38 i0 _ 11 88 Tryz.underlying23 hi0 hz0 hz1 hz2 rfl _ es.length _ (za rfl) HR.out _ (za rfl) 1 [.int .i64 nu, .int .i64 vi, .int .i64 cl, .int .i64 sq, .int .i64 kk, .int .i64 hh, .int .i64 ii, .int .i64 nn, .int .i64 cc, .int .i64 vv, .int .i64 tt] (Src.ofRow Tryz.underlying23 (by decide) _ 1 1 _ rfl (hp.rowIs at0) rfl) HM1.out HM2.out ?_; clear hp; intro v' R' w1 hR' hp; obtain ⟨ae, ce, rfl, hce, _⟩ := hR'.kept; have HRE := z0j hR'; have HCE := z0j hce; clear hR' hce; simp only [z0f, z0e] at hp; simp only [zc, zb, z0b, z0a]) | go_skip | ((first | ((refine zd _ _ _ rfl ?_); (first | refine sO hp rfl (za rfl) (by with_reducible first | exact zm | exact Zh | exact zaX) aa5 ?_ | refine sA hp rfl (za rfl) (za rfl) zH aa5 ?_ | refine sG hp rfl (za rfl) (za rfl) zH aa5 ?_); clear hp; intro w1 hp; simp only [spl, z0a, z0b] at hp) | ((refine zk _ _ _ rfl ?_); refine lS hp rfl (by intro w; go_simp; rfl) ?_; clear hp; intro b w1 hp; simp only [z0g, z0h, Nat.reduceAdd] at hp)); simp only [zc, zb, z0b, z0a])); (first | refine hK.out _ _ (.inl rfl) ?_ | refine hK.out _ _ (.inr (zu.two hp aa5 aa5)) ?_); clear hK K; try simp only [zc, zb, zj, zg, z0b, z0a, z0d, z0c, zl])
   go_wp2_with (first | (go_at_call 21; (with_reducible refine (zbE vw nm bs im ae (es ++ [⟨nu, vi, cl, sq, ⟨kk, hh, ii, nn, cc, vv, tt⟩⟩]) _ ce HNL.out _ (HB.out _ _) (HSS.out _ _) _ ((HX1.out ▸ HRE.out).keptS.at hp (fun p hm => by simp [hm]))).mono ?_); rintro e w1 ⟨rfl, hb⟩; replace hp := hp.call hb; clear hb; simp only [if_true, Bool.false_eq_true, if_false]) | go_skip | ((first | ((refine zi _ _ rfl ?_); refine lB hp rfl (za rfl) rfl ?_; clear hp; intro b w1 hp) | ((refine ze _ _ rfl ?_); first | refine lO hp rfl (za rfl) (by with_reducible first | exact zm | exact Zh | exact zaX | exact zc0) aa5 ?_ | refine lA hp rfl (za rfl) zi9 aa5 ?_) | ((refine zd _ _ _ rfl ?_); (first | refine sO hp rfl (za rfl) (by with_reducible first | exact zm | exact Zh | exact zaX) aa5 ?_ | refine sA hp rfl (za rfl) (za rfl) zH aa5 ?_ | refine sG hp rfl (za rfl) (za rfl) zH aa5 ?_); clear hp; intro w1 hp; simp only [spl, z0a, z0b] at hp) | ((refine zk _ _ _ rfl ?_); refine lS hp rfl (by intro w; go_simp; rfl) ?_; clear hp; intro b w1 hp; simp only [z0g, z0h, Nat.reduceAdd] at hp)); simp only [zc, zb, z0b, z0a]))
  ·go_ret
   exact zbL HCE.out (HX1.out ▸ HRE.out) hp.kp HNL.out
  ·go_ret
   exact ZM (by decide) hp.kp
end Go.Proofs.YtjcbpfbifbfkcaaGreat
